import Derived.Test.YtdnedangfnincaaAbsZL
namespace Go.Abs
set_option linter.unusedVariables false
set_option linter.unusedSimpArgs false
/-! rules that rewrite a run at symbolic values: memory as a term (al, set, seen) -/
noncomputable def al (s : St) (c : Blk) : St := Option.rec s (fun p => p.2) (s.alloc c)
theorem al_e (s : St) (c : Blk) (h : s.next ≤ lim) : s.alloc c = some (s.next, al s c) := by
  have ha : ∃ s', s.alloc c = some (s.next, s') := by
    unfold St.alloc
    rw [forceL_eq, ble_eq', decide_eq_true h, cond_true, force_eq, force_eq]
    exact ⟨_, rfl⟩
  obtain ⟨s', ha⟩ := ha
  unfold al
  rw [ha]
theorem al_next (s : St) (c : Blk) (h : s.next ≤ lim) : (al s c).next = s.next + 1 := (St.alloc_some (al_e s c h)).2.2.1
theorem al_same (s : St) (c : Blk) (h : s.next ≤ lim) (hm : isMapB c = false) : (al s c).getC s.next = some c := by
  unfold St.getC
  rw [St.alloc_get (al_e s c h)]
  simp only [if_true, op_s]
  rw [hm]; rfl
theorem al_ne (s : St) (c : Blk) (y : Nat) (h : s.next ≤ lim) (hy : y ≠ s.next) : (al s c).getC y = s.getC y := by
  unfold St.getC
  rw [St.alloc_get (al_e s c h)]
  simp only [hy, if_false]
theorem set_next (s : St) (x : Nat) (c : Option Blk) : (s.set x c).next = s.next := by unfold St.set; rw [force_eq]
theorem set_same (s : St) (x : Nat) (c : Blk) (h8 : 8 ≤ x) (hx : x + 1 < 1099511627776) (hm : isMapB c = false) : (s.set x (some c)).getC x = some c := by
  rw [set_getC s x x c h8 (by simpa using hx) hm, if_pos rfl]
theorem set_ne (s : St) (x y : Nat) (c : Option Blk) (hx : x + 1 < 1099511627776) (hy : y ≠ x) : (s.set x c).getC y = s.getC y := by
  unfold St.getC
  rw [St.get_set s x y _ (by simpa using hx)]
  simp only [hy, if_false]
/-- what is known of memory stays; at most so many blocks are new -/
def Grew (k : Nat) (s s' : St) : Prop := s.next ≤ s'.next ∧ s'.next ≤ s.next + k ∧ ∀ y, y < s.next → s'.getC y = s.getC y
theorem Grew.refl (s : St) : Grew 0 s s := ⟨Nat.le_refl _, Nat.le_refl _, fun _ _ => rfl⟩
theorem Grew.trans {j k : Nat} {a b c : St} (h : Grew j a b) (g : Grew k b c) : Grew (j + k) a c :=
  ⟨Nat.le_trans h.1 g.1, by have := h.2.1; have := g.2.1; omega, fun y hy => (g.2.2 y (Nat.lt_of_lt_of_le hy h.1)).trans (h.2.2 y hy)⟩
theorem Grew.mono {j k : Nat} {a b : St} (h : Grew j a b) (hk : j ≤ k) : Grew k a b := ⟨h.1, by have := h.2.1; omega, h.2.2⟩
theorem Grew.seen {k : Nat} {a b : St} (h : Grew k a b) (x : Nat) : Grew k a (b.seen x) := ⟨by rw [St.seen_next]; exact h.1, by rw [St.seen_next]; exact h.2.1, fun y hy => (seen_getC _ _ _).trans (h.2.2 y hy)⟩
theorem Grew.al {k : Nat} {a b : St} (h : Grew k a b) (c : Blk) (hl : b.next ≤ lim) : Grew (k + 1) a (Abs.al b c) :=
  ⟨by rw [al_next _ _ hl]; have := h.1; omega, by rw [al_next _ _ hl]; have := h.2.1; omega, fun y hy => (al_ne _ _ _ hl (by have := h.1; omega)).trans (h.2.2 y hy)⟩
theorem Grew.set {k : Nat} {a b : St} (h : Grew k a b) (x : Nat) (c : Option Blk) (hx : x + 1 < 1099511627776) (hn : a.next ≤ x) : Grew k a (b.set x c) :=
  ⟨by rw [set_next]; exact h.1, by rw [set_next]; exact h.2.1, fun y hy => (set_ne _ _ _ _ hx (by omega)).trans (h.2.2 y hy)⟩
theorem Grew.z0 {k : Nat} {a b : St} (h : Grew k (z0 a) b) : Grew k a (jn a b) := ⟨h.1, h.2.1, fun y hy => h.2.2 y hy⟩
theorem Grew.get {k : Nat} {a b : St} (h : Grew k a b) {y : Nat} {c : Blk} (hc : a.getC y = some c) (hy : y < a.next) : b.getC y = some c := (h.2.2 y hy).trans hc
/-! memory's operations -/
theorem load_u (b i : Nat) (rec : Rec) (fs : Frm) (s : St) : oLoad1 (.v (.pointer (some ⟨b, i, none⟩))) rec fs s = opt (s.getC b) fun c => opt (nth c i) fun v => some (v, s.seen b) := nrfl rfl
theorem new_u (c : List Value) (rec : Rec) (fs : Frm) (s : St) (h : s.next ≤ lim) : oNew c rec fs s = some (.pointer (some ⟨s.next, 0, none⟩), al s c) := by
  show (opt2 (s.alloc c) fun b s => some (Value.pointer (some ⟨b, 0, none⟩), s)) = _
  rw [al_e s c h]; rfl
theorem box_u (v : Value) (rec : Rec) (fs : Frm) (s : St) (hc : cellsOf v = [v]) (h : s.next ≤ lim) : oBox (.v v) rec fs s = some (.pointer (some ⟨s.next, 0, none⟩), al s [v]) := by
  show (bif Nat.beq (lenN (cellsOf v)) 0 then none else oNew (cellsOf v) rec fs s) = _
  rw [hc]; exact new_u [v] rec fs s h
theorem bs_u (n : Nat) (z : List Value) (p : List (Nat × Nat × Arg)) (c : Blk) (rec : Rec) (s : St) (hc : fillN PT.nil p z = some c) (h : s.next ≤ lim) : oBuildSlice n z p rec PT.nil s = some (.slice (some ⟨s.next, 0, none⟩) n n, al s c) := by
  show (opt (fillN PT.nil p z) fun c => opt2 (s.alloc c) fun b s => some (Value.slice (some ⟨b, 0, none⟩) n n, s)) = _
  rw [hc, op_s, al_e s c h]; rfl
theorem store1_u (b i : Nat) (v : Value) (c : Blk) (rec : Rec) (fs : Frm) (s : St) (hc : cellsOf v = [v]) (h : s.getC b = some c) (hi : i < c.length) : oStore 1 (.v (.pointer (some ⟨b, i, none⟩))) (.v v) rec fs s = some (UV, s.set b (some (c.set i v))) := store1_e b i c v rec fs s hc h hi
theorem read_u (s : St) (b o n : Nat) (c : Blk) (h : s.getC b = some c) (hn : o + n ≤ c.length) : s.read b o n = some ((c.drop o).take n, s.seen b) := by
  unfold St.read
  rw [h, op_s, lenN_eq, ble_eq', decide_eq_true hn, cond_true, takeN_eq, dropN_eq]
theorem loadn_u (n b o : Nat) (c : Blk) (rec : Rec) (fs : Frm) (s : St) (h : s.getC b = some c) (hn : o + n ≤ c.length) : oLoadN n (.v (.pointer (some ⟨b, o, none⟩))) rec fs s = some (aggOf ((c.drop o).take n), s.seen b) := by
  show (opt2 (s.read b o n) fun c s => some (aggOf c, s)) = _
  rw [read_u s b o n c h hn, op2_s]
/-- a struct stored whole -/
theorem storeall_u (n b : Nat) (d c : List Value) (rec : Rec) (fs : Frm) (s : St) (h : s.getC b = some c) (hc : c.length = n) (hd : d.length = n) : oStore n (.v (.pointer (some ⟨b, 0, none⟩))) (.v (aggOf d)) rec fs s = some (UV, s.set b (some d)) := by
  show (bif Nat.beq (lenN d) n then opt (s.write b 0 d) fun s => some (UV, s) else none) = _
  rw [lenN_eq, hd, beq_eq', decide_eq_true rfl, cond_true]
  unfold St.write
  rw [h, op_s, ble_eq', lenN_eq, lenN_eq, decide_eq_true (show 0 + d.length ≤ c.length by omega), cond_true, forceL_eq, op_s, app_eq, app_eq, takeN_eq, dropN_eq]
  congr 3
  rw [List.take_zero, List.nil_append, List.drop_eq_nil_of_le (by omega), List.append_nil]
/-- cells stored in a block's midst -/
theorem storen_u (n b o : Nat) (d c : List Value) (rec : Rec) (fs : Frm) (s : St) (h : s.getC b = some c) (hc : o + n ≤ c.length) (hd : d.length = n) : oStore n (.v (.pointer (some ⟨b, o, none⟩))) (.v (aggOf d)) rec fs s = some (UV, s.set b (some (c.take o ++ (d ++ c.drop (o + n))))) := by
  show (bif Nat.beq (lenN d) n then opt (s.write b o d) fun s => some (UV, s) else none) = _
  rw [lenN_eq, hd, beq_eq', decide_eq_true rfl, cond_true]
  unfold St.write
  rw [h, op_s, ble_eq', lenN_eq, lenN_eq, decide_eq_true (show o + d.length ≤ c.length by omega), cond_true, forceL_eq, op_s, app_eq, app_eq, takeN_eq, dropN_eq, hd]
theorem finc_u (n : Nat) (b : Nat) (c : Blk) (t : P) (s : St) (h : s.getC b = some c) (hn : c.length = n) : finX [.cell t (some n)] .ret ((PT.put (.pointer (some ⟨b, 0, none⟩)) t PT.nil), s) = some (aggOf c, s.seen b) := by
  have e : (PT.put (.pointer (some ⟨b, 0, none⟩)) t PT.nil : Frm).get t = some (.pointer (some ⟨b, 0, none⟩)) := PT.get_put_same _ _ _
  have h1 : res1 (PT.put (.pointer (some ⟨b, 0, none⟩)) t PT.nil) s (.cell t (some n)) = some (aggOf c, s.seen b) := by
    show (match orU ((PT.put (.pointer (some ⟨b, 0, none⟩)) t PT.nil : Frm).get t) with
      | .pointer (some p) => opt2 (s.read p.block p.off n) fun c s => some (aggOf c, s)
      | _ => none) = _
    rw [e]
    show (opt2 (s.read b 0 n) fun c s => some (aggOf c, s)) = _
    rw [read_u s b 0 n c h (by omega), op2_s, List.drop_zero, List.take_of_length_le (by omega)]
  rw [finX_r, res_c, h1, op2_s, res_n, op2_s, op2_s]
  rfl
theorem finc1_u (b : Nat) (v : Value) (c : Blk) (t : P) (s : St) (h : s.getC b = some (v :: c)) : finX [.cell t none] .ret ((PT.put (.pointer (some ⟨b, 0, none⟩)) t PT.nil), s) = some (v, s.seen b) := by
  have e : (PT.put (.pointer (some ⟨b, 0, none⟩)) t PT.nil : Frm).get t = some (.pointer (some ⟨b, 0, none⟩)) := PT.get_put_same _ _ _
  have h1 : res1 (PT.put (.pointer (some ⟨b, 0, none⟩)) t PT.nil) s (.cell t none) = some (v, s.seen b) := by
    show (match orU ((PT.put (.pointer (some ⟨b, 0, none⟩)) t PT.nil : Frm).get t) with
      | .pointer (some p) => opt (s.getC p.block) fun c => opt (nth c p.off) fun v => some (v, s.seen p.block)
      | _ => none) = _
    rw [e]
    show (opt (s.getC b) fun c => opt (nth c 0) fun v => some (v, s.seen b)) = _
    rw [h, op_s, nth_z, op_s]
  rw [finX_r, res_c, h1, op2_s, res_n, op2_s, op2_s]
  rfl
/-! strings -/
theorem lenS_u (l : List UInt8) (rec : Rec) (fs : Frm) (s : St) : oLenS (.v (.string ⟨⟨l⟩⟩)) rec fs s = some (.int .i64 (l.length : Int), s) := by
  show force (lenN l) (fun n => some (Value.int .i64 (.ofNat n), s)) = _
  rw [force_eq, lenN_eq]
  rfl
theorem idxS_u (l : List UInt8) (i : Nat) (h : i < l.length) (rec : Rec) (fs : Frm) (s : St) : oIdxS (.v (.string ⟨⟨l⟩⟩)) (.v (.int .i64 (i : Int))) rec fs s = some (.int .u8 (l[i].toNat : Int), s) := by
  show opt (nth l i) (fun c => force c.toNat fun c => some (Value.int .u8 (.ofNat c), s)) = _
  rw [nth_eq, List.getElem?_eq_getElem h, op_s, force_eq]
  rfl
theorem idx_at {l r : List UInt8} {i : Nat} {b : UInt8} (h : l.drop i = b :: r) (rec : Rec) (fs : Frm) (s : St) : oIdxS (.v (.string ⟨⟨l⟩⟩)) (.v (.int .i64 (i : Int))) rec fs s = some (.int .u8 (b.toNat : Int), s) := by
  have hi : i < l.length := by
    have := congrArg List.length h
    rw [List.length_drop, List.length_cons] at this
    omega
  have hb : l[i] = b := by
    have := List.drop_eq_getElem_cons hi
    rw [h] at this
    exact (List.cons.inj this).1.symm
  rw [idxS_u l i hi, hb]
theorem drop_next {l r : List UInt8} {i : Nat} {b : UInt8} (h : l.drop i = b :: r) : l.drop (i + 1) = r := by
  have : (l.drop i).drop 1 = r := by rw [h]; rfl
  rwa [List.drop_drop] at this
theorem idxS_0 (b : UInt8) (l : List UInt8) (rec : Rec) (fs : Frm) (s : St) : oIdxS (.v (.string ⟨⟨b :: l⟩⟩)) (.v (.int .i64 0)) rec fs s = some (.int .u8 (b.toNat : Int), s) := by
  show opt (nth (b :: l) 0) (fun c => force c.toNat fun c => some (Value.int .u8 (.ofNat c), s)) = _
  rw [nth_z, op_s, force_eq]
  rfl
theorem bound_u (i m d : Nat) (h : i ≤ m) : boundD PT.nil (some (.v (.int .i64 (i : Int)))) m d = some i := by
  show bound PT.nil (.v (.int .i64 (i : Int))) m = _
  show (bif Nat.ble i m then force i some else none) = _
  rw [ble_eq', decide_eq_true h, cond_true, force_eq]
theorem bound_n (m d : Nat) : boundD PT.nil none m d = some d := nrfl rfl
theorem slS_lo (l : List UInt8) (i : Nat) (h : i ≤ l.length) (rec : Rec) (s : St) : oSliceS (.v (.string ⟨⟨l⟩⟩)) (some (.v (.int .i64 (i : Int)))) none rec PT.nil s = some (.string ⟨⟨l.drop i⟩⟩, s) := by
  show (opt (boundD PT.nil none (lenN l) (lenN l)) fun h => opt (boundD PT.nil (some (.v (.int .i64 (i : Int)))) h 0) fun k => some (Value.string ⟨⟨takeN (h - k) (dropN k l)⟩⟩, s)) = _
  rw [lenN_eq, bound_n, op_s, bound_u _ _ _ h, op_s, takeN_eq, dropN_eq, List.take_of_length_le (by simp)]
theorem slS_hi (l : List UInt8) (i : Nat) (h : i ≤ l.length) (rec : Rec) (s : St) : oSliceS (.v (.string ⟨⟨l⟩⟩)) none (some (.v (.int .i64 (i : Int)))) rec PT.nil s = some (.string ⟨⟨l.take i⟩⟩, s) := by
  show (opt (boundD PT.nil (some (.v (.int .i64 (i : Int)))) (lenN l) (lenN l)) fun h => opt (boundD PT.nil none h 0) fun k => some (Value.string ⟨⟨takeN (h - k) (dropN k l)⟩⟩, s)) = _
  rw [lenN_eq, bound_u _ _ _ h, op_s, bound_n, op_s, takeN_eq, dropN_eq, List.drop_zero, Nat.sub_zero]
theorem slS_lh (l : List UInt8) (i j : Nat) (hi : i ≤ j) (h : j ≤ l.length) (rec : Rec) (s : St) : oSliceS (.v (.string ⟨⟨l⟩⟩)) (some (.v (.int .i64 (i : Int)))) (some (.v (.int .i64 (j : Int)))) rec PT.nil s = some (.string ⟨⟨(l.drop i).take (j - i)⟩⟩, s) := by
  show (opt (boundD PT.nil (some (.v (.int .i64 (j : Int)))) (lenN l) (lenN l)) fun h => opt (boundD PT.nil (some (.v (.int .i64 (i : Int)))) h 0) fun k => some (Value.string ⟨⟨takeN (h - k) (dropN k l)⟩⟩, s)) = _
  rw [lenN_eq, bound_u _ _ _ h, op_s, bound_u _ _ _ hi, op_s, takeN_eq, dropN_eq]
theorem cat_u (a b : List UInt8) (h : a.length + b.length ≤ 9223372036854775807) : str2 catO (.string ⟨⟨a⟩⟩) (.string ⟨⟨b⟩⟩) = some (.string ⟨⟨a ++ b⟩⟩) := by
  show (bif Nat.ble (lenN a + lenN b) 9223372036854775807 then some (Value.string ⟨⟨app a b⟩⟩) else none) = _
  rw [lenN_eq, lenN_eq, ble_eq', decide_eq_true h, cond_true, app_eq]
theorem eqs_u (a b : List UInt8) : str2 (cmpS eqBytes) (.string ⟨⟨a⟩⟩) (.string ⟨⟨b⟩⟩) = some (.bool (decide (a = b))) := by
  show some (Value.bool (eqBytes a b)) = _
  rw [eqBytes_eq]
theorem nes_u (a b : List UInt8) : str2 (cmpS neBytes) (.string ⟨⟨a⟩⟩) (.string ⟨⟨b⟩⟩) = some (.bool (!decide (a = b))) := by
  show some (Value.bool (!eqBytes a b)) = _
  rw [eqBytes_eq]
theorem callV_u (f : FuncId) (x : Value) (rec : Rec) (fs : Frm) (s : St) : oCallV (.v (.func (.func f) #[] #[])) [(.v x)] rec fs s = rec f [x] s := nrfl rfl
theorem str_bytes (b : ByteArray) : Value.string b = .string ⟨⟨b.data.toList⟩⟩ := rfl
theorem oneOf_1 (v : Value) : oneOf [v] = v := nrfl rfl
theorem oneOf_2 (u v : Value) : oneOf [u, v] = tupOf [u, v] := nrfl rfl
theorem oneOf_3 (u v w : Value) : oneOf [u, v, w] = tupOf [u, v, w] := nrfl rfl
theorem bf_tt : (true == true) = true := nrfl rfl
theorem bf_tf : (true == false) = false := nrfl rfl
theorem bf_ft : (false == true) = false := nrfl rfl
theorem bf_ff : (false == false) = true := nrfl rfl
theorem bq_ne (i j : Nat) (h : i ≠ j) : Nat.beq i j = false := by rw [beq_eq']; exact decide_eq_false h
/-- the head first -/
theorem h_opt2 {α β γ : Type} {A A' : Option (α × β)} {k : α → β → Option γ} (h : A = A') : opt2 A k = opt2 A' k := by rw [h]
theorem h_opt {α β : Type} {A A' : Option α} {k : α → Option β} (h : A = A') : opt A k = opt A' k := by rw [h]
theorem h_condV {α : Type} {v v' : Value} {A B : Option α} (h : v = v') : condV v A B = condV v' A B := by rw [h]
theorem h_cond {α : Type} {c c' : Bool} {a b : α} (h : c = c') : cond c a b = cond c' a b := by rw [h]
/-! whole numbers of other kinds -/
theorem sub8_u (m : Int) (h0 : 48 ≤ m) (h : m < 256) : int2 subO (.int .u8 m) (.int .u8 48) = some (.int .u8 (m - 48)) := by
  obtain ⟨k, hk⟩ := Int.eq_ofNat_of_zero_le (show 0 ≤ m - 48 by omega)
  show subO .u8 m 48 = _
  rw [subO_eq, hk]
  congr 2
  exact Abs.wrap_small .u8 k (by simp [topOf]; omega)
theorem conv64_u (m : Int) (rec : Rec) (fs : Frm) (s : St) (h0 : 0 ≤ m) (h : m < 256) : oConv .i64 (.v (.int .u8 m)) rec fs s = some (.int .i64 m, s) := by
  obtain ⟨m, rfl⟩ := Int.eq_ofNat_of_zero_le h0
  show (opt (mkInt .i64 (m : Int)) fun v => some (v, s)) = _
  rw [mkInt_eq, op_s]
  congr 3
  exact Abs.wrap_small .i64 m (by simp [topOf]; omega)
theorem ofBytes_map : ∀ l : List UInt8, isMapB (ofBytes l) = false
  | [] => rfl
  | b :: l => rfl
theorem ofBytes_len (l : List UInt8) : (ofBytes l).length = l.length := by unfold ofBytes; rw [mapN_eq, List.length_map]
theorem ofBytes_at {l r : List UInt8} {i : Nat} {b : UInt8} (h : l.drop i = b :: r) : nth (ofBytes l) i = some (.int .u8 (b.toNat : Int)) := by
  have hi : i < l.length := by
    have := congrArg List.length h
    rw [List.length_drop, List.length_cons] at this
    omega
  have hb : l[i] = b := by
    have := List.drop_eq_getElem_cons hi
    rw [h] at this
    exact (List.cons.inj this).1.symm
  unfold ofBytes
  rw [mapN_eq, nth_eq, List.getElem?_map, List.getElem?_eq_getElem hi, hb]
  rfl
theorem strBytes_u (l : List UInt8) (rec : Rec) (fs : Frm) (s : St) (h : l.length ≤ 9223372036854775807) (hl : s.next ≤ lim) : oStrBytes (.v (.string ⟨⟨l⟩⟩)) rec fs s = some (.slice (some ⟨s.next, 0, none⟩) l.length (UNK + 1), al s (ofBytes l)) := by
  show (bif Nat.ble (lenN l) 9223372036854775807 then newSlice s 1 (lenN l) (ofBytes l) else none) = _
  rw [lenN_eq, ble_eq', decide_eq_true h, cond_true]
  unfold newSlice
  rw [al_e _ _ hl]
  rfl
/-- memory is as it was -/
def Still (s s' : St) : Prop := s'.next = s.next ∧ ∀ y, s'.getC y = s.getC y
theorem Still.refl (s : St) : Still s s := ⟨rfl, fun _ => rfl⟩
theorem Still.trans {a b c : St} (h : Still a b) (g : Still b c) : Still a c := ⟨g.1.trans h.1, fun y => (g.2 y).trans (h.2 y)⟩
theorem Still.seen (s : St) (x : Nat) : Still s (s.seen x) := ⟨St.seen_next _ _, fun y => seen_getC _ _ _⟩
theorem Grew.still {k : Nat} {a b c : St} (h : Grew k a b) (g : Still b c) : Grew k a c := ⟨by rw [g.1]; exact h.1, by rw [g.1]; exact h.2.1, fun y hy => (g.2 y).trans (h.2.2 y hy)⟩
theorem Still.grew {a b : St} (g : Still a b) : Grew 0 a b := ⟨by rw [g.1]; exact Nat.le_refl _, by rw [g.1]; exact Nat.le_refl _, fun y _ => g.2 y⟩
theorem idxL0_u (es b n c i : Nat) (rec : Rec) (fs : Frm) (s : St) (h : i < n) : oIdxAddrL es (.v (.slice (some ⟨b, 0, none⟩) n c)) (.v (.int .i64 (i : Int))) rec fs s = some (.pointer (some ⟨b, i * es, none⟩), s) := by
  rw [idxL_e es b 0 n c i rec fs s h, Nat.zero_add]
/-! slices that are made by append: their cells -/
def Acc (es : Nat) (s : St) (v : Value) (n : Nat) (c : List Value) : Prop :=
  (v = .slice none 0 0 ∧ n = 0 ∧ c = []) ∨ (∃ b, v = .slice (some ⟨b, 0, none⟩) 0 0 ∧ n = 0 ∧ c = [] ∧ b < s.next) ∨
  ∃ b, v = .slice (some ⟨b, 0, none⟩) n (UNK + es) ∧ s.getC b = some c ∧ c.length = n * es ∧ b < s.next
/-- the block of a slice -/
def accB (v : Value) (x : Nat) : Prop := match v with
  | .slice (some a) _ _ => a.block = x
  | _ => False
theorem Acc.len {es n : Nat} {s : St} {v : Value} {c : List Value} (h : Acc es s v n c) (rec : Rec) (fs : Frm) (u : St) : oLenL (.v v) rec fs u = some (.int .i64 (n : Int), u) := by
  rcases h with ⟨rfl, rfl, _⟩ | ⟨b, rfl, rfl, _⟩ | ⟨b, rfl, _⟩ <;> exact lenL_e _ _ _ rec fs u
theorem Acc.keep {es n : Nat} {s s' : St} {v : Value} {c : List Value} (h : Acc es s v n c) (hn : s.next ≤ s'.next) (hg : ∀ y, accB v y → s'.getC y = s.getC y) : Acc es s' v n c := by
  rcases h with h | ⟨b, rfl, h1, h2, h3⟩ | ⟨b, rfl, h1, h2, h3⟩
  · exact .inl h
  · exact .inr (.inl ⟨b, rfl, h1, h2, by omega⟩)
  · exact .inr (.inr ⟨b, rfl, (hg b rfl).trans h1, h2, by omega⟩)
theorem Acc.lt {es n : Nat} {s : St} {v : Value} {c : List Value} (h : Acc es s v n c) {y : Nat} (hy : accB v y) : y < s.next := by
  rcases h with ⟨rfl, _⟩ | ⟨b, rfl, h1, h2, h3⟩ | ⟨b, rfl, h1, h2, h3⟩
  · exact hy.elim
  · have e : b = y := hy; omega
  · have e : b = y := hy; omega
theorem Acc.load {es n : Nat} {s : St} {v : Value} {c : List Value} (h : Acc es s v n c) {i j : Nat} {x : Value} (hi : i < n) (hes : i * es + j < c.length) (hx : c[i * es + j]? = some x) :
    ∃ b, accB v b ∧ s.getC b = some c ∧ ∀ rec fs u, oIdxAddrL es (.v v) (.v (.int .i64 (i : Int))) rec fs u = some (.pointer (some ⟨b, i * es, none⟩), u) := by
  rcases h with ⟨rfl, rfl, _⟩ | ⟨b, rfl, rfl, _⟩ | ⟨b, rfl, h1, h2, h3⟩
  · omega
  · omega
  · exact ⟨b, rfl, h1, fun rec fs u => by rw [idxL_e es b 0 n _ i rec fs u hi, Nat.zero_add]⟩
theorem append_u (es bytes : Nat) (s : St) (v : Value) (n : Nat) (c d : List Value) (x : Nat) (m xc : Nat) (h : Acc es s v n c) (hx : s.getC x = some d) (hd : d.length = m * es) (hes : 0 < es) (hm : 0 < m)
    (hb : (n + m) * bytes ≤ 140737488355328) (hnm : n + m ≤ 9223372036854775807) (hl : s.next ≤ lim) (hmap : isMapB (c ++ d) = false) (rec : Rec) (fs : Frm) (hxv : ¬ accB v x) :
    ∃ v' s', oAppend es bytes (.v v) (.v (.slice (some ⟨x, 0, none⟩) m xc)) rec fs s = some (v', s') ∧ Acc es s' v' (n + m) (c ++ d) ∧ s'.next = s.next + 1 ∧ (∀ y, accB v' y → y = s.next) ∧ ∀ y, y < s.next → ¬ accB v y → s'.getC y = s.getC y := by
  have hlim : lim = 1000000000 := rfl
  have hf : fits (n + m) bytes = true := by
    unfold fits
    rw [ble_eq', ble_eq', decide_eq_true hb, decide_eq_true hnm]; rfl
  have z1 : Nat.beq m 0 = false := by rw [beq_eq']; exact decide_eq_false (by omega)
  have z2 : Nat.beq es 0 = false := by rw [beq_eq']; exact decide_eq_false (by omega)
  have hsrc : srcCells s es (.slice (some ⟨x, 0, none⟩) m xc) = some (m, d, s.seen x) := by
    show (bif Nat.beq m 0 then some (0, [], s) else opt2 (s.read x 0 (m * es)) fun c s => some (m, c, s)) = _
    rw [z1, cond_false, read_u s x 0 (m * es) d hx (by omega), op2_s, List.drop_zero, List.take_of_length_le (by omega)]
  have hnew : ∀ (u : St) (k : Nat) (e : List Value), u.next = s.next → isMapB e = false → e.length = k * es → ∃ s', newSlice u es k e = some (.slice (some ⟨s.next, 0, none⟩) k (UNK + es), s') ∧ Acc es s' (.slice (some ⟨s.next, 0, none⟩) k (UNK + es)) k e ∧ s'.next = s.next + 1 ∧ ∀ y, y < s.next → s'.getC y = u.getC y := by
    intro u k e hu he hk
    refine ⟨al u e, ?_, .inr (.inr ⟨s.next, rfl, ?_, hk, ?_⟩), ?_, ?_⟩
    · unfold newSlice
      rw [al_e u e (by omega), op2_s, hu]
    · rw [← hu]; exact al_same u e (by omega) he
    · rw [al_next u e (by omega)]; omega
    · rw [al_next u e (by omega), hu]
    · intro y hy; exact al_ne u e y (by omega) (by omega)
  rcases h with ⟨rfl, rfl, rfl⟩ | ⟨b, rfl, rfl, rfl, hbn⟩ | ⟨b, rfl, h1, h2, h3⟩
  · obtain ⟨s', r1, r2, r3, r4⟩ := hnew (s.seen x) m d (St.seen_next _ _) (by simpa using hmap) hd
    refine ⟨.slice (some ⟨s.next, 0, none⟩) m (UNK + es), s', ?_, by rw [Nat.zero_add, List.nil_append]; exact r2, r3, fun y hy => Eq.symm hy, fun y hy _ => (r4 y hy).trans (seen_getC _ _ _)⟩
    show opt (srcCells s es (.slice (some ⟨x, 0, none⟩) m xc)) (fun r => appendTo r.2.2 es bytes none 0 0 r.1 r.2.1) = _
    rw [hsrc, op_s]
    unfold appendTo
    rw [z1, z2, hf]
    exact r1
  · obtain ⟨s', r1, r2, r3, r4⟩ := hnew (s.seen x) m d (St.seen_next _ _) (by simpa using hmap) hd
    refine ⟨.slice (some ⟨s.next, 0, none⟩) m (UNK + es), s', ?_, by rw [Nat.zero_add, List.nil_append]; exact r2, r3, fun y hy => Eq.symm hy, fun y hy _ => (r4 y hy).trans (seen_getC _ _ _)⟩
    show opt (srcCells s es (.slice (some ⟨x, 0, none⟩) m xc)) (fun r => appendTo r.2.2 es bytes (some ⟨b, 0, none⟩) 0 0 r.1 r.2.1) = _
    rw [hsrc, op_s]
    unfold appendTo
    rw [z1, z2, hf]
    have u1 : Nat.blt 0 UNK = true := rfl
    have u2 : Nat.ble (0 + m) 0 = false := by rw [ble_eq']; exact decide_eq_false (by omega)
    simp only [cond_false, Bool.not_true, u1, u2, cond_true, Nat.beq_refl]
    rw [Nat.zero_add] at *
    exact r1
  · have hlen : (c ++ d).length = (n + m) * es := by rw [List.length_append, h2, hd, Nat.add_mul]
    obtain ⟨s', r1, r2, r3, r4⟩ := hnew ((s.seen x).set b none) (n + m) (c ++ d) (by rw [set_next, St.seen_next]) hmap hlen
    refine ⟨.slice (some ⟨s.next, 0, none⟩) (n + m) (UNK + es), s', ?_, r2, r3, fun y hy => Eq.symm hy, fun y hy hv => ?_⟩
    · show opt (srcCells s es (.slice (some ⟨x, 0, none⟩) m xc)) (fun r => appendTo r.2.2 es bytes (some ⟨b, 0, none⟩) n (UNK + es) r.1 r.2.1) = _
      rw [hsrc, op_s]
      unfold appendTo
      rw [z1, z2, hf]
      have u1 : Nat.blt (UNK + es) UNK = false := by rw [blt_eq']; exact decide_eq_false (by omega)
      have u2 : Nat.beq (UNK + es) (UNK + es) = true := Nat.beq_refl _
      have u3 : Nat.ble (0 + n * es + lenN d) (lenN c) = false := by rw [ble_eq', lenN_eq, lenN_eq]; exact decide_eq_false (by have : 0 < m * es := Nat.mul_pos hm hes; omega)
      have u4 : Nat.ble (0 + n * es) (lenN c) = true := by rw [ble_eq', lenN_eq]; exact decide_eq_true (by omega)
      show (bif Nat.blt (UNK + es) UNK then _ else bif !Nat.beq (UNK + es) (UNK + es) then none else opt ((s.seen x).getC b) fun c => bif Nat.ble (0 + n * es + lenN d) (lenN c) then _ else bif Nat.ble (0 + n * es) (lenN c) then newSlice ((s.seen x).set b none) es (n + m) (app (takeN (n * es) (dropN 0 c)) d) else none) = _
      rw [u1, u2, seen_getC, h1]
      show (bif Nat.ble (0 + n * es + lenN d) (lenN c) then _ else bif Nat.ble (0 + n * es) (lenN c) then newSlice ((s.seen x).set b none) es (n + m) (app (takeN (n * es) (dropN 0 c)) d) else none) = _
      rw [u3, u4, app_eq, takeN_eq, dropN_eq, List.drop_zero, List.take_of_length_le (by omega)]
      exact r1
    · rw [r4 y hy, set_ne (s.seen x) b y none (by omega) (fun e => hv e.symm), seen_getC]
end Go.Abs
