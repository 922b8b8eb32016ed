import Derived.Test.YtdnedangfnincaaAbsZN
namespace Go.Abs
set_option linter.unusedVariables false
set_option linter.unusedSimpArgs false
/-! memory in the open: a new block; loads and stores at known cells -/
noncomputable def an (s : St) (c : Blk) : St := ⟨s.heap.put 40 s.next (some c), s.next + 1, s.rd, Nat.lor s.wr (bit s.next)⟩
theorem an_e (s : St) (c : Blk) (h : s.next ≤ lim) : s.alloc c = some (s.next, an s c) := by
  unfold St.alloc
  rw [forceL_eq, ble_eq', decide_eq_true h, cond_true, force_eq, force_eq]
  rfl
theorem an_al (s : St) (c : Blk) (h : s.next ≤ lim) : an s c = al s c := by
  have h1 : some (s.next, an s c) = some (s.next, al s c) := (an_e s c h).symm.trans (al_e s c h)
  exact (Prod.mk.inj (Option.some.inj h1)).2
theorem an_next (s : St) (c : Blk) : (an s c).next = s.next + 1 := nrfl rfl
theorem an_same (s : St) (c : Blk) (h : s.next ≤ lim) (hm : isMapB c = false) : (an s c).getC s.next = some c := by rw [an_al s c h]; exact al_same s c h hm
theorem an_ne (s : St) (c : Blk) (y : Nat) (h : s.next ≤ lim) (hy : y ≠ s.next) : (an s c).getC y = s.getC y := by rw [an_al s c h]; exact al_ne s c y h hy
theorem an_at (s : St) (c : Blk) (y : Nat) (h : s.next ≤ lim) (hm : isMapB c = false) (hy : y = s.next) : (an s c).getC y = some c := by rw [hy]; exact an_same s c h hm
theorem Own.an {s0 s : St} (h : Own s0 s) (c : Blk) (hl : s.next ≤ lim) : Own s0 (an s c) := by rw [an_al s c hl]; exact h.al c hl
theorem Mine.an {s0 s : St} (h : Mine s0 s) (c : Blk) (hl : s.next ≤ lim) : Mine s0 (an s c) := by rw [an_al s c hl]; exact h.al c hl
theorem Grew.an {k : Nat} {a b : St} (h : Grew k a b) (c : Blk) (hl : b.next ≤ lim) : Grew (k + 1) a (Abs.an b c) := by rw [an_al b c hl]; exact h.al c hl
theorem new_a (c : Blk) (rec : Rec) (fs : Frm) (s : St) (h : s.next ≤ lim) : oNew c rec fs s = some (.pointer (some ⟨s.next, 0, none⟩), an s c) := by rw [an_al s c h]; exact new_u c rec fs s h
theorem boxA (v : Value) (l : List Value) (rec : Rec) (fs : Frm) (s : St) : oBox (.v (aggOf (v :: l))) rec fs s = oNew (v :: l) rec fs s := nrfl rfl
theorem bs_a (n : Nat) (z : List Value) (p : List (Nat × Nat × Arg)) (rec : Rec) (s : St) (h : s.next ≤ lim) : oBuildSlice n z p rec PT.nil s = opt (fillN PT.nil p z) fun c => some (.slice (some ⟨s.next, 0, none⟩) n n, an s c) := by
  show (opt (fillN PT.nil p z) fun c => opt2 (s.alloc c) fun b s => some (Value.slice (some ⟨b, 0, none⟩) n n, s)) = _
  congr 1
  funext c
  rw [an_e s c h]
  rfl
theorem set_at (s : St) (x y : Nat) (c : Blk) (h8 : 8 ≤ x) (hx : x + 1 < 1099511627776) (hm : isMapB c = false) (hy : y = x) : (s.set x (some c)).getC y = some c := by rw [hy]; exact set_same s x c h8 hx hm
theorem an_ati (s : St) (k : IntKind) (n : Int) (l : List Value) (y : Nat) (h : s.next ≤ lim) (hy : y = s.next) : (an s (.int k n :: l)).getC y = some (.int k n :: l) := an_at s _ y h rfl hy
theorem set_ati (s : St) (x y : Nat) (k : IntKind) (n : Int) (l : List Value) (h8 : 8 ≤ x) (hx : x + 1 < 1099511627776) (hy : y = x) : (s.set x (some (.int k n :: l))).getC y = some (.int k n :: l) := set_at s x y _ h8 hx rfl hy
theorem an_atp (s : St) (p : Option Addr) (l : List Value) (y : Nat) (h : s.next ≤ lim) (hy : y = s.next) : (an s (.pointer p :: l)).getC y = some (.pointer p :: l) := an_at s _ y h rfl hy
theorem set_atp (s : St) (x y : Nat) (p : Option Addr) (l : List Value) (h8 : 8 ≤ x) (hx : x + 1 < 1099511627776) (hy : y = x) : (s.set x (some (.pointer p :: l))).getC y = some (.pointer p :: l) := set_at s x y _ h8 hx rfl hy
theorem an_ats (s : St) (p : Option Addr) (n k : Nat) (l : List Value) (y : Nat) (h : s.next ≤ lim) (hy : y = s.next) : (an s (.slice p n k :: l)).getC y = some (.slice p n k :: l) := an_at s _ y h rfl hy
theorem set_ats (s : St) (x y : Nat) (p : Option Addr) (n k : Nat) (l : List Value) (h8 : 8 ≤ x) (hx : x + 1 < 1099511627776) (hy : y = x) : (s.set x (some (.slice p n k :: l))).getC y = some (.slice p n k :: l) := set_at s x y _ h8 hx rfl hy
theorem an_atb (s : St) (z : Bool) (l : List Value) (y : Nat) (h : s.next ≤ lim) (hy : y = s.next) : (an s (.bool z :: l)).getC y = some (.bool z :: l) := an_at s _ y h rfl hy
theorem set_atb (s : St) (x y : Nat) (z : Bool) (l : List Value) (h8 : 8 ≤ x) (hx : x + 1 < 1099511627776) (hy : y = x) : (s.set x (some (.bool z :: l))).getC y = some (.bool z :: l) := set_at s x y _ h8 hx rfl hy
/-- cells of a block -/
noncomputable def cutF (s : St) (b o n : Nat) (c : Blk) : Out := bif Nat.ble (o + n) (lenN c) then some (aggOf (takeN n (dropN o c)), s.seen b) else none
theorem loadn_o (n b o : Nat) (rec : Rec) (fs : Frm) (s : St) : oLoadN n (.v (.pointer (some ⟨b, o, none⟩))) rec fs s = opt (s.getC b) fun c => cutF s b o n c := by
  show opt2 (opt (s.getC b) fun c => bif Nat.ble (o + n) (lenN c) then some (takeN n (dropN o c), s.seen b) else none) (fun c s => some (aggOf c, s)) = _
  cases s.getC b with
  | none => rfl
  | some c =>
    rw [op_s, op_s]
    unfold cutF
    cases Nat.ble (o + n) (lenN c) <;> rfl
noncomputable def putF (s : St) (b o : Nat) (vs : List Value) (c : Blk) : Out := bif Nat.ble (o + lenN vs) (lenN c) then some (UV, s.set b (some (app (takeN o c) (app vs (dropN (o + lenN vs) c))))) else none
theorem store_o (b o : Nat) (rec : Rec) (n : Nat) (v : Value) (fs : Frm) (s : St) (hn : Nat.beq (lenN (cellsOf v)) n = true) : oStore n (.v (.pointer (some ⟨b, o, none⟩))) (.v v) rec fs s = opt (s.getC b) fun c => putF s b o (cellsOf v) c := by
  show (bif Nat.beq (lenN (cellsOf v)) n then opt (opt (s.getC b) fun c => bif Nat.ble (o + lenN (cellsOf v)) (lenN c) then forceL (app (takeN o c) (app (cellsOf v) (dropN (o + lenN (cellsOf v)) c))) (fun c => some (s.set b (some c))) else none) (fun s => some (UV, s)) else none) = _
  rw [hn, cond_true]
  cases s.getC b with
  | none => rfl
  | some c =>
    rw [op_s, op_s, forceL_eq]
    unfold putF
    cases Nat.ble (o + lenN (cellsOf v)) (lenN c) <;> rfl
theorem store_2 (b o : Nat) (rec : Rec) (u v : Value) (fs : Frm) (s : St) : oStore 2 (.v (.pointer (some ⟨b, o, none⟩))) (.v (aggOf [u, v])) rec fs s = opt (s.getC b) fun c => putF s b o [u, v] c := store_o b o rec 2 (aggOf [u, v]) fs s rfl
theorem store_i (b o : Nat) (rec : Rec) (k : IntKind) (n : Int) (fs : Frm) (s : St) : oStore 1 (.v (.pointer (some ⟨b, o, none⟩))) (.v (.int k n)) rec fs s = opt (s.getC b) fun c => putF s b o [.int k n] c := store_o b o rec 1 (.int k n) fs s rfl
theorem store_b (b o : Nat) (rec : Rec) (x : Bool) (fs : Frm) (s : St) : oStore 1 (.v (.pointer (some ⟨b, o, none⟩))) (.v (.bool x)) rec fs s = opt (s.getC b) fun c => putF s b o [.bool x] c := store_o b o rec 1 (.bool x) fs s rfl
theorem store_s (b o : Nat) (rec : Rec) (a : Option Addr) (n k : Nat) (fs : Frm) (s : St) : oStore 1 (.v (.pointer (some ⟨b, o, none⟩))) (.v (.slice a n k)) rec fs s = opt (s.getC b) fun c => putF s b o [.slice a n k] c := store_o b o rec 1 (.slice a n k) fs s rfl
theorem store_p (b o : Nat) (rec : Rec) (a : Option Addr) (fs : Frm) (s : St) : oStore 1 (.v (.pointer (some ⟨b, o, none⟩))) (.v (.pointer a)) rec fs s = opt (s.getC b) fun c => putF s b o [.pointer a] c := store_o b o rec 1 (.pointer a) fs s rfl
theorem cut_22 (s : St) (b : Nat) (x y : Value) : cutF s b 0 2 [x, y] = some (aggOf [x, y], s.seen b) := nrfl rfl
theorem put_22 (s : St) (b : Nat) (x y : Value) (u v : Value) : putF s b 0 [u, v] [x, y] = some (UV, s.set b (some [u, v])) := nrfl rfl
theorem cells_agg (l : List Value) : cellsOf (aggOf l) = l := nrfl rfl
theorem cells_int (k : IntKind) (n : Int) : cellsOf (.int k n) = [.int k n] := nrfl rfl
theorem cells_bool (b : Bool) : cellsOf (.bool b) = [.bool b] := nrfl rfl
theorem cells_slice (a : Option Addr) (n c : Nat) : cellsOf (.slice a n c) = [.slice a n c] := nrfl rfl
theorem cells_ptr (a : Option Addr) : cellsOf (.pointer a) = [.pointer a] := nrfl rfl
theorem len_2 (u v : Value) : Nat.beq (lenN [u, v]) 2 = true := nrfl rfl
theorem len_1 (u : Value) : Nat.beq (lenN [u]) 1 = true := nrfl rfl
theorem cut_53 (s : St) (b : Nat) (x y z u v : Value) : cutF s b 3 2 [x, y, z, u, v] = some (aggOf [u, v], s.seen b) := nrfl rfl
theorem cut_55 (s : St) (b : Nat) (x y z u v : Value) : cutF s b 0 5 [x, y, z, u, v] = some (aggOf [x, y, z, u, v], s.seen b) := nrfl rfl
theorem put_55 (s : St) (b : Nat) (x y z u v x' y' z' u' v' : Value) : putF s b 0 [x', y', z', u', v'] [x, y, z, u, v] = some (UV, s.set b (some [x', y', z', u', v'])) := nrfl rfl
theorem put_50 (s : St) (b : Nat) (x y z u v w : Value) : putF s b 0 [w] [x, y, z, u, v] = some (UV, s.set b (some [w, y, z, u, v])) := nrfl rfl
theorem put_51 (s : St) (b : Nat) (x y z u v w : Value) : putF s b 1 [w] [x, y, z, u, v] = some (UV, s.set b (some [x, w, z, u, v])) := nrfl rfl
theorem put_52 (s : St) (b : Nat) (x y z u v w : Value) : putF s b 2 [w] [x, y, z, u, v] = some (UV, s.set b (some [x, y, w, u, v])) := nrfl rfl
theorem put_53 (s : St) (b : Nat) (x y z u v a w : Value) : putF s b 3 [a, w] [x, y, z, u, v] = some (UV, s.set b (some [x, y, z, a, w])) := nrfl rfl
theorem store_5 (b o : Nat) (rec : Rec) (x y z u v : Value) (fs : Frm) (s : St) : oStore 5 (.v (.pointer (some ⟨b, o, none⟩))) (.v (aggOf [x, y, z, u, v])) rec fs s = opt (s.getC b) fun c => putF s b o [x, y, z, u, v] c := store_o b o rec 5 (aggOf [x, y, z, u, v]) fs s rfl
theorem nth_4 {α : Type} (x y z u v : α) (l : List α) : nth (x :: y :: z :: u :: v :: l) 4 = some v := nrfl rfl
theorem nil_u (p : Addr) (rec : Rec) (fs : Frm) (s : St) : oNilCheck (.v (.pointer (some p))) rec fs s = some (.pointer (some p), s) := nrfl rfl
theorem fa_0 (o b : Nat) (rec : Rec) (fs : Frm) (s : St) : oFieldAddr o (.v (.pointer (some ⟨b, 0, none⟩))) rec fs s = some (.pointer (some ⟨b, o, none⟩), s) := by rw [fieldAddr_e, Nat.zero_add]
theorem ret_c (n : Nat) (t : P) (b : Nat) (rs : List ARes) (f : Frm) (s : St) (h : f.get t = some (.pointer (some ⟨b, 0, none⟩))) : res1 f s (.cell t (some n)) = opt (s.getC b) fun c => cutF s b 0 n c := by
  show (match orU (f.get t) with
      | .pointer (some p) => opt2 (s.read p.block p.off n) fun c s => some (aggOf c, s)
      | _ => none) = _
  rw [h]
  exact loadn_o n b 0 (fun _ _ _ => none) PT.nil s
/-- results: a cell's and a value's -/
theorem fin_c (n b : Nat) (t : P) (s : St) : finX [.cell t (some n)] .ret ((PT.put (.pointer (some ⟨b, 0, none⟩)) t PT.nil), s) = opt (s.getC b) fun c => cutF s b 0 n c := by
  have e : (PT.put (.pointer (some ⟨b, 0, none⟩)) t PT.nil : Frm).get t = some (.pointer (some ⟨b, 0, none⟩)) := PT.get_put_same _ _ _
  rw [finX_r, res_c, ret_c n t b [] _ s e]
  cases s.getC b with
  | none => rfl
  | some c =>
    rw [op_s]
    unfold cutF
    cases Nat.ble (0 + n) (lenN c) <;> rfl
theorem fin_cf (n b : Nat) (t : P) (f : Frm) (s : St) (h : f.get t = some (.pointer (some ⟨b, 0, none⟩))) : finX [.cell t (some n)] .ret (f, s) = opt (s.getC b) fun c => cutF s b 0 n c := by
  rw [finX_r, res_c, ret_c n t b [] _ s h]
  cases s.getC b with
  | none => rfl
  | some c =>
    rw [op_s]
    unfold cutF
    cases Nat.ble (0 + n) (lenN c) <;> rfl
theorem fin_ct (n b : Nat) (t t' : P) (v : Value) (f : Frm) (s : St) (h : f.get t = some (.pointer (some ⟨b, 0, none⟩))) (h' : f.get t' = some v) : finX [.cell t (some n), .tmp t'] .ret (f, s) = opt2 (opt (s.getC b) fun c => cutF s b 0 n c) fun a s => some (oneOf [a, v], s) := by
  rw [finX_r, res_c, ret_c n t b [] _ s h]
  cases s.getC b with
  | none => rfl
  | some c =>
    rw [op_s]
    unfold cutF
    cases Nat.ble (0 + n) (lenN c) with
    | false => rfl
    | true =>
      rw [cond_true, op2_s, op2_s, res_t, h']
      rfl
theorem jn_an (s : St) (c : Blk) : jn s (an (z0 s) c) = an s c := by
  unfold jn an z0
  show (⟨s.heap.put 40 s.next (some c), s.next + 1, Nat.lor s.rd 0, Nat.lor s.wr (Nat.lor 0 (bit s.next))⟩ : St) = _
  rw [lor_0, zor]
theorem rU_seen (v : Value) (b : Nat) (fs : Frm) (s : St) : rU (some (v, (z0 s).seen b)) fs s none = some (v, (⟨(((z0 s).seen b).rd, ((z0 s).seen b).wr), s, (z0 s).seen b, none⟩, s.seen b)) := by rw [rU_c, jn_seen]
theorem rU_set (v : Value) (b : Nat) (c : Option Blk) (fs : Frm) (s : St) : rU (some (v, (z0 s).set b c)) fs s none = some (v, (⟨(((z0 s).set b c).rd, ((z0 s).set b c).wr), s, (z0 s).set b c, none⟩, s.set b c)) := by rw [rU_c, jn_set]
theorem rU_an (v : Value) (c : Blk) (fs : Frm) (s : St) : rU (some (v, an (z0 s) c)) fs s none = some (v, (⟨((an (z0 s) c).rd, (an (z0 s) c).wr), s, an (z0 s) c, none⟩, an s c)) := by rw [rU_c, jn_an]
theorem rU_sl (v : Value) (x b o : Nat) (fs : Frm) (s : St) : rU (some (v, (z0 s).seen x)) fs s (some (.v (.pointer (some ⟨b, o, none⟩)))) = some (v, (⟨(0, 0), s, (z0 s).seen x, some (b, o)⟩, s.seen x)) := by rw [rU_ld, jn_seen]
theorem KI.an (n0 : Nat) (c : Nat → Nat) (s b : St) (k : Nat) (d : Blk) (h1 : c (k + 1) ≤ s.next) (h2 : s.next < c (k + 1 + 1)) (hl : s.next ≤ lim) : KI n0 c ⟨((Abs.an (z0 s) d).rd, (Abs.an (z0 s) d).wr), s, b, none⟩ (k + 1) :=
  KI.mine n0 c s (Abs.an (z0 s) d) b k ((Mine.refl _).an d hl) h1 (by rw [an_next, z0_next]; omega)
theorem orM_t (x : Option (Value × (Mk × St))) (s : St) : orM true x s = x := nrfl rfl
theorem orM_f (x : Option (Value × (Mk × St))) (s : St) : orM false x s = some (undef, (⟨(0, 0), s, s, none⟩, s)) := nrfl rfl
/-- a mask laid over any number -/
theorem and_any (x : Int) (m : Nat) (hm : m < 9223372036854775808) : ∃ r : Nat, r ≤ m ∧ int2 andO (.int .i64 x) (.int .i64 (m : Int)) = some (.int .i64 (r : Int)) := by
  have key : ∃ r : Nat, r ≤ m ∧ IntKind.i64.wrap ((BitVec.ofInt 64 x &&& BitVec.ofInt 64 (m : Int)).toNat : Int) = (r : Int) := by
    refine ⟨(BitVec.ofInt 64 x &&& BitVec.ofInt 64 (m : Int)).toNat, ?_, ?_⟩
    · rw [BitVec.toNat_and]
      have e : (BitVec.ofInt 64 (m : Int)).toNat = m := by simp [BitVec.toNat_ofInt]; omega
      rw [e]
      exact Nat.and_le_right
    · have : (BitVec.ofInt 64 x &&& BitVec.ofInt 64 (m : Int)).toNat ≤ m := by
        rw [BitVec.toNat_and]
        have e : (BitVec.ofInt 64 (m : Int)).toNat = m := by simp [BitVec.toNat_ofInt]; omega
        rw [e]
        exact Nat.and_le_right
      exact wrap_i64 _ (by omega) (by omega)
  obtain ⟨r, h1, h2⟩ := key
  show ∃ r : Nat, r ≤ m ∧ setI .i64 (bitAnd .i64 x (m : Int)) = _
  cases x with
  | negSucc n =>
    refine ⟨r, h1, ?_⟩
    rw [setI_eq]
    exact congrArg (fun z => some (Value.int .i64 z)) h2
  | ofNat n =>
    cases hb : (Nat.blt n (topOf .i64) && Nat.blt m (topOf .i64)) with
    | true =>
      refine ⟨Nat.land n m, Nat.and_le_right, ?_⟩
      rw [setI_eq]
      show some (Value.int .i64 (bif Nat.blt n (topOf .i64) && Nat.blt m (topOf .i64) then Int.ofNat (Nat.land n m) else _)) = _
      rw [hb]; rfl
    | false =>
      refine ⟨r, h1, ?_⟩
      rw [setI_eq]
      show some (Value.int .i64 (bif Nat.blt n (topOf .i64) && Nat.blt m (topOf .i64) then _ else IntKind.i64.wrap ((BitVec.ofInt 64 (Int.ofNat n) &&& BitVec.ofInt 64 (m : Int)).toNat : Int))) = _
      rw [hb]
      exact congrArg (fun z => some (Value.int .i64 z)) h2
/-! whole numbers without a sign -/
theorem u64w (x : Int) : IntKind.u64.wrap x = x % 18446744073709551616 := by
  simp [IntKind.wrap, IntKind.bits, IntKind.signed]
theorem uand (n m : Nat) (h : n < 18446744073709551616) (h' : m < 18446744073709551616) : int2 andO (.int .u64 (n : Int)) (.int .u64 (m : Int)) = some (.int .u64 ((n &&& m : Nat) : Int)) := by
  show setI .u64 (bitAnd .u64 (Int.ofNat n) (Int.ofNat m)) = _
  have e : bitAnd .u64 (Int.ofNat n) (Int.ofNat m) = Int.ofNat (Nat.land n m) := by
    show (bif Nat.blt n (topOf .u64) && Nat.blt m (topOf .u64) then Int.ofNat (Nat.land n m) else _) = _
    rw [blt_eq', blt_eq', decide_eq_true (show n < topOf .u64 from h), decide_eq_true (show m < topOf .u64 from h')]
    rfl
  rw [setI_eq, e]
  rfl
theorem and32_u (n : Nat) (h : n < 18446744073709551616) : int2 andO (.int .u64 (n : Int)) (.int .u64 4294967295) = some (.int .u64 ((n % 4294967296 : Nat) : Int)) := by
  have := uand n 4294967295 h (by omega)
  rw [show (4294967295 : Nat) = 2 ^ 32 - 1 from rfl, Nat.and_two_pow_sub_one_eq_mod] at this
  exact this
theorem and7_u (n : Nat) (h : n < 18446744073709551616) : int2 andO (.int .u64 (n : Int)) (.int .u64 127) = some (.int .u64 ((n % 128 : Nat) : Int)) := by
  have := uand n 127 h (by omega)
  rw [show (127 : Nat) = 2 ^ 7 - 1 from rfl, Nat.and_two_pow_sub_one_eq_mod] at this
  exact this
theorem and1_u (n : Nat) (h : n < 18446744073709551616) : int2 andO (.int .u64 (n : Int)) (.int .u64 1) = some (.int .u64 ((n % 2 : Nat) : Int)) := by
  have := uand n 1 h (by omega)
  rw [show (1 : Nat) = 2 ^ 1 - 1 from rfl, Nat.and_two_pow_sub_one_eq_mod] at this
  exact this
theorem shr_u (k : IntKind) (hk : k.bits = 64) (n j : Nat) (hj : j ≤ 64) : sh2 shrO (.int k (n : Int)) (.int .u64 (j : Int)) = some (.int k ((n / 2 ^ j : Nat) : Int)) := by
  show (bif ltI (j : Int) 0 then none else setI k ((n : Int).fdiv (2 ^ (min (j : Int).toNat k.bits)))) = _
  have e : ltI (j : Int) 0 = false := by rw [ltI_eq]; exact decide_eq_false (by omega)
  have e2 : min (j : Int).toNat k.bits = j := by rw [hk, Int.toNat_natCast]; omega
  rw [e, cond_false, e2, Int.fdiv_eq_ediv_of_nonneg _ (Int.le_of_lt (Int.pow_pos (by decide))), setI_eq]
  congr 2
theorem shr32_u (n : Nat) : sh2 shrO (.int .u64 (n : Int)) (.int .u64 32) = some (.int .u64 ((n / 4294967296 : Nat) : Int)) := shr_u .u64 rfl n 32 (by omega)
theorem shr7_u (n : Nat) : sh2 shrO (.int .u64 (n : Int)) (.int .u64 7) = some (.int .u64 ((n / 128 : Nat) : Int)) := shr_u .u64 rfl n 7 (by omega)
theorem shr1_u (n : Nat) : sh2 shrO (.int .u64 (n : Int)) (.int .u64 1) = some (.int .u64 ((n / 2 : Nat) : Int)) := shr_u .u64 rfl n 1 (by omega)
theorem shr63_u (n : Nat) : sh2 shrO (.int .i64 (n : Int)) (.int .u64 63) = some (.int .i64 ((n / 9223372036854775808 : Nat) : Int)) := shr_u .i64 rfl n 63 (by omega)
theorem addU (a b : Nat) (h : a + b < 18446744073709551616) : int2 addO (.int .u64 (a : Int)) (.int .u64 (b : Int)) = some (.int .u64 ((a + b : Nat) : Int)) := by
  show addO .u64 a b = _
  rw [addO_eq, u64w]
  congr 2
  omega
theorem subU (a b : Nat) (h : b ≤ a) (h' : a < 18446744073709551616) : int2 subO (.int .u64 (a : Int)) (.int .u64 (b : Int)) = some (.int .u64 ((a - b : Nat) : Int)) := by
  show subO .u64 a b = _
  rw [subO_eq, u64w]
  congr 2
  omega
theorem mulU (a b : Nat) (h : a * b < 18446744073709551616) : int2 mulO (.int .u64 (a : Int)) (.int .u64 (b : Int)) = some (.int .u64 ((a * b : Nat) : Int)) := by
  show mulO .u64 a b = _
  rw [mulO_eq, u64w, ← Int.natCast_mul]
  congr 2
  exact Int.emod_eq_of_lt (by omega) (by omega)
theorem mulW (a b : Nat) : int2 mulO (.int .u64 (a : Int)) (.int .u64 (b : Int)) = some (.int .u64 ((a * b % 18446744073709551616 : Nat) : Int)) := by
  show mulO .u64 a b = _
  rw [mulO_eq, u64w, ← Int.natCast_mul]
  rfl
theorem toU (k : IntKind) (n : Nat) (rec : Rec) (fs : Frm) (s : St) (h : n < 18446744073709551616) : oConv .u64 (.v (.int k (n : Int))) rec fs s = some (.int .u64 (n : Int), s) := by
  show (opt (mkInt .u64 (n : Int)) fun v => some (v, s)) = _
  rw [mkInt_eq, u64w, op_s, Int.emod_eq_of_lt (by omega) (by omega)]
theorem toI (k : IntKind) (n : Nat) (rec : Rec) (fs : Frm) (s : St) (h : n < 9223372036854775808) : oConv .i64 (.v (.int k (n : Int))) rec fs s = some (.int .i64 (n : Int), s) := by
  show (opt (mkInt .i64 (n : Int)) fun v => some (v, s)) = _
  rw [mkInt_eq, wrap_i64 _ (by omega) (by omega), op_s]
theorem toB (k : IntKind) (n : Nat) (rec : Rec) (fs : Frm) (s : St) (h : n < 256) : oConv .u8 (.v (.int k (n : Int))) rec fs s = some (.int .u8 (n : Int), s) := by
  show (opt (mkInt .u8 (n : Int)) fun v => some (v, s)) = _
  rw [mkInt_eq, show IntKind.u8.wrap (n : Int) = (n : Int) from Abs.wrap_small .u8 n (by simp [topOf]; omega), op_s]
theorem add64_u (a b c : Nat) (hc : c ≤ 1) : add64X [.int .u64 (a : Int), .int .u64 (b : Int), .int .u64 (c : Int)] = some (tupOf [.int .u64 (((a + b + c) % 18446744073709551616 : Nat) : Int), .int .u64 (((a + b + c) / 18446744073709551616 : Nat) : Int)]) := by
  show (bif Nat.ble c 1 then pair64 (Nat.mod (a + b + c) 18446744073709551616) (Nat.div (a + b + c) 18446744073709551616) else none) = _
  rw [ble_eq', decide_eq_true hc, cond_true, pair64_eq]
  rfl
theorem add64_0 (a b : Nat) : add64X [.int .u64 (a : Int), .int .u64 (b : Int), .int .u64 0] = some (tupOf [.int .u64 (((a + b) % 18446744073709551616 : Nat) : Int), .int .u64 (((a + b) / 18446744073709551616 : Nat) : Int)]) := add64_u a b 0 (by omega)
theorem extX (g : List Value → Option Value) (a b c : Value) (rec : Rec) (fs : Frm) (s : St) : oExt g [.v a, .v b, .v c] rec fs s = opt (g [a, b, c]) fun v => some (v, s) := nrfl rfl
theorem eqvB (n : Bool) (a b : Bool) (rec : Rec) (fs : Frm) (s : St) : oEqv eqB n (.v (.bool a)) (.v (.bool b)) rec fs s = some (.bool (bif n then !(a == b) else (a == b)), s) := by
  cases a <;> cases b <;> rfl
theorem eqsN (a c : Int) (b d : Int) (rec : Rec) (fs : Frm) (s : St) : oEqs false [(0, eqN), (1, eqN)] (.v (aggOf [.int .i64 a, .int .u64 b])) (.v (aggOf [.int .i64 c, .int .u64 d])) rec fs s = some (.bool (eqI a c && eqI b d), s) := by
  show opt (eqAll [.int .i64 a, .int .u64 b] [.int .i64 c, .int .u64 d] [(0, eqN), (1, eqN)]) (fun r => some (Value.bool (bif false then !r else r), s)) = _
  have e : eqAll [.int .i64 a, .int .u64 b] [.int .i64 c, .int .u64 d] [(0, eqN), (1, eqN)] = some (eqI a c && eqI b d) := by
    show opt (some (eqI a c)) (fun x => opt (opt (some (eqI b d)) fun y => opt (some true) fun z => some (y && z)) fun z => some (x && z)) = _
    rw [op_s, op_s, op_s, op_s, Bool.and_true]
  rw [e]
  rfl
end Go.Abs
