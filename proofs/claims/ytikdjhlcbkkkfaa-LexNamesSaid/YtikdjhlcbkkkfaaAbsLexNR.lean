import Derived.Test.YtikdjhlcbkkkfaaDecLexN
import Derived.Test.YtikdjhlcbkkkfaaShelf
namespace Go.Proofs.Ytikdjhlcbkkkfaa.AbsLexN
open Go Go.Abs Go.Proofs
set_option maxRecDepth 100000
set_option linter.unusedVariables false
set_option linter.unusedSimpArgs false
theorem nr {α : Type} {a b : α} (h : a = b) : a = b := h
theorem op2_s' {α β γ : Type} (a : α) (b : β) (k : α → β → Option γ) : opt2 (some (a, b)) k = k a b := nr rfl
theorem op_s' {α β : Type} (a : α) (k : α → Option β) : opt (some a) k = k a := nr rfl
theorem ev_v' (fs : Frm) (v : Value) : ev fs (.v v) = v := nr rfl
theorem call_r' (f : FuncId) (args : List Arg) (rec : Rec) (fs : Frm) (s : St) : oCall f args rec fs s = rec f (mapN (ev fs) args) s := nr rfl
theorem map_c' {α β : Type} (f : α → β) (x : α) (l : List α) : mapN f (x :: l) = f x :: mapN f l := nr rfl
theorem map_n' {α β : Type} (f : α → β) : mapN f [] = [] := nr rfl
theorem bin_e' (f : Value → Value → Option Value) (x y : Value) (rec : Rec) (fs : Frm) (s : St) : oBin f (.v x) (.v y) rec fs s = opt (f x y) fun v => some (v, s) := nr rfl
theorem pick_e' (b : Bool) (x y : Value) (rec : Rec) (fs : Frm) (s : St) : oPick (.v (.bool b)) (.v x) (.v y) rec fs s = some (bif b then x else y, s) := nr rfl
theorem ext_e' (l : List Value) (i : Nat) (rec : Rec) (fs : Frm) (s : St) : oExtract (.v (tupOf l)) i rec fs s = opt (nth l i) fun v => some (v, s) := nr rfl
theorem nth_z' {α : Type} (x : α) (l : List α) : nth (x :: l) 0 = some x := nr rfl
theorem nth_1' {α : Type} (x y : α) (l : List α) : nth (x :: y :: l) 1 = some y := nr rfl
theorem nth_2' {α : Type} (x y z : α) (l : List α) : nth (x :: y :: z :: l) 2 = some z := nr rfl
theorem nth_3' {α : Type} (x y z u : α) (l : List α) : nth (x :: y :: z :: u :: l) 3 = some u := nr rfl
theorem orUndef_t' (x : Out) (s : St) : orUndef true x s = x := nr rfl
theorem orUndef_f' (x : Out) (s : St) : orUndef false x s = some (undef, s) := nr rfl
theorem condV_t' {α : Type} (A B : Option α) : condV (.bool true) A B = A := nr rfl
theorem condV_f' {α : Type} (A B : Option α) : condV (.bool false) A B = B := nr rfl
theorem gval_u' (w : Bool) : gval w undef = some false := nr rfl
theorem thenX_n' (k : Frm → St → OutX) (fs : Frm) (s : St) : thenX k .norm (fs, s) = k fs s := nr rfl
theorem thenX_e' (k : Frm → St → OutX) (i : Nat) (r : Frm × St) : thenX k (.exit i) r = some (.exit i, r) := nr rfl
theorem thenX_r' (k : Frm → St → OutX) (r : Frm × St) : thenX k .ret r = some (.ret, r) := nr rfl
theorem finX_r' (rs : List ARes) (fs : Frm) (s : St) : finX rs .ret (fs, s) = opt2 (Abs.results fs rs s) fun vs s => some (oneOf vs, s) := nr rfl
theorem finX_n' (rs : List ARes) (fs : Frm) (s : St) : finX rs .norm (fs, s) = opt2 (Abs.results fs rs s) fun vs s => some (oneOf vs, s) := nr rfl
theorem oneOf1 (v : Value) : oneOf [v] = v := nr rfl
theorem orU_some (v : Value) : orU (some v) = v := nr rfl
theorem tf_beq : (true == false) = false := nr rfl
theorem ft_beq : (false == true) = false := nr rfl
theorem gtI_eq' (a b : Int) : gtI a b = decide (b < a) := ltI_eq b a
def W : List (List UInt8) := [[105, 110, 112, 117, 116], [114, 117, 108, 101], [116, 97, 98, 108, 101], [98, 111, 111, 108], [99, 111, 117, 110, 116], [109, 111, 110, 101, 121], [114, 97, 116, 101], [100, 97, 116, 101], [109, 111, 110, 101, 121, 115], [105, 102], [116, 104, 101, 110], [101, 108, 115, 101], [97, 110, 100], [111, 114], [110, 111, 116], [109, 105, 110], [109, 97, 120], [115, 117, 109], [105, 110], [108, 101, 110], [97, 116], [116, 114, 117, 101], [102, 97, 108, 115, 101]]
noncomputable def keptF (l : List UInt8) : Bool := W.foldr (fun w acc => eqBytes l w || acc) false
theorem str_e (f : List UInt8 → List UInt8 → Bool) (a : ByteArray) (l : List UInt8) : str2 (cmpS f) (.string a) (.string ⟨⟨l⟩⟩) = some (.bool (f a.data.toList l)) := nr rfl
theorem str_r (f : List UInt8 → List UInt8 → Bool) (a : ByteArray) (l : List UInt8) : str2 (cmpS f) (.string ⟨⟨l⟩⟩) (.string a) = some (.bool (f l a.data.toList)) := nr rfl
theorem condV_dup {α : Type} (x : Bool) (A B C : Option α) : condV (.bool x) (condV (.bool x) A B) C = condV (.bool x) A C := by cases x <;> rfl
theorem condV_or (x y : Bool) (s : St) : condV (.bool x) (some (Value.bool true, s)) (some (Value.bool y, s)) = some (.bool (x || y), s) := by cases x <;> rfl
theorem condV_or2 (x y : Bool) (s : St) : condV (.bool x) (some (Value.bool (x || false), s)) (some (Value.bool y, s)) = some (.bool (x || y), s) := by cases x <;> rfl
theorem kept12 (rec : Rec) (N : Nat) (b : ByteArray) (s : St) : callF rec N c12 [.string b] s = some (.bool (keptF b.data.toList), s) := by
  rw [d12]
  unfold D12
  simp only [op2_s', op_s', op2_op, op2_op2, op2_cond, ev_v', call_r', map_c', map_n', bin_e', pick_e', not_e, ext_e', nth_z', nth_1', nth_2', nth_3', gval_e, gval_u', cmp_e, orUndef_t', orUndef_f', condV_t', condV_f', cond_true, cond_false, eqI_eq, neI_eq, ltI_eq, leI_eq, gtI_eq', geI_eq, Bool.not_true, Bool.not_false, beq_self_eq_true, tf_beq, ft_beq, eq_self, decide_true, decide_false, oneOf1, orU_some, str_e, condV_or2, condV_or]
  rfl
theorem eqBytes_comm (a b : List UInt8) : eqBytes a b = eqBytes b a := by
  rw [eqBytes_eq, eqBytes_eq]
  by_cases h : a = b
  · simp [h]
  · simp [h, Ne.symm h]
noncomputable def anyF (l : List UInt8) (r : List (List UInt8)) : Bool := r.foldr (fun w acc => eqBytes w l || acc) false
def LV : List Value := W.map fun w => .string ⟨⟨w⟩⟩
theorem lenL_e (a : Option Addr) (n c : Nat) (rec : Rec) (fs : Frm) (s : St) : oLenL (.v (.slice a n c)) rec fs s = some (.int .i64 (n : Int), s) := nr rfl
theorem idxL_e (b n c i : Nat) (rec : Rec) (fs : Frm) (s : St) (h : i < n) : oIdxAddrL 1 (.v (.slice (some ⟨b, 0, none⟩) n c)) (.v (.int .i64 (i : Int))) rec fs s = some (.pointer (some ⟨b, i, none⟩), s) := by
  show (opt (bif Nat.blt i n then force i some else none) fun i => some (Value.pointer (some (addA ⟨b, 0, none⟩ (i * 1))), s)) = _
  rw [blt_eq', decide_eq_true h, cond_true, force_eq, op_s]
  unfold addA
  rw [force_eq]
  simp
theorem load1_e (b i : Nat) (c : Blk) (v : Value) (rec : Rec) (fs : Frm) (s : St) (h : s.getC b = some c) (hv : nth c i = some v) : oLoad1 (.v (.pointer (some ⟨b, i, none⟩))) rec fs s = some (v, s.seen b) := by
  show (opt (s.getC b) fun c => opt (nth c i) fun v => some (v, s.seen b)) = _
  rw [h, op_s, hv, op_s]
theorem seen_getC (s : St) (x y : Nat) : (s.seen x).getC y = s.getC y := by unfold St.getC; rw [St.seen_get]
theorem loop13 (rec : Rec) (N : Nat) (b : ByteArray) (n0 c : Nat) : ∀ (r : List (List UInt8)) (i fuel : Nat) (fs : Frm) (s : St), W.drop i = r → i + r.length = 23 → s.getC n0 = some LV → fs.get t3 = some (.slice (some ⟨n0, 0, none⟩) 23 c) → fs.get t4 = some (.int .i64 (i : Int)) → fs.get t0 = some (.string b) → r.length < fuel →
    ∃ e fs' s', loopF (c13_l0 rec N) fuel fs s = some (e, fs', s') ∧ ((anyF b.data.toList r = true ∧ e = .ret ∧ fs'.get t2 = some (.bool true)) ∨ (anyF b.data.toList r = false ∧ e = .exit 0))
  | [], i, fuel, fs, s, hr, hl, hg, h3, h4, h0, hf => by
    obtain ⟨fuel, rfl⟩ : ∃ m, fuel = m + 1 := ⟨fuel - 1, by simp at hf; omega⟩
    have hi : i = 23 := by simpa using hl
    have e1 : decide ((i : Int) < ((23 : Nat) : Int)) = false := decide_eq_false (by omega)
    rw [loop_s, d13_l0]
    unfold D13_l0
    simp only [op2_s', op_s', op2_op, op2_op2, op2_cond, ev_v', call_r', map_c', map_n', bin_e', pick_e', not_e, ext_e', nth_z', nth_1', nth_2', nth_3', gval_e, gval_u', cmp_e, orUndef_t', orUndef_f', condV_t', condV_f', cond_true, cond_false, eqI_eq, neI_eq, ltI_eq, leI_eq, gtI_eq', geI_eq, Bool.not_true, Bool.not_false, beq_self_eq_true, tf_beq, ft_beq, eq_self, decide_true, decide_false, oneOf1, orU_some, h3, h4, h0, lenL_e, e1, thenX_e']
    exact ⟨_, _, _, rfl, .inr ⟨rfl, rfl⟩⟩
  | w :: r, i, fuel, fs, s, hr, hl, hg, h3, h4, h0, hf => by
    obtain ⟨fuel, rfl⟩ : ∃ m, fuel = m + 1 := ⟨fuel - 1, by simp at hf; omega⟩
    have hi : i < 23 := by simp at hl; omega
    have e1 : decide ((i : Int) < ((23 : Nat) : Int)) = true := decide_eq_true (by omega)
    have hw : W[i]? = some w := by
      have : (W.drop i)[0]? = some w := by rw [hr]; rfl
      rw [List.getElem?_drop] at this
      simpa using this
    have hv : nth LV i = some (.string ⟨⟨w⟩⟩) := by
      rw [nth_eq]
      unfold LV
      rw [List.getElem?_map, hw]
      rfl
    have hdr : W.drop (i + 1) = r := by
      have : (W.drop i).drop 1 = r := by rw [hr]; rfl
      rwa [List.drop_drop] at this
    have hld := load1_e n0 i LV _ rec PT.nil s hg hv
    rw [loop_s, d13_l0]
    unfold D13_l0
    cases he : eqBytes w b.data.toList with
    | true =>
      simp only [op2_s', op_s', op2_op, op2_op2, op2_cond, ev_v', call_r', map_c', map_n', bin_e', pick_e', not_e, ext_e', nth_z', nth_1', nth_2', nth_3', gval_e, gval_u', cmp_e, orUndef_t', orUndef_f', condV_t', condV_f', cond_true, cond_false, eqI_eq, neI_eq, ltI_eq, leI_eq, gtI_eq', geI_eq, Bool.not_true, Bool.not_false, beq_self_eq_true, tf_beq, ft_beq, eq_self, decide_true, decide_false, oneOf1, orU_some, h3, h4, h0, lenL_e, e1, idxL_e n0 23 c i rec PT.nil s hi, hld, str_r, he, thenX_r']
      refine ⟨_, _, _, rfl, .inl ⟨?_, rfl, by kernel_rfl⟩⟩
      show (eqBytes w b.data.toList || anyF b.data.toList r) = true
      rw [he]; rfl
    | false =>
      simp (disch := omega) only [op2_s', op_s', op2_op, op2_op2, op2_cond, ev_v', call_r', map_c', map_n', bin_e', pick_e', not_e, ext_e', nth_z', nth_1', nth_2', nth_3', gval_e, gval_u', cmp_e, orUndef_t', orUndef_f', condV_t', condV_f', cond_true, cond_false, eqI_eq, neI_eq, ltI_eq, leI_eq, gtI_eq', geI_eq, Bool.not_true, Bool.not_false, beq_self_eq_true, tf_beq, ft_beq, eq_self, decide_true, decide_false, oneOf1, orU_some, h3, h4, h0, lenL_e, e1, idxL_e n0 23 c i rec PT.nil s hi, hld, str_r, he, thenX_n', add_e]
      obtain ⟨e, fs', s', hl', h⟩ := loop13 rec N b n0 c r (i + 1) fuel _ (s.seen n0) hdr (by simp at hl; omega) (by rw [seen_getC]; exact hg) ((by kernel_rfl : _ = fs.get t3).trans h3) (by kernel_rfl) ((by kernel_rfl : _ = fs.get t0).trans h0) (by simp at hf; omega)
      refine ⟨e, fs', s', hl', ?_⟩
      have ea : anyF b.data.toList (w :: r) = anyF b.data.toList r := by
        show (eqBytes w b.data.toList || anyF b.data.toList r) = _
        rw [he]; rfl
      rw [ea]; exact h
theorem alloc_e (s : St) (c : Blk) (h : s.next ≤ lim) (hm : isMapB c = false) : ∃ s', s.alloc c = some (s.next, s') ∧ s'.getC s.next = some c := by
  have ha : ∃ s', s.alloc c = some (s.next, s') := by
    unfold St.alloc
    rw [forceL_eq, ble_eq', decide_eq_true h, cond_true, force_eq, force_eq]
    exact ⟨_, rfl⟩
  obtain ⟨s', ha⟩ := ha
  refine ⟨s', ha, ?_⟩
  unfold St.getC
  rw [St.alloc_get ha]
  simp only [if_true, op_s]
  rw [hm]; rfl
def PARTS : List (Nat × Nat × Arg) := [(0, 1, (.v (.string ⟨⟨[105, 110, 112, 117, 116]⟩⟩))), (1, 1, (.v (.string ⟨⟨[114, 117, 108, 101]⟩⟩))), (2, 1, (.v (.string ⟨⟨[116, 97, 98, 108, 101]⟩⟩))), (3, 1, (.v (.string ⟨⟨[98, 111, 111, 108]⟩⟩))), (4, 1, (.v (.string ⟨⟨[99, 111, 117, 110, 116]⟩⟩))), (5, 1, (.v (.string ⟨⟨[109, 111, 110, 101, 121]⟩⟩))), (6, 1, (.v (.string ⟨⟨[114, 97, 116, 101]⟩⟩))), (7, 1, (.v (.string ⟨⟨[100, 97, 116, 101]⟩⟩))), (8, 1, (.v (.string ⟨⟨[109, 111, 110, 101, 121, 115]⟩⟩))), (9, 1, (.v (.string ⟨⟨[105, 102]⟩⟩))), (10, 1, (.v (.string ⟨⟨[116, 104, 101, 110]⟩⟩))), (11, 1, (.v (.string ⟨⟨[101, 108, 115, 101]⟩⟩))), (12, 1, (.v (.string ⟨⟨[97, 110, 100]⟩⟩))), (13, 1, (.v (.string ⟨⟨[111, 114]⟩⟩))), (14, 1, (.v (.string ⟨⟨[110, 111, 116]⟩⟩))), (15, 1, (.v (.string ⟨⟨[109, 105, 110]⟩⟩))), (16, 1, (.v (.string ⟨⟨[109, 97, 120]⟩⟩))), (17, 1, (.v (.string ⟨⟨[115, 117, 109]⟩⟩))), (18, 1, (.v (.string ⟨⟨[105, 110]⟩⟩))), (19, 1, (.v (.string ⟨⟨[108, 101, 110]⟩⟩))), (20, 1, (.v (.string ⟨⟨[97, 116]⟩⟩))), (21, 1, (.v (.string ⟨⟨[116, 114, 117, 101]⟩⟩))), (22, 1, (.v (.string ⟨⟨[102, 97, 108, 115, 101]⟩⟩)))]
theorem fill : fillN PT.nil PARTS (rep 23 [(.string ⟨⟨[]⟩⟩)]) = some LV := by kernel_rfl
theorem build_e (rec : Rec) (s : St) (h : s.next ≤ lim) : ∃ s', oBuildSlice 23 (rep 23 [(.string ⟨⟨[]⟩⟩)]) PARTS rec PT.nil s = some (.slice (some ⟨s.next, 0, none⟩) 23 23, s') ∧ s'.getC s.next = some LV := by
  obtain ⟨s', h1, h2⟩ := alloc_e s LV h rfl
  refine ⟨s', ?_, h2⟩
  show (opt (fillN PT.nil PARTS (rep 23 [(.string ⟨⟨[]⟩⟩)])) fun c => opt2 (s.alloc c) fun b s => some (Value.slice (some ⟨b, 0, none⟩) 23 23, s)) = _
  rw [fill, op_s, h1, op2_s]
theorem any_kept (l : List UInt8) : anyF l W = keptF l := by
  unfold anyF keptF
  congr 1
  funext w acc
  rw [eqBytes_comm]
theorem kept13 (rec : Rec) (N : Nat) (hN : 100 ≤ N) (b : ByteArray) (s : St) (h : s.next ≤ lim) : ∃ s', callF rec N c13 [.string b] s = some (.bool (keptF b.data.toList), s') := by
  obtain ⟨s1, hb, hg⟩ := build_e rec s h
  unfold PARTS at hb
  rw [d13]
  unfold D13
  simp only [op2_s', op_s', op2_op, op2_op2, op2_cond, ev_v', call_r', map_c', map_n', bin_e', pick_e', not_e, ext_e', nth_z', nth_1', nth_2', nth_3', gval_e, gval_u', cmp_e, orUndef_t', orUndef_f', condV_t', condV_f', cond_true, cond_false, eqI_eq, neI_eq, ltI_eq, leI_eq, gtI_eq', geI_eq, Bool.not_true, Bool.not_false, beq_self_eq_true, tf_beq, ft_beq, eq_self, decide_true, decide_false, oneOf1, orU_some, hb]
  obtain ⟨e, fs', s', hl, hc⟩ := loop13 rec N b s.next 23 W 0 N (PT.put (.int .i64 0) t4 (PT.put (.slice (some ⟨s.next, 0, none⟩) 23 23) t3 (PT.put (.slice (some ⟨s.next, 0, none⟩) 23 23) t5 (PT.put (.bool false) t2 (PT.put (.string b) t0 PT.nil))))) s1 rfl rfl hg (by kernel_rfl) (by kernel_rfl) (by kernel_rfl) (by show 23 < N; omega)
  rw [hl]
  rw [any_kept] at hc
  rcases hc with ⟨h1, rfl, h2⟩ | ⟨h1, rfl⟩
  · rw [h1]
    simp only [op2_s', op_s', op2_op, op2_op2, op2_cond, ev_v', call_r', map_c', map_n', bin_e', pick_e', not_e, ext_e', nth_z', nth_1', nth_2', nth_3', gval_e, gval_u', cmp_e, orUndef_t', orUndef_f', condV_t', condV_f', cond_true, cond_false, eqI_eq, neI_eq, ltI_eq, leI_eq, gtI_eq', geI_eq, Bool.not_true, Bool.not_false, beq_self_eq_true, tf_beq, ft_beq, eq_self, decide_true, decide_false, oneOf1, orU_some, blkX_r, thenX_r', finX_r']
    refine ⟨s', ?_⟩
    show some (oneOf [orU (fs'.get t2)], s') = _
    rw [h2]; rfl
  · rw [h1]
    simp only [op2_s', op_s', op2_op, op2_op2, op2_cond, ev_v', call_r', map_c', map_n', bin_e', pick_e', not_e, ext_e', nth_z', nth_1', nth_2', nth_3', gval_e, gval_u', cmp_e, orUndef_t', orUndef_f', condV_t', condV_f', cond_true, cond_false, eqI_eq, neI_eq, ltI_eq, leI_eq, gtI_eq', geI_eq, Bool.not_true, Bool.not_false, beq_self_eq_true, tf_beq, ft_beq, eq_self, decide_true, decide_false, oneOf1, orU_some, blkX_e, Nat.beq_refl, thenX_n']
    rw [d13_r0]
    unfold D13_r0
    exact ⟨s', by kernel_rfl⟩
theorem eqv_e (x : Bool) (rec : Rec) (fs : Frm) (s : St) : oEqv eqB false (.v (.bool x)) (.v (.bool x)) rec fs s = some (.bool true, s) := by cases x <;> rfl
theorem lenS_e (b : ByteArray) (rec : Rec) (fs : Frm) (s : St) : oLenS (.v (.string b)) rec fs s = some (.int .i64 ((lenN b.data.toList : Nat) : Int), s) := by
  show (force (lenN b.data.toList) fun n => some (Value.int .i64 (.ofNat n), s)) = _
  rw [force_eq]; rfl
theorem names (rec : Rec) (N : Nat) (b : ByteArray) (s s1 : St) (haw : rec 8 [] s = some (.bool true, s1)) (h12 : ∀ s, rec 12 [.string b] s = some (.bool (keptF b.data.toList), s)) (h13 : ∃ s', rec 13 [.string b] s1 = some (.bool (keptF b.data.toList), s')) : ∃ s', callF rec N c6 [.string b] s = some (.bool true, s') := by
  obtain ⟨s2, h13⟩ := h13
  rw [d6]
  unfold D6
  cases h : decide (100 < ((lenN b.data.toList : Nat) : Int)) with
  | true =>
    refine ⟨s1, ?_⟩
    simp only [op2_s', op_s', op2_op, op2_op2, op2_cond, ev_v', call_r', map_c', map_n', bin_e', pick_e', not_e, ext_e', nth_z', nth_1', nth_2', nth_3', gval_e, gval_u', cmp_e, orUndef_t', orUndef_f', condV_t', condV_f', cond_true, cond_false, eqI_eq, neI_eq, ltI_eq, leI_eq, gtI_eq', geI_eq, Bool.not_true, Bool.not_false, beq_self_eq_true, tf_beq, ft_beq, eq_self, decide_true, decide_false, oneOf1, orU_some, haw, lenS_e, h]
  | false =>
    refine ⟨s2, ?_⟩
    simp only [op2_s', op_s', op2_op, op2_op2, op2_cond, ev_v', call_r', map_c', map_n', bin_e', pick_e', not_e, ext_e', nth_z', nth_1', nth_2', nth_3', gval_e, gval_u', cmp_e, orUndef_t', orUndef_f', condV_t', condV_f', cond_true, cond_false, eqI_eq, neI_eq, ltI_eq, leI_eq, gtI_eq', geI_eq, Bool.not_true, Bool.not_false, beq_self_eq_true, tf_beq, ft_beq, eq_self, decide_true, decide_false, oneOf1, orU_some, haw, lenS_e, h, h12, h13, eqv_e]
noncomputable def E : Env := ⟨fns, repeatK 48 noKnown⟩
noncomputable def isTrueN (o : Out) : Bool := Option.rec false (fun p => Prod.rec (fun v s => match v with | .bool b => bif b then Nat.ble s.next 1000000 else false | _ => false) p) o
theorem isTrueN_spec {o : Out} (h : isTrueN o = true) : ∃ s', o = some (.bool true, s') ∧ s'.next ≤ lim := by
  cases o with
  | none => cases h
  | some p =>
    obtain ⟨v, s'⟩ := p
    cases v with
    | bool b =>
      have h1 : (bif b then Nat.ble s'.next 1000000 else false) = true := h
      cases b with
      | false => cases h1
      | true =>
        have h2 : Nat.ble s'.next 1000000 = true := h1
        rw [ble_eq', decide_eq_true_eq] at h2
        exact ⟨s', rfl, by unfold lim; omega⟩
    | _ => cases h
theorem awake_run : isTrueN (callN E 3000 8 [] st0) = true := by kernel_rfl
theorem k12 (M : Nat) (b : ByteArray) (s : St) : callN E (M + 1) 12 [.string b] s = callF (callN E M) M c12 [.string b] s := by kernel_rfl
theorem k13 (M : Nat) (b : ByteArray) (s : St) : callN E (M + 1) 13 [.string b] s = callF (callN E M) M c13 [.string b] s := by kernel_rfl
theorem k6 (M : Nat) (b : ByteArray) (s : St) : callN E (M + 1) 6 [.string b] s = callF (callN E M) M c6 [.string b] s := by kernel_rfl
theorem known : RecOk Try.prog noGl (repeatK 48 noKnown) :=
  repeatK_ok ⟨_, Try.func48, by kernel_rfl, by kernel_rfl⟩ noKnown_ok fun s c w h1 h2 => Try.strings_Repeat s c w h1 h2
theorem law (b : ByteArray) (w : World) : Calls Try.prog 6 #[.string b] w fun e w' => e = .returned (.bool true) ∧ RowKit.Below w.heap.size w w' := by
  obtain ⟨s1, h1, h2⟩ := isTrueN_spec awake_run
  obtain ⟨M, hM⟩ : ∃ M : Nat, 3000 = M + 1 ∧ 100 ≤ M := ⟨2999, rfl, by omega⟩
  rw [hM.1] at h1
  obtain ⟨s2, h3⟩ := names (callN E (M + 1)) (M + 1) b st0 s1 h1 (fun s => by rw [k12]; exact kept12 _ _ b s) (by rw [k13]; exact kept13 _ _ hM.2 b s1 h2)
  rw [← k6] at h3
  exact args_true (args := [.string b]) mixed exOk ⟨fnsOk, known⟩ rfl (by rw [h3]; rfl) w
end Go.Proofs.Ytikdjhlcbkkkfaa.AbsLexN
