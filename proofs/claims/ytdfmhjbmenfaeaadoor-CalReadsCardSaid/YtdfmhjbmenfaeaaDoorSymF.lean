import Derived.Test.YtdfmhjbmenfaeaaDoorDecCalD
namespace Go.Proofs.YtdfmhjbmenfaeaaDoor.AbsCalD
open Go Go.Abs Go.Proofs
set_option maxRecDepth 100000
set_option linter.unusedVariables false
set_option linter.unusedSimpArgs false
theorem nr {α : Type} {a b : α} (h : a = b) : a = b := h
theorem op2_s' {α β γ : Type} (a : α) (b : β) (k : α → β → Option γ) : opt2 (some (a, b)) k = k a b := nr rfl
theorem op_s' {α β : Type} (a : α) (k : α → Option β) : opt (some a) k = k a := nr rfl
theorem ev_v' (fs : Frm) (v : Value) : ev fs (.v v) = v := nr rfl
theorem call_r' (f : FuncId) (args : List Arg) (rec : Rec) (fs : Frm) (s : St) : oCall f args rec fs s = rec f (mapN (ev fs) args) s := nr rfl
theorem map_c' {α β : Type} (f : α → β) (x : α) (l : List α) : mapN f (x :: l) = f x :: mapN f l := nr rfl
theorem map_n' {α β : Type} (f : α → β) : mapN f [] = [] := nr rfl
theorem bin_e' (f : Value → Value → Option Value) (x y : Value) (rec : Rec) (fs : Frm) (s : St) : oBin f (.v x) (.v y) rec fs s = opt (f x y) fun v => some (v, s) := nr rfl
theorem pick_e' (b : Bool) (x y : Value) (rec : Rec) (fs : Frm) (s : St) : oPick (.v (.bool b)) (.v x) (.v y) rec fs s = some (bif b then x else y, s) := nr rfl
theorem ext_e' (l : List Value) (i : Nat) (rec : Rec) (fs : Frm) (s : St) : oExtract (.v (tupOf l)) i rec fs s = opt (nth l i) fun v => some (v, s) := nr rfl
theorem nth_z' {α : Type} (x : α) (l : List α) : nth (x :: l) 0 = some x := nr rfl
theorem nth_1' {α : Type} (x y : α) (l : List α) : nth (x :: y :: l) 1 = some y := nr rfl
theorem nth_2' {α : Type} (x y z : α) (l : List α) : nth (x :: y :: z :: l) 2 = some z := nr rfl
theorem nth_3' {α : Type} (x y z u : α) (l : List α) : nth (x :: y :: z :: u :: l) 3 = some u := nr rfl
theorem orUndef_t' (x : Out) (s : St) : orUndef true x s = x := nr rfl
theorem orUndef_f' (x : Out) (s : St) : orUndef false x s = some (undef, s) := nr rfl
theorem condV_t' {α : Type} (A B : Option α) : condV (.bool true) A B = A := nr rfl
theorem condV_f' {α : Type} (A B : Option α) : condV (.bool false) A B = B := nr rfl
theorem gval_u' (w : Bool) : gval w undef = some false := nr rfl
theorem thenX_n' (k : Frm → St → OutX) (fs : Frm) (s : St) : thenX k .norm (fs, s) = k fs s := nr rfl
theorem thenX_e' (k : Frm → St → OutX) (i : Nat) (r : Frm × St) : thenX k (.exit i) r = some (.exit i, r) := nr rfl
theorem thenX_r' (k : Frm → St → OutX) (r : Frm × St) : thenX k .ret r = some (.ret, r) := nr rfl
theorem finX_r' (rs : List ARes) (fs : Frm) (s : St) : finX rs .ret (fs, s) = opt2 (Abs.results fs rs s) fun vs s => some (oneOf vs, s) := nr rfl
theorem finX_n' (rs : List ARes) (fs : Frm) (s : St) : finX rs .norm (fs, s) = opt2 (Abs.results fs rs s) fun vs s => some (oneOf vs, s) := nr rfl
theorem oneOf1 (v : Value) : oneOf [v] = v := nr rfl
theorem orU_some (v : Value) : orU (some v) = v := nr rfl
theorem tf_beq : (true == false) = false := nr rfl
theorem ft_beq : (false == true) = false := nr rfl
theorem gtI_eq' (a b : Int) : gtI a b = decide (b < a) := ltI_eq b a
theorem rem_t (a b : Int) (h : b ≠ 0) : int2 remO (.int .i64 a) (.int .i64 b) = some (.int .i64 (a.tmod b)) := by
  have e : remO .i64 a b = some (.int .i64 (a.tmod b)) := by unfold remO; rw [eqI_eq, forceI_eq]; simp [h]
  exact e
def leapF (y : Int) : Bool := decide (y.tmod 4 = 0) && !decide (y.tmod 100 = 0) || decide (y.tmod 400 = 0)
theorem leap (rec : Rec) (n : Nat) (y : Int) (s : St) : callF rec n c22 [.int .i64 y] s = some (.bool (leapF y), s) := by
  rw [d22]
  unfold D22 leapF
  cases h1 : decide (y.tmod 4 = 0) <;> cases h2 : decide (y.tmod 100 = 0) <;> cases h3 : decide (y.tmod 400 = 0) <;> simp only [op2_s', op_s', op2_op, op2_op2, op2_cond, ev_v', call_r', map_c', map_n', bin_e', pick_e', not_e, ext_e', nth_z', nth_1', nth_2', nth_3', gval_e, gval_u', cmp_e, orUndef_t', orUndef_f', condV_t', condV_f', cond_true, cond_false, eqI_eq, neI_eq, ltI_eq, leI_eq, gtI_eq', geI_eq, Bool.not_true, Bool.not_false, beq_self_eq_true, tf_beq, ft_beq, eq_self, decide_true, decide_false, oneOf1, orU_some, rem_t _ 4 (by decide), rem_t _ 100 (by decide), rem_t _ 400 (by decide), h1, h2, h3] <;> rfl
def beforeF (y : Int) : Int := (y - 1900) * 365 + ((y - 1) / 4 - 474 - ((y - 1) / 100 - 18) + ((y - 1) / 400 - 4))
theorem before (rec : Rec) (n : Nat) (y : Int) (s : St) (h1 : 1900 ≤ y) (h2 : y ≤ 2300) : callF rec n c26 [.int .i64 y] s = some (.int .i64 (beforeF y), s) := by
  rw [d26]
  unfold D26 beforeF
  simp (disch := omega) only [op2_s', op_s', op2_op, op2_op2, op2_cond, ev_v', call_r', map_c', map_n', bin_e', pick_e', not_e, ext_e', nth_z', nth_1', nth_2', nth_3', gval_e, gval_u', cmp_e, orUndef_t', orUndef_f', condV_t', condV_f', cond_true, cond_false, eqI_eq, neI_eq, ltI_eq, leI_eq, gtI_eq', geI_eq, Bool.not_true, Bool.not_false, beq_self_eq_true, tf_beq, ft_beq, eq_self, decide_true, decide_false, oneOf1, orU_some, add_e, sub_e, mul_e, quo_e]
def daysF (y m : Int) : Int := if m = 2 then (if leapF y then 29 else 28) else if m = 4 ∨ m = 6 ∨ m = 9 ∨ m = 11 then 30 else if 1 ≤ m ∧ m ≤ 12 then 31 else 0
theorem days (rec : Rec) (N : Nat) (y m : Int) (s : St) (hl : ∀ y s, rec 22 [.int .i64 y] s = some (.bool (leapF y), s)) : callF rec N c17 [.int .i64 y, .int .i64 m] s = some (.int .i64 (daysF y m), s) := by
  by_cases hm : 1 ≤ m ∧ m ≤ 12
  · have : m = 1 ∨ m = 2 ∨ m = 3 ∨ m = 4 ∨ m = 5 ∨ m = 6 ∨ m = 7 ∨ m = 8 ∨ m = 9 ∨ m = 10 ∨ m = 11 ∨ m = 12 := by omega
    rcases this with rfl | rfl | rfl | rfl | rfl | rfl | rfl | rfl | rfl | rfl | rfl | rfl
    case inr.inl =>
      rw [d17]
      unfold D17 daysF
      have h22 := hl y s
      cases hb : leapF y <;> rw [hb] at h22 <;> simp only [op2_s', op_s', op2_op, op2_op2, op2_cond, ev_v', call_r', map_c', map_n', bin_e', pick_e', not_e, ext_e', nth_z', nth_1', nth_2', nth_3', gval_e, gval_u', cmp_e, orUndef_t', orUndef_f', condV_t', condV_f', cond_true, cond_false, eqI_eq, neI_eq, ltI_eq, leI_eq, gtI_eq', geI_eq, Bool.not_true, Bool.not_false, beq_self_eq_true, tf_beq, ft_beq, eq_self, decide_true, decide_false, oneOf1, orU_some, h22] <;> rfl
    all_goals rfl
  · rw [d17]
    unfold D17
    have e0 : daysF y m = 0 := by
      unfold daysF
      rw [if_neg (by omega), if_neg (by omega), if_neg hm]
    simp only [op2_s', op_s', op2_op, op2_op2, op2_cond, ev_v', call_r', map_c', map_n', bin_e', pick_e', not_e, ext_e', nth_z', nth_1', nth_2', nth_3', gval_e, gval_u', cmp_e, orUndef_t', orUndef_f', condV_t', condV_f', cond_true, cond_false, eqI_eq, neI_eq, ltI_eq, leI_eq, gtI_eq', geI_eq, Bool.not_true, Bool.not_false, beq_self_eq_true, tf_beq, ft_beq, eq_self, decide_true, decide_false, oneOf1, orU_some, show decide (m = 2) = false from decide_eq_false (by omega), show decide (m = 4) = false from decide_eq_false (by omega), show decide (m = 6) = false from decide_eq_false (by omega), show decide (m = 9) = false from decide_eq_false (by omega), show decide (m = 11) = false from decide_eq_false (by omega), show decide (m = 1) = false from decide_eq_false (by omega), show decide (m = 3) = false from decide_eq_false (by omega), show decide (m = 5) = false from decide_eq_false (by omega), show decide (m = 7) = false from decide_eq_false (by omega), show decide (m = 8) = false from decide_eq_false (by omega), show decide (m = 10) = false from decide_eq_false (by omega), show decide (m = 12) = false from decide_eq_false (by omega), e0]
theorem day (rec : Rec) (N : Nat) (n : Int) (s : St) : callF rec N c28 [.int .i64 n] s = some (.bool (decide (0 ≤ n) && decide (n ≤ 109572)), s) := by
  rw [d28]
  unfold D28
  cases h1 : decide (0 ≤ n) <;> cases h2 : decide (n ≤ 109572) <;> simp only [op2_s', op_s', op2_op, op2_op2, op2_cond, ev_v', call_r', map_c', map_n', bin_e', pick_e', not_e, ext_e', nth_z', nth_1', nth_2', nth_3', gval_e, gval_u', cmp_e, orUndef_t', orUndef_f', condV_t', condV_f', cond_true, cond_false, eqI_eq, neI_eq, ltI_eq, leI_eq, gtI_eq', geI_eq, Bool.not_true, Bool.not_false, beq_self_eq_true, tf_beq, ft_beq, eq_self, decide_true, decide_false, oneOf1, orU_some, h1, h2] <;> rfl
/-! Date -/
theorem round1 (rec : Rec) (N : Nat) (hb : ∀ y s, 1900 ≤ y → y ≤ 2300 → rec 26 [.int .i64 y] s = some (.int .i64 (beforeF y), s)) (n y : Int) (fs : Frm) (s : St) (h0 : fs.get t0 = some (.int .i64 n)) (h2 : fs.get t2 = some (.int .i64 y)) (hy : 1900 ≤ y) (hy2 : y < 2199) (hn : beforeF (y + 1) ≤ n) :
    ∃ fs', c14_l0 rec N fs s = some (.norm, fs', s) ∧ fs'.get t0 = some (.int .i64 n) ∧ fs'.get t2 = some (.int .i64 (y + 1)) := by
  have e1 : decide (y < 2199) = true := decide_eq_true hy2
  have e2 : decide (beforeF (y + 1) ≤ n) = true := decide_eq_true hn
  have e3 := hb (y + 1) s (by omega) (by omega)
  rw [d14_l0]
  unfold D14_l0
  simp (disch := omega) only [op2_s', op_s', op2_op, op2_op2, op2_cond, ev_v', call_r', map_c', map_n', bin_e', pick_e', not_e, ext_e', nth_z', nth_1', nth_2', nth_3', gval_e, gval_u', cmp_e, orUndef_t', orUndef_f', condV_t', condV_f', cond_true, cond_false, eqI_eq, neI_eq, ltI_eq, leI_eq, gtI_eq', geI_eq, Bool.not_true, Bool.not_false, beq_self_eq_true, tf_beq, ft_beq, eq_self, decide_true, decide_false, oneOf1, orU_some, h0, h2, e1, e2, e3, add_e]
  refine ⟨_, rfl, (by kernel_rfl : _ = fs.get t0).trans h0, by kernel_rfl⟩
theorem exit1 (rec : Rec) (N : Nat) (hb : ∀ y s, 1900 ≤ y → y ≤ 2300 → rec 26 [.int .i64 y] s = some (.int .i64 (beforeF y), s)) (n y : Int) (fs : Frm) (s : St) (h0 : fs.get t0 = some (.int .i64 n)) (h2 : fs.get t2 = some (.int .i64 y)) (hy : 1900 ≤ y) (hy2 : y ≤ 2199) (hn : y = 2199 ∨ n < beforeF (y + 1)) :
    ∃ fs', c14_l0 rec N fs s = some (.exit 0, fs', s) ∧ fs'.get t0 = some (.int .i64 n) ∧ fs'.get t2 = some (.int .i64 y) := by
  rw [d14_l0]
  unfold D14_l0
  by_cases hl : y < 2199
  · have e1 : decide (y < 2199) = true := decide_eq_true hl
    have e2 : decide (beforeF (y + 1) ≤ n) = false := decide_eq_false (by omega)
    have e3 := hb (y + 1) s (by omega) (by omega)
    simp (disch := omega) only [op2_s', op_s', op2_op, op2_op2, op2_cond, ev_v', call_r', map_c', map_n', bin_e', pick_e', not_e, ext_e', nth_z', nth_1', nth_2', nth_3', gval_e, gval_u', cmp_e, orUndef_t', orUndef_f', condV_t', condV_f', cond_true, cond_false, eqI_eq, neI_eq, ltI_eq, leI_eq, gtI_eq', geI_eq, Bool.not_true, Bool.not_false, beq_self_eq_true, tf_beq, ft_beq, eq_self, decide_true, decide_false, oneOf1, orU_some, h0, h2, e1, e2, e3, add_e]
    exact ⟨_, rfl, (by kernel_rfl : _ = fs.get t0).trans h0, (by kernel_rfl : _ = fs.get t2).trans h2⟩
  · have e1 : decide (y < 2199) = false := decide_eq_false hl
    simp (disch := omega) only [op2_s', op_s', op2_op, op2_op2, op2_cond, ev_v', call_r', map_c', map_n', bin_e', pick_e', not_e, ext_e', nth_z', nth_1', nth_2', nth_3', gval_e, gval_u', cmp_e, orUndef_t', orUndef_f', condV_t', condV_f', cond_true, cond_false, eqI_eq, neI_eq, ltI_eq, leI_eq, gtI_eq', geI_eq, Bool.not_true, Bool.not_false, beq_self_eq_true, tf_beq, ft_beq, eq_self, decide_true, decide_false, oneOf1, orU_some, h0, h2, e1, add_e]
    exact ⟨_, rfl, (by kernel_rfl : _ = fs.get t0).trans h0, (by kernel_rfl : _ = fs.get t2).trans h2⟩
theorem loop1 (rec : Rec) (N : Nat) (hb : ∀ y s, 1900 ≤ y → y ≤ 2300 → rec 26 [.int .i64 y] s = some (.int .i64 (beforeF y), s)) (n : Int) (s : St) : ∀ (k fuel : Nat) (y : Int) (fs : Frm), fs.get t0 = some (.int .i64 n) → fs.get t2 = some (.int .i64 y) → 1900 ≤ y → y + k = 2199 → k < fuel → beforeF y ≤ n →
    ∃ fs' y', loopF (c14_l0 rec N) fuel fs s = some (.exit 0, fs', s) ∧ fs'.get t0 = some (.int .i64 n) ∧ fs'.get t2 = some (.int .i64 y') ∧ 1900 ≤ y' ∧ y' ≤ 2199 ∧ beforeF y' ≤ n ∧ (y' = 2199 ∨ n < beforeF (y' + 1)) := by
  intro k
  induction k with
  | zero =>
    intro fuel y fs h0 h2 hy hk hf hn
    obtain ⟨fuel, rfl⟩ : ∃ m, fuel = m + 1 := ⟨fuel - 1, by omega⟩
    obtain ⟨fs', hr, g0, g2⟩ := exit1 rec N hb n y fs s h0 h2 hy (by omega) (.inl (by omega))
    exact ⟨fs', y, by rw [loop_s, hr]; rfl, g0, g2, hy, by omega, hn, .inl (by omega)⟩
  | succ k ih =>
    intro fuel y fs h0 h2 hy hk hf hn
    obtain ⟨fuel, rfl⟩ : ∃ m, fuel = m + 1 := ⟨fuel - 1, by omega⟩
    by_cases hb2 : beforeF (y + 1) ≤ n
    · obtain ⟨fs1, hr, g0, g2⟩ := round1 rec N hb n y fs s h0 h2 hy (by omega) hb2
      obtain ⟨fs', y', hl, rest⟩ := ih fuel (y + 1) fs1 g0 g2 (by omega) (by omega) (by omega) hb2
      exact ⟨fs', y', by rw [loop_s, hr]; exact hl, rest⟩
    · obtain ⟨fs', hr, g0, g2⟩ := exit1 rec N hb n y fs s h0 h2 hy (by omega) (.inr (by omega))
      exact ⟨fs', y, by rw [loop_s, hr]; rfl, g0, g2, hy, by omega, hn, .inr (by omega)⟩
theorem round2 (rec : Rec) (N : Nat) (hd : ∀ y m s, rec 17 [.int .i64 y, .int .i64 m] s = some (.int .i64 (daysF y m), s)) (n y m : Int) (fs : Frm) (s : St) (h0 : fs.get t0 = some (.int .i64 n)) (h2 : fs.get t2 = some (.int .i64 y)) (h3 : fs.get t3 = some (.int .i64 m)) (hn0 : 0 ≤ n) (hn1 : n ≤ 100000) (hm1 : 1 ≤ m) (hm2 : m ≤ 12) (hd0 : 0 ≤ daysF y m) (hd1 : daysF y m ≤ 31) (hn : daysF y m ≤ n) :
    ∃ fs', c14_l1 rec N fs s = some (.norm, fs', s) ∧ fs'.get t0 = some (.int .i64 (n - daysF y m)) ∧ fs'.get t2 = some (.int .i64 y) ∧ fs'.get t3 = some (.int .i64 (m + 1)) := by
  have e3 := hd y m s
  have e4 : decide (daysF y m ≤ n) = true := decide_eq_true hn
  rw [d14_l1]
  unfold D14_l1
  simp (disch := omega) only [op2_s', op_s', op2_op, op2_op2, op2_cond, ev_v', call_r', map_c', map_n', bin_e', pick_e', not_e, ext_e', nth_z', nth_1', nth_2', nth_3', gval_e, gval_u', cmp_e, orUndef_t', orUndef_f', condV_t', condV_f', cond_true, cond_false, eqI_eq, neI_eq, ltI_eq, leI_eq, gtI_eq', geI_eq, Bool.not_true, Bool.not_false, beq_self_eq_true, tf_beq, ft_beq, eq_self, decide_true, decide_false, oneOf1, orU_some, h0, h2, h3, e3, e4, add_e, sub_e]
  exact ⟨_, rfl, by kernel_rfl, (by kernel_rfl : _ = fs.get t2).trans h2, by kernel_rfl⟩
theorem exit2 (rec : Rec) (N : Nat) (hd : ∀ y m s, rec 17 [.int .i64 y, .int .i64 m] s = some (.int .i64 (daysF y m), s)) (n y m : Int) (fs : Frm) (s : St) (h0 : fs.get t0 = some (.int .i64 n)) (h2 : fs.get t2 = some (.int .i64 y)) (h3 : fs.get t3 = some (.int .i64 m)) (hm1 : 1 ≤ m) (hm2 : m ≤ 12) (hn : n < daysF y m) :
    ∃ fs', c14_l1 rec N fs s = some (.exit 2, fs', s) ∧ fs'.get t0 = some (.int .i64 n) ∧ fs'.get t2 = some (.int .i64 y) ∧ fs'.get t3 = some (.int .i64 m) := by
  have e3 := hd y m s
  have e4 : decide (daysF y m ≤ n) = false := decide_eq_false (by omega)
  rw [d14_l1]
  unfold D14_l1
  simp (disch := omega) only [op2_s', op_s', op2_op, op2_op2, op2_cond, ev_v', call_r', map_c', map_n', bin_e', pick_e', not_e, ext_e', nth_z', nth_1', nth_2', nth_3', gval_e, gval_u', cmp_e, orUndef_t', orUndef_f', condV_t', condV_f', cond_true, cond_false, eqI_eq, neI_eq, ltI_eq, leI_eq, gtI_eq', geI_eq, Bool.not_true, Bool.not_false, beq_self_eq_true, tf_beq, ft_beq, eq_self, decide_true, decide_false, oneOf1, orU_some, h0, h2, h3, e3, e4]
  exact ⟨_, rfl, (by kernel_rfl : _ = fs.get t0).trans h0, (by kernel_rfl : _ = fs.get t2).trans h2, (by kernel_rfl : _ = fs.get t3).trans h3⟩
def sumTo (y : Int) : Nat → Int
  | 0 => 0
  | k + 1 => sumTo y k + daysF y ((k : Int) + 1)
theorem days_in (y m : Int) (h1 : 1 ≤ m) (h2 : m ≤ 12) : 28 ≤ daysF y m ∧ daysF y m ≤ 31 := by
  unfold daysF
  split
  · split <;> omega
  · split
    · omega
    · split <;> omega
theorem loop2 (rec : Rec) (N : Nat) (hd : ∀ y m s, rec 17 [.int .i64 y, .int .i64 m] s = some (.int .i64 (daysF y m), s)) (y : Int) (s : St) : ∀ (j k fuel : Nat) (n : Int) (fs : Frm), fs.get t0 = some (.int .i64 n) → fs.get t2 = some (.int .i64 y) → fs.get t3 = some (.int .i64 ((k : Int) + 1)) → k + j = 11 → j < fuel → 0 ≤ n → n ≤ 1000 → n + sumTo y k < sumTo y 12 →
    ∃ fs' k' n', loopF (c14_l1 rec N) fuel fs s = some (.exit 2, fs', s) ∧ fs'.get t0 = some (.int .i64 n') ∧ fs'.get t2 = some (.int .i64 y) ∧ fs'.get t3 = some (.int .i64 (((k' : Nat) : Int) + 1)) ∧ k' ≤ 11 ∧ 0 ≤ n' ∧ n' < daysF y ((k' : Int) + 1) ∧ n' + sumTo y k' = n + sumTo y k := by
  intro j
  induction j with
  | zero =>
    intro k fuel n fs h0 h2 h3 hk hf hn0 hn1 hs
    obtain ⟨fuel, rfl⟩ : ∃ m, fuel = m + 1 := ⟨fuel - 1, by omega⟩
    obtain rfl : k = 11 := by omega
    have hlt : n < daysF y (((11 : Nat) : Int) + 1) := by
      have e : sumTo y 12 = sumTo y 11 + daysF y (((11 : Nat) : Int) + 1) := rfl
      omega
    obtain ⟨fs', hr, g0, g2, g3⟩ := exit2 rec N hd n y _ fs s h0 h2 h3 (by omega) (by omega) hlt
    exact ⟨fs', 11, n, by rw [loop_s, hr]; rfl, g0, g2, g3, by omega, hn0, hlt, rfl⟩
  | succ j ih =>
    intro k fuel n fs h0 h2 h3 hk hf hn0 hn1 hs
    obtain ⟨fuel, rfl⟩ : ∃ m, fuel = m + 1 := ⟨fuel - 1, by omega⟩
    obtain ⟨d1, d2⟩ := days_in y ((k : Int) + 1) (by omega) (by omega)
    by_cases hlt : n < daysF y ((k : Int) + 1)
    · obtain ⟨fs', hr, g0, g2, g3⟩ := exit2 rec N hd n y _ fs s h0 h2 h3 (by omega) (by omega) hlt
      exact ⟨fs', k, n, by rw [loop_s, hr]; rfl, g0, g2, g3, by omega, hn0, hlt, rfl⟩
    · obtain ⟨fs1, hr, g0, g2, g3⟩ := round2 rec N hd n y _ fs s h0 h2 h3 hn0 (by omega) (by omega) (by omega) (by omega) d2 (by omega)
      have e : sumTo y (k + 1) = sumTo y k + daysF y ((k : Int) + 1) := rfl
      obtain ⟨fs', k', n', hl, g0', g2', g3', a1, a2, a3, a4⟩ := ih (k + 1) fuel _ fs1 g0 g2 (by simpa using g3) (by omega) (by omega) (by omega) (by omega) (by omega)
      exact ⟨fs', k', n', by rw [loop_s, hr]; exact hl, g0', g2', g3', a1, a2, a3, by omega⟩
theorem years : ∀ k : Nat, k < 300 → beforeF (1900 + (k : Int) + 1) = beforeF (1900 + (k : Int)) + sumTo (1900 + (k : Int)) 12 := by decide +kernel
theorem sum_le (y : Int) : ∀ k : Nat, k ≤ 12 → sumTo y k ≤ 31 * k
  | 0, _ => by show (0 : Int) ≤ _; omega
  | k + 1, h => by
    have h1 := sum_le y k (by omega)
    have h2 := (days_in y ((k : Int) + 1) (by omega) (by omega)).2
    show sumTo y k + daysF y ((k : Int) + 1) ≤ _
    omega
def IsDate (n y : Int) (k : Nat) (d : Int) : Prop := 1900 ≤ y ∧ y ≤ 2199 ∧ k ≤ 11 ∧ 1 ≤ d ∧ d ≤ daysF y ((k : Int) + 1) ∧ n = beforeF y + sumTo y k + d - 1
def dateV (y : Int) (k : Nat) (d : Int) : Value := tupOf [.int .i64 y, .int .i64 ((k : Nat) + 1 : Int), .int .i64 d, .bool true]
def dateN : Value := tupOf [.int .i64 0, .int .i64 0, .int .i64 0, .bool false]
theorem date_in (rec : Rec) (N : Nat) (hN : 400 ≤ N) (hday : ∀ n s, rec 28 [.int .i64 n] s = some (.bool (decide (0 ≤ n) && decide (n ≤ 109572)), s)) (hb : ∀ y s, 1900 ≤ y → y ≤ 2300 → rec 26 [.int .i64 y] s = some (.int .i64 (beforeF y), s))
    (hd : ∀ y m s, rec 17 [.int .i64 y, .int .i64 m] s = some (.int .i64 (daysF y m), s)) (n : Int) (s : St) (hn0 : 0 ≤ n) (hn1 : n ≤ 109572) :
    ∃ y k d, callF rec N c14 [.int .i64 n] s = some (dateV y k d, s) ∧ IsDate n y k d := by
  have e1 : (decide (0 ≤ n) && decide (n ≤ 109572)) = true := by simp [hn0, hn1]
  have hdy := hday n s
  rw [e1] at hdy
  have b1900 : beforeF 1900 = 0 := by decide
  rw [d14]
  unfold D14
  simp only [op2_s', op_s', op2_op, op2_op2, op2_cond, ev_v', call_r', map_c', map_n', bin_e', pick_e', not_e, ext_e', nth_z', nth_1', nth_2', nth_3', gval_e, gval_u', cmp_e, orUndef_t', orUndef_f', condV_t', condV_f', cond_true, cond_false, eqI_eq, neI_eq, ltI_eq, leI_eq, gtI_eq', geI_eq, Bool.not_true, Bool.not_false, beq_self_eq_true, tf_beq, ft_beq, eq_self, decide_true, decide_false, oneOf1, orU_some, hdy]
  obtain ⟨fs1, y, hl, g0, g2, y1, y2, y3, y4⟩ := loop1 rec N hb n s 299 N 1900 (PT.put (.int .i64 1900) t2 (PT.put (.bool false) t8 (PT.put (.bool true) t7 (PT.put (.int .i64 n) t6 (PT.put (.bool false) t5 (PT.put (.int .i64 0) t4 (PT.put (.int .i64 0) t3 (PT.put (.int .i64 0) t2 (PT.put (.int .i64 n) t0 PT.nil))))))))) (by kernel_rfl) (by kernel_rfl) (by omega) (by omega) (by omega) (by omega)
  rw [hl]
  simp only [op2_s', op_s', op2_op, op2_op2, op2_cond, ev_v', call_r', map_c', map_n', bin_e', pick_e', not_e, ext_e', nth_z', nth_1', nth_2', nth_3', gval_e, gval_u', cmp_e, orUndef_t', orUndef_f', condV_t', condV_f', cond_true, cond_false, eqI_eq, neI_eq, ltI_eq, leI_eq, gtI_eq', geI_eq, Bool.not_true, Bool.not_false, beq_self_eq_true, tf_beq, ft_beq, eq_self, decide_true, decide_false, oneOf1, orU_some, blkX_e, thenX_n, Nat.beq_refl]
  have hy : n - beforeF y < sumTo y 12 := by
    obtain ⟨k, hk⟩ := Int.eq_ofNat_of_zero_le (show 0 ≤ y - 1900 by omega)
    have hyk : y = 1900 + (k : Int) := by omega
    have := years k (by omega)
    rw [← hyk] at this
    rcases y4 with h | h
    · have e : beforeF (y + 1) = 109573 := by rw [h]; decide
      omega
    · omega
  have hsum := sum_le y 12 (by omega)
  have hbef := hb y s y1 (by omega)
  rw [d14_r1]
  unfold D14_r1
  simp (disch := omega) only [op2_s', op_s', op2_op, op2_op2, op2_cond, ev_v', call_r', map_c', map_n', bin_e', pick_e', not_e, ext_e', nth_z', nth_1', nth_2', nth_3', gval_e, gval_u', cmp_e, orUndef_t', orUndef_f', condV_t', condV_f', cond_true, cond_false, eqI_eq, neI_eq, ltI_eq, leI_eq, gtI_eq', geI_eq, Bool.not_true, Bool.not_false, beq_self_eq_true, tf_beq, ft_beq, eq_self, decide_true, decide_false, oneOf1, orU_some, g0, g2, hbef, sub_e]
  obtain ⟨fs2, k, n', hl2, g0', g2', g3', k1, k2, k3, k4⟩ := loop2 rec N hd y s 11 0 N (n - beforeF y) (PT.put (.int .i64 1) t3 (PT.put (.int .i64 (n - beforeF y)) t0 (PT.put (.int .i64 (n - beforeF y)) t23 (PT.put (.int .i64 (beforeF y)) t22 (PT.put (.int .i64 y) t21 (PT.put (.int .i64 n) t20 fs1)))))) (by kernel_rfl) ((by kernel_rfl : _ = fs1.get t2).trans g2) (by kernel_rfl) (by omega) (by omega) (by omega) (by omega) (by show n - beforeF y + 0 < _; omega)
  rw [hl2]
  simp only [op2_s', op_s', op2_op, op2_op2, op2_cond, ev_v', call_r', map_c', map_n', bin_e', pick_e', not_e, ext_e', nth_z', nth_1', nth_2', nth_3', gval_e, gval_u', cmp_e, orUndef_t', orUndef_f', condV_t', condV_f', cond_true, cond_false, eqI_eq, neI_eq, ltI_eq, leI_eq, gtI_eq', geI_eq, Bool.not_true, Bool.not_false, beq_self_eq_true, tf_beq, ft_beq, eq_self, decide_true, decide_false, oneOf1, orU_some, blkX_e, thenX_n, Nat.beq_refl]
  obtain ⟨_, hd31⟩ := days_in y ((k : Int) + 1) (by omega) (by omega)
  rw [d14_r0]
  unfold D14_r0
  simp (disch := omega) only [op2_s', op_s', op2_op, op2_op2, op2_cond, ev_v', call_r', map_c', map_n', bin_e', pick_e', not_e, ext_e', nth_z', nth_1', nth_2', nth_3', gval_e, gval_u', cmp_e, orUndef_t', orUndef_f', condV_t', condV_f', cond_true, cond_false, eqI_eq, neI_eq, ltI_eq, leI_eq, gtI_eq', geI_eq, Bool.not_true, Bool.not_false, beq_self_eq_true, tf_beq, ft_beq, eq_self, decide_true, decide_false, oneOf1, orU_some, g0', g2', g3', add_e, finX_r]
  refine ⟨y, k, n' + 1, ?_, y1, y2, k1, by omega, by omega, by have e : sumTo y 0 = 0 := rfl; omega⟩
  kernel_rfl
theorem date_out (rec : Rec) (N : Nat) (hday : ∀ n s, rec 28 [.int .i64 n] s = some (.bool (decide (0 ≤ n) && decide (n ≤ 109572)), s)) (n : Int) (s : St) (hn : ¬ (0 ≤ n ∧ n ≤ 109572)) :
    callF rec N c14 [.int .i64 n] s = some (dateN, s) := by
  have e1 : (decide (0 ≤ n) && decide (n ≤ 109572)) = false := by simp only [Bool.and_eq_false_iff, decide_eq_false_iff_not]; omega
  have hdy := hday n s
  rw [e1] at hdy
  rw [d14]
  unfold D14
  simp only [op2_s', op_s', op2_op, op2_op2, op2_cond, ev_v', call_r', map_c', map_n', bin_e', pick_e', not_e, ext_e', nth_z', nth_1', nth_2', nth_3', gval_e, gval_u', cmp_e, orUndef_t', orUndef_f', condV_t', condV_f', cond_true, cond_false, eqI_eq, neI_eq, ltI_eq, leI_eq, gtI_eq', geI_eq, Bool.not_true, Bool.not_false, beq_self_eq_true, tf_beq, ft_beq, eq_self, decide_true, decide_false, oneOf1, orU_some, hdy]
  rfl
end Go.Proofs.YtdfmhjbmenfaeaaDoor.AbsCalD
