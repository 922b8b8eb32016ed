import Derived.Test.YtdfmhjbmenfaeaaDoorSymJ
namespace Go.Proofs.YtdfmhjbmenfaeaaDoor.AbsCalD
open Go Go.Abs Go.Proofs
set_option maxRecDepth 100000
set_option linter.unusedVariables false
set_option linter.unusedSimpArgs false
attribute [local congr] opt2_cg opt_cg condV_cg cond_cg
/-! the document's Day and Months; Weekday -/
theorem loopA (rec : Rec) (N : Nat) (hl : ∀ y s, rec 23 [.int .i64 y] s = some (.bool (leapF y), s)) (y : Int) (hy : y ≤ 2199) (x1 x2 : Value) (s : St) : ∀ (i fuel : Nat) (j : Int) (fs : Frm), fs.get t0 = some (.int .i64 y) → fs.get t1 = some x1 → fs.get t2 = some x2 → fs.get t8 = some (.int .i64 (beforeF j)) → fs.get t9 = some (.int .i64 j) → 1900 ≤ j → j + i = y → i < fuel →
    ∃ fs', loopF (c19_l0 rec N) fuel fs s = some (.exit 0, fs', s) ∧ fs'.get t0 = some (.int .i64 y) ∧ fs'.get t1 = some x1 ∧ fs'.get t2 = some x2 ∧ fs'.get t8 = some (.int .i64 (beforeF y)) := by
  intro i
  induction i with
  | zero =>
    intro fuel j fs h0 h1 h2 h8 h9 hj hk hf
    obtain ⟨fuel, rfl⟩ : ∃ m, fuel = m + 1 := ⟨fuel - 1, by omega⟩
    have hjy : j = y := by omega
    subst hjy
    have e : decide (j < j) = false := decide_eq_false (by omega)
    rw [loop_s, d19_l0]
    unfold D19_l0
    simp only [op2_s', op_s', op2_op, op2_op2, op2_cond, ev_v', call_r', map_c', map_n', bin_e', pick_e', not_e, ext_e', nth_z', nth_1', nth_2', nth_3', gval_e, gval_u', cmp_e, orUndef_t', orUndef_f', condV_t', condV_f', cond_true, cond_false, eqI_eq, neI_eq, ltI_eq, leI_eq, gtI_eq', geI_eq, Bool.not_true, Bool.not_false, beq_self_eq_true, tf_beq, ft_beq, eq_self, decide_true, decide_false, oneOf1, orU_some, h0, h9, e, thenX_e']
    exact ⟨_, rfl, (by kernel_rfl : _ = fs.get t0).trans h0, (by kernel_rfl : _ = fs.get t1).trans h1, (by kernel_rfl : _ = fs.get t2).trans h2, (by kernel_rfl : _ = fs.get t8).trans h8⟩
  | succ i ih =>
    intro fuel j fs h0 h1 h2 h8 h9 hj hk hf
    obtain ⟨fuel, rfl⟩ : ∃ m, fuel = m + 1 := ⟨fuel - 1, by omega⟩
    have e : decide (j < y) = true := decide_eq_true (by omega)
    have hyl := year_len j hj (by omega)
    rw [yl] at hyl
    have hbi := before_in j hj (by omega)
    have hai : int2 addO (.int .i64 j) (.int .i64 1) = some (.int .i64 (j + 1)) := add_e _ _ (by omega) (by omega)
    have ha : int2 addO (.int .i64 (beforeF j)) (.int .i64 365) = some (.int .i64 (beforeF j + 365)) := add_e _ _ (by omega) (by omega)
    rw [loop_s, d19_l0]
    unfold D19_l0
    cases hb : leapF j <;> rw [hb] at hyl <;> simp only [if_true, if_false, Bool.false_eq_true] at hyl
    · simp only [op2_s', op_s', op2_op, op2_op2, op2_cond, ev_v', call_r', map_c', map_n', bin_e', pick_e', not_e, ext_e', nth_z', nth_1', nth_2', nth_3', gval_e, gval_u', cmp_e, orUndef_t', orUndef_f', condV_t', condV_f', cond_true, cond_false, eqI_eq, neI_eq, ltI_eq, leI_eq, gtI_eq', geI_eq, Bool.not_true, Bool.not_false, beq_self_eq_true, tf_beq, ft_beq, eq_self, decide_true, decide_false, oneOf1, orU_some, h0, h8, h9, e, ha, hl, hb, hai, thenX_n']
      exact ih fuel (j + 1) _ ((by kernel_rfl : _ = fs.get t0).trans h0) ((by kernel_rfl : _ = fs.get t1).trans h1) ((by kernel_rfl : _ = fs.get t2).trans h2) (by rw [hyl]; kernel_rfl) (by kernel_rfl) (by omega) (by omega) (by omega)
    · have ha2 : int2 addO (.int .i64 (beforeF j + 365)) (.int .i64 1) = some (.int .i64 (beforeF (j + 1))) := by
        rw [add_e _ _ (by omega) (by omega)]; congr 2; omega
      simp only [op2_s', op_s', op2_op, op2_op2, op2_cond, ev_v', call_r', map_c', map_n', bin_e', pick_e', not_e, ext_e', nth_z', nth_1', nth_2', nth_3', gval_e, gval_u', cmp_e, orUndef_t', orUndef_f', condV_t', condV_f', cond_true, cond_false, eqI_eq, neI_eq, ltI_eq, leI_eq, gtI_eq', geI_eq, Bool.not_true, Bool.not_false, beq_self_eq_true, tf_beq, ft_beq, eq_self, decide_true, decide_false, oneOf1, orU_some, h0, h8, h9, e, ha, hl, hb, ha2, hai, thenX_n']
      exact ih fuel (j + 1) _ ((by kernel_rfl : _ = fs.get t0).trans h0) ((by kernel_rfl : _ = fs.get t1).trans h1) ((by kernel_rfl : _ = fs.get t2).trans h2) (by kernel_rfl) (by kernel_rfl) (by omega) (by omega) (by omega)
theorem loopB (rec : Rec) (N : Nat) (hd : ∀ y m s, rec 24 [.int .i64 y, .int .i64 m] s = some (.int .i64 (daysF y m), s)) (y : Int) (hy1 : 1900 ≤ y) (hy : y ≤ 2199) (k : Nat) (hk : k ≤ 11) (x2 : Value) (s : St) : ∀ (i fuel j : Nat) (fs : Frm), fs.get t0 = some (.int .i64 y) → fs.get t1 = some (.int .i64 ((k : Int) + 1)) → fs.get t2 = some x2 → fs.get t8 = some (.int .i64 (beforeF y + sumTo y j)) → fs.get t10 = some (.int .i64 ((j : Int) + 1)) → j + i = k → i < fuel →
    ∃ fs', loopF (c19_l1 rec N) fuel fs s = some (.exit 2, fs', s) ∧ fs'.get t2 = some x2 ∧ fs'.get t8 = some (.int .i64 (beforeF y + sumTo y k)) := by
  intro i
  induction i with
  | zero =>
    intro fuel j fs h0 h1 h2 h8 h10 hj hf
    obtain ⟨fuel, rfl⟩ : ∃ m, fuel = m + 1 := ⟨fuel - 1, by omega⟩
    have hjk : j = k := by omega
    subst hjk
    have e : decide ((j : Int) + 1 < (j : Int) + 1) = false := decide_eq_false (by omega)
    rw [loop_s, d19_l1]
    unfold D19_l1
    simp only [op2_s', op_s', op2_op, op2_op2, op2_cond, ev_v', call_r', map_c', map_n', bin_e', pick_e', not_e, ext_e', nth_z', nth_1', nth_2', nth_3', gval_e, gval_u', cmp_e, orUndef_t', orUndef_f', condV_t', condV_f', cond_true, cond_false, eqI_eq, neI_eq, ltI_eq, leI_eq, gtI_eq', geI_eq, Bool.not_true, Bool.not_false, beq_self_eq_true, tf_beq, ft_beq, eq_self, decide_true, decide_false, oneOf1, orU_some, h1, h10, e, thenX_e']
    exact ⟨_, rfl, (by kernel_rfl : _ = fs.get t2).trans h2, (by kernel_rfl : _ = fs.get t8).trans h8⟩
  | succ i ih =>
    intro fuel j fs h0 h1 h2 h8 h10 hj hf
    obtain ⟨fuel, rfl⟩ : ∃ m, fuel = m + 1 := ⟨fuel - 1, by omega⟩
    have e : decide ((j : Int) + 1 < (k : Int) + 1) = true := decide_eq_true (by omega)
    have hbi := before_in y hy1 (by omega)
    have hs0 := sum_nn y j (by omega)
    have hs1 := sum_le y j (by omega)
    have hdi := days_in y ((j : Int) + 1) (by omega) (by omega)
    have ha : int2 addO (.int .i64 (beforeF y + sumTo y j)) (.int .i64 (daysF y ((j : Int) + 1))) = some (.int .i64 (beforeF y + sumTo y (j + 1))) := by
      rw [add_e _ _ (by omega) (by omega)]
      congr 2
      show _ = beforeF y + (sumTo y j + daysF y ((j : Int) + 1))
      omega
    rw [loop_s, d19_l1]
    unfold D19_l1
    simp (disch := omega) only [op2_s', op_s', op2_op, op2_op2, op2_cond, ev_v', call_r', map_c', map_n', bin_e', pick_e', not_e, ext_e', nth_z', nth_1', nth_2', nth_3', gval_e, gval_u', cmp_e, orUndef_t', orUndef_f', condV_t', condV_f', cond_true, cond_false, eqI_eq, neI_eq, ltI_eq, leI_eq, gtI_eq', geI_eq, Bool.not_true, Bool.not_false, beq_self_eq_true, tf_beq, ft_beq, eq_self, decide_true, decide_false, oneOf1, orU_some, h0, h1, h8, h10, e, hd, ha, add_e, thenX_n']
    exact ih fuel (j + 1) _ ((by kernel_rfl : _ = fs.get t0).trans h0) ((by kernel_rfl : _ = fs.get t1).trans h1) ((by kernel_rfl : _ = fs.get t2).trans h2) (by kernel_rfl) (by kernel_rfl) (by omega) (by omega)
theorem dayR_in (rec : Rec) (N : Nat) (hN : 400 ≤ N) (hl : ∀ y s, rec 23 [.int .i64 y] s = some (.bool (leapF y), s)) (hd : ∀ y m s, rec 24 [.int .i64 y, .int .i64 m] s = some (.int .i64 (daysF y m), s)) (y d : Int) (k : Nat) (s : St) (hy1 : 1900 ≤ y) (hy2 : y ≤ 2199) (hk : k ≤ 11) (hd1 : 1 ≤ d) (hd2 : d ≤ daysF y ((k : Int) + 1)) :
    callF rec N c19 [.int .i64 y, .int .i64 ((k : Int) + 1), .int .i64 d] s = some (ofV y k d, s) := by
  have e1 : decide (y < 1900) = false := decide_eq_false (by omega)
  have e2 : decide (2199 < y) = false := decide_eq_false (by omega)
  have e3 : decide ((k : Int) + 1 < 1) = false := decide_eq_false (by omega)
  have e4 : decide (12 < (k : Int) + 1) = false := decide_eq_false (by omega)
  have e5 : decide (d < 1) = false := decide_eq_false (by omega)
  have e6 : decide (daysF y ((k : Int) + 1) < d) = false := decide_eq_false (by omega)
  have hb0 : beforeF 1900 = 0 := by decide
  have hbi := before_in y hy1 (by omega)
  have hs0 := sum_nn y k (by omega)
  have hs1 := sum_le y k (by omega)
  have hdi := days_in y ((k : Int) + 1) (by omega) (by omega)
  have key : ∀ fs : Frm, fs.get t0 = some (.int .i64 y) → fs.get t1 = some (.int .i64 ((k : Int) + 1)) → fs.get t2 = some (.int .i64 d) → fs.get t8 = some (.int .i64 0) → fs.get t9 = some (.int .i64 1900) →
      (opt2 (loopF (c19_l0 rec N) N fs s) fun e r => opt2 (blkX 0 e r) fun e r => opt2 (thenX (c19_r1 rec N) e r) fun e r => finX [.tmp t6, .tmp t7] e r) = some (ofV y k d, s) := by
    intro fs h0 h1 h2 h8 h9
    obtain ⟨i, hi⟩ : ∃ i : Nat, 1900 + (i : Int) = y := ⟨(y - 1900).toNat, by omega⟩
    obtain ⟨fs1, r1, p0, p1, p2, p8⟩ := loopA rec N hl y hy2 (.int .i64 ((k : Int) + 1)) (.int .i64 d) s i N 1900 fs h0 h1 h2 (by rw [hb0]; exact h8) h9 (by omega) hi (by omega)
    obtain ⟨fs2, q1, q2, q8⟩ := loopB rec N hd y hy1 hy2 k hk (.int .i64 d) s k N 0 (PT.put (.int .i64 1) t10 fs1) ((by kernel_rfl : _ = fs1.get t0).trans p0) ((by kernel_rfl : _ = fs1.get t1).trans p1) ((by kernel_rfl : _ = fs1.get t2).trans p2) (by
      have : sumTo y 0 = 0 := rfl
      rw [this, Int.add_zero]
      exact (by kernel_rfl : _ = fs1.get t8).trans p8) (by kernel_rfl) (by omega) (by omega)
    rw [r1]
    simp only [op2_s', blkX_e, Nat.beq_refl, cond_true, thenX_n', d19_r1, D19_r1]
    rw [q1]
    simp (disch := omega) only [op2_s', blkX_e, Nat.beq_refl, cond_true, thenX_n', d19_r0, D19_r0, op2_s', op_s', op2_op, op2_op2, op2_cond, ev_v', call_r', map_c', map_n', bin_e', pick_e', not_e, ext_e', nth_z', nth_1', nth_2', nth_3', gval_e, gval_u', cmp_e, orUndef_t', orUndef_f', condV_t', condV_f', cond_true, cond_false, eqI_eq, neI_eq, ltI_eq, leI_eq, gtI_eq', geI_eq, Bool.not_true, Bool.not_false, beq_self_eq_true, tf_beq, ft_beq, eq_self, decide_true, decide_false, oneOf1, orU_some, q2, q8, add_e, sub_e, finX_r']
    first | rfl | (show _ = _; kernel_rfl)
  rw [d19]
  unfold D19
  simp only [op2_s', op_s', op2_op, op2_op2, op2_cond, ev_v', call_r', map_c', map_n', bin_e', pick_e', not_e, ext_e', nth_z', nth_1', nth_2', nth_3', gval_e, gval_u', cmp_e, orUndef_t', orUndef_f', condV_t', condV_f', cond_true, cond_false, eqI_eq, neI_eq, ltI_eq, leI_eq, gtI_eq', geI_eq, Bool.not_true, Bool.not_false, beq_self_eq_true, tf_beq, ft_beq, eq_self, decide_true, decide_false, oneOf1, orU_some, gtI_eq', e1, e2, e3, e4, e5, hd, e6]
  exact key _ (by kernel_rfl) (by kernel_rfl) (by kernel_rfl) (by kernel_rfl) (by kernel_rfl)
theorem dayR_out (rec : Rec) (N : Nat) (hd : ∀ y m s, rec 24 [.int .i64 y, .int .i64 m] s = some (.int .i64 (daysF y m), s)) (y m d : Int) (s : St) (h : ¬ (1900 ≤ y ∧ y ≤ 2199 ∧ 1 ≤ d ∧ d ≤ daysF y m)) :
    callF rec N c19 [.int .i64 y, .int .i64 m, .int .i64 d] s = some (noV, s) := by
  rw [d19]
  unfold D19
  by_cases h1 : y < 1900
  · have e1 : decide (y < 1900) = true := decide_eq_true h1
    simp only [op2_s', op_s', op2_op, op2_op2, op2_cond, ev_v', call_r', map_c', map_n', bin_e', pick_e', not_e, ext_e', nth_z', nth_1', nth_2', nth_3', gval_e, gval_u', cmp_e, orUndef_t', orUndef_f', condV_t', condV_f', cond_true, cond_false, eqI_eq, neI_eq, ltI_eq, leI_eq, gtI_eq', geI_eq, Bool.not_true, Bool.not_false, beq_self_eq_true, tf_beq, ft_beq, eq_self, decide_true, decide_false, oneOf1, orU_some, e1]
    rfl
  have e1 : decide (y < 1900) = false := decide_eq_false h1
  by_cases h2 : 2199 < y
  · have e2 : decide (2199 < y) = true := decide_eq_true h2
    simp only [op2_s', op_s', op2_op, op2_op2, op2_cond, ev_v', call_r', map_c', map_n', bin_e', pick_e', not_e, ext_e', nth_z', nth_1', nth_2', nth_3', gval_e, gval_u', cmp_e, orUndef_t', orUndef_f', condV_t', condV_f', cond_true, cond_false, eqI_eq, neI_eq, ltI_eq, leI_eq, gtI_eq', geI_eq, Bool.not_true, Bool.not_false, beq_self_eq_true, tf_beq, ft_beq, eq_self, decide_true, decide_false, oneOf1, orU_some, gtI_eq', e1, e2]
    rfl
  have e2 : decide (2199 < y) = false := decide_eq_false h2
  by_cases h3 : m < 1
  · have e3 : decide (m < 1) = true := decide_eq_true h3
    simp only [op2_s', op_s', op2_op, op2_op2, op2_cond, ev_v', call_r', map_c', map_n', bin_e', pick_e', not_e, ext_e', nth_z', nth_1', nth_2', nth_3', gval_e, gval_u', cmp_e, orUndef_t', orUndef_f', condV_t', condV_f', cond_true, cond_false, eqI_eq, neI_eq, ltI_eq, leI_eq, gtI_eq', geI_eq, Bool.not_true, Bool.not_false, beq_self_eq_true, tf_beq, ft_beq, eq_self, decide_true, decide_false, oneOf1, orU_some, gtI_eq', e1, e2, e3]
    rfl
  have e3 : decide (m < 1) = false := decide_eq_false h3
  by_cases h4 : 12 < m
  · have e4 : decide (12 < m) = true := decide_eq_true h4
    simp only [op2_s', op_s', op2_op, op2_op2, op2_cond, ev_v', call_r', map_c', map_n', bin_e', pick_e', not_e, ext_e', nth_z', nth_1', nth_2', nth_3', gval_e, gval_u', cmp_e, orUndef_t', orUndef_f', condV_t', condV_f', cond_true, cond_false, eqI_eq, neI_eq, ltI_eq, leI_eq, gtI_eq', geI_eq, Bool.not_true, Bool.not_false, beq_self_eq_true, tf_beq, ft_beq, eq_self, decide_true, decide_false, oneOf1, orU_some, gtI_eq', e1, e2, e3, e4]
    rfl
  have e4 : decide (12 < m) = false := decide_eq_false h4
  by_cases h5 : d < 1
  · have e5 : decide (d < 1) = true := decide_eq_true h5
    simp only [op2_s', op_s', op2_op, op2_op2, op2_cond, ev_v', call_r', map_c', map_n', bin_e', pick_e', not_e, ext_e', nth_z', nth_1', nth_2', nth_3', gval_e, gval_u', cmp_e, orUndef_t', orUndef_f', condV_t', condV_f', cond_true, cond_false, eqI_eq, neI_eq, ltI_eq, leI_eq, gtI_eq', geI_eq, Bool.not_true, Bool.not_false, beq_self_eq_true, tf_beq, ft_beq, eq_self, decide_true, decide_false, oneOf1, orU_some, gtI_eq', e1, e2, e3, e4, e5]
    rfl
  have e5 : decide (d < 1) = false := decide_eq_false h5
  have e6 : decide (daysF y m < d) = true := decide_eq_true (by omega)
  simp only [op2_s', op_s', op2_op, op2_op2, op2_cond, ev_v', call_r', map_c', map_n', bin_e', pick_e', not_e, ext_e', nth_z', nth_1', nth_2', nth_3', gval_e, gval_u', cmp_e, orUndef_t', orUndef_f', condV_t', condV_f', cond_true, cond_false, eqI_eq, neI_eq, ltI_eq, leI_eq, gtI_eq', geI_eq, Bool.not_true, Bool.not_false, beq_self_eq_true, tf_beq, ft_beq, eq_self, decide_true, decide_false, oneOf1, orU_some, gtI_eq', e1, e2, e3, e4, e5, hd, e6]
  rfl
theorem e19 (N : Nat) (y d : Int) (k : Nat) (s : St) (h1 : 1900 ≤ y) (h2 : y ≤ 2199) (h3 : k ≤ 11) (h4 : 1 ≤ d) (h5 : d ≤ daysF y ((k : Int) + 1)) : callN E (N + 500) 19 [.int .i64 y, .int .i64 ((k : Int) + 1), .int .i64 d] s = some (ofV y k d, s) :=
  dayR_in (callN E (N + 499)) (N + 499) (by omega) (fun y s => e23 (N + 498) y s) (fun y m s => e24 (N + 497) y m s) y d k s h1 h2 h3 h4 h5
theorem e19o (N : Nat) (y m d : Int) (s : St) (h : ¬ (1900 ≤ y ∧ y ≤ 2199 ∧ 1 ≤ d ∧ d ≤ daysF y m)) : callN E (N + 500) 19 [.int .i64 y, .int .i64 m, .int .i64 d] s = some (noV, s) :=
  dayR_out (callN E (N + 499)) (N + 499) (fun y m s => e24 (N + 497) y m s) y m d s h
theorem e11o (N : Nat) (y m d : Int) (s : St) (h : ¬ (1900 ≤ y ∧ y ≤ 2199 ∧ 1 ≤ d ∧ d ≤ daysF y m)) : callN E (N + 500) 11 [.int .i64 y, .int .i64 m, .int .i64 d] s = some (noV, s) :=
  of_out (callN E (N + 499)) (N + 499) (fun y m s => e17 (N + 497) y m s) y m d s h
/-- Of and Day answer alike -/
theorem e_of (N : Nat) (y m d : Int) (s : St) : ∃ v b, callN E (N + 500) 11 [.int .i64 y, .int .i64 m, .int .i64 d] s = some (tupOf [.int .i64 v, .bool b], s) ∧ callN E (N + 500) 19 [.int .i64 y, .int .i64 m, .int .i64 d] s = some (tupOf [.int .i64 v, .bool b], s) := by
  by_cases h : 1900 ≤ y ∧ y ≤ 2199 ∧ 1 ≤ d ∧ d ≤ daysF y m
  · obtain ⟨k, rfl, hk⟩ := days_pos (show 1 ≤ daysF y m by omega)
    exact ⟨_, _, e11 N y d k s h.1 h.2.1 hk h.2.2.1 h.2.2.2, e19 N y d k s h.1 h.2.1 hk h.2.2.1 h.2.2.2⟩
  · exact ⟨_, _, e11o N y m d s h, e19o N y m d s h⟩
theorem monthsR_no (rec : Rec) (N : Nat) (n q : Int) (s : St) (h18 : rec 18 [.int .i64 n] s = some (dateN, s)) : callF rec N c20 [.int .i64 n, .int .i64 q] s = some (noV, s) := by
  rw [d20]
  unfold D20
  unfold dateN at h18
  simp only [op2_s', op_s', op2_op, op2_op2, op2_cond, ev_v', call_r', map_c', map_n', bin_e', pick_e', not_e, ext_e', nth_z', nth_1', nth_2', nth_3', gval_e, gval_u', cmp_e, orUndef_t', orUndef_f', condV_t', condV_f', cond_true, cond_false, eqI_eq, neI_eq, ltI_eq, leI_eq, gtI_eq', geI_eq, Bool.not_true, Bool.not_false, beq_self_eq_true, tf_beq, ft_beq, eq_self, decide_true, decide_false, oneOf1, orU_some, h18]
  rfl
theorem monthsR_far (rec : Rec) (N : Nat) (n q y d : Int) (k : Nat) (s : St) (h18 : rec 18 [.int .i64 n] s = some (dateV y k d, s)) (hq : 4000 < q ∨ q < -4000) : callF rec N c20 [.int .i64 n, .int .i64 q] s = some (noV, s) := by
  rw [d20]
  unfold D20
  unfold dateV at h18
  by_cases h1 : 4000 < q
  · have e1 : decide (4000 < q) = true := decide_eq_true h1
    simp only [op2_s', op_s', op2_op, op2_op2, op2_cond, ev_v', call_r', map_c', map_n', bin_e', pick_e', not_e, ext_e', nth_z', nth_1', nth_2', nth_3', gval_e, gval_u', cmp_e, orUndef_t', orUndef_f', condV_t', condV_f', cond_true, cond_false, eqI_eq, neI_eq, ltI_eq, leI_eq, gtI_eq', geI_eq, Bool.not_true, Bool.not_false, beq_self_eq_true, tf_beq, ft_beq, eq_self, decide_true, decide_false, oneOf1, orU_some, h18, gtI_eq', e1]
    rfl
  · have e1 : decide (4000 < q) = false := decide_eq_false h1
    have e2 : decide (q < -4000) = true := decide_eq_true (by omega)
    simp only [op2_s', op_s', op2_op, op2_op2, op2_cond, ev_v', call_r', map_c', map_n', bin_e', pick_e', not_e, ext_e', nth_z', nth_1', nth_2', nth_3', gval_e, gval_u', cmp_e, orUndef_t', orUndef_f', condV_t', condV_f', cond_true, cond_false, eqI_eq, neI_eq, ltI_eq, leI_eq, gtI_eq', geI_eq, Bool.not_true, Bool.not_false, beq_self_eq_true, tf_beq, ft_beq, eq_self, decide_true, decide_false, oneOf1, orU_some, h18, gtI_eq', e1, e2]
    rfl
/-- Months, within four thousand: Day at the month's number -/
theorem monthsR_at (rec : Rec) (N : Nat) (hd : ∀ y m s, rec 24 [.int .i64 y, .int .i64 m] s = some (.int .i64 (daysF y m), s)) (n q y d : Int) (k : Nat) (s : St) (h18 : rec 18 [.int .i64 n] s = some (dateV y k d, s)) (hn : IsDate n y k d) (hq1 : -4000 ≤ q) (hq2 : q ≤ 4000) (v : Int) (b : Bool)
    (h19 : rec 19 [.int .i64 ((12 * y + k + q) / 12), .int .i64 ((12 * y + k + q) % 12 + 1), .int .i64 (min d (daysF ((12 * y + k + q) / 12) ((12 * y + k + q) % 12 + 1)))] s = some (tupOf [.int .i64 v, .bool b], s)) :
    callF rec N c20 [.int .i64 n, .int .i64 q] s = some (tupOf [.int .i64 v, .bool b], s) := by
  obtain ⟨p1, p2, p3, p4, p5, p6⟩ := hn
  have e1 : decide (4000 < q) = false := decide_eq_false (by omega)
  have e2 : decide (q < -4000) = false := decide_eq_false (by omega)
  have a1 : int2 mulO (.int .i64 12) (.int .i64 y) = some (.int .i64 (12 * y)) := mul_e _ _ (by omega) (by omega)
  have a2 : int2 addO (.int .i64 (12 * y)) (.int .i64 ((k : Int) + 1)) = some (.int .i64 (12 * y + (k + 1))) := add_e _ _ (by omega) (by omega)
  have a3 : int2 subO (.int .i64 (12 * y + ((k : Int) + 1))) (.int .i64 1) = some (.int .i64 (12 * y + k)) := by rw [sub_e _ _ (by omega) (by omega)]; congr 2; omega
  have a4 : int2 addO (.int .i64 (12 * y + (k : Int))) (.int .i64 q) = some (.int .i64 (12 * y + k + q)) := add_e _ _ (by omega) (by omega)
  generalize ht : 12 * y + (k : Int) + q = t at *
  have a5 : int2 quoO (.int .i64 t) (.int .i64 12) = some (.int .i64 (t / 12)) := quo_e _ _ (by omega) (by omega) (by omega)
  have a6 : int2 remO (.int .i64 t) (.int .i64 12) = some (.int .i64 (t % 12)) := rem_e _ _ (by omega) (by omega)
  have a7 : int2 addO (.int .i64 (t % 12)) (.int .i64 1) = some (.int .i64 (t % 12 + 1)) := add_e _ _ (by omega) (by omega)
  rw [d20]
  unfold D20
  unfold dateV at h18
  by_cases hlt : daysF (t / 12) (t % 12 + 1) < d
  · have e3 : decide (daysF (t / 12) (t % 12 + 1) < d) = true := decide_eq_true hlt
    rw [show min d (daysF (t / 12) (t % 12 + 1)) = daysF (t / 12) (t % 12 + 1) by omega] at h19
    simp only [op2_s', op_s', op2_op, op2_op2, op2_cond, ev_v', call_r', map_c', map_n', bin_e', pick_e', not_e, ext_e', nth_z', nth_1', nth_2', nth_3', gval_e, gval_u', cmp_e, orUndef_t', orUndef_f', condV_t', condV_f', cond_true, cond_false, eqI_eq, neI_eq, ltI_eq, leI_eq, gtI_eq', geI_eq, Bool.not_true, Bool.not_false, beq_self_eq_true, tf_beq, ft_beq, eq_self, decide_true, decide_false, oneOf1, orU_some, h18, gtI_eq', e1, e2, a1, a2, a3, a4, a5, a6, a7, hd, e3, h19]
    rfl
  · have e3 : decide (daysF (t / 12) (t % 12 + 1) < d) = false := decide_eq_false hlt
    rw [show min d (daysF (t / 12) (t % 12 + 1)) = d by omega] at h19
    simp only [op2_s', op_s', op2_op, op2_op2, op2_cond, ev_v', call_r', map_c', map_n', bin_e', pick_e', not_e, ext_e', nth_z', nth_1', nth_2', nth_3', gval_e, gval_u', cmp_e, orUndef_t', orUndef_f', condV_t', condV_f', cond_true, cond_false, eqI_eq, neI_eq, ltI_eq, leI_eq, gtI_eq', geI_eq, Bool.not_true, Bool.not_false, beq_self_eq_true, tf_beq, ft_beq, eq_self, decide_true, decide_false, oneOf1, orU_some, h18, gtI_eq', e1, e2, a1, a2, a3, a4, a5, a6, a7, hd, e3, h19]
    rfl
/-- cal's Months and the document's answer alike -/
theorem e_months (N : Nat) (n q : Int) (s : St) : ∃ v b, callN E (N + 501) 12 [.int .i64 n, .int .i64 q] s = some (tupOf [.int .i64 v, .bool b], s) ∧ callN E (N + 501) 20 [.int .i64 n, .int .i64 q] s = some (tupOf [.int .i64 v, .bool b], s) := by
  by_cases hn : 0 ≤ n ∧ n ≤ 109572
  · obtain ⟨y, k, d, hdt⟩ := date_ex n hn.1 hn.2
    have h18 := e18 N n y d k s hdt
    have hdt' := hdt
    obtain ⟨p1, p2, p3, p4, p5, p6⟩ := hdt'
    by_cases hq : -4000 ≤ q ∧ q ≤ 4000
    · by_cases hat : -3600 ≤ q ∧ q ≤ 3600 ∧ 0 ≤ atF y k q ∧ atF y k q < 3600
      · obtain ⟨j, h1, h2, h3⟩ := e12 N n q y d k s hdt hat.1 hat.2.1 hat.2.2.1 hat.2.2.2
        refine ⟨_, _, h3, ?_⟩
        have hA : atF y k q = (y - 1900) * 12 + k + q := rfl
        have t1 : (12 * y + k + q) / 12 = 1900 + atF y k q / 12 := by omega
        have t2 : (12 * y + k + q) % 12 = (j : Int) := by omega
        have hdi := days_in (1900 + atF y k q / 12) ((j : Int) + 1) (by omega) (by omega)
        refine monthsR_at (callN E (N + 500)) (N + 500) (fun y m s => e24 (N + 498) y m s) n q y d k s h18 hdt hq.1 hq.2 _ _ ?_
        rw [t1, t2]
        exact e19 N _ _ j s (by omega) (by omega) h2 (by omega) (by omega)
      · refine ⟨_, _, e12o N n q y d k s hdt hat, ?_⟩
        have hA : atF y k q = (y - 1900) * 12 + k + q := rfl
        exact monthsR_at (callN E (N + 500)) (N + 500) (fun y m s => e24 (N + 498) y m s) n q y d k s h18 hdt hq.1 hq.2 _ _ (e19o N _ _ _ s (by omega))
    · refine ⟨_, _, e12o N n q y d k s hdt (by omega), ?_⟩
      exact monthsR_far (callN E (N + 500)) (N + 500) n q y d k s h18 (by omega)
  · exact ⟨_, _, e12n N n q s hn, monthsR_no (callN E (N + 500)) (N + 500) n q s (e18o N n s hn)⟩
theorem weekday (rec : Rec) (N : Nat) (hday : ∀ n s, rec 28 [.int .i64 n] s = some (.bool (decide (0 ≤ n) && decide (n ≤ 109572)), s)) (n : Int) (s : St) : callF rec N c16 [.int .i64 n] s = some (.int .i64 (if 0 ≤ n ∧ n ≤ 109572 then n % 7 else -1), s) := by
  rw [d16]
  unfold D16
  by_cases h : 0 ≤ n ∧ n ≤ 109572
  · have e1 : (decide (0 ≤ n) && decide (n ≤ 109572)) = true := by simp [h.1, h.2]
    rw [if_pos h]
    simp (disch := omega) only [op2_s', op_s', op2_op, op2_op2, op2_cond, ev_v', call_r', map_c', map_n', bin_e', pick_e', not_e, ext_e', nth_z', nth_1', nth_2', nth_3', gval_e, gval_u', cmp_e, orUndef_t', orUndef_f', condV_t', condV_f', cond_true, cond_false, eqI_eq, neI_eq, ltI_eq, leI_eq, gtI_eq', geI_eq, Bool.not_true, Bool.not_false, beq_self_eq_true, tf_beq, ft_beq, eq_self, decide_true, decide_false, oneOf1, orU_some, hday, e1, rem_e]
  · have e1 : (decide (0 ≤ n) && decide (n ≤ 109572)) = false := by
      by_cases h1 : 0 ≤ n
      · have h2 : ¬ n ≤ 109572 := fun h2 => h ⟨h1, h2⟩
        simp [h1, h2]
      · simp [h1]
    rw [if_neg h]
    simp only [op2_s', op_s', op2_op, op2_op2, op2_cond, ev_v', call_r', map_c', map_n', bin_e', pick_e', not_e, ext_e', nth_z', nth_1', nth_2', nth_3', gval_e, gval_u', cmp_e, orUndef_t', orUndef_f', condV_t', condV_f', cond_true, cond_false, eqI_eq, neI_eq, ltI_eq, leI_eq, gtI_eq', geI_eq, Bool.not_true, Bool.not_false, beq_self_eq_true, tf_beq, ft_beq, eq_self, decide_true, decide_false, oneOf1, orU_some, hday, e1]
theorem e16 (N : Nat) (n : Int) (s : St) : callN E (N + 2) 16 [.int .i64 n] s = some (.int .i64 (if 0 ≤ n ∧ n ≤ 109572 then n % 7 else -1), s) := weekday (callN E (N + 1)) (N + 1) (fun n s => e28 N n s) n s
end Go.Proofs.YtdfmhjbmenfaeaaDoor.AbsCalD
