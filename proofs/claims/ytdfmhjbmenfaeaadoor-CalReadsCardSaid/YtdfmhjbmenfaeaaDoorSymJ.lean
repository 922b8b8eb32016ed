import Derived.Test.YtdfmhjbmenfaeaaDoorSymI
namespace Go.Proofs.YtdfmhjbmenfaeaaDoor.AbsCalD
open Go Go.Abs Go.Proofs
set_option maxRecDepth 100000
set_option linter.unusedVariables false
set_option linter.unusedSimpArgs false
attribute [local congr] opt2_cg opt_cg condV_cg cond_cg
/-! the document's own calendar -/
theorem leapR (rec : Rec) (n : Nat) (y : Int) (s : St) : callF rec n c23 [.int .i64 y] s = some (.bool (leapF y), s) := by
  rw [d23]
  unfold D23 leapF
  cases h1 : decide (y.tmod 4 = 0) <;> cases h2 : decide (y.tmod 100 = 0) <;> cases h3 : decide (y.tmod 400 = 0) <;> simp only [op2_s', op_s', op2_op, op2_op2, op2_cond, ev_v', call_r', map_c', map_n', bin_e', pick_e', not_e, ext_e', nth_z', nth_1', nth_2', nth_3', gval_e, gval_u', cmp_e, orUndef_t', orUndef_f', condV_t', condV_f', cond_true, cond_false, eqI_eq, neI_eq, ltI_eq, leI_eq, gtI_eq', geI_eq, Bool.not_true, Bool.not_false, beq_self_eq_true, tf_beq, ft_beq, eq_self, decide_true, decide_false, oneOf1, orU_some, rem_t _ 4 (by decide), rem_t _ 100 (by decide), rem_t _ 400 (by decide), h1, h2, h3] <;> rfl
theorem e23 (N : Nat) (y : Int) (s : St) : callN E (N + 1) 23 [.int .i64 y] s = some (.bool (leapF y), s) := leapR (callN E N) N y s
set_option maxHeartbeats 1000000 in
theorem daysR (rec : Rec) (N : Nat) (y m : Int) (s : St) (hl : ∀ y s, rec 23 [.int .i64 y] s = some (.bool (leapF y), s)) : callF rec N c24 [.int .i64 y, .int .i64 m] s = some (.int .i64 (daysF y m), s) := by
  by_cases hm : 1 ≤ m ∧ m ≤ 12
  · have : m = 1 ∨ m = 2 ∨ m = 3 ∨ m = 4 ∨ m = 5 ∨ m = 6 ∨ m = 7 ∨ m = 8 ∨ m = 9 ∨ m = 10 ∨ m = 11 ∨ m = 12 := by omega
    rcases this with rfl | rfl | rfl | rfl | rfl | rfl | rfl | rfl | rfl | rfl | rfl | rfl
    case inr.inl =>
      rw [d24]
      unfold D24 daysF
      have h23 := hl y s
      cases hb : leapF y <;> rw [hb] at h23 <;> simp only [op2_s', op_s', op2_op, op2_op2, op2_cond, ev_v', call_r', map_c', map_n', bin_e', pick_e', not_e, ext_e', nth_z', nth_1', nth_2', nth_3', gval_e, gval_u', cmp_e, orUndef_t', orUndef_f', condV_t', condV_f', cond_true, cond_false, eqI_eq, neI_eq, ltI_eq, leI_eq, gtI_eq', geI_eq, Bool.not_true, Bool.not_false, beq_self_eq_true, tf_beq, ft_beq, eq_self, decide_true, decide_false, oneOf1, orU_some, h23, show decide ((2 : Int) = 1) = false from rfl, show decide ((2 : Int) = 2) = true from rfl, show decide ((2 : Int) = 3) = false from rfl, show decide ((2 : Int) = 4) = false from rfl, show decide ((2 : Int) = 5) = false from rfl, show decide ((2 : Int) = 6) = false from rfl, show decide ((2 : Int) = 7) = false from rfl, show decide ((2 : Int) = 8) = false from rfl, show decide ((2 : Int) = 9) = false from rfl, show decide ((2 : Int) = 10) = false from rfl, show decide ((2 : Int) = 11) = false from rfl, show decide ((2 : Int) = 12) = false from rfl] <;> rfl
    all_goals rfl
  · rw [d24]
    unfold D24
    have e0 : daysF y m = 0 := by
      unfold daysF
      rw [if_neg (by omega), if_neg (by omega), if_neg hm]
    simp only [op2_s', op_s', op2_op, op2_op2, op2_cond, ev_v', call_r', map_c', map_n', bin_e', pick_e', not_e, ext_e', nth_z', nth_1', nth_2', nth_3', gval_e, gval_u', cmp_e, orUndef_t', orUndef_f', condV_t', condV_f', cond_true, cond_false, eqI_eq, neI_eq, ltI_eq, leI_eq, gtI_eq', geI_eq, Bool.not_true, Bool.not_false, beq_self_eq_true, tf_beq, ft_beq, eq_self, decide_true, decide_false, oneOf1, orU_some, e0, show decide (m = 2) = false from decide_eq_false (by omega), show decide (m = 4) = false from decide_eq_false (by omega), show decide (m = 6) = false from decide_eq_false (by omega), show decide (m = 9) = false from decide_eq_false (by omega), show decide (m = 11) = false from decide_eq_false (by omega), show decide (m = 1) = false from decide_eq_false (by omega), show decide (m = 3) = false from decide_eq_false (by omega), show decide (m = 5) = false from decide_eq_false (by omega), show decide (m = 7) = false from decide_eq_false (by omega), show decide (m = 8) = false from decide_eq_false (by omega), show decide (m = 10) = false from decide_eq_false (by omega), show decide (m = 12) = false from decide_eq_false (by omega)]
theorem e24 (N : Nat) (y m : Int) (s : St) : callN E (N + 2) 24 [.int .i64 y, .int .i64 m] s = some (.int .i64 (daysF y m), s) := daysR (callN E (N + 1)) (N + 1) y m s (fun y s => e23 N y s)
theorem yl (y : Int) : sumTo y 12 = if leapF y then 366 else 365 := by
  have h : sumTo y 12 = daysF y 2 + 337 := by
    have e : ∀ m : Int, m ≠ 2 → daysF y m = daysF 1900 m := fun m hm => by unfold daysF; rw [if_neg hm, if_neg hm]
    show 0 + daysF y 1 + daysF y 2 + daysF y 3 + daysF y 4 + daysF y 5 + daysF y 6 + daysF y 7 + daysF y 8 + daysF y 9 + daysF y 10 + daysF y 11 + daysF y 12 = _
    rw [e 1 (by decide), e 3 (by decide), e 4 (by decide), e 5 (by decide), e 6 (by decide), e 7 (by decide), e 8 (by decide), e 9 (by decide), e 10 (by decide), e 11 (by decide), e 12 (by decide)]
    have d1 : daysF 1900 1 = 31 := by decide
    have d3 : daysF 1900 3 = 31 := by decide
    have d4 : daysF 1900 4 = 30 := by decide
    have d5 : daysF 1900 5 = 31 := by decide
    have d6 : daysF 1900 6 = 30 := by decide
    have d7 : daysF 1900 7 = 31 := by decide
    have d8 : daysF 1900 8 = 31 := by decide
    have d9 : daysF 1900 9 = 30 := by decide
    have d10 : daysF 1900 10 = 31 := by decide
    have d11 : daysF 1900 11 = 30 := by decide
    have d12 : daysF 1900 12 = 31 := by decide
    omega
  rw [h]
  unfold daysF
  rw [if_pos rfl]
  split <;> rfl
theorem loopY (rec : Rec) (N : Nat) (hl : ∀ y s, rec 23 [.int .i64 y] s = some (.bool (leapF y), s)) (n : Int) (hn : 0 ≤ n ∧ n ≤ 109572) (s : St) : ∀ (k fuel : Nat) (y : Int) (fs : Frm), fs.get t0 = some (.int .i64 (n - beforeF y)) → fs.get t6 = some (.int .i64 y) → 1900 ≤ y → y + k = 2199 → k < fuel → beforeF y ≤ n →
    ∃ fs' y', loopF (c18_l0 rec N) fuel fs s = some (.exit 0, fs', s) ∧ fs'.get t0 = some (.int .i64 (n - beforeF y')) ∧ fs'.get t6 = some (.int .i64 y') ∧ 1900 ≤ y' ∧ y' ≤ 2199 ∧ beforeF y' ≤ n ∧ n < beforeF (y' + 1) := by
  intro k
  induction k with
  | zero =>
    intro fuel y fs h0 h6 hy hk hf hb
    obtain ⟨fuel, rfl⟩ : ∃ m, fuel = m + 1 := ⟨fuel - 1, by omega⟩
    have hy' : y = 2199 := by omega
    subst hy'
    have hyl := year_len 2199 (by decide) (by decide)
    rw [yl] at hyl
    have h2200 : beforeF (2199 + 1) = 109573 := by decide
    have hlt : n < beforeF (2199 + 1) := by omega
    rw [loop_s, d18_l0]
    unfold D18_l0
    cases hb2 : leapF 2199 <;> rw [hb2] at hyl <;> simp only [if_true, if_false, Bool.false_eq_true] at hyl
    · have e : decide (n - beforeF 2199 < 365) = true := decide_eq_true (by omega)
      simp only [op2_s', op_s', op2_op, op2_op2, op2_cond, ev_v', call_r', map_c', map_n', bin_e', pick_e', not_e, ext_e', nth_z', nth_1', nth_2', nth_3', gval_e, gval_u', cmp_e, orUndef_t', orUndef_f', condV_t', condV_f', cond_true, cond_false, eqI_eq, neI_eq, ltI_eq, leI_eq, gtI_eq', geI_eq, Bool.not_true, Bool.not_false, beq_self_eq_true, tf_beq, ft_beq, eq_self, decide_true, decide_false, oneOf1, orU_some, h0, h6, hl, hb2, e, thenX_e']
      exact ⟨_, 2199, rfl, (by kernel_rfl : _ = fs.get t0).trans h0, (by kernel_rfl : _ = fs.get t6).trans h6, by omega, by omega, hb, hlt⟩
    · have e : decide (n - beforeF 2199 < 366) = true := decide_eq_true (by omega)
      simp only [op2_s', op_s', op2_op, op2_op2, op2_cond, ev_v', call_r', map_c', map_n', bin_e', pick_e', not_e, ext_e', nth_z', nth_1', nth_2', nth_3', gval_e, gval_u', cmp_e, orUndef_t', orUndef_f', condV_t', condV_f', cond_true, cond_false, eqI_eq, neI_eq, ltI_eq, leI_eq, gtI_eq', geI_eq, Bool.not_true, Bool.not_false, beq_self_eq_true, tf_beq, ft_beq, eq_self, decide_true, decide_false, oneOf1, orU_some, h0, h6, hl, hb2, e, thenX_e']
      exact ⟨_, 2199, rfl, (by kernel_rfl : _ = fs.get t0).trans h0, (by kernel_rfl : _ = fs.get t6).trans h6, by omega, by omega, hb, hlt⟩
  | succ k ih =>
    intro fuel y fs h0 h6 hy hk hf hb
    obtain ⟨fuel, rfl⟩ : ∃ m, fuel = m + 1 := ⟨fuel - 1, by omega⟩
    have hyl := year_len y hy (by omega)
    rw [yl] at hyl
    have hbi := before_in y hy (by omega)
    rw [loop_s, d18_l0]
    unfold D18_l0
    have hai : int2 addO (.int .i64 y) (.int .i64 1) = some (.int .i64 (y + 1)) := add_e _ _ (by omega) (by omega)
    cases hb2 : leapF y <;> rw [hb2] at hyl <;> simp only [if_true, if_false, Bool.false_eq_true] at hyl
    · by_cases hlt : n - beforeF y < 365
      · have e : decide (n - beforeF y < 365) = true := decide_eq_true hlt
        simp only [op2_s', op_s', op2_op, op2_op2, op2_cond, ev_v', call_r', map_c', map_n', bin_e', pick_e', not_e, ext_e', nth_z', nth_1', nth_2', nth_3', gval_e, gval_u', cmp_e, orUndef_t', orUndef_f', condV_t', condV_f', cond_true, cond_false, eqI_eq, neI_eq, ltI_eq, leI_eq, gtI_eq', geI_eq, Bool.not_true, Bool.not_false, beq_self_eq_true, tf_beq, ft_beq, eq_self, decide_true, decide_false, oneOf1, orU_some, h0, h6, hl, hb2, e, thenX_e']
        exact ⟨_, y, rfl, (by kernel_rfl : _ = fs.get t0).trans h0, (by kernel_rfl : _ = fs.get t6).trans h6, by omega, by omega, hb, by omega⟩
      · have e : decide (n - beforeF y < 365) = false := decide_eq_false hlt
        have hs : int2 subO (.int .i64 (n - beforeF y)) (.int .i64 365) = some (.int .i64 (n - beforeF (y + 1))) := by
          rw [sub_e _ _ (by omega) (by omega)]; congr 2; omega
        simp only [op2_s', op_s', op2_op, op2_op2, op2_cond, ev_v', call_r', map_c', map_n', bin_e', pick_e', not_e, ext_e', nth_z', nth_1', nth_2', nth_3', gval_e, gval_u', cmp_e, orUndef_t', orUndef_f', condV_t', condV_f', cond_true, cond_false, eqI_eq, neI_eq, ltI_eq, leI_eq, gtI_eq', geI_eq, Bool.not_true, Bool.not_false, beq_self_eq_true, tf_beq, ft_beq, eq_self, decide_true, decide_false, oneOf1, orU_some, h0, h6, hl, hb2, e, hs, hai, thenX_n']
        exact ih fuel (y + 1) _ (by kernel_rfl) (by kernel_rfl) (by omega) (by omega) (by omega) (by omega)
    · by_cases hlt : n - beforeF y < 366
      · have e : decide (n - beforeF y < 366) = true := decide_eq_true hlt
        simp only [op2_s', op_s', op2_op, op2_op2, op2_cond, ev_v', call_r', map_c', map_n', bin_e', pick_e', not_e, ext_e', nth_z', nth_1', nth_2', nth_3', gval_e, gval_u', cmp_e, orUndef_t', orUndef_f', condV_t', condV_f', cond_true, cond_false, eqI_eq, neI_eq, ltI_eq, leI_eq, gtI_eq', geI_eq, Bool.not_true, Bool.not_false, beq_self_eq_true, tf_beq, ft_beq, eq_self, decide_true, decide_false, oneOf1, orU_some, h0, h6, hl, hb2, e, thenX_e']
        exact ⟨_, y, rfl, (by kernel_rfl : _ = fs.get t0).trans h0, (by kernel_rfl : _ = fs.get t6).trans h6, by omega, by omega, hb, by omega⟩
      · have e : decide (n - beforeF y < 366) = false := decide_eq_false hlt
        have hs : int2 subO (.int .i64 (n - beforeF y)) (.int .i64 366) = some (.int .i64 (n - beforeF (y + 1))) := by
          rw [sub_e _ _ (by omega) (by omega)]; congr 2; omega
        simp only [op2_s', op_s', op2_op, op2_op2, op2_cond, ev_v', call_r', map_c', map_n', bin_e', pick_e', not_e, ext_e', nth_z', nth_1', nth_2', nth_3', gval_e, gval_u', cmp_e, orUndef_t', orUndef_f', condV_t', condV_f', cond_true, cond_false, eqI_eq, neI_eq, ltI_eq, leI_eq, gtI_eq', geI_eq, Bool.not_true, Bool.not_false, beq_self_eq_true, tf_beq, ft_beq, eq_self, decide_true, decide_false, oneOf1, orU_some, h0, h6, hl, hb2, e, hs, hai, thenX_n']
        exact ih fuel (y + 1) _ (by kernel_rfl) (by kernel_rfl) (by omega) (by omega) (by omega) (by omega)
theorem loopM (rec : Rec) (N : Nat) (hd : ∀ y m s, rec 24 [.int .i64 y, .int .i64 m] s = some (.int .i64 (daysF y m), s)) (y : Int) (s : St) : ∀ (j k fuel : Nat) (n : Int) (fs : Frm), fs.get t0 = some (.int .i64 n) → fs.get t6 = some (.int .i64 y) → fs.get t8 = some (.int .i64 ((k : Int) + 1)) → k + j = 11 → j < fuel → 0 ≤ n → n ≤ 1000 → n + sumTo y k < sumTo y 12 →
    ∃ fs' k' n', loopF (c18_l1 rec N) fuel fs s = some (.exit 2, fs', s) ∧ fs'.get t0 = some (.int .i64 n') ∧ fs'.get t6 = some (.int .i64 y) ∧ fs'.get t8 = some (.int .i64 (((k' : Nat) : Int) + 1)) ∧ k' ≤ 11 ∧ 0 ≤ n' ∧ n' < daysF y ((k' : Int) + 1) ∧ n' + sumTo y k' = n + sumTo y k := by
  intro j
  induction j with
  | zero =>
    intro k fuel n fs h0 h6 h8 hk hf hn0 hn1 hs
    obtain ⟨fuel, rfl⟩ : ∃ m, fuel = m + 1 := ⟨fuel - 1, by omega⟩
    obtain rfl : k = 11 := by omega
    have hlt : n < daysF y (((11 : Nat) : Int) + 1) := by
      have e : sumTo y 12 = sumTo y 11 + daysF y (((11 : Nat) : Int) + 1) := rfl
      omega
    have e : decide (daysF y (((11 : Nat) : Int) + 1) ≤ n) = false := decide_eq_false (by omega)
    rw [loop_s, d18_l1]
    unfold D18_l1
    simp only [op2_s', op_s', op2_op, op2_op2, op2_cond, ev_v', call_r', map_c', map_n', bin_e', pick_e', not_e, ext_e', nth_z', nth_1', nth_2', nth_3', gval_e, gval_u', cmp_e, orUndef_t', orUndef_f', condV_t', condV_f', cond_true, cond_false, eqI_eq, neI_eq, ltI_eq, leI_eq, gtI_eq', geI_eq, Bool.not_true, Bool.not_false, beq_self_eq_true, tf_beq, ft_beq, eq_self, decide_true, decide_false, oneOf1, orU_some, h0, h6, h8, hd, e, thenX_e']
    exact ⟨_, 11, n, rfl, (by kernel_rfl : _ = fs.get t0).trans h0, (by kernel_rfl : _ = fs.get t6).trans h6, (by kernel_rfl : _ = fs.get t8).trans h8, by omega, hn0, hlt, rfl⟩
  | succ j ih =>
    intro k fuel n fs h0 h6 h8 hk hf hn0 hn1 hs
    obtain ⟨fuel, rfl⟩ : ∃ m, fuel = m + 1 := ⟨fuel - 1, by omega⟩
    have hdi := days_in y ((k : Int) + 1) (by omega) (by omega)
    have es : sumTo y (k + 1) = sumTo y k + daysF y ((k : Int) + 1) := rfl
    rw [loop_s, d18_l1]
    unfold D18_l1
    by_cases hle : daysF y ((k : Int) + 1) ≤ n
    · have e : decide (daysF y ((k : Int) + 1) ≤ n) = true := decide_eq_true hle
      simp (disch := omega) only [op2_s', op_s', op2_op, op2_op2, op2_cond, ev_v', call_r', map_c', map_n', bin_e', pick_e', not_e, ext_e', nth_z', nth_1', nth_2', nth_3', gval_e, gval_u', cmp_e, orUndef_t', orUndef_f', condV_t', condV_f', cond_true, cond_false, eqI_eq, neI_eq, ltI_eq, leI_eq, gtI_eq', geI_eq, Bool.not_true, Bool.not_false, beq_self_eq_true, tf_beq, ft_beq, eq_self, decide_true, decide_false, oneOf1, orU_some, h0, h6, h8, hd, e, sub_e, add_e, thenX_n']
      obtain ⟨fs', k', n', r1, r2, r3, r4, r5, r6, r7, r8⟩ := ih (k + 1) fuel (n - daysF y ((k : Int) + 1)) _ (by kernel_rfl) ((by kernel_rfl : _ = fs.get t6).trans h6) (by kernel_rfl) (by omega) (by omega) (by omega) (by omega) (by omega)
      exact ⟨fs', k', n', r1, r2, r3, r4, r5, r6, r7, by omega⟩
    · have e : decide (daysF y ((k : Int) + 1) ≤ n) = false := decide_eq_false hle
      simp only [op2_s', op_s', op2_op, op2_op2, op2_cond, ev_v', call_r', map_c', map_n', bin_e', pick_e', not_e, ext_e', nth_z', nth_1', nth_2', nth_3', gval_e, gval_u', cmp_e, orUndef_t', orUndef_f', condV_t', condV_f', cond_true, cond_false, eqI_eq, neI_eq, ltI_eq, leI_eq, gtI_eq', geI_eq, Bool.not_true, Bool.not_false, beq_self_eq_true, tf_beq, ft_beq, eq_self, decide_true, decide_false, oneOf1, orU_some, h0, h6, h8, hd, e, thenX_e']
      exact ⟨_, k, n, rfl, (by kernel_rfl : _ = fs.get t0).trans h0, (by kernel_rfl : _ = fs.get t6).trans h6, (by kernel_rfl : _ = fs.get t8).trans h8, by omega, hn0, by omega, rfl⟩
theorem dateR_in (rec : Rec) (N : Nat) (hN : 400 ≤ N) (hl : ∀ y s, rec 23 [.int .i64 y] s = some (.bool (leapF y), s)) (hd : ∀ y m s, rec 24 [.int .i64 y, .int .i64 m] s = some (.int .i64 (daysF y m), s)) (n : Int) (s : St) (h0 : 0 ≤ n) (h1 : n ≤ 109572) : ∃ y k d, callF rec N c18 [.int .i64 n] s = some (dateV y k d, s) ∧ IsDate n y k d := by
  have e1 : decide (n < 0) = false := decide_eq_false (by omega)
  have e2 : decide (109572 < n) = false := decide_eq_false (by omega)
  have hb0 : beforeF 1900 = 0 := by decide
  obtain ⟨fs1, y, r1, r2, r3, r4, r5, r6, r7⟩ := loopY rec N hl n ⟨h0, h1⟩ s 299 N 1900 (PT.put (.int .i64 1900) t6 (PT.put (.bool false) t14 (PT.put (.bool false) t13 (PT.put (.int .i64 n) t12 (PT.put (.bool false) t11 (PT.put (.bool false) t10 (PT.put (.int .i64 n) t9 (PT.put (.bool false) t5 (PT.put (.int .i64 0) t4 (PT.put (.int .i64 0) t3 (PT.put (.int .i64 0) t2 (PT.put (.int .i64 n) t0 PT.nil)))))))))))) (by rw [hb0, Int.sub_zero]; kernel_rfl) (by kernel_rfl) (by omega) (by omega) (by omega) (by omega)
  have hyl := year_len y r4 r5
  have hbi := before_in y r4 (by omega)
  have h12 := sum_le y 12 (by omega)
  obtain ⟨fs2, k, m, q1, q2, q3, q4, q5, q6, q7, q8⟩ := loopM rec N hd y s 11 0 N (n - beforeF y) (PT.put (.int .i64 1) t8 fs1) ((by kernel_rfl : _ = fs1.get t0).trans r2) ((by kernel_rfl : _ = fs1.get t6).trans r3) (by kernel_rfl) (by omega) (by omega) (by omega) (by omega) (by
    show n - beforeF y + 0 < _
    omega)
  have q8' : m + sumTo y k = n - beforeF y := by
    rw [q8]
    show n - beforeF y + 0 = _
    omega
  have hdi := days_in y ((k : Int) + 1) (by omega) (by omega)
  refine ⟨y, k, m + 1, ?_, r4, r5, q5, by omega, by omega, by omega⟩
  rw [d18]
  unfold D18
  simp only [op2_s', op_s', op2_op, op2_op2, op2_cond, ev_v', call_r', map_c', map_n', bin_e', pick_e', not_e, ext_e', nth_z', nth_1', nth_2', nth_3', gval_e, gval_u', cmp_e, orUndef_t', orUndef_f', condV_t', condV_f', cond_true, cond_false, eqI_eq, neI_eq, ltI_eq, leI_eq, gtI_eq', geI_eq, Bool.not_true, Bool.not_false, beq_self_eq_true, tf_beq, ft_beq, eq_self, decide_true, decide_false, oneOf1, orU_some, gtI_eq', e1, e2]
  rw [r1]
  simp only [op2_s', blkX_e, Nat.beq_refl, cond_true, thenX_n', d18_r1, D18_r1]
  rw [q1]
  simp (disch := omega) only [op2_s', blkX_e, Nat.beq_refl, cond_true, thenX_n', d18_r0, D18_r0, op2_s', op_s', op2_op, op2_op2, op2_cond, ev_v', call_r', map_c', map_n', bin_e', pick_e', not_e, ext_e', nth_z', nth_1', nth_2', nth_3', gval_e, gval_u', cmp_e, orUndef_t', orUndef_f', condV_t', condV_f', cond_true, cond_false, eqI_eq, neI_eq, ltI_eq, leI_eq, gtI_eq', geI_eq, Bool.not_true, Bool.not_false, beq_self_eq_true, tf_beq, ft_beq, eq_self, decide_true, decide_false, oneOf1, orU_some, q2, q3, q4, add_e, finX_r']
  first | rfl | (show _ = _; kernel_rfl)
theorem dateR_out (rec : Rec) (N : Nat) (n : Int) (s : St) (h : ¬ (0 ≤ n ∧ n ≤ 109572)) : callF rec N c18 [.int .i64 n] s = some (dateN, s) := by
  rw [d18]
  unfold D18
  by_cases h1 : n < 0
  · have e1 : decide (n < 0) = true := decide_eq_true h1
    simp only [op2_s', op_s', op2_op, op2_op2, op2_cond, ev_v', call_r', map_c', map_n', bin_e', pick_e', not_e, ext_e', nth_z', nth_1', nth_2', nth_3', gval_e, gval_u', cmp_e, orUndef_t', orUndef_f', condV_t', condV_f', cond_true, cond_false, eqI_eq, neI_eq, ltI_eq, leI_eq, gtI_eq', geI_eq, Bool.not_true, Bool.not_false, beq_self_eq_true, tf_beq, ft_beq, eq_self, decide_true, decide_false, oneOf1, orU_some, e1]
    rfl
  · have e1 : decide (n < 0) = false := decide_eq_false h1
    have e2 : decide (109572 < n) = true := decide_eq_true (by omega)
    simp only [op2_s', op_s', op2_op, op2_op2, op2_cond, ev_v', call_r', map_c', map_n', bin_e', pick_e', not_e, ext_e', nth_z', nth_1', nth_2', nth_3', gval_e, gval_u', cmp_e, orUndef_t', orUndef_f', condV_t', condV_f', cond_true, cond_false, eqI_eq, neI_eq, ltI_eq, leI_eq, gtI_eq', geI_eq, Bool.not_true, Bool.not_false, beq_self_eq_true, tf_beq, ft_beq, eq_self, decide_true, decide_false, oneOf1, orU_some, gtI_eq', e1, e2]
    rfl
theorem e18 (N : Nat) (n y d : Int) (k : Nat) (s : St) (h : IsDate n y k d) : callN E (N + 500) 18 [.int .i64 n] s = some (dateV y k d, s) := by
  obtain ⟨y', k', d', h1, h2⟩ := dateR_in (callN E (N + 499)) (N + 499) (by omega) (fun y s => e23 (N + 498) y s) (fun y m s => e24 (N + 497) y m s) n s h.range.1 h.range.2
  obtain ⟨rfl, rfl, rfl⟩ := h.unique h2
  exact h1
theorem e18o (N : Nat) (n : Int) (s : St) (h : ¬ (0 ≤ n ∧ n ≤ 109572)) : callN E (N + 500) 18 [.int .i64 n] s = some (dateN, s) := dateR_out (callN E (N + 499)) (N + 499) n s h
end Go.Proofs.YtdfmhjbmenfaeaaDoor.AbsCalD
