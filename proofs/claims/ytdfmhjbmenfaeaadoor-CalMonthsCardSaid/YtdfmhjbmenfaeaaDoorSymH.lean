import Derived.Test.YtdfmhjbmenfaeaaDoorSymG
namespace Go.Proofs.YtdfmhjbmenfaeaaDoor.AbsCalF
open Go Go.Abs Go.Proofs
set_option maxRecDepth 100000
set_option linter.unusedVariables false
set_option linter.unusedSimpArgs false
noncomputable def E : Env := ⟨fns, noKnown⟩
theorem IsDate.range {n y d : Int} {k : Nat} (h : IsDate n y k d) : 0 ≤ n ∧ n ≤ 109572 := by
  obtain ⟨p1, p2, p3, p4, p5, p6⟩ := h
  have h1 := sum_nn y k (by omega)
  have h2 := before_in y p1 (by omega)
  have e : sumTo y (k + 1) = sumTo y k + daysF y ((k : Int) + 1) := rfl
  have h3 := sum_mono y (k + 1) (11 - k) (by omega)
  rw [show k + 1 + (11 - k) = 12 by omega] at h3
  have h4 := year_len y p1 p2
  have h5 := before_mono (y + 1) 2200 (by omega) (by omega)
  have h6 : beforeF 2200 = 109573 := by decide
  omega
theorem e22 (N : Nat) (y : Int) (s : St) : callN E (N + 1) 22 [.int .i64 y] s = some (.bool (leapF y), s) := leap (callN E N) N y s
theorem e26 (N : Nat) (y : Int) (s : St) (h1 : 1900 ≤ y) (h2 : y ≤ 2300) : callN E (N + 1) 26 [.int .i64 y] s = some (.int .i64 (beforeF y), s) := before (callN E N) N y s h1 h2
theorem e17 (N : Nat) (y m : Int) (s : St) : callN E (N + 2) 17 [.int .i64 y, .int .i64 m] s = some (.int .i64 (daysF y m), s) := days (callN E (N + 1)) (N + 1) y m s (fun y s => e22 N y s)
theorem e28 (N : Nat) (n : Int) (s : St) : callN E (N + 1) 28 [.int .i64 n] s = some (.bool (decide (0 ≤ n) && decide (n ≤ 109572)), s) := day (callN E N) N n s
theorem e14x (N : Nat) (n : Int) (s : St) (h0 : 0 ≤ n) (h1 : n ≤ 109572) : ∃ y k d, callN E (N + 500) 14 [.int .i64 n] s = some (dateV y k d, s) ∧ IsDate n y k d :=
  date_in (callN E (N + 499)) (N + 499) (by omega) (fun n s => e28 (N + 498) n s) (fun y s => e26 (N + 498) y s) (fun y m s => e17 (N + 497) y m s) n s h0 h1
theorem e14 (N : Nat) (n y d : Int) (k : Nat) (s : St) (h : IsDate n y k d) : callN E (N + 500) 14 [.int .i64 n] s = some (dateV y k d, s) := by
  obtain ⟨y', k', d', h1, h2⟩ := e14x N n s h.range.1 h.range.2
  obtain ⟨rfl, rfl, rfl⟩ := h.unique h2
  exact h1
theorem e14o (N : Nat) (n : Int) (s : St) (h : ¬ (0 ≤ n ∧ n ≤ 109572)) : callN E (N + 500) 14 [.int .i64 n] s = some (dateN, s) :=
  date_out (callN E (N + 499)) (N + 499) (fun n s => e28 (N + 498) n s) n s h
theorem date_ex (n : Int) (h0 : 0 ≤ n) (h1 : n ≤ 109572) : ∃ y k d, IsDate n y k d := by
  obtain ⟨y, k, d, _, h⟩ := e14x 0 n ⟨.nil, 0, 0, 0⟩ h0 h1
  exact ⟨y, k, d, h⟩
theorem e11 (N : Nat) (y d : Int) (k : Nat) (s : St) (h1 : 1900 ≤ y) (h2 : y ≤ 2199) (h3 : k ≤ 11) (h4 : 1 ≤ d) (h5 : d ≤ daysF y ((k : Int) + 1)) : callN E (N + 500) 11 [.int .i64 y, .int .i64 ((k : Int) + 1), .int .i64 d] s = some (ofV y k d, s) :=
  of_in (callN E (N + 499)) (N + 499) (by omega) (fun y s => e26 (N + 498) y s) (fun y m s => e17 (N + 497) y m s) y d k s h1 h2 h3 h4 h5
theorem e12 (N : Nat) (n q y d : Int) (k : Nat) (s : St) (hn : IsDate n y k d) (hq1 : -3600 ≤ q) (hq2 : q ≤ 3600) (ha1 : 0 ≤ atF y k q) (ha2 : atF y k q < 3600) :
    ∃ (j : Nat), atF y k q = (atF y k q / 12) * 12 + j ∧ j ≤ 11 ∧ callN E (N + 501) 12 [.int .i64 n, .int .i64 q] s = some (ofV (1900 + atF y k q / 12) j (min d (daysF (1900 + atF y k q / 12) ((j : Int) + 1))), s) :=
  months_in (callN E (N + 500)) (N + 500) (fun y m s => e17 (N + 498) y m s) (fun y d k s h1 h2 h3 h4 h5 => e11 N y d k s h1 h2 h3 h4 h5) n q y d k s (e14 N n y d k s hn) hn hq1 hq2 ha1 ha2
theorem e12o (N : Nat) (n q y d : Int) (k : Nat) (s : St) (hn : IsDate n y k d) (h : ¬ (-3600 ≤ q ∧ q ≤ 3600 ∧ 0 ≤ atF y k q ∧ atF y k q < 3600)) : callN E (N + 501) 12 [.int .i64 n, .int .i64 q] s = some (noV, s) :=
  months_out (callN E (N + 500)) (N + 500) n q y d k s (e14 N n y d k s hn) hn h
theorem e12n (N : Nat) (n q : Int) (s : St) (h : ¬ (0 ≤ n ∧ n ≤ 109572)) : callN E (N + 501) 12 [.int .i64 n, .int .i64 q] s = some (noV, s) :=
  months_no (callN E (N + 500)) (N + 500) n q s (e14o N n s h)
/-! CalMonths -/
theorem months (N : Nat) (n q : Int) (s s1 : St) (haw : callN E (N + 501) 10 [] s = some (.bool true, s1)) : callF (callN E (N + 501)) (N + 501) c7 [.int .i64 n, .int .i64 q] s = some (.bool true, s1) := by
  rw [d7]
  unfold D7
  by_cases hr : 0 ≤ n ∧ n ≤ 109572
  · obtain ⟨y, k, d, hn⟩ := date_ex n hr.1 hr.2
    by_cases hc : -3600 ≤ q ∧ q ≤ 3600 ∧ 0 ≤ atF y k q ∧ atF y k q < 3600
    · obtain ⟨c1, c2, c3, c4⟩ := hc
      obtain ⟨j, hj, hj11, h12⟩ := e12 N n q y d k s1 hn c1 c2 c3 c4
      obtain ⟨a, ha⟩ : ∃ a, a = atF y k q := ⟨_, rfl⟩
      rw [← ha] at hj h12 c3 c4
      have hau : a = (y - 1900) * 12 + k + q := ha
      obtain ⟨y', hy'⟩ : ∃ y', y' = 1900 + a / 12 := ⟨_, rfl⟩
      rw [← hy'] at h12
      obtain ⟨p1, p2, p3, p4, p5, p6⟩ := id hn
      have hdj := days_in y' ((j : Int) + 1) (by omega) (by omega)
      obtain ⟨d', hd'⟩ : ∃ d', d' = min d (daysF y' ((j : Int) + 1)) := ⟨_, rfl⟩
      rw [← hd'] at h12
      obtain ⟨b, hb⟩ : ∃ b, b = beforeF y' + sumTo y' j + d' - 1 := ⟨_, rfl⟩
      have hdb : IsDate b y' j d' := ⟨by omega, by omega, hj11, by omega, by omega, hb⟩
      have hat2 : atF y' j (-q) = (y - 1900) * 12 + k := by unfold atF; omega
      obtain ⟨j2, hj2, hj211, h12b⟩ := e12 N b (-q) y' d' j s1 hdb (by omega) (by omega) (by rw [hat2]; omega) (by rw [hat2]; omega)
      rw [hat2] at hj2 h12b
      have ey : 1900 + ((y - 1900) * 12 + (k : Int)) / 12 = y := by omega
      have ej : j2 = k := by omega
      rw [ey, ej] at h12b
      have em : min d' (daysF y ((k : Int) + 1)) = d' := by omega
      rw [em] at h12b
      obtain ⟨b2, hb2⟩ : ∃ b2, b2 = beforeF y + sumTo y k + d' - 1 := ⟨_, rfl⟩
      have h14n := e14 (N + 1) n y d k s1 hn
      have h14b := e14 (N + 1) b y' d' j s1 hdb
      unfold ofV at h12 h12b
      rw [← hb] at h12
      rw [← hb2] at h12b
      unfold dateV at h14n h14b
      have f1 : decide (n < b2) = false := decide_eq_false (by omega)
      have f2 : decide (d < d') = false := decide_eq_false (by omega)
      have f3 : decide (12 * y' + ((j : Int) + 1) = 12 * y + ((k : Int) + 1) + q) = true := decide_eq_true (by omega)
      by_cases he : d' = d
      · have f4 : decide (d' = d) = true := decide_eq_true he
        have f5 : decide (b2 = n) = true := decide_eq_true (by omega)
        simp (maxSteps := 4000000) (disch := omega) only [op2_s', op_s', op2_op, op2_op2, op2_cond, ev_v', call_r', map_c', map_n', bin_e', pick_e', not_e, ext_e', nth_z', nth_1', nth_2', nth_3', gval_e, gval_u', cmp_e, orUndef_t', orUndef_f', condV_t', condV_f', cond_true, cond_false, eqI_eq, neI_eq, ltI_eq, leI_eq, gtI_eq', geI_eq, Bool.not_true, Bool.not_false, beq_self_eq_true, tf_beq, ft_beq, eq_self, decide_true, decide_false, oneOf1, orU_some, haw, h12, h12b, h14n, h14b, neg_e, mul_e, add_e, f1, f2, f3, f4, f5]
      · have f4 : decide (d' = d) = false := decide_eq_false he
        simp (maxSteps := 4000000) (disch := omega) only [op2_s', op_s', op2_op, op2_op2, op2_cond, ev_v', call_r', map_c', map_n', bin_e', pick_e', not_e, ext_e', nth_z', nth_1', nth_2', nth_3', gval_e, gval_u', cmp_e, orUndef_t', orUndef_f', condV_t', condV_f', cond_true, cond_false, eqI_eq, neI_eq, ltI_eq, leI_eq, gtI_eq', geI_eq, Bool.not_true, Bool.not_false, beq_self_eq_true, tf_beq, ft_beq, eq_self, decide_true, decide_false, oneOf1, orU_some, haw, h12, h12b, h14n, h14b, neg_e, mul_e, add_e, f1, f2, f3, f4]
    · have h12 := e12o N n q y d k s1 hn hc
      unfold noV at h12
      simp only [op2_s', op_s', op2_op, op2_op2, op2_cond, ev_v', call_r', map_c', map_n', bin_e', pick_e', not_e, ext_e', nth_z', nth_1', nth_2', nth_3', gval_e, gval_u', cmp_e, orUndef_t', orUndef_f', condV_t', condV_f', cond_true, cond_false, eqI_eq, neI_eq, ltI_eq, leI_eq, gtI_eq', geI_eq, Bool.not_true, Bool.not_false, beq_self_eq_true, tf_beq, ft_beq, eq_self, decide_true, decide_false, oneOf1, orU_some, haw, h12]
  · have h12 := e12n N n q s1 hr
    unfold noV at h12
    simp only [op2_s', op_s', op2_op, op2_op2, op2_cond, ev_v', call_r', map_c', map_n', bin_e', pick_e', not_e, ext_e', nth_z', nth_1', nth_2', nth_3', gval_e, gval_u', cmp_e, orUndef_t', orUndef_f', condV_t', condV_f', cond_true, cond_false, eqI_eq, neI_eq, ltI_eq, leI_eq, gtI_eq', geI_eq, Bool.not_true, Bool.not_false, beq_self_eq_true, tf_beq, ft_beq, eq_self, decide_true, decide_false, oneOf1, orU_some, haw, h12]
/-! CalYears -/
theorem year_on : ∀ i : Nat, i < 299 → ∀ k : Nat, k < 12 → (beforeF (1900 + (i : Int) + 1) + sumTo (1900 + (i : Int) + 1) k - (beforeF (1900 + (i : Int)) + sumTo (1900 + (i : Int)) k) = 365 ∨ beforeF (1900 + (i : Int) + 1) + sumTo (1900 + (i : Int) + 1) k - (beforeF (1900 + (i : Int)) + sumTo (1900 + (i : Int)) k) = 366) ∧
    (k ≠ 1 → daysF (1900 + (i : Int) + 1) ((k : Int) + 1) = daysF (1900 + (i : Int)) ((k : Int) + 1)) := by decide +kernel
theorem feb_on : ∀ i : Nat, i < 299 → (daysF (1900 + (i : Int)) 2 = 29 → daysF (1900 + (i : Int) + 1) 2 = 28) ∧ 28 ≤ daysF (1900 + (i : Int)) 2 ∧ daysF (1900 + (i : Int)) 2 ≤ 29 ∧ 28 ≤ daysF (1900 + (i : Int) + 1) 2 := by decide +kernel
theorem years_ok (N : Nat) (n : Int) (s s1 : St) (haw : callN E (N + 501) 10 [] s = some (.bool true, s1)) : callF (callN E (N + 501)) (N + 501) c9 [.int .i64 n] s = some (.bool true, s1) := by
  rw [d9]
  unfold D9
  by_cases hr : 0 ≤ n ∧ n ≤ 109572
  · obtain ⟨y, k, d, hn⟩ := date_ex n hr.1 hr.2
    have h14n := e14 (N + 1) n y d k s1 hn
    unfold dateV at h14n
    obtain ⟨p1, p2, p3, p4, p5, p6⟩ := id hn
    by_cases h9 : y = 2199
    · have h12 := e12o N n 12 y d k s1 hn (by unfold atF; omega)
      unfold noV at h12
      have f1 : decide (y = 2199) = true := decide_eq_true h9
      simp only [op2_s', op_s', op2_op, op2_op2, op2_cond, ev_v', call_r', map_c', map_n', bin_e', pick_e', not_e, ext_e', nth_z', nth_1', nth_2', nth_3', gval_e, gval_u', cmp_e, orUndef_t', orUndef_f', condV_t', condV_f', cond_true, cond_false, eqI_eq, neI_eq, ltI_eq, leI_eq, gtI_eq', geI_eq, Bool.not_true, Bool.not_false, beq_self_eq_true, tf_beq, ft_beq, eq_self, decide_true, decide_false, oneOf1, orU_some, haw, h14n, h12, f1]
    · obtain ⟨j, hj, hj11, h12⟩ := e12 N n 12 y d k s1 hn (by omega) (by omega) (by unfold atF; omega) (by unfold atF; omega)
      have hat : atF y k 12 = (y - 1900) * 12 + k + 12 := rfl
      rw [hat] at hj h12
      have ey : 1900 + ((y - 1900) * 12 + (k : Int) + 12) / 12 = y + 1 := by omega
      have ej : j = k := by omega
      rw [ey, ej] at h12
      obtain ⟨i, hi⟩ := Int.eq_ofNat_of_zero_le (show 0 ≤ y - 1900 by omega)
      have hyi : y = 1900 + (i : Int) := by omega
      have y1 := year_on i (by omega) k (by omega)
      have y2 := feb_on i (by omega)
      rw [← hyi] at y1 y2
      have hdj := days_in (y + 1) ((k : Int) + 1) (by omega) (by omega)
      obtain ⟨d', hd'⟩ : ∃ d', d' = min d (daysF (y + 1) ((k : Int) + 1)) := ⟨_, rfl⟩
      rw [← hd'] at h12
      obtain ⟨b, hb⟩ : ∃ b, b = beforeF (y + 1) + sumTo (y + 1) k + d' - 1 := ⟨_, rfl⟩
      have hdb : IsDate b (y + 1) k d' := ⟨by omega, by omega, p3, by omega, by omega, hb⟩
      have h14b := e14 (N + 1) b (y + 1) d' k s1 hdb
      unfold ofV at h12
      rw [← hb] at h12
      unfold dateV at h14b
      have hb1 := before_in y p1 (by omega)
      have hb2 := before_in (y + 1) (by omega) (by omega)
      have hs1 := sum_le y k (by omega)
      have hs2 := sum_le (y + 1) k (by omega)
      have hs3 := sum_nn y k (by omega)
      have hs4 := sum_nn (y + 1) k (by omega)
      have hd31 := days_in y ((k : Int) + 1) (by omega) (by omega)
      have f1 : decide (y = 2199) = false := decide_eq_false h9
      by_cases hk : k = 1
      · subst hk
        have e2 : (((1 : Nat) : Int) + 1) = 2 := rfl
        rw [e2] at p5 hd' hdj hd31 h14n h14b
        have f2 : decide ((2 : Int) = 2) = true := rfl
        by_cases h29 : d = 29
        · have hd28 : d' = 28 := by have := y2.1 (by omega); omega
          have f3 : decide (d = 29) = true := decide_eq_true h29
          have f4 : decide (d' = 28) = true := decide_eq_true hd28
          simp (maxSteps := 4000000) (disch := omega) only [op2_s', op_s', op2_op, op2_op2, op2_cond, ev_v', call_r', map_c', map_n', bin_e', pick_e', not_e, ext_e', nth_z', nth_1', nth_2', nth_3', gval_e, gval_u', cmp_e, orUndef_t', orUndef_f', condV_t', condV_f', cond_true, cond_false, eqI_eq, neI_eq, ltI_eq, leI_eq, gtI_eq', geI_eq, Bool.not_true, Bool.not_false, beq_self_eq_true, tf_beq, ft_beq, eq_self, decide_true, decide_false, oneOf1, orU_some, haw, h14n, h12, h14b, f1, f2, f3, f4, add_e]
        · have hdd : d' = d := by omega
          have f3 : decide (d = 29) = false := decide_eq_false h29
          have f4 : decide (d' = d) = true := decide_eq_true hdd
          by_cases h5 : b - n = 365
          · have f5 : decide (b - n = 365) = true := decide_eq_true h5
            simp (maxSteps := 4000000) (disch := omega) only [op2_s', op_s', op2_op, op2_op2, op2_cond, ev_v', call_r', map_c', map_n', bin_e', pick_e', not_e, ext_e', nth_z', nth_1', nth_2', nth_3', gval_e, gval_u', cmp_e, orUndef_t', orUndef_f', condV_t', condV_f', cond_true, cond_false, eqI_eq, neI_eq, ltI_eq, leI_eq, gtI_eq', geI_eq, Bool.not_true, Bool.not_false, beq_self_eq_true, tf_beq, ft_beq, eq_self, decide_true, decide_false, oneOf1, orU_some, haw, h14n, h12, h14b, f1, f2, f3, f4, f5, add_e, sub_e]
          · have f5 : decide (b - n = 365) = false := decide_eq_false h5
            have f6 : decide (b - n = 366) = true := decide_eq_true (by omega)
            simp (maxSteps := 4000000) (disch := omega) only [op2_s', op_s', op2_op, op2_op2, op2_cond, ev_v', call_r', map_c', map_n', bin_e', pick_e', not_e, ext_e', nth_z', nth_1', nth_2', nth_3', gval_e, gval_u', cmp_e, orUndef_t', orUndef_f', condV_t', condV_f', cond_true, cond_false, eqI_eq, neI_eq, ltI_eq, leI_eq, gtI_eq', geI_eq, Bool.not_true, Bool.not_false, beq_self_eq_true, tf_beq, ft_beq, eq_self, decide_true, decide_false, oneOf1, orU_some, haw, h14n, h12, h14b, f1, f2, f3, f4, f5, f6, add_e, sub_e]
      · have hdd : d' = d := by have := y1.2 hk; omega
        have f2 : decide ((k : Int) + 1 = 2) = false := decide_eq_false (by omega)
        have f4 : decide (d' = d) = true := decide_eq_true hdd
        by_cases h5 : b - n = 365
        · have f5 : decide (b - n = 365) = true := decide_eq_true h5
          simp (maxSteps := 4000000) (disch := omega) only [op2_s', op_s', op2_op, op2_op2, op2_cond, ev_v', call_r', map_c', map_n', bin_e', pick_e', not_e, ext_e', nth_z', nth_1', nth_2', nth_3', gval_e, gval_u', cmp_e, orUndef_t', orUndef_f', condV_t', condV_f', cond_true, cond_false, eqI_eq, neI_eq, ltI_eq, leI_eq, gtI_eq', geI_eq, Bool.not_true, Bool.not_false, beq_self_eq_true, tf_beq, ft_beq, eq_self, decide_true, decide_false, oneOf1, orU_some, haw, h14n, h12, h14b, f1, f2, f4, f5, add_e, sub_e]
        · have f5 : decide (b - n = 365) = false := decide_eq_false h5
          have f6 : decide (b - n = 366) = true := decide_eq_true (by omega)
          simp (maxSteps := 4000000) (disch := omega) only [op2_s', op_s', op2_op, op2_op2, op2_cond, ev_v', call_r', map_c', map_n', bin_e', pick_e', not_e, ext_e', nth_z', nth_1', nth_2', nth_3', gval_e, gval_u', cmp_e, orUndef_t', orUndef_f', condV_t', condV_f', cond_true, cond_false, eqI_eq, neI_eq, ltI_eq, leI_eq, gtI_eq', geI_eq, Bool.not_true, Bool.not_false, beq_self_eq_true, tf_beq, ft_beq, eq_self, decide_true, decide_false, oneOf1, orU_some, haw, h14n, h12, h14b, f1, f2, f4, f5, f6, add_e, sub_e]
  · have h14 := e14o (N + 1) n s1 hr
    have h12 := e12n N n 12 s1 hr
    unfold noV at h12
    unfold dateN at h14
    simp only [op2_s', op_s', op2_op, op2_op2, op2_cond, ev_v', call_r', map_c', map_n', bin_e', pick_e', not_e, ext_e', nth_z', nth_1', nth_2', nth_3', gval_e, gval_u', cmp_e, orUndef_t', orUndef_f', condV_t', condV_f', cond_true, cond_false, eqI_eq, neI_eq, ltI_eq, leI_eq, gtI_eq', geI_eq, Bool.not_true, Bool.not_false, beq_self_eq_true, tf_beq, ft_beq, eq_self, decide_true, decide_false, oneOf1, orU_some, haw, h14, h12]
end Go.Proofs.YtdfmhjbmenfaeaaDoor.AbsCalF
