import Derived.Test.YtdfmhjbmenfaeaaDoorSymF
namespace Go.Proofs.YtdfmhjbmenfaeaaDoor.AbsCalD
open Go Go.Abs Go.Proofs
set_option maxRecDepth 100000
set_option linter.unusedVariables false
set_option linter.unusedSimpArgs false
/-! the calendar, plain -/
theorem year_len (y : Int) (h1 : 1900 ≤ y) (h2 : y ≤ 2199) : beforeF (y + 1) = beforeF y + sumTo y 12 := by
  obtain ⟨k, hk⟩ := Int.eq_ofNat_of_zero_le (show 0 ≤ y - 1900 by omega)
  have hyk : y = 1900 + (k : Int) := by omega
  have := years k (by omega)
  rwa [← hyk] at this
theorem before_mono (a b : Int) (h1 : 1900 ≤ a) (h : a ≤ b) : beforeF a ≤ beforeF b := by unfold beforeF; omega
theorem sum_mono (y : Int) : ∀ (k j : Nat), k + j ≤ 12 → sumTo y k ≤ sumTo y (k + j)
  | k, 0, _ => Int.le_refl _
  | k, j + 1, h => by
    have h1 := sum_mono y k j (by omega)
    have h2 := (days_in y (((k + j : Nat) : Int) + 1) (by omega) (by omega)).1
    have e : sumTo y (k + (j + 1)) = sumTo y (k + j) + daysF y (((k + j : Nat) : Int) + 1) := rfl
    omega
theorem IsDate.unique {n y a d c : Int} {k j : Nat} (h : IsDate n y k d) (h' : IsDate n a j c) : y = a ∧ k = j ∧ d = c := by
  obtain ⟨p1, p2, p3, p4, p5, p6⟩ := h
  obtain ⟨q1, q2, q3, q4, q5, q6⟩ := h'
  have less : ∀ (y : Int) (k : Nat) (d : Int), k ≤ 11 → d ≤ daysF y ((k : Int) + 1) → sumTo y k + d ≤ sumTo y 12 := by
    intro y k d hk hd
    have e : sumTo y (k + 1) = sumTo y k + daysF y ((k : Int) + 1) := rfl
    have := sum_mono y (k + 1) (11 - k) (by omega)
    rw [show k + 1 + (11 - k) = 12 by omega] at this
    omega
  have l1 := less y k d p3 p5
  have l2 := less a j c q3 q5
  have pos : ∀ (y : Int) (k : Nat), k ≤ 12 → 0 ≤ sumTo y k := fun y k hk => by
    have := sum_mono y 0 k (by omega)
    rw [Nat.zero_add] at this
    exact this
  have s1 := pos y k (by omega)
  have s2 := pos a j (by omega)
  have ya : y = a := by
    rcases Int.lt_trichotomy y a with h | h | h
    · have := before_mono (y + 1) a (by omega) (by omega)
      rw [year_len y p1 p2] at this
      omega
    · exact h
    · have := before_mono (a + 1) y (by omega) (by omega)
      rw [year_len a q1 q2] at this
      omega
  subst ya
  have kj : k = j := by
    rcases Nat.lt_trichotomy k j with h | h | h
    · have e : sumTo y (k + 1) = sumTo y k + daysF y ((k : Int) + 1) := rfl
      have := sum_mono y (k + 1) (j - (k + 1)) (by omega)
      rw [show k + 1 + (j - (k + 1)) = j by omega] at this
      omega
    · exact h
    · have e : sumTo y (j + 1) = sumTo y j + daysF y ((j : Int) + 1) := rfl
      have := sum_mono y (j + 1) (k - (j + 1)) (by omega)
      rw [show j + 1 + (k - (j + 1)) = k by omega] at this
      omega
  subst kj
  exact ⟨rfl, rfl, by omega⟩
/-- the next day's date -/
theorem IsDate.next {n y d : Int} {k : Nat} (h : IsDate n y k d) (hn : n < 109572) :
    (d < daysF y ((k : Int) + 1) ∧ IsDate (n + 1) y k (d + 1)) ∨ (d = daysF y ((k : Int) + 1) ∧ k < 11 ∧ IsDate (n + 1) y (k + 1) 1) ∨ (d = daysF y ((k : Int) + 1) ∧ k = 11 ∧ IsDate (n + 1) (y + 1) 0 1) := by
  obtain ⟨p1, p2, p3, p4, p5, p6⟩ := h
  have e : sumTo y (k + 1) = sumTo y k + daysF y ((k : Int) + 1) := rfl
  by_cases hd : d < daysF y ((k : Int) + 1)
  · exact .inl ⟨hd, p1, p2, p3, by omega, by omega, by omega⟩
  · right
    by_cases hk : k < 11
    · have := (days_in y (((k + 1 : Nat) : Int) + 1) (by omega) (by omega)).1
      exact .inl ⟨by omega, hk, p1, p2, by omega, by omega, by omega, by omega⟩
    · have hk11 : k = 11 := by omega
      subst hk11
      have hy := year_len y p1 p2
      have e12 : sumTo y 12 = sumTo y 11 + daysF y (((11 : Nat) : Int) + 1) := rfl
      refine .inr ⟨by omega, rfl, by omega, ?_, by omega, by omega, ?_, ?_⟩
      · by_cases h : y = 2199
        · exfalso
          have e3 : beforeF (y + 1) = 109573 := by rw [h]; decide
          omega
        · omega
      · have := (days_in (y + 1) (((0 : Nat) : Int) + 1) (by omega) (by omega)).1; omega
      · have e0 : sumTo (y + 1) 0 = 0 := rfl
        omega
theorem loop_k {β : Type} {b : Frm → St → OutX} {n : Nat} {fs : Frm} {s : St} {k : AExit → Frm × St → Option β} {X : Option β} {Φ : AExit → Frm → St → Prop} (h : ∃ e fs' s', loopF b n fs s = some (e, fs', s') ∧ Φ e fs' s') (hk : ∀ e fs' s', Φ e fs' s' → k e (fs', s') = X) : opt2 (loopF b n fs s) k = X := by
  obtain ⟨e, fs', s', h1, h2⟩ := h
  rw [h1]
  exact hk e fs' s' h2
theorem before_in (y : Int) (h1 : 1900 ≤ y) (h2 : y ≤ 2200) : 0 ≤ beforeF y ∧ beforeF y ≤ 110000 := by unfold beforeF; omega
theorem sum_nn (y : Int) (k : Nat) (h : k ≤ 12) : 0 ≤ sumTo y k := by
  have := sum_mono y 0 k (by omega)
  rw [Nat.zero_add] at this
  exact this
theorem days_pos {y m : Int} (h : 1 ≤ daysF y m) : ∃ k : Nat, m = (k : Int) + 1 ∧ k ≤ 11 := by
  by_cases hm : 1 ≤ m ∧ m ≤ 12
  · exact ⟨(m - 1).toNat, by omega, by omega⟩
  · exfalso
    unfold daysF at h
    rw [if_neg (by omega), if_neg (by omega), if_neg hm] at h
    omega
/-! Of -/
theorem round3 (rec : Rec) (N : Nat) (hd : ∀ y m s, rec 17 [.int .i64 y, .int .i64 m] s = some (.int .i64 (daysF y m), s)) (y m d n j : Int) (fs : Frm) (s : St) (h0 : fs.get t0 = some (.int .i64 y)) (h1 : fs.get t1 = some (.int .i64 m)) (h2 : fs.get t2 = some (.int .i64 d)) (h8 : fs.get t8 = some (.int .i64 n)) (h9 : fs.get t9 = some (.int .i64 j)) (hj0 : 0 ≤ j) (hj1 : j ≤ 100) (hj : j < m) (hn0 : 0 ≤ n) (hn1 : n ≤ 1000000) (hd0 : 0 ≤ daysF y j) (hd1 : daysF y j ≤ 31) :
    ∃ fs', c11_l0 rec N fs s = some (.norm, fs', s) ∧ fs'.get t0 = some (.int .i64 y) ∧ fs'.get t1 = some (.int .i64 m) ∧ fs'.get t2 = some (.int .i64 d) ∧ fs'.get t8 = some (.int .i64 (n + daysF y j)) ∧ fs'.get t9 = some (.int .i64 (j + 1)) := by
  have e1 : decide (j < m) = true := decide_eq_true hj
  have e3 := hd y j s
  rw [d11_l0]
  unfold D11_l0
  simp (disch := omega) only [op2_s', op_s', op2_op, op2_op2, op2_cond, ev_v', call_r', map_c', map_n', bin_e', pick_e', not_e, ext_e', nth_z', nth_1', nth_2', nth_3', gval_e, gval_u', cmp_e, orUndef_t', orUndef_f', condV_t', condV_f', cond_true, cond_false, eqI_eq, neI_eq, ltI_eq, leI_eq, gtI_eq', geI_eq, Bool.not_true, Bool.not_false, beq_self_eq_true, tf_beq, ft_beq, eq_self, decide_true, decide_false, oneOf1, orU_some, h0, h1, h8, h9, e1, e3, add_e]
  exact ⟨_, rfl, (by kernel_rfl : _ = fs.get t0).trans h0, (by kernel_rfl : _ = fs.get t1).trans h1, (by kernel_rfl : _ = fs.get t2).trans h2, by kernel_rfl, by kernel_rfl⟩
theorem exit3 (rec : Rec) (N : Nat) (y m d n j : Int) (fs : Frm) (s : St) (h1 : fs.get t1 = some (.int .i64 m)) (h2 : fs.get t2 = some (.int .i64 d)) (h8 : fs.get t8 = some (.int .i64 n)) (h9 : fs.get t9 = some (.int .i64 j)) (hj : ¬ j < m) :
    ∃ fs', c11_l0 rec N fs s = some (.exit 0, fs', s) ∧ fs'.get t2 = some (.int .i64 d) ∧ fs'.get t8 = some (.int .i64 n) := by
  have e1 : decide (j < m) = false := decide_eq_false hj
  rw [d11_l0]
  unfold D11_l0
  simp (disch := omega) only [op2_s', op_s', op2_op, op2_op2, op2_cond, ev_v', call_r', map_c', map_n', bin_e', pick_e', not_e, ext_e', nth_z', nth_1', nth_2', nth_3', gval_e, gval_u', cmp_e, orUndef_t', orUndef_f', condV_t', condV_f', cond_true, cond_false, eqI_eq, neI_eq, ltI_eq, leI_eq, gtI_eq', geI_eq, Bool.not_true, Bool.not_false, beq_self_eq_true, tf_beq, ft_beq, eq_self, decide_true, decide_false, oneOf1, orU_some, h1, h9, e1]
  exact ⟨_, rfl, (by kernel_rfl : _ = fs.get t2).trans h2, (by kernel_rfl : _ = fs.get t8).trans h8⟩
theorem loop3 (rec : Rec) (N : Nat) (hd : ∀ y m s, rec 17 [.int .i64 y, .int .i64 m] s = some (.int .i64 (daysF y m), s)) (y d : Int) (hy1 : 1900 ≤ y) (hy2 : y ≤ 2199) (k : Nat) (hk : k ≤ 11) (s : St) : ∀ (i j fuel : Nat) (fs : Frm), fs.get t0 = some (.int .i64 y) → fs.get t1 = some (.int .i64 ((k : Int) + 1)) → fs.get t2 = some (.int .i64 d) → fs.get t8 = some (.int .i64 (beforeF y + sumTo y j)) → fs.get t9 = some (.int .i64 ((j : Int) + 1)) → j + i = k → i < fuel →
    ∃ e fs' s', loopF (c11_l0 rec N) fuel fs s = some (e, fs', s') ∧ e = .exit 0 ∧ s' = s ∧ fs'.get t2 = some (.int .i64 d) ∧ fs'.get t8 = some (.int .i64 (beforeF y + sumTo y k)) := by
  intro i
  induction i with
  | zero =>
    intro j fuel fs h0 h1 h2 h8 h9 hi hf
    obtain ⟨fuel, rfl⟩ : ∃ m, fuel = m + 1 := ⟨fuel - 1, by omega⟩
    obtain rfl : j = k := by omega
    obtain ⟨fs', hr, g2, g8⟩ := exit3 rec N y _ d _ _ fs s h1 h2 h8 h9 (by omega)
    exact ⟨_, fs', s, by rw [loop_s, hr]; rfl, rfl, rfl, g2, g8⟩
  | succ i ih =>
    intro j fuel fs h0 h1 h2 h8 h9 hi hf
    obtain ⟨fuel, rfl⟩ : ∃ m, fuel = m + 1 := ⟨fuel - 1, by omega⟩
    have hd1 := days_in y ((j : Int) + 1) (by omega) (by omega)
    have hs1 := sum_nn y j (by omega)
    have hs2 := sum_le y j (by omega)
    have hb := before_in y hy1 (by omega)
    obtain ⟨fs1, hr, g0, g1, g2, g8, g9⟩ := round3 rec N hd y _ d _ _ fs s h0 h1 h2 h8 h9 (by omega) (by omega) (by omega) (by omega) (by omega) (by omega) hd1.2
    obtain ⟨e, fs', s', hl, rest⟩ := ih (j + 1) fuel fs1 g0 g1 g2 (by rw [g8]; show some (Value.int .i64 _) = some (Value.int .i64 (beforeF y + (sumTo y j + daysF y ((j : Int) + 1)))); congr 2; omega) (by rw [g9]; simp) (by omega) (by omega)
    exact ⟨e, fs', s', by rw [loop_s, hr]; exact hl, rest⟩
def ofV (y : Int) (k : Nat) (d : Int) : Value := tupOf [.int .i64 (beforeF y + sumTo y k + d - 1), .bool true]
def noV : Value := tupOf [.int .i64 0, .bool false]
theorem of_in (rec : Rec) (N : Nat) (hN : 100 ≤ N) (hb : ∀ y s, 1900 ≤ y → y ≤ 2300 → rec 26 [.int .i64 y] s = some (.int .i64 (beforeF y), s)) (hd : ∀ y m s, rec 17 [.int .i64 y, .int .i64 m] s = some (.int .i64 (daysF y m), s)) (y d : Int) (k : Nat) (s : St) (hy1 : 1900 ≤ y) (hy2 : y ≤ 2199) (hk : k ≤ 11) (hd1 : 1 ≤ d) (hd2 : d ≤ daysF y ((k : Int) + 1)) :
    callF rec N c11 [.int .i64 y, .int .i64 ((k : Int) + 1), .int .i64 d] s = some (ofV y k d, s) := by
  have e1 : decide (y < 1900) = false := decide_eq_false (by omega)
  have e2 : decide (2199 < y) = false := decide_eq_false (by omega)
  have e3 : decide (d < 1) = false := decide_eq_false (by omega)
  have e4 : decide (daysF y ((k : Int) + 1) < d) = false := decide_eq_false (by omega)
  have e5 := hd y ((k : Int) + 1) s
  have e6 := hb y s hy1 (by omega)
  have hdi := days_in y ((k : Int) + 1) (by omega) (by omega)
  have hs1 := sum_nn y k (by omega)
  have hs2 := sum_le y k (by omega)
  have hbi := before_in y hy1 (by omega)
  rw [d11]
  unfold D11
  simp (disch := omega) only [op2_s', op_s', op2_op, op2_op2, op2_cond, ev_v', call_r', map_c', map_n', bin_e', pick_e', not_e, ext_e', nth_z', nth_1', nth_2', nth_3', gval_e, gval_u', cmp_e, orUndef_t', orUndef_f', condV_t', condV_f', cond_true, cond_false, eqI_eq, neI_eq, ltI_eq, leI_eq, gtI_eq', geI_eq, Bool.not_true, Bool.not_false, beq_self_eq_true, tf_beq, ft_beq, eq_self, decide_true, decide_false, oneOf1, orU_some, e1, e2, e3, e4, e5, e6]
  refine loop_k (loop3 rec N hd y d hy1 hy2 k hk s k 0 N _ (by kernel_rfl) (by kernel_rfl) (by kernel_rfl) ?_ (by kernel_rfl) (by omega) (by omega)) ?_
  · have e : sumTo y 0 = 0 := rfl
    rw [e, Int.add_zero]
    first | done | kernel_rfl | exact (by kernel_rfl : _ = _)
  · rintro e fs' s' ⟨rfl, rfl, g2, g8⟩
    simp only [op2_s', op_s', op2_op, op2_op2, op2_cond, ev_v', call_r', map_c', map_n', bin_e', pick_e', not_e, ext_e', nth_z', nth_1', nth_2', nth_3', gval_e, gval_u', cmp_e, orUndef_t', orUndef_f', condV_t', condV_f', cond_true, cond_false, eqI_eq, neI_eq, ltI_eq, leI_eq, gtI_eq', geI_eq, Bool.not_true, Bool.not_false, beq_self_eq_true, tf_beq, ft_beq, eq_self, decide_true, decide_false, oneOf1, orU_some, blkX_e, thenX_n', Nat.beq_refl]
    rw [d11_r0]
    unfold D11_r0
    simp (disch := omega) only [op2_s', op_s', op2_op, op2_op2, op2_cond, ev_v', call_r', map_c', map_n', bin_e', pick_e', not_e, ext_e', nth_z', nth_1', nth_2', nth_3', gval_e, gval_u', cmp_e, orUndef_t', orUndef_f', condV_t', condV_f', cond_true, cond_false, eqI_eq, neI_eq, ltI_eq, leI_eq, gtI_eq', geI_eq, Bool.not_true, Bool.not_false, beq_self_eq_true, tf_beq, ft_beq, eq_self, decide_true, decide_false, oneOf1, orU_some, g2, g8, add_e, sub_e, finX_r']
    kernel_rfl
theorem of_out (rec : Rec) (N : Nat) (hd : ∀ y m s, rec 17 [.int .i64 y, .int .i64 m] s = some (.int .i64 (daysF y m), s)) (y m d : Int) (s : St) (h : ¬ (1900 ≤ y ∧ y ≤ 2199 ∧ 1 ≤ d ∧ d ≤ daysF y m)) :
    callF rec N c11 [.int .i64 y, .int .i64 m, .int .i64 d] s = some (noV, s) := by
  have e5 := hd y m s
  rw [d11]
  unfold D11
  by_cases h1 : y < 1900
  · have e1 : decide (y < 1900) = true := decide_eq_true h1
    simp only [op2_s', op_s', op2_op, op2_op2, op2_cond, ev_v', call_r', map_c', map_n', bin_e', pick_e', not_e, ext_e', nth_z', nth_1', nth_2', nth_3', gval_e, gval_u', cmp_e, orUndef_t', orUndef_f', condV_t', condV_f', cond_true, cond_false, eqI_eq, neI_eq, ltI_eq, leI_eq, gtI_eq', geI_eq, Bool.not_true, Bool.not_false, beq_self_eq_true, tf_beq, ft_beq, eq_self, decide_true, decide_false, oneOf1, orU_some, e1]
    rfl
  · have e1 : decide (y < 1900) = false := decide_eq_false h1
    by_cases h2 : 2199 < y
    · have e2 : decide (2199 < y) = true := decide_eq_true h2
      simp only [op2_s', op_s', op2_op, op2_op2, op2_cond, ev_v', call_r', map_c', map_n', bin_e', pick_e', not_e, ext_e', nth_z', nth_1', nth_2', nth_3', gval_e, gval_u', cmp_e, orUndef_t', orUndef_f', condV_t', condV_f', cond_true, cond_false, eqI_eq, neI_eq, ltI_eq, leI_eq, gtI_eq', geI_eq, Bool.not_true, Bool.not_false, beq_self_eq_true, tf_beq, ft_beq, eq_self, decide_true, decide_false, oneOf1, orU_some, e1, e2]
      rfl
    · have e2 : decide (2199 < y) = false := decide_eq_false h2
      by_cases h3 : d < 1
      · have e3 : decide (d < 1) = true := decide_eq_true h3
        simp only [op2_s', op_s', op2_op, op2_op2, op2_cond, ev_v', call_r', map_c', map_n', bin_e', pick_e', not_e, ext_e', nth_z', nth_1', nth_2', nth_3', gval_e, gval_u', cmp_e, orUndef_t', orUndef_f', condV_t', condV_f', cond_true, cond_false, eqI_eq, neI_eq, ltI_eq, leI_eq, gtI_eq', geI_eq, Bool.not_true, Bool.not_false, beq_self_eq_true, tf_beq, ft_beq, eq_self, decide_true, decide_false, oneOf1, orU_some, e1, e2, e3]
        rfl
      · have e3 : decide (d < 1) = false := decide_eq_false h3
        have e4 : decide (daysF y m < d) = true := decide_eq_true (by omega)
        simp only [op2_s', op_s', op2_op, op2_op2, op2_cond, ev_v', call_r', map_c', map_n', bin_e', pick_e', not_e, ext_e', nth_z', nth_1', nth_2', nth_3', gval_e, gval_u', cmp_e, orUndef_t', orUndef_f', condV_t', condV_f', cond_true, cond_false, eqI_eq, neI_eq, ltI_eq, leI_eq, gtI_eq', geI_eq, Bool.not_true, Bool.not_false, beq_self_eq_true, tf_beq, ft_beq, eq_self, decide_true, decide_false, oneOf1, orU_some, e1, e2, e3, e4, e5]
        rfl
/-! Months -/
def atF (y : Int) (k : Nat) (q : Int) : Int := (y - 1900) * 12 + k + q
theorem months_in (rec : Rec) (N : Nat) (hd : ∀ y m s, rec 17 [.int .i64 y, .int .i64 m] s = some (.int .i64 (daysF y m), s))
    (hof : ∀ y d (k : Nat) s, 1900 ≤ y → y ≤ 2199 → k ≤ 11 → 1 ≤ d → d ≤ daysF y ((k : Int) + 1) → rec 11 [.int .i64 y, .int .i64 ((k : Int) + 1), .int .i64 d] s = some (ofV y k d, s))
    (n q y d : Int) (k : Nat) (s : St) (h14 : rec 14 [.int .i64 n] s = some (dateV y k d, s)) (hn : IsDate n y k d) (hq1 : -3600 ≤ q) (hq2 : q ≤ 3600) (ha1 : 0 ≤ atF y k q) (ha2 : atF y k q < 3600) :
    ∃ (j : Nat), atF y k q = (atF y k q / 12) * 12 + j ∧ j ≤ 11 ∧ callF rec N c12 [.int .i64 n, .int .i64 q] s = some (ofV (1900 + atF y k q / 12) j (min d (daysF (1900 + atF y k q / 12) ((j : Int) + 1))), s) := by
  obtain ⟨p1, p2, p3, p4, p5, p6⟩ := hn
  refine ⟨(atF y k q % 12).toNat, by omega, by omega, ?_⟩
  have ej : ((atF y k q % 12).toNat : Int) = atF y k q % 12 := by omega
  obtain ⟨a, ha⟩ : ∃ a, a = atF y k q := ⟨_, rfl⟩
  rw [← ha] at ha1 ha2 ej ⊢
  have hat : (y - 1900) * 12 + ((k : Int) + 1) - 1 + q = a := by rw [ha]; unfold atF; omega
  have e1 : decide (q < -3600) = false := decide_eq_false (by omega)
  have e2 : decide (3600 < q) = false := decide_eq_false (by omega)
  have e3 : decide (a < 0) = false := decide_eq_false (by omega)
  have e4 : decide (3600 ≤ a) = false := decide_eq_false (by omega)
  have hdi := days_in (1900 + a / 12) (a % 12 + 1) (by omega) (by omega)
  have h11 := hof (1900 + a / 12) (min d (daysF (1900 + a / 12) (a % 12 + 1))) (a % 12).toNat s (by omega) (by omega) (by omega) (by omega) (by rw [ej]; omega)
  rw [ej] at h11 ⊢
  have h17 := hd (1900 + a / 12) (a % 12 + 1) s
  unfold dateV at h14
  rw [d12]
  unfold D12
  simp (disch := omega) only [op2_s', op_s', op2_op, op2_op2, op2_cond, ev_v', call_r', map_c', map_n', bin_e', pick_e', not_e, ext_e', nth_z', nth_1', nth_2', nth_3', gval_e, gval_u', cmp_e, orUndef_t', orUndef_f', condV_t', condV_f', cond_true, cond_false, eqI_eq, neI_eq, ltI_eq, leI_eq, gtI_eq', geI_eq, Bool.not_true, Bool.not_false, beq_self_eq_true, tf_beq, ft_beq, eq_self, decide_true, decide_false, oneOf1, orU_some, h14, e1, e2, sub_e, mul_e, add_e, hat, e3, e4, quo_e, rem_e, h17, min_e, h11, ofV]
  rfl
theorem months_out (rec : Rec) (N : Nat) (n q y d : Int) (k : Nat) (s : St) (h14 : rec 14 [.int .i64 n] s = some (dateV y k d, s)) (hn : IsDate n y k d) (h : ¬ (-3600 ≤ q ∧ q ≤ 3600 ∧ 0 ≤ atF y k q ∧ atF y k q < 3600)) :
    callF rec N c12 [.int .i64 n, .int .i64 q] s = some (noV, s) := by
  obtain ⟨p1, p2, p3, p4, p5, p6⟩ := hn
  unfold dateV at h14
  rw [d12]
  unfold D12
  by_cases h1 : q < -3600
  · have e1 : decide (q < -3600) = true := decide_eq_true h1
    simp only [op2_s', op_s', op2_op, op2_op2, op2_cond, ev_v', call_r', map_c', map_n', bin_e', pick_e', not_e, ext_e', nth_z', nth_1', nth_2', nth_3', gval_e, gval_u', cmp_e, orUndef_t', orUndef_f', condV_t', condV_f', cond_true, cond_false, eqI_eq, neI_eq, ltI_eq, leI_eq, gtI_eq', geI_eq, Bool.not_true, Bool.not_false, beq_self_eq_true, tf_beq, ft_beq, eq_self, decide_true, decide_false, oneOf1, orU_some, h14, e1]
    rfl
  · have e1 : decide (q < -3600) = false := decide_eq_false h1
    by_cases h2 : 3600 < q
    · have e2 : decide (3600 < q) = true := decide_eq_true h2
      simp only [op2_s', op_s', op2_op, op2_op2, op2_cond, ev_v', call_r', map_c', map_n', bin_e', pick_e', not_e, ext_e', nth_z', nth_1', nth_2', nth_3', gval_e, gval_u', cmp_e, orUndef_t', orUndef_f', condV_t', condV_f', cond_true, cond_false, eqI_eq, neI_eq, ltI_eq, leI_eq, gtI_eq', geI_eq, Bool.not_true, Bool.not_false, beq_self_eq_true, tf_beq, ft_beq, eq_self, decide_true, decide_false, oneOf1, orU_some, h14, e1, e2]
      rfl
    · have e2 : decide (3600 < q) = false := decide_eq_false h2
      obtain ⟨a, ha⟩ : ∃ a, a = atF y k q := ⟨_, rfl⟩
      have hat : (y - 1900) * 12 + ((k : Int) + 1) - 1 + q = a := by rw [ha]; unfold atF; omega
      by_cases h3 : a < 0
      · have e3 : decide (a < 0) = true := decide_eq_true h3
        simp (disch := omega) only [op2_s', op_s', op2_op, op2_op2, op2_cond, ev_v', call_r', map_c', map_n', bin_e', pick_e', not_e, ext_e', nth_z', nth_1', nth_2', nth_3', gval_e, gval_u', cmp_e, orUndef_t', orUndef_f', condV_t', condV_f', cond_true, cond_false, eqI_eq, neI_eq, ltI_eq, leI_eq, gtI_eq', geI_eq, Bool.not_true, Bool.not_false, beq_self_eq_true, tf_beq, ft_beq, eq_self, decide_true, decide_false, oneOf1, orU_some, h14, e1, e2, sub_e, mul_e, add_e, hat, e3]
        rfl
      · have e3 : decide (a < 0) = false := decide_eq_false h3
        have e4 : decide (3600 ≤ a) = true := decide_eq_true (by omega)
        simp (disch := omega) only [op2_s', op_s', op2_op, op2_op2, op2_cond, ev_v', call_r', map_c', map_n', bin_e', pick_e', not_e, ext_e', nth_z', nth_1', nth_2', nth_3', gval_e, gval_u', cmp_e, orUndef_t', orUndef_f', condV_t', condV_f', cond_true, cond_false, eqI_eq, neI_eq, ltI_eq, leI_eq, gtI_eq', geI_eq, Bool.not_true, Bool.not_false, beq_self_eq_true, tf_beq, ft_beq, eq_self, decide_true, decide_false, oneOf1, orU_some, h14, e1, e2, sub_e, mul_e, add_e, hat, e3, e4]
        rfl
theorem months_no (rec : Rec) (N : Nat) (n q : Int) (s : St) (h14 : rec 14 [.int .i64 n] s = some (dateN, s)) :
    callF rec N c12 [.int .i64 n, .int .i64 q] s = some (noV, s) := by
  unfold dateN at h14
  rw [d12]
  unfold D12
  simp only [op2_s', op_s', op2_op, op2_op2, op2_cond, ev_v', call_r', map_c', map_n', bin_e', pick_e', not_e, ext_e', nth_z', nth_1', nth_2', nth_3', gval_e, gval_u', cmp_e, orUndef_t', orUndef_f', condV_t', condV_f', cond_true, cond_false, eqI_eq, neI_eq, ltI_eq, leI_eq, gtI_eq', geI_eq, Bool.not_true, Bool.not_false, beq_self_eq_true, tf_beq, ft_beq, eq_self, decide_true, decide_false, oneOf1, orU_some, h14]
  rfl
end Go.Proofs.YtdfmhjbmenfaeaaDoor.AbsCalD
