import Derived.Test.YtdfmhjbmenfaeaaDoorAbsCalOE
import Derived.Test.YtdfmhjbmenfaeaaDoorAbsZ
namespace Go.Proofs.YtdfmhjbmenfaeaaDoor.AbsCalO
open Go Go.Abs Go.Proofs
set_option maxRecDepth 100000
set_option linter.unusedVariables false
set_option linter.unusedSimpArgs false
def leapF (y : Int) : Bool := decide (y.tmod 4 = 0) && !decide (y.tmod 100 = 0) || decide (y.tmod 400 = 0)
theorem leap (rec : Rec) (n : Nat) (y : Int) (s : St) : callF rec n c22 [.int .i64 y] s = some (.bool (leapF y), s) := by
  unfold callF leapF
  simp only [c22, xSeq, xOps, xRet, runOps_cons, runOps_n, op1_eq, op1_g, run_mov, op2_some, opt_s, ev_v, ev_t, putT_some, bin_eq, path0, put_h_n, put_l_n, put_r_n, put_h_c, put_l_c, put_r_c, get_n, get_h_c, get_l_c, get_r_c, orU_some, frame, rem_eq _ _ 4 (by decide), rem_eq _ _ 100 (by decide), rem_eq _ _ 400 (by decide), cmp_eq, gval_b, eqI_eq, neI_eq, beq_self_eq_true, cond_true, cond_false]
  generalize decide (y.tmod 4 = 0) = b1
  generalize decide (y.tmod 100 = 0) = b2
  generalize decide (y.tmod 400 = 0) = b3
  cases b1 <;> cases b2 <;> cases b3 <;> rfl
def beforeF (y : Int) : Int := (y - 1900) * 365 + ((y - 1) / 4 - 474 - ((y - 1) / 100 - 18) + ((y - 1) / 400 - 4))
theorem before (rec : Rec) (n : Nat) (y : Int) (s : St) (h1 : 1900 ≤ y) (h2 : y ≤ 2300) : callF rec n c26 [.int .i64 y] s = some (.int .i64 (beforeF y), s) := by
  unfold callF beforeF
  simp (disch := omega) only [c26, xSeq, xOps, xRet, runOps_cons, runOps_n, op1_eq, op1_g, run_mov, op2_some, opt_s, ev_v, ev_t, putT_some, bin_eq, path0, put_h_n, put_l_n, put_r_n, put_h_c, put_l_c, put_r_c, get_n, get_h_c, get_l_c, get_r_c, orU_some, frame, add_i, sub_i, mul_i, quo_i, cmp_eq, gval_b, eqI_eq, neI_eq]
  rfl
theorem round1 (rec : Rec) (N : Nat) (hb : ∀ y s, 1900 ≤ y → y ≤ 2300 → rec 26 [.int .i64 y] s = some (.int .i64 (beforeF y), s)) (n y : Int) (fs : Frm) (s : St) (h0 : fs.get t0 = some (.int .i64 n)) (h2 : fs.get t2 = some (.int .i64 y)) (hy : 1900 ≤ y) (hy2 : y < 2199) (hn : beforeF (y + 1) ≤ n) :
    ∃ fs', c14_l0 rec N fs s = some (.norm, fs', s) ∧ fs'.get t0 = some (.int .i64 n) ∧ fs'.get t2 = some (.int .i64 (y + 1)) := by
  have e1 : decide (y < 2199) = true := decide_eq_true hy2
  have e2 : decide (beforeF (y + 1) ≤ n) = true := decide_eq_true hn
  have e3 := hb (y + 1) s (by omega) (by omega)
  simp (disch := omega) only [c14_l0, xSeq, xOps, xRet, xSkip, xExit, xBlock, xCond, runOps_cons, runOps_n, op1_eq, op1_g, run_mov, op2_some, opt_s, ev_v, ev_t, putT_some, bin_eq, get_put, ep_hh, ep_hl, ep_hr, ep_lh, ep_rh, ep_ll, ep_rr, ep_lr, ep_rl, orU_some, add_i, sub_i, mul_i, quo_i, cmp_eq, gval_b, eqI_eq, neI_eq, ltI_eq, leI_eq, call_eq, mapN_c, mapN_n, pick_b, cond_true, cond_false, beq_self_eq_true, decide_true, decide_false, h0, h2, e1, e2, e3]
  refine ⟨_, rfl, ?_, ?_⟩
  · simp only [get_put, ep_hh, ep_hl, ep_hr, ep_lh, ep_rh, ep_ll, ep_rr, ep_lr, ep_rl, cond_true, cond_false, h0]
  · simp only [get_put, ep_hh, ep_hl, ep_hr, ep_lh, ep_rh, ep_ll, ep_rr, ep_lr, ep_rl, cond_true, cond_false, h0]
theorem exit1 (rec : Rec) (N : Nat) (hb : ∀ y s, 1900 ≤ y → y ≤ 2300 → rec 26 [.int .i64 y] s = some (.int .i64 (beforeF y), s)) (n y : Int) (fs : Frm) (s : St) (h0 : fs.get t0 = some (.int .i64 n)) (h2 : fs.get t2 = some (.int .i64 y)) (hy : 1900 ≤ y) (hy2 : y ≤ 2199) (hn : y = 2199 ∨ n < beforeF (y + 1)) :
    ∃ fs', c14_l0 rec N fs s = some (.exit 0, fs', s) ∧ fs'.get t0 = some (.int .i64 n) ∧ fs'.get t2 = some (.int .i64 y) := by
  by_cases hl : y < 2199
  · have e1 : decide (y < 2199) = true := decide_eq_true hl
    have e2 : decide (beforeF (y + 1) ≤ n) = false := decide_eq_false (by omega)
    have e3 := hb (y + 1) s (by omega) (by omega)
    simp (disch := omega) only [c14_l0, xSeq, xOps, xRet, xSkip, xExit, xBlock, xCond, runOps_cons, runOps_n, op1_eq, op1_g, run_mov, op2_some, opt_s, ev_v, ev_t, putT_some, bin_eq, get_put, ep_hh, ep_hl, ep_hr, ep_lh, ep_rh, ep_ll, ep_rr, ep_lr, ep_rl, orU_some, add_i, sub_i, mul_i, quo_i, cmp_eq, gval_b, eqI_eq, neI_eq, ltI_eq, leI_eq, call_eq, mapN_c, mapN_n, pick_b, cond_true, cond_false, beq_self_eq_true, decide_true, decide_false, h0, h2, e1, e2, e3]
    refine ⟨_, rfl, ?_, ?_⟩
    · simp only [get_put, ep_hh, ep_hl, ep_hr, ep_lh, ep_rh, ep_ll, ep_rr, ep_lr, ep_rl, cond_true, cond_false, h0, h2]
    · simp only [get_put, ep_hh, ep_hl, ep_hr, ep_lh, ep_rh, ep_ll, ep_rr, ep_lr, ep_rl, cond_true, cond_false, h0, h2]
  · have e1 : decide (y < 2199) = false := decide_eq_false hl
    simp (disch := omega) only [c14_l0, xSeq, xOps, xRet, xSkip, xExit, xBlock, xCond, runOps_cons, runOps_n, op1_eq, op1_g, run_mov, op2_some, opt_s, ev_v, ev_t, putT_some, bin_eq, get_put, ep_hh, ep_hl, ep_hr, ep_lh, ep_rh, ep_ll, ep_rr, ep_lr, ep_rl, orU_some, add_i, sub_i, mul_i, quo_i, cmp_eq, gval_b, eqI_eq, neI_eq, ltI_eq, leI_eq, call_eq, mapN_c, mapN_n, pick_b, cond_true, cond_false, beq_self_eq_true, decide_true, decide_false, h0, h2, e1, bft]
    refine ⟨_, rfl, ?_, ?_⟩
    · simp only [get_put, ep_hh, ep_hl, ep_hr, ep_lh, ep_rh, ep_ll, ep_rr, ep_lr, ep_rl, cond_true, cond_false, h0, h2]
    · simp only [get_put, ep_hh, ep_hl, ep_hr, ep_lh, ep_rh, ep_ll, ep_rr, ep_lr, ep_rl, cond_true, cond_false, h0, h2]
theorem loop1 (rec : Rec) (N : Nat) (hb : ∀ y s, 1900 ≤ y → y ≤ 2300 → rec 26 [.int .i64 y] s = some (.int .i64 (beforeF y), s)) (n : Int) (s : St) : ∀ (k fuel : Nat) (y : Int) (fs : Frm), fs.get t0 = some (.int .i64 n) → fs.get t2 = some (.int .i64 y) → 1900 ≤ y → y + k = 2199 → k < fuel → beforeF y ≤ n →
    ∃ fs' y', loopF (c14_l0 rec N) fuel fs s = some (.exit 0, fs', s) ∧ fs'.get t0 = some (.int .i64 n) ∧ fs'.get t2 = some (.int .i64 y') ∧ 1900 ≤ y' ∧ y' ≤ 2199 ∧ beforeF y' ≤ n ∧ (y' = 2199 ∨ n < beforeF (y' + 1)) := by
  intro k
  induction k with
  | zero =>
    intro fuel y fs h0 h2 hy hk hf hn
    obtain ⟨fuel, rfl⟩ : ∃ m, fuel = m + 1 := ⟨fuel - 1, by omega⟩
    obtain ⟨fs', hr, g0, g2⟩ := exit1 rec N hb n y fs s h0 h2 hy (by omega) (.inl (by omega))
    exact ⟨fs', y, by rw [loopF_s, seqF_eq, hr]; rfl, g0, g2, hy, by omega, hn, .inl (by omega)⟩
  | succ k ih =>
    intro fuel y fs h0 h2 hy hk hf hn
    obtain ⟨fuel, rfl⟩ : ∃ m, fuel = m + 1 := ⟨fuel - 1, by omega⟩
    by_cases hb2 : beforeF (y + 1) ≤ n
    · obtain ⟨fs1, hr, g0, g2⟩ := round1 rec N hb n y fs s h0 h2 hy (by omega) hb2
      obtain ⟨fs', y', hl, rest⟩ := ih fuel (y + 1) fs1 g0 g2 (by omega) (by omega) (by omega) hb2
      exact ⟨fs', y', by rw [loopF_s, seqF_eq, hr]; exact hl, rest⟩
    · obtain ⟨fs', hr, g0, g2⟩ := exit1 rec N hb n y fs s h0 h2 hy (by omega) (.inr (by omega))
      exact ⟨fs', y, by rw [loopF_s, seqF_eq, hr]; rfl, g0, g2, hy, by omega, hn, .inr (by omega)⟩
def daysF (y m : Int) : Int := if m = 2 then (if leapF y then 29 else 28) else if m = 4 ∨ m = 6 ∨ m = 9 ∨ m = 11 then 30 else if 1 ≤ m ∧ m ≤ 12 then 31 else 0
theorem days (rec : Rec) (N : Nat) (y m : Int) (s : St) (hl : ∀ y s, rec 22 [.int .i64 y] s = some (.bool (leapF y), s)) (h1 : 1 ≤ m) (h2 : m ≤ 12) : callF rec N c17 [.int .i64 y, .int .i64 m] s = some (.int .i64 (daysF y m), s) := by
  have : m = 1 ∨ m = 2 ∨ m = 3 ∨ m = 4 ∨ m = 5 ∨ m = 6 ∨ m = 7 ∨ m = 8 ∨ m = 9 ∨ m = 10 ∨ m = 11 ∨ m = 12 := by omega
  rcases this with rfl | rfl | rfl | rfl | rfl | rfl | rfl | rfl | rfl | rfl | rfl | rfl
  case inr.inl =>
    unfold callF daysF
    simp only [c17, frame, path0, show path 1 = t1 from rfl, xSeq, xOps, xRet, xSkip, xExit, xBlock, xCond, runOps_cons, runOps_n, op1_eq, op1_g, run_mov, op2_some, opt_s, ev_v, ev_t, putT_some, bin_eq, get_put, ep_hh, ep_hl, ep_hr, ep_lh, ep_rh, ep_ll, ep_rr, ep_lr, ep_rl, orU_some, add_i, sub_i, mul_i, quo_i, cmp_eq, gval_b, eqI_eq, neI_eq, ltI_eq, leI_eq, geI_eq, call_eq, mapN_c, mapN_n, pick_b, cond_true, cond_false, beq_self_eq_true, decide_true, decide_false, hl]
    generalize leapF y = b
    cases b <;> rfl
  all_goals rfl
theorem round2 (rec : Rec) (N : Nat) (hd : ∀ y m s, 1 ≤ m → m ≤ 12 → rec 17 [.int .i64 y, .int .i64 m] s = some (.int .i64 (daysF y m), s)) (n y m : Int) (fs : Frm) (s : St) (h0 : fs.get t0 = some (.int .i64 n)) (h2 : fs.get t2 = some (.int .i64 y)) (h3 : fs.get t3 = some (.int .i64 m)) (hn0 : 0 ≤ n) (hn1 : n ≤ 100000) (hm1 : 1 ≤ m) (hm2 : m ≤ 12) (hd0 : 0 ≤ daysF y m) (hd1 : daysF y m ≤ 31) (hn : daysF y m ≤ n) :
    ∃ fs', c14_l1 rec N fs s = some (.norm, fs', s) ∧ fs'.get t0 = some (.int .i64 (n - daysF y m)) ∧ fs'.get t2 = some (.int .i64 y) ∧ fs'.get t3 = some (.int .i64 (m + 1)) := by
  have e2 : (!decide (n < daysF y m)) = true := by simp; omega
  have e3 := hd y m s hm1 hm2
  have e4 : decide (daysF y m ≤ n) = true := decide_eq_true hn
  simp (disch := omega) only [c14_l1, xSeq, xOps, xRet, xSkip, xExit, xBlock, xCond, runOps_cons, runOps_n, op1_eq, op1_g, run_mov, op2_some, opt_s, ev_v, ev_t, putT_some, bin_eq, get_put, ep_hh, ep_hl, ep_hr, ep_lh, ep_rh, ep_ll, ep_rr, ep_lr, ep_rl, orU_some, add_i, sub_i, mul_i, quo_i, cmp_eq, gval_b, eqI_eq, neI_eq, ltI_eq, leI_eq, geI_eq, call_eq, mapN_c, mapN_n, pick_b, cond_true, cond_false, beq_self_eq_true, decide_true, decide_false, h0, h2, h3, e2, e3, e4]
  refine ⟨_, rfl, ?_, ?_, ?_⟩
  · simp only [get_put, ep_hh, ep_hl, ep_hr, ep_lh, ep_rh, ep_ll, ep_rr, ep_lr, ep_rl, cond_true, cond_false, h0, h2, h3]
  · simp only [get_put, ep_hh, ep_hl, ep_hr, ep_lh, ep_rh, ep_ll, ep_rr, ep_lr, ep_rl, cond_true, cond_false, h0, h2, h3]
  · simp only [get_put, ep_hh, ep_hl, ep_hr, ep_lh, ep_rh, ep_ll, ep_rr, ep_lr, ep_rl, cond_true, cond_false, h0, h2, h3]
theorem exit2 (rec : Rec) (N : Nat) (hd : ∀ y m s, 1 ≤ m → m ≤ 12 → rec 17 [.int .i64 y, .int .i64 m] s = some (.int .i64 (daysF y m), s)) (n y m : Int) (fs : Frm) (s : St) (h0 : fs.get t0 = some (.int .i64 n)) (h2 : fs.get t2 = some (.int .i64 y)) (h3 : fs.get t3 = some (.int .i64 m)) (hm1 : 1 ≤ m) (hm2 : m ≤ 12) (hn : n < daysF y m) :
    ∃ fs', c14_l1 rec N fs s = some (.exit 2, fs', s) ∧ fs'.get t0 = some (.int .i64 n) ∧ fs'.get t2 = some (.int .i64 y) ∧ fs'.get t3 = some (.int .i64 m) := by
  have e3 := hd y m s hm1 hm2
  have e4 : decide (daysF y m ≤ n) = false := decide_eq_false (by omega)
  simp (disch := omega) only [c14_l1, xSeq, xOps, xRet, xSkip, xExit, xBlock, xCond, runOps_cons, runOps_n, op1_eq, op1_g, run_mov, op2_some, opt_s, ev_v, ev_t, putT_some, bin_eq, get_put, ep_hh, ep_hl, ep_hr, ep_lh, ep_rh, ep_ll, ep_rr, ep_lr, ep_rl, orU_some, add_i, sub_i, mul_i, quo_i, cmp_eq, gval_b, eqI_eq, neI_eq, ltI_eq, leI_eq, geI_eq, call_eq, mapN_c, mapN_n, pick_b, cond_true, cond_false, beq_self_eq_true, decide_true, decide_false, h0, h2, h3, e3, e4]
  refine ⟨_, rfl, ?_, ?_, ?_⟩
  · simp only [get_put, ep_hh, ep_hl, ep_hr, ep_lh, ep_rh, ep_ll, ep_rr, ep_lr, ep_rl, cond_true, cond_false, h0, h2, h3]
  · simp only [get_put, ep_hh, ep_hl, ep_hr, ep_lh, ep_rh, ep_ll, ep_rr, ep_lr, ep_rl, cond_true, cond_false, h0, h2, h3]
  · simp only [get_put, ep_hh, ep_hl, ep_hr, ep_lh, ep_rh, ep_ll, ep_rr, ep_lr, ep_rl, cond_true, cond_false, h0, h2, h3]
def sumTo (y : Int) : Nat → Int
  | 0 => 0
  | k + 1 => sumTo y k + daysF y ((k : Int) + 1)
theorem days_in (y m : Int) (h1 : 1 ≤ m) (h2 : m ≤ 12) : 28 ≤ daysF y m ∧ daysF y m ≤ 31 := by
  unfold daysF
  split
  · split <;> omega
  · split
    · omega
    · split <;> omega
theorem loop2 (rec : Rec) (N : Nat) (hd : ∀ y m s, 1 ≤ m → m ≤ 12 → rec 17 [.int .i64 y, .int .i64 m] s = some (.int .i64 (daysF y m), s)) (y : Int) (s : St) : ∀ (j k fuel : Nat) (n : Int) (fs : Frm), fs.get t0 = some (.int .i64 n) → fs.get t2 = some (.int .i64 y) → fs.get t3 = some (.int .i64 ((k : Int) + 1)) → k + j = 11 → j < fuel → 0 ≤ n → n ≤ 1000 → n + sumTo y k < sumTo y 12 →
    ∃ fs' k' n', loopF (c14_l1 rec N) fuel fs s = some (.exit 2, fs', s) ∧ fs'.get t0 = some (.int .i64 n') ∧ fs'.get t2 = some (.int .i64 y) ∧ fs'.get t3 = some (.int .i64 (((k' : Nat) : Int) + 1)) ∧ k' ≤ 11 ∧ 0 ≤ n' ∧ n' < daysF y ((k' : Int) + 1) ∧ n' + sumTo y k' = n + sumTo y k := by
  intro j
  induction j with
  | zero =>
    intro k fuel n fs h0 h2 h3 hk hf hn0 hn1 hs
    obtain ⟨fuel, rfl⟩ : ∃ m, fuel = m + 1 := ⟨fuel - 1, by omega⟩
    obtain rfl : k = 11 := by omega
    have hlt : n < daysF y (((11 : Nat) : Int) + 1) := by
      have e : sumTo y 12 = sumTo y 11 + daysF y (((11 : Nat) : Int) + 1) := rfl
      omega
    obtain ⟨fs', hr, g0, g2, g3⟩ := exit2 rec N hd n y _ fs s h0 h2 h3 (by omega) (by omega) hlt
    exact ⟨fs', 11, n, by rw [loopF_s, seqF_eq, hr]; rfl, g0, g2, g3, by omega, hn0, hlt, rfl⟩
  | succ j ih =>
    intro k fuel n fs h0 h2 h3 hk hf hn0 hn1 hs
    obtain ⟨fuel, rfl⟩ : ∃ m, fuel = m + 1 := ⟨fuel - 1, by omega⟩
    obtain ⟨d1, d2⟩ := days_in y ((k : Int) + 1) (by omega) (by omega)
    by_cases hlt : n < daysF y ((k : Int) + 1)
    · obtain ⟨fs', hr, g0, g2, g3⟩ := exit2 rec N hd n y _ fs s h0 h2 h3 (by omega) (by omega) hlt
      exact ⟨fs', k, n, by rw [loopF_s, seqF_eq, hr]; rfl, g0, g2, g3, by omega, hn0, hlt, rfl⟩
    · obtain ⟨fs1, hr, g0, g2, g3⟩ := round2 rec N hd n y _ fs s h0 h2 h3 hn0 (by omega) (by omega) (by omega) (by omega) d2 (by omega)
      have e : sumTo y (k + 1) = sumTo y k + daysF y ((k : Int) + 1) := rfl
      obtain ⟨fs', k', n', hl, g0', g2', g3', a1, a2, a3, a4⟩ := ih (k + 1) fuel _ fs1 g0 g2 (by simpa using g3) (by omega) (by omega) (by omega) (by omega) (by omega)
      exact ⟨fs', k', n', by rw [loopF_s, seqF_eq, hr]; exact hl, g0', g2', g3', a1, a2, a3, by omega⟩
theorem years : ∀ k : Nat, k < 300 → beforeF (1900 + (k : Int) + 1) = beforeF (1900 + (k : Int)) + sumTo (1900 + (k : Int)) 12 := by decide +kernel
theorem sum_le (y : Int) : ∀ k : Nat, k ≤ 12 → sumTo y k ≤ 31 * k
  | 0, _ => by show (0 : Int) ≤ _; omega
  | k + 1, h => by
    have h1 := sum_le y k (by omega)
    have h2 := (days_in y ((k : Int) + 1) (by omega) (by omega)).2
    show sumTo y k + daysF y ((k : Int) + 1) ≤ _
    omega
theorem res_loop1 {rec : Rec} {N : Nat} (hN : 400 ≤ N) (hb : ∀ y s, 1900 ≤ y → y ≤ 2300 → rec 26 [.int .i64 y] s = some (.int .i64 (beforeF y), s)) {n : Int} {s : St} {fs : Frm} {Φ : AExit → Frm → St → Prop} (h0 : fs.get t0 = some (.int .i64 n)) (h2 : fs.get t2 = some (.int .i64 1900)) (hn : beforeF 1900 ≤ n)
    (k : ∀ fs1 y, fs1.get t0 = some (.int .i64 n) → fs1.get t2 = some (.int .i64 y) → 1900 ≤ y → y ≤ 2199 → beforeF y ≤ n → (y = 2199 ∨ n < beforeF (y + 1)) → Φ .norm fs1 s) : Res (xBlock 0 (xLoop c14_l0)) rec N fs s Φ := by
  obtain ⟨fs1, y, hl, g0, g2, y1, y2, y3, y4⟩ := loop1 rec N hb n s 299 N 1900 fs h0 h2 (by omega) (by omega) (by omega) hn
  exact Res.loop hl (k fs1 y g0 g2 y1 y2 y3 y4)
theorem res_loop2 {rec : Rec} {N : Nat} (hN : 400 ≤ N) (hd : ∀ y m s, 1 ≤ m → m ≤ 12 → rec 17 [.int .i64 y, .int .i64 m] s = some (.int .i64 (daysF y m), s)) {y n : Int} {s : St} {fs : Frm} {Φ : AExit → Frm → St → Prop} (h0 : fs.get t0 = some (.int .i64 n)) (h2 : fs.get t2 = some (.int .i64 y)) (h3 : fs.get t3 = some (.int .i64 (((0 : Nat) : Int) + 1))) (hn : 0 ≤ n) (hn1 : n ≤ 1000) (hs : n < sumTo y 12)
    (k : ∀ fs1 (k : Nat) n', fs1.get t0 = some (.int .i64 n') → fs1.get t2 = some (.int .i64 y) → fs1.get t3 = some (.int .i64 ((k : Int) + 1)) → k ≤ 11 → 0 ≤ n' → n' < daysF y ((k : Int) + 1) → n' + sumTo y k = n → Φ .norm fs1 s) : Res (xBlock 2 (xLoop c14_l1)) rec N fs s Φ := by
  obtain ⟨fs1, k', n', hl, g0, g2, g3, a1, a2, a3, a4⟩ := loop2 rec N hd y s 11 0 N n fs h0 h2 h3 (by omega) (by omega) hn hn1 (by show n + 0 < _; omega)
  exact Res.loop hl (k fs1 k' n' g0 g2 g3 a1 a2 a3 (by have e : sumTo y 0 = 0 := rfl; omega))
def IsDate (n y : Int) (k : Nat) (d : Int) : Prop := 1900 ≤ y ∧ y ≤ 2199 ∧ k ≤ 11 ∧ 1 ≤ d ∧ d ≤ daysF y ((k : Int) + 1) ∧ n = beforeF y + sumTo y k + d - 1
theorem date_in (rec : Rec) (N : Nat) (hN : 400 ≤ N) (hday : ∀ n s, rec 28 [.int .i64 n] s = some (.bool (decide (0 ≤ n) && decide (n ≤ 109572)), s)) (hb : ∀ y s, 1900 ≤ y → y ≤ 2300 → rec 26 [.int .i64 y] s = some (.int .i64 (beforeF y), s))
    (hd : ∀ y m s, 1 ≤ m → m ≤ 12 → rec 17 [.int .i64 y, .int .i64 m] s = some (.int .i64 (daysF y m), s)) (n : Int) (s : St) (hn0 : 0 ≤ n) (hn1 : n ≤ 109572) :
    ∃ y k d, callF rec N c14 [.int .i64 n] s = some (tupOf [.int .i64 y, .int .i64 ((k : Nat) + 1 : Int), .int .i64 d, .bool true], s) ∧ IsDate n y k d := by
  suffices h : Res c14.code rec N (frame [.int .i64 n] 0 .nil) s (fun e f t => e = .ret ∧ t = s ∧ ∃ y k d, f.get t2 = some (.int .i64 y) ∧ f.get t3 = some (.int .i64 ((k : Nat) + 1 : Int)) ∧ f.get t4 = some (.int .i64 d) ∧ f.get t5 = some (.bool true) ∧ IsDate n y k d) by
    obtain ⟨e, f, t, h1, rfl, rfl, y, k, d, h2, h3, h4, h5, h6⟩ := h
    refine ⟨y, k, d, ?_, h6⟩
    unfold callF
    rw [h1]
    show some (oneOf [orU (f.get t2), orU (f.get t3), orU (f.get t4), orU (f.get t5)], t) = _
    rw [h2, h3, h4, h5]
    rfl
  have e1 : (decide (0 ≤ n) && decide (n ≤ 109572)) = true := by simp [hn0, hn1]
  have hdy := hday n s
  rw [e1] at hdy
  simp only [c14]
  refine Res.seq ?_
  refine Res.ops (by simp (disch := omega) only [runOps_cons, runOps_n, op1_eq, op1_g, run_mov, op2_some, opt_s, ev_v, ev_t, putT_some, bin_eq, get_put, ep_hh, ep_hl, ep_hr, ep_lh, ep_rh, ep_ll, ep_rr, ep_lr, ep_rl, orU_some, add_i, sub_i, mul_i, quo_i, cmp_eq, gval_b, eqI_eq, neI_eq, ltI_eq, leI_eq, geI_eq, call_eq, mapN_c, mapN_n, pick_b, not_eq, cond_true, cond_false, beq_self_eq_true, decide_true, decide_false, frame, path0]; rfl) ?_
  refine Res.seq ?_
  refine Res.seq ?_
  refine Res.ops (by simp (disch := omega) only [runOps_cons, runOps_n, op1_eq, op1_g, run_mov, op2_some, opt_s, ev_v, ev_t, putT_some, bin_eq, get_put, ep_hh, ep_hl, ep_hr, ep_lh, ep_rh, ep_ll, ep_rr, ep_lr, ep_rl, orU_some, add_i, sub_i, mul_i, quo_i, cmp_eq, gval_b, eqI_eq, neI_eq, ltI_eq, leI_eq, geI_eq, call_eq, mapN_c, mapN_n, pick_b, not_eq, cond_true, cond_false, beq_self_eq_true, decide_true, decide_false, frame, path0, hdy]; rfl) ?_
  refine Res.cond (t := false) (by simp only [get_put, ep_hh, ep_hl, ep_hr, ep_lh, ep_rh, ep_ll, ep_rr, ep_lr, ep_rl, cond_true, cond_false, frame, path0, ev_t, orU_some, Bool.not_true]) ?_
  refine Res.skip ?_
  refine Res.seq ?_
  refine Res.ops (by simp (disch := omega) only [runOps_cons, runOps_n, op1_eq, op1_g, run_mov, op2_some, opt_s, ev_v, ev_t, putT_some, bin_eq, get_put, ep_hh, ep_hl, ep_hr, ep_lh, ep_rh, ep_ll, ep_rr, ep_lr, ep_rl, orU_some, add_i, sub_i, mul_i, quo_i, cmp_eq, gval_b, eqI_eq, neI_eq, ltI_eq, leI_eq, geI_eq, call_eq, mapN_c, mapN_n, pick_b, not_eq, cond_true, cond_false, beq_self_eq_true, decide_true, decide_false, frame, path0]; rfl) ?_
  refine Res.seq ?_
  have b1900 : beforeF 1900 = 0 := by decide
  refine res_loop1 hN hb (n := n) ?_ ?_ (by omega) fun fs1 y g0 g2 y1 y2 y3 y4 => ?_
  · simp only [get_put, ep_hh, ep_hl, ep_hr, ep_lh, ep_rh, ep_ll, ep_rr, ep_lr, ep_rl, cond_true, cond_false, frame, path0, putT_some, ev_v, ev_t, orU_some]
  · simp only [get_put, ep_hh, ep_hl, ep_hr, ep_lh, ep_rh, ep_ll, ep_rr, ep_lr, ep_rl, cond_true, cond_false, frame, path0, putT_some, ev_v, ev_t, orU_some]
  have hy : n - beforeF y < sumTo y 12 := by
    obtain ⟨k, hk⟩ := Int.eq_ofNat_of_zero_le (show 0 ≤ y - 1900 by omega)
    have hyk : y = 1900 + (k : Int) := by omega
    have := years k (by omega)
    rw [← hyk] at this
    rcases y4 with h | h
    · have e : beforeF (y + 1) = 109573 := by rw [h]; decide
      omega
    · omega
  have hsum := sum_le y 12 (by omega)
  have hbef := hb y s y1 (by omega)
  refine Res.seq ?_
  refine Res.ops (by simp (disch := omega) only [runOps_cons, runOps_n, op1_eq, op1_g, run_mov, op2_some, opt_s, ev_v, ev_t, putT_some, bin_eq, get_put, ep_hh, ep_hl, ep_hr, ep_lh, ep_rh, ep_ll, ep_rr, ep_lr, ep_rl, orU_some, add_i, sub_i, mul_i, quo_i, cmp_eq, gval_b, eqI_eq, neI_eq, ltI_eq, leI_eq, geI_eq, call_eq, mapN_c, mapN_n, pick_b, not_eq, cond_true, cond_false, beq_self_eq_true, decide_true, decide_false, frame, path0, g0, g2, hbef]; rfl) ?_
  refine Res.seq ?_
  refine Res.ops (by simp (disch := omega) only [runOps_cons, runOps_n, op1_eq, op1_g, run_mov, op2_some, opt_s, ev_v, ev_t, putT_some, bin_eq, get_put, ep_hh, ep_hl, ep_hr, ep_lh, ep_rh, ep_ll, ep_rr, ep_lr, ep_rl, orU_some, add_i, sub_i, mul_i, quo_i, cmp_eq, gval_b, eqI_eq, neI_eq, ltI_eq, leI_eq, geI_eq, call_eq, mapN_c, mapN_n, pick_b, not_eq, cond_true, cond_false, beq_self_eq_true, decide_true, decide_false, frame, path0]; rfl) ?_
  refine Res.seq ?_
  refine res_loop2 hN hd (y := y) (n := n - beforeF y) ?_ ?_ ?_ (by omega) (by omega) hy fun fs2 k n' g0' g2' g3' k1 k2 k3 k4 => ?_
  · simp only [get_put, ep_hh, ep_hl, ep_hr, ep_lh, ep_rh, ep_ll, ep_rr, ep_lr, ep_rl, cond_true, cond_false, frame, path0, putT_some, ev_v, ev_t, orU_some, g0, g2]
  · simp only [get_put, ep_hh, ep_hl, ep_hr, ep_lh, ep_rh, ep_ll, ep_rr, ep_lr, ep_rl, cond_true, cond_false, frame, path0, putT_some, ev_v, ev_t, orU_some, g0, g2]
  · simp only [get_put, ep_hh, ep_hl, ep_hr, ep_lh, ep_rh, ep_ll, ep_rr, ep_lr, ep_rl, cond_true, cond_false, frame, path0, putT_some, ev_v, ev_t, orU_some, g0, g2]
    rfl
  obtain ⟨_, hd31⟩ := days_in y ((k : Int) + 1) (by omega) (by omega)
  refine Res.seq ?_
  refine Res.ops (by simp (disch := omega) only [runOps_cons, runOps_n, op1_eq, op1_g, run_mov, op2_some, opt_s, ev_v, ev_t, putT_some, bin_eq, get_put, ep_hh, ep_hl, ep_hr, ep_lh, ep_rh, ep_ll, ep_rr, ep_lr, ep_rl, orU_some, add_i, sub_i, mul_i, quo_i, cmp_eq, gval_b, eqI_eq, neI_eq, ltI_eq, leI_eq, geI_eq, call_eq, mapN_c, mapN_n, pick_b, not_eq, cond_true, cond_false, beq_self_eq_true, decide_true, decide_false, frame, path0, g0', g2', g3']; rfl) ?_
  refine Res.ret ⟨rfl, rfl, y, k, n' + 1, ?_, ?_, ?_, ?_, y1, y2, k1, by omega, by omega, by omega⟩
  all_goals simp only [get_put, ep_hh, ep_hl, ep_hr, ep_lh, ep_rh, ep_ll, ep_rr, ep_lr, ep_rl, cond_true, cond_false, frame, path0, putT_some, ev_v, ev_t, orU_some, g0', g2', g3']
/-! the functions of the table -/
theorem date_out (rec : Rec) (N : Nat) (hday : ∀ n s, rec 28 [.int .i64 n] s = some (.bool (decide (0 ≤ n) && decide (n ≤ 109572)), s)) (n : Int) (s : St) (hn : ¬ (0 ≤ n ∧ n ≤ 109572)) :
    callF rec N c14 [.int .i64 n] s = some (tupOf [.int .i64 0, .int .i64 0, .int .i64 0, .bool false], s) := by
  have e1 : (decide (0 ≤ n) && decide (n ≤ 109572)) = false := by simp only [Bool.and_eq_false_iff, decide_eq_false_iff_not]; omega
  have hdy := hday n s
  rw [e1] at hdy
  unfold callF
  simp only [c14, xSeq, xOps, xRet, xSkip, xCond, runOps_cons, runOps_n, op1_eq, op1_g, run_mov, op2_some, opt_s, ev_v, ev_t, putT_some, bin_eq, get_put, ep_hh, ep_hl, ep_hr, ep_lh, ep_rh, ep_ll, ep_rr, ep_lr, ep_rl, orU_some, call_eq, mapN_c, mapN_n, not_eq, cond_true, cond_false, frame, path0, hdy, Bool.not_false]
  rfl
theorem day (rec : Rec) (N : Nat) (n : Int) (s : St) : callF rec N c28 [.int .i64 n] s = some (.bool (decide (0 ≤ n) && decide (n ≤ 109572)), s) := by
  unfold callF
  simp only [c28, xSeq, xOps, xRet, runOps_cons, runOps_n, op1_eq, op1_g, run_mov, op2_some, opt_s, ev_v, ev_t, putT_some, bin_eq, get_put, ep_hh, ep_hl, ep_hr, ep_lh, ep_rh, ep_ll, ep_rr, ep_lr, ep_rl, orU_some, cmp_eq, gval_b, leI_eq, geI_eq, frame, path0, cond_true, cond_false]
  generalize decide (0 ≤ n) = b1
  generalize decide (n ≤ 109572) = b2
  cases b1 <;> cases b2 <;> rfl
noncomputable def E : Env := ⟨fns, noKnown⟩
theorem e22 (N : Nat) (y : Int) (s : St) : callN E (N + 1) 22 [.int .i64 y] s = some (.bool (leapF y), s) := leap (callN E N) N y s
theorem e26 (N : Nat) (y : Int) (s : St) (h1 : 1900 ≤ y) (h2 : y ≤ 2300) : callN E (N + 1) 26 [.int .i64 y] s = some (.int .i64 (beforeF y), s) := before (callN E N) N y s h1 h2
theorem e17 (N : Nat) (y m : Int) (s : St) (h1 : 1 ≤ m) (h2 : m ≤ 12) : callN E (N + 2) 17 [.int .i64 y, .int .i64 m] s = some (.int .i64 (daysF y m), s) := days (callN E (N + 1)) (N + 1) y m s (fun y s => e22 N y s) h1 h2
theorem e28 (N : Nat) (n : Int) (s : St) : callN E (N + 1) 28 [.int .i64 n] s = some (.bool (decide (0 ≤ n) && decide (n ≤ 109572)), s) := day (callN E N) N n s
theorem e14 (N : Nat) (n : Int) (s : St) (h0 : 0 ≤ n) (h1 : n ≤ 109572) : ∃ y k d, callN E (N + 500) 14 [.int .i64 n] s = some (tupOf [.int .i64 y, .int .i64 ((k : Nat) + 1 : Int), .int .i64 d, .bool true], s) ∧ IsDate n y k d :=
  date_in (callN E (N + 499)) (N + 499) (by omega) (fun n s => e28 (N + 498) n s) (fun y s => e26 (N + 498) y s) (fun y m s => e17 (N + 497) y m s) n s h0 h1
theorem e14o (N : Nat) (n : Int) (s : St) (h : ¬ (0 ≤ n ∧ n ≤ 109572)) : callN E (N + 500) 14 [.int .i64 n] s = some (tupOf [.int .i64 0, .int .i64 0, .int .i64 0, .bool false], s) :=
  date_out (callN E (N + 499)) (N + 499) (fun n s => e28 (N + 498) n s) n s h
end Go.Proofs.YtdfmhjbmenfaeaaDoor.AbsCalO
