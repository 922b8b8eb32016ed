import Derived.Test.YtikdjhlcbkkkfaaLexSB
namespace Go.Proofs.Ytikdjhlcbkkkfaa.AbsLexO
open Go Go.Abs Go.Proofs
set_option maxRecDepth 100000
set_option linter.unusedVariables false
set_option linter.unusedSimpArgs false

attribute [local congr] h_opt2 h_opt h_condV h_cond
/-! days: cal.Read -/
theorem rem_t (a b : Int) (hb : b ≠ 0) : int2 remO (.int .i64 a) (.int .i64 b) = some (.int .i64 (a.tmod b)) := by
  show remO .i64 a b = _
  unfold remO
  rw [eqI_eq, decide_eq_false hb, cond_false, forceI_eq]
def leapF (y : Int) : Bool := decide (y.tmod 4 = 0) && !decide (y.tmod 100 = 0) || decide (y.tmod 400 = 0)
theorem r65 (M : Nat) (y : Int) (s : St) : callN E (M + 1) 65 [.int .i64 y] s = some (.bool (leapF y), s) := by
  rw [x65]; unfold F65 leapF
  cases h1 : decide (y.tmod 4 = 0) <;> cases h2 : decide (y.tmod 100 = 0) <;> cases h3 : decide (y.tmod 400 = 0) <;> simp only [op2_s, op_s, bin_e, pick_e, not_e, ext_e, nth_z, nth_1, nth_2, nth_3, gval_e, gval_u, cmp_e, orUndef_t, orUndef_f, condV_t, condV_f, cond_true, cond_false, eqI_eq, neI_eq, ltI_eq, leI_eq, gtI_eq, geI_eq, Bool.not_true, Bool.not_false, bf_tt, bf_tf, bf_ft, bf_ff, decide_true, decide_false, oneOf_1, oneOf_2, oneOf_3, thenV_n, thenV_e, thenV_r, exV_e, exV_r, Nat.beq_refl, eq_self, rem_t _ 4 (by decide), rem_t _ 100 (by decide), rem_t _ 400 (by decide), h1, h2, h3] <;> rfl
def beforeF (y : Int) : Int := (y - 1900) * 365 + ((y - 1) / 4 - 474 - ((y - 1) / 100 - 18) + ((y - 1) / 400 - 4))
theorem r62 (M : Nat) (y : Int) (s : St) (h1 : 1900 ≤ y) (h2 : y ≤ 2300) : callN E (M + 1) 62 [.int .i64 y] s = some (.int .i64 (beforeF y), s) := by
  rw [x62]; unfold F62 beforeF
  simp (disch := omega) only [op2_s, op_s, bin_e, pick_e, not_e, ext_e, nth_z, nth_1, nth_2, nth_3, gval_e, gval_u, cmp_e, orUndef_t, orUndef_f, condV_t, condV_f, cond_true, cond_false, eqI_eq, neI_eq, ltI_eq, leI_eq, gtI_eq, geI_eq, Bool.not_true, Bool.not_false, bf_tt, bf_tf, bf_ft, bf_ff, decide_true, decide_false, oneOf_1, oneOf_2, oneOf_3, thenV_n, thenV_e, thenV_r, exV_e, exV_r, Nat.beq_refl, eq_self, add_e, sub_e, mul_e, quo_e]
def daysF (y m : Int) : Int := if m = 2 then (if leapF y then 29 else 28) else if m = 4 ∨ m = 6 ∨ m = 9 ∨ m = 11 then 30 else if 1 ≤ m ∧ m ≤ 12 then 31 else 0
theorem r61 (M : Nat) (y m : Int) (s : St) : callN E (M + 2) 61 [.int .i64 y, .int .i64 m] s = some (.int .i64 (daysF y m), s) := by
  rw [x61]; unfold F61
  by_cases hm : 1 ≤ m ∧ m ≤ 12
  · have : m = 1 ∨ m = 2 ∨ m = 3 ∨ m = 4 ∨ m = 5 ∨ m = 6 ∨ m = 7 ∨ m = 8 ∨ m = 9 ∨ m = 10 ∨ m = 11 ∨ m = 12 := by omega
    rcases this with rfl | rfl | rfl | rfl | rfl | rfl | rfl | rfl | rfl | rfl | rfl | rfl
    case inr.inl =>
      simp only [op2_s, op_s, bin_e, pick_e, not_e, ext_e, nth_z, nth_1, nth_2, nth_3, gval_e, gval_u, cmp_e, orUndef_t, orUndef_f, condV_t, condV_f, cond_true, cond_false, eqI_eq, neI_eq, ltI_eq, leI_eq, gtI_eq, geI_eq, Bool.not_true, Bool.not_false, bf_tt, bf_tf, bf_ft, bf_ff, decide_true, decide_false, oneOf_1, oneOf_2, oneOf_3, thenV_n, thenV_e, thenV_r, exV_e, exV_r, Nat.beq_refl, eq_self, Int.reduceEq, r65]
      unfold daysF
      rw [if_pos rfl]
      cases leapF y <;> simp only [op2_s, op_s, bin_e, pick_e, not_e, ext_e, nth_z, nth_1, nth_2, nth_3, gval_e, gval_u, cmp_e, orUndef_t, orUndef_f, condV_t, condV_f, cond_true, cond_false, eqI_eq, neI_eq, ltI_eq, leI_eq, gtI_eq, geI_eq, Bool.not_true, Bool.not_false, bf_tt, bf_tf, bf_ft, bf_ff, decide_true, decide_false, oneOf_1, oneOf_2, oneOf_3, thenV_n, thenV_e, thenV_r, exV_e, exV_r, Nat.beq_refl, eq_self] <;> rfl
    all_goals
      simp only [op2_s, op_s, bin_e, pick_e, not_e, ext_e, nth_z, nth_1, nth_2, nth_3, gval_e, gval_u, cmp_e, orUndef_t, orUndef_f, condV_t, condV_f, cond_true, cond_false, eqI_eq, neI_eq, ltI_eq, leI_eq, gtI_eq, geI_eq, Bool.not_true, Bool.not_false, bf_tt, bf_tf, bf_ft, bf_ff, decide_true, decide_false, oneOf_1, oneOf_2, oneOf_3, thenV_n, thenV_e, thenV_r, exV_e, exV_r, Nat.beq_refl, eq_self, Int.reduceEq, J61_j0, J61_j1, J61_j2]
      rfl
  · have e1 : decide (m = 1) = false := decide_eq_false (by omega)
    have e2 : decide (m = 2) = false := decide_eq_false (by omega)
    have e3 : decide (m = 3) = false := decide_eq_false (by omega)
    have e4 : decide (m = 4) = false := decide_eq_false (by omega)
    have e5 : decide (m = 5) = false := decide_eq_false (by omega)
    have e6 : decide (m = 6) = false := decide_eq_false (by omega)
    have e7 : decide (m = 7) = false := decide_eq_false (by omega)
    have e8 : decide (m = 8) = false := decide_eq_false (by omega)
    have e9 : decide (m = 9) = false := decide_eq_false (by omega)
    have e10 : decide (m = 10) = false := decide_eq_false (by omega)
    have e11 : decide (m = 11) = false := decide_eq_false (by omega)
    have e12 : decide (m = 12) = false := decide_eq_false (by omega)
    simp only [op2_s, op_s, bin_e, pick_e, not_e, ext_e, nth_z, nth_1, nth_2, nth_3, gval_e, gval_u, cmp_e, orUndef_t, orUndef_f, condV_t, condV_f, cond_true, cond_false, eqI_eq, neI_eq, ltI_eq, leI_eq, gtI_eq, geI_eq, Bool.not_true, Bool.not_false, bf_tt, bf_tf, bf_ft, bf_ff, decide_true, decide_false, oneOf_1, oneOf_2, oneOf_3, thenV_n, thenV_e, thenV_r, exV_e, exV_r, Nat.beq_refl, eq_self, e1, e2, e3, e4, e5, e6, e7, e8, e9, e10, e11, e12, J61_j0, J61_j1, J61_j2]
    unfold daysF
    rw [if_neg (by omega), if_neg (by omega), if_neg (by omega)]
def sumTo (y : Int) : Nat → Int
  | 0 => 0
  | k + 1 => sumTo y k + daysF y ((k : Int) + 1)
theorem days_in (y m : Int) (h1 : 1 ≤ m) (h2 : m ≤ 12) : 28 ≤ daysF y m ∧ daysF y m ≤ 31 := by
  unfold daysF
  split
  · split <;> omega
  · split
    · omega
    · split <;> omega
theorem days_pos {y m : Int} (h : 1 ≤ daysF y m) : ∃ k : Nat, m = (k : Int) + 1 ∧ k ≤ 11 := by
  have hm : 1 ≤ m ∧ m ≤ 12 := by
    apply Classical.byContradiction
    intro hc
    unfold daysF at h
    rw [if_neg (by omega), if_neg (by omega), if_neg (by omega)] at h
    omega
  exact ⟨(m - 1).toNat, by omega, by omega⟩
theorem sum_in (y : Int) : ∀ k : Nat, k ≤ 12 → 0 ≤ sumTo y k ∧ sumTo y k ≤ 31 * k
  | 0, _ => ⟨Int.le_refl _, by show (0 : Int) ≤ _; omega⟩
  | k + 1, h => by
    have ih := sum_in y k (by omega)
    have := days_in y ((k : Int) + 1) (by omega) (by omega)
    show 0 ≤ sumTo y k + daysF y ((k : Int) + 1) ∧ sumTo y k + daysF y ((k : Int) + 1) ≤ _
    omega
theorem before_in (y : Int) (h1 : 1900 ≤ y) (h2 : y ≤ 2200) : 0 ≤ beforeF y ∧ beforeF y ≤ 110000 := by unfold beforeF; omega
def ofR (y m d : Int) : Int × Bool := if 1900 ≤ y ∧ y ≤ 2199 ∧ 1 ≤ d ∧ d ≤ daysF y m then (beforeF y + sumTo y (m - 1).toNat + d - 1, true) else (0, false)
theorem of_l (M N : Nat) (y d : Int) (m : Nat) (hy1 : 1900 ≤ y) (hy2 : y ≤ 2199) (hm : m ≤ 11) (a b c : Value) (s : St) :
    ∀ (j i fuel : Nat), i + j = m → j < fuel → loopV (B55_l0 (callN E (M + 2)) N ((.int .i64 y), (.int .i64 ((m : Int) + 1)), a, b, c)) fuel ((.int .i64 (beforeF y + sumTo y i)), (.int .i64 ((i : Int) + 1))) s = some (.exit 0, (((.int .i64 (beforeF y + sumTo y m)), (.int .i64 ((m : Int) + 1))), s))
  | 0, i, fuel, hi, hf => by
    obtain ⟨fuel, rfl⟩ : ∃ m, fuel = m + 1 := ⟨fuel - 1, by omega⟩
    obtain rfl : i = m := by omega
    have e1 : decide ((i : Int) + 1 < (i : Int) + 1) = false := decide_eq_false (by omega)
    rw [loopV_s, B55_l0]
    simp only [op2_s, op_s, bin_e, pick_e, not_e, ext_e, nth_z, nth_1, nth_2, nth_3, gval_e, gval_u, cmp_e, orUndef_t, orUndef_f, condV_t, condV_f, cond_true, cond_false, eqI_eq, neI_eq, ltI_eq, leI_eq, gtI_eq, geI_eq, Bool.not_true, Bool.not_false, bf_tt, bf_tf, bf_ft, bf_ff, decide_true, decide_false, oneOf_1, oneOf_2, oneOf_3, thenV_n, thenV_e, thenV_r, exV_e, exV_r, Nat.beq_refl, eq_self, e1]
  | j + 1, i, fuel, hi, hf => by
    obtain ⟨fuel, rfl⟩ : ∃ m, fuel = m + 1 := ⟨fuel - 1, by omega⟩
    have e1 : decide ((i : Int) + 1 < (m : Int) + 1) = true := decide_eq_true (by omega)
    have hb := before_in y hy1 (by omega)
    have hs := sum_in y i (by omega)
    have hd := days_in y ((i : Int) + 1) (by omega) (by omega)
    have a1 : int2 addO (.int .i64 (beforeF y + sumTo y i)) (.int .i64 (daysF y ((i : Int) + 1))) = some (.int .i64 (beforeF y + sumTo y (i + 1))) := by
      rw [add_e _ _ (by omega) (by omega), Int.add_assoc]; rfl
    have a2 : int2 addO (.int .i64 ((i : Int) + 1)) (.int .i64 1) = some (.int .i64 (((i + 1 : Nat) : Int) + 1)) := by rw [add_e _ _ (by omega) (by omega)]; rfl
    rw [loopV_s, B55_l0]
    simp only [op2_s, op_s, bin_e, pick_e, not_e, ext_e, nth_z, nth_1, nth_2, nth_3, gval_e, gval_u, cmp_e, orUndef_t, orUndef_f, condV_t, condV_f, cond_true, cond_false, eqI_eq, neI_eq, ltI_eq, leI_eq, gtI_eq, geI_eq, Bool.not_true, Bool.not_false, bf_tt, bf_tf, bf_ft, bf_ff, decide_true, decide_false, oneOf_1, oneOf_2, oneOf_3, thenV_n, thenV_e, thenV_r, exV_e, exV_r, Nat.beq_refl, eq_self, e1, r61, a1, a2]
    exact of_l M N y d m hy1 hy2 hm a b c s j (i + 1) fuel (by omega) (by omega)
theorem r55 (M : Nat) (hM : 100 ≤ M) (y m d : Int) (s : St) : callN E (M + 1) 55 [.int .i64 y, .int .i64 m, .int .i64 d] s = some (tupOf [.int .i64 (ofR y m d).1, .bool (ofR y m d).2], s) := by
  obtain ⟨M, rfl⟩ : ∃ m, M = m + 2 := ⟨M - 2, by omega⟩
  rw [x55]; unfold F55 ofR
  by_cases h1 : y < 1900
  · have e1 := decide_eq_true h1
    rw [if_neg (by omega)]
    simp only [op2_s, op_s, bin_e, pick_e, not_e, ext_e, nth_z, nth_1, nth_2, nth_3, gval_e, gval_u, cmp_e, orUndef_t, orUndef_f, condV_t, condV_f, cond_true, cond_false, eqI_eq, neI_eq, ltI_eq, leI_eq, gtI_eq, geI_eq, Bool.not_true, Bool.not_false, bf_tt, bf_tf, bf_ft, bf_ff, decide_true, decide_false, oneOf_1, oneOf_2, oneOf_3, thenV_n, thenV_e, thenV_r, exV_e, exV_r, Nat.beq_refl, eq_self, e1]
  have e1 := decide_eq_false h1
  by_cases h2 : 2199 < y
  · have e2 := decide_eq_true h2
    rw [if_neg (by omega)]
    simp only [op2_s, op_s, bin_e, pick_e, not_e, ext_e, nth_z, nth_1, nth_2, nth_3, gval_e, gval_u, cmp_e, orUndef_t, orUndef_f, condV_t, condV_f, cond_true, cond_false, eqI_eq, neI_eq, ltI_eq, leI_eq, gtI_eq, geI_eq, Bool.not_true, Bool.not_false, bf_tt, bf_tf, bf_ft, bf_ff, decide_true, decide_false, oneOf_1, oneOf_2, oneOf_3, thenV_n, thenV_e, thenV_r, exV_e, exV_r, Nat.beq_refl, eq_self, e1, e2]
  have e2 := decide_eq_false h2
  by_cases h3 : d < 1
  · have e3 := decide_eq_true h3
    rw [if_neg (by omega)]
    simp only [op2_s, op_s, bin_e, pick_e, not_e, ext_e, nth_z, nth_1, nth_2, nth_3, gval_e, gval_u, cmp_e, orUndef_t, orUndef_f, condV_t, condV_f, cond_true, cond_false, eqI_eq, neI_eq, ltI_eq, leI_eq, gtI_eq, geI_eq, Bool.not_true, Bool.not_false, bf_tt, bf_tf, bf_ft, bf_ff, decide_true, decide_false, oneOf_1, oneOf_2, oneOf_3, thenV_n, thenV_e, thenV_r, exV_e, exV_r, Nat.beq_refl, eq_self, e1, e2, e3]
  have e3 := decide_eq_false h3
  by_cases h4 : daysF y m < d
  · have e4 := decide_eq_true h4
    rw [if_neg (by omega)]
    simp only [op2_s, op_s, bin_e, pick_e, not_e, ext_e, nth_z, nth_1, nth_2, nth_3, gval_e, gval_u, cmp_e, orUndef_t, orUndef_f, condV_t, condV_f, cond_true, cond_false, eqI_eq, neI_eq, ltI_eq, leI_eq, gtI_eq, geI_eq, Bool.not_true, Bool.not_false, bf_tt, bf_tf, bf_ft, bf_ff, decide_true, decide_false, oneOf_1, oneOf_2, oneOf_3, thenV_n, thenV_e, thenV_r, exV_e, exV_r, Nat.beq_refl, eq_self, e1, e2, e3, r61, e4]
  have e4 := decide_eq_false h4
  obtain ⟨k, rfl, hk⟩ := days_pos (show 1 ≤ daysF y m by omega)
  rw [if_pos (by omega)]
  have hb := before_in y (by omega) (by omega)
  have hs := sum_in y k (by omega)
  have hd := days_in y ((k : Int) + 1) (by omega) (by omega)
  have hl := of_l M (M + 2) y d k (by omega) (by omega) hk (.int .i64 d) (.int .i64 0) (.bool false) s k 0 (M + 2) (by omega) (by omega)
  have hl : loopV (B55_l0 (callN E (M + 2)) (M + 2) ((.int .i64 y), (.int .i64 ((k : Int) + 1)), (.int .i64 d), (.int .i64 0), (.bool false))) (M + 2) ((.int .i64 (beforeF y)), (.int .i64 1)) s = some (.exit 0, (((.int .i64 (beforeF y + sumTo y k)), (.int .i64 ((k : Int) + 1))), s)) := by
    have e : beforeF y + sumTo y 0 = beforeF y := Int.add_zero _
    rw [e] at hl
    exact hl
  have hbe := fun s => r62 (M + 1) y s (by omega) (by omega)
  have a1 : int2 addO (.int .i64 (beforeF y + sumTo y k)) (.int .i64 d) = some (.int .i64 (beforeF y + sumTo y k + d)) := add_e _ _ (by omega) (by omega)
  have a2 : int2 subO (.int .i64 (beforeF y + sumTo y k + d)) (.int .i64 1) = some (.int .i64 (beforeF y + sumTo y k + d - 1)) := sub_e _ _ (by omega) (by omega)
  simp only [op2_s, op_s, bin_e, pick_e, not_e, ext_e, nth_z, nth_1, nth_2, nth_3, gval_e, gval_u, cmp_e, orUndef_t, orUndef_f, condV_t, condV_f, cond_true, cond_false, eqI_eq, neI_eq, ltI_eq, leI_eq, gtI_eq, geI_eq, Bool.not_true, Bool.not_false, bf_tt, bf_tf, bf_ft, bf_ff, decide_true, decide_false, oneOf_1, oneOf_2, oneOf_3, thenV_n, thenV_e, thenV_r, exV_e, exV_r, Nat.beq_refl, eq_self, e1, e2, e3, r61, e4, hbe, hl]
  unfold C55_l0
  simp only [op2_s, op_s, bin_e, pick_e, not_e, ext_e, nth_z, nth_1, nth_2, nth_3, gval_e, gval_u, cmp_e, orUndef_t, orUndef_f, condV_t, condV_f, cond_true, cond_false, eqI_eq, neI_eq, ltI_eq, leI_eq, gtI_eq, geI_eq, Bool.not_true, Bool.not_false, bf_tt, bf_tf, bf_ft, bf_ff, decide_true, decide_false, oneOf_1, oneOf_2, oneOf_3, thenV_n, thenV_e, thenV_r, exV_e, exV_r, Nat.beq_refl, eq_self]
  unfold J55_r0
  simp only [op2_s, op_s, bin_e, pick_e, not_e, ext_e, nth_z, nth_1, nth_2, nth_3, gval_e, gval_u, cmp_e, orUndef_t, orUndef_f, condV_t, condV_f, cond_true, cond_false, eqI_eq, neI_eq, ltI_eq, leI_eq, gtI_eq, geI_eq, Bool.not_true, Bool.not_false, bf_tt, bf_tf, bf_ft, bf_ff, decide_true, decide_false, oneOf_1, oneOf_2, oneOf_3, thenV_n, thenV_e, thenV_r, exV_e, exV_r, Nat.beq_refl, eq_self, a1, a2]
  rw [show ((k : Int) + 1 - 1).toNat = k by omega]
end Go.Proofs.Ytikdjhlcbkkkfaa.AbsLexO
namespace Go.Proofs.Ytikdjhlcbkkkfaa.AbsLexO
open Go Go.Abs Go.Proofs
set_option maxRecDepth 100000
set_option linter.unusedVariables false
set_option linter.unusedSimpArgs false

attribute [local congr] h_opt2 h_opt h_condV h_cond
def numL (acc : Int) : List UInt8 → Int
  | [] => acc
  | b :: l => bif isD b then numL (acc * 10 + ((b.toNat : Int) - 48)) l else -1
theorem numL_c (acc : Int) (b : UInt8) (l : List UInt8) : numL acc (b :: l) = bif isD b then numL (acc * 10 + ((b.toNat : Int) - 48)) l else -1 := rfl
theorem num56 (rec : Rec) (N : Nat) (nb c : Nat) (l : List UInt8) (hl : l.length ≤ 8) :
    ∀ (r : List UInt8) (i fuel : Nat) (v : Int) (x : Value) (u : St), l.drop i = r → i + r.length = l.length → r.length < fuel → 0 ≤ v → v < 10 ^ i → u.getC nb = some (ofBytes l) →
      ∃ e w u', loopV (B56_l0 rec N ((.slice (some ⟨nb, 0, none⟩) l.length c), (.int .i64 (l.length : Int)))) fuel (x, (.int .i64 v), (.int .i64 (i : Int))) u = some (e, (w, u')) ∧ Still u u' ∧
        ((e = .ret ∧ w.1 = .int .i64 (numL v r)) ∨ (e = .exit 0 ∧ w.2.1 = .int .i64 (numL v r)))
  | [], i, fuel, v, x, u, hr, hi, hf, h0, h1, hg => by
    obtain ⟨fuel, rfl⟩ : ∃ m, fuel = m + 1 := ⟨fuel - 1, by simp at hf; omega⟩
    have e1 : decide ((i : Int) < (l.length : Int)) = false := decide_eq_false (by simp at hi; omega)
    rw [loopV_s, B56_l0]
    simp only [op2_s, op_s, bin_e, pick_e, not_e, ext_e, nth_z, nth_1, nth_2, nth_3, gval_e, gval_u, cmp_e, orUndef_t, orUndef_f, condV_t, condV_f, cond_true, cond_false, eqI_eq, neI_eq, ltI_eq, leI_eq, gtI_eq, geI_eq, Bool.not_true, Bool.not_false, bf_tt, bf_tf, bf_ft, bf_ff, decide_true, decide_false, oneOf_1, oneOf_2, oneOf_3, thenV_n, thenV_e, thenV_r, exV_e, exV_r, Nat.beq_refl, eq_self, e1]
    exact ⟨_, _, _, rfl, Still.refl _, .inr ⟨rfl, rfl⟩⟩
  | b :: r, i, fuel, v, x, u, hr, hi, hf, h0, h1, hg => by
    obtain ⟨fuel, rfl⟩ : ∃ m, fuel = m + 1 := ⟨fuel - 1, by simp at hf; omega⟩
    simp only [List.length_cons] at hi hf
    have e1 : decide ((i : Int) < (l.length : Int)) = true := decide_eq_true (by omega)
    have ha : int2 addO (.int .i64 (i : Int)) (.int .i64 1) = some (.int .i64 ((i + 1 : Nat) : Int)) := by rw [add_e _ _ (by omega) (by omega)]; rfl
    have hat : nth (ofBytes l) (i * 1) = some (.int .u8 (b.toNat : Int)) := by rw [Nat.mul_one]; exact ofBytes_at hr
    have hp : (10 : Int) ^ i ≤ 10 ^ 8 := by
      have := Nat.pow_le_pow_right (show 0 < 10 by omega) (show i ≤ 8 by omega)
      exact_mod_cast this
    have h8 : (10 : Int) ^ 8 = 100000000 := by decide
    have hpp : (10 : Int) ^ (i + 1) = 10 ^ i * 10 := Int.pow_succ ..
    have hb8 : b.toNat < 256 := b.toNat_lt
    rw [loopV_s, B56_l0]
    simp (disch := omega) only [op2_s, op_s, bin_e, pick_e, not_e, ext_e, nth_z, nth_1, nth_2, nth_3, gval_e, gval_u, cmp_e, orUndef_t, orUndef_f, condV_t, condV_f, cond_true, cond_false, eqI_eq, neI_eq, ltI_eq, leI_eq, gtI_eq, geI_eq, Bool.not_true, Bool.not_false, bf_tt, bf_tf, bf_ft, bf_ff, decide_true, decide_false, oneOf_1, oneOf_2, oneOf_3, thenV_n, thenV_e, thenV_r, exV_e, exV_r, Nat.beq_refl, eq_self, e1, idxL0_u, load_u, hg, hat]
    rw [numL_c]
    by_cases h48 : (b.toNat : Int) < 48
    · have e2 := decide_eq_true h48
      have hd : isD b = false := by unfold isD; rw [decide_eq_false (show ¬ 48 ≤ (b.toNat : Int) by omega)]; rfl
      rw [hd]
      simp only [op2_s, op_s, bin_e, pick_e, not_e, ext_e, nth_z, nth_1, nth_2, nth_3, gval_e, gval_u, cmp_e, orUndef_t, orUndef_f, condV_t, condV_f, cond_true, cond_false, eqI_eq, neI_eq, ltI_eq, leI_eq, gtI_eq, geI_eq, Bool.not_true, Bool.not_false, bf_tt, bf_tf, bf_ft, bf_ff, decide_true, decide_false, oneOf_1, oneOf_2, oneOf_3, thenV_n, thenV_e, thenV_r, exV_e, exV_r, Nat.beq_refl, eq_self, e2]
      exact ⟨_, _, _, rfl, Still.seen _ _, .inl ⟨rfl, rfl⟩⟩
    have e2 := decide_eq_false h48
    by_cases h57 : 57 < (b.toNat : Int)
    · have e3 := decide_eq_true h57
      have hd : isD b = false := by unfold isD; rw [decide_eq_false (show ¬ (b.toNat : Int) ≤ 57 by omega), Bool.and_false]
      rw [hd]
      simp only [op2_s, op_s, bin_e, pick_e, not_e, ext_e, nth_z, nth_1, nth_2, nth_3, gval_e, gval_u, cmp_e, orUndef_t, orUndef_f, condV_t, condV_f, cond_true, cond_false, eqI_eq, neI_eq, ltI_eq, leI_eq, gtI_eq, geI_eq, Bool.not_true, Bool.not_false, bf_tt, bf_tf, bf_ft, bf_ff, decide_true, decide_false, oneOf_1, oneOf_2, oneOf_3, thenV_n, thenV_e, thenV_r, exV_e, exV_r, Nat.beq_refl, eq_self, e2, e3]
      exact ⟨_, _, _, rfl, Still.seen _ _, .inl ⟨rfl, rfl⟩⟩
    have e3 := decide_eq_false h57
    have hd : isD b = true := by unfold isD; rw [decide_eq_true (show 48 ≤ (b.toNat : Int) by omega), decide_eq_true (show (b.toNat : Int) ≤ 57 by omega)]; rfl
    have m1 : int2 mulO (.int .i64 v) (.int .i64 10) = some (.int .i64 (v * 10)) := mul_e _ _ (by omega) (by omega)
    have m2 := sub8_u (b.toNat : Int) (by omega) (by omega)
    have m3 : int2 addO (.int .i64 (v * 10)) (.int .i64 ((b.toNat : Int) - 48)) = some (.int .i64 (v * 10 + ((b.toNat : Int) - 48))) := add_e _ _ (by omega) (by omega)
    rw [hd]
    simp (disch := omega) only [op2_s, op_s, bin_e, pick_e, not_e, ext_e, nth_z, nth_1, nth_2, nth_3, gval_e, gval_u, cmp_e, orUndef_t, orUndef_f, condV_t, condV_f, cond_true, cond_false, eqI_eq, neI_eq, ltI_eq, leI_eq, gtI_eq, geI_eq, Bool.not_true, Bool.not_false, bf_tt, bf_tf, bf_ft, bf_ff, decide_true, decide_false, oneOf_1, oneOf_2, oneOf_3, thenV_n, thenV_e, thenV_r, exV_e, exV_r, Nat.beq_refl, eq_self, e2, e3, m1, m2, conv64_u, m3, ha]
    obtain ⟨e, w, u', q1, q2, q3⟩ := num56 rec N nb c l hl r (i + 1) fuel (v * 10 + ((b.toNat : Int) - 48)) x (u.seen nb) (drop_next hr) (by omega) (by omega) (by omega) (by omega) ((seen_getC _ _ _).trans hg)
    exact ⟨e, w, u', q1, (Still.seen u nb).trans q2, q3⟩
theorem r56 (M : Nat) (hM : 100 ≤ M) (l : List UInt8) (hl : l.length ≤ 8) (s : St) (hs : s.next ≤ lim) : ∃ s', callN E (M + 1) 56 [.string ⟨⟨l⟩⟩] s = some (.int .i64 (numL 0 l), s') ∧ Grew 1 s s' := by
  obtain ⟨e, w, u', q1, q2, q3⟩ := num56 (callN E M) M s.next (UNK + 1) l hl l 0 M 0 (.int .i64 0) (al s (ofBytes l)) rfl (by omega) (by omega) (by omega) (by decide) (al_same s _ hs (ofBytes_map l))
  refine ⟨u', ?_, ((Grew.refl s).al _ hs).still q2⟩
  rw [x56]; unfold F56
  have hq : loopV (B56_l0 (callN E M) M ((.slice (some ⟨s.next, 0, none⟩) l.length (UNK + 1)), (.int .i64 (l.length : Int)))) M ((.int .i64 0), (.int .i64 0), (.int .i64 0)) (al s (ofBytes l)) = some (e, (w, u')) := q1
  simp (disch := omega) only [op2_s, op_s, bin_e, pick_e, not_e, ext_e, nth_z, nth_1, nth_2, nth_3, gval_e, gval_u, cmp_e, orUndef_t, orUndef_f, condV_t, condV_f, cond_true, cond_false, eqI_eq, neI_eq, ltI_eq, leI_eq, gtI_eq, geI_eq, Bool.not_true, Bool.not_false, bf_tt, bf_tf, bf_ft, bf_ff, decide_true, decide_false, oneOf_1, oneOf_2, oneOf_3, thenV_n, thenV_e, thenV_r, exV_e, exV_r, Nat.beq_refl, eq_self, strBytes_u, hs, lenL_e, hq]
  unfold C56_l0
  rcases q3 with ⟨rfl, hw⟩ | ⟨rfl, hw⟩
  · simp only [op2_s, op_s, bin_e, pick_e, not_e, ext_e, nth_z, nth_1, nth_2, nth_3, gval_e, gval_u, cmp_e, orUndef_t, orUndef_f, condV_t, condV_f, cond_true, cond_false, eqI_eq, neI_eq, ltI_eq, leI_eq, gtI_eq, geI_eq, Bool.not_true, Bool.not_false, bf_tt, bf_tf, bf_ft, bf_ff, decide_true, decide_false, oneOf_1, oneOf_2, oneOf_3, thenV_n, thenV_e, thenV_r, exV_e, exV_r, Nat.beq_refl, eq_self, hw]
  · simp only [op2_s, op_s, bin_e, pick_e, not_e, ext_e, nth_z, nth_1, nth_2, nth_3, gval_e, gval_u, cmp_e, orUndef_t, orUndef_f, condV_t, condV_f, cond_true, cond_false, eqI_eq, neI_eq, ltI_eq, leI_eq, gtI_eq, geI_eq, Bool.not_true, Bool.not_false, bf_tt, bf_tf, bf_ft, bf_ff, decide_true, decide_false, oneOf_1, oneOf_2, oneOf_3, thenV_n, thenV_e, thenV_r, exV_e, exV_r, Nat.beq_refl, eq_self, J56_r0, hw]
/-- ten bytes as a day -/
def rdF (l : List UInt8) : Int × Bool := match l with
  | [b0, b1, b2, b3, b4, b5, b6, b7, b8, b9] => bif decide ((b4.toNat : Int) = 45) && decide ((b7.toNat : Int) = 45) then ofR (numL 0 [b0, b1, b2, b3]) (numL 0 [b5, b6]) (numL 0 [b8, b9]) else (0, false)
  | _ => (0, false)
theorem ten {l : List UInt8} (h : l.length = 10) : ∃ b0 b1 b2 b3 b4 b5 b6 b7 b8 b9, l = [b0, b1, b2, b3, b4, b5, b6, b7, b8, b9] := by
  match l, h with
  | [b0, b1, b2, b3, b4, b5, b6, b7, b8, b9], _ => exact ⟨_, _, _, _, _, _, _, _, _, _, rfl⟩
theorem rd_ok : Rd rdF := fun M hM l hl s hs => by
  obtain ⟨M, rfl⟩ : ∃ m, M = m + 2 := ⟨M - 2, by omega⟩
  obtain ⟨b0, b1, b2, b3, b4, b5, b6, b7, b8, b9, rfl⟩ := ten hl
  have i4 : ∀ s, oIdxS (.v (.string ⟨⟨[b0, b1, b2, b3, b4, b5, b6, b7, b8, b9]⟩⟩)) (.v (.int .i64 4)) (callN E (M + 1)) PT.nil s = some (.int .u8 (b4.toNat : Int), s) := fun s => idx_at (i := 4) (l := [b0, b1, b2, b3, b4, b5, b6, b7, b8, b9]) (r := [b5, b6, b7, b8, b9]) rfl _ _ s
  have i7 : ∀ s, oIdxS (.v (.string ⟨⟨[b0, b1, b2, b3, b4, b5, b6, b7, b8, b9]⟩⟩)) (.v (.int .i64 7)) (callN E (M + 1)) PT.nil s = some (.int .u8 (b7.toNat : Int), s) := fun s => idx_at (i := 7) (l := [b0, b1, b2, b3, b4, b5, b6, b7, b8, b9]) (r := [b8, b9]) rfl _ _ s
  have el : decide ((([b0, b1, b2, b3, b4, b5, b6, b7, b8, b9] : List UInt8).length : Int) = 10) = true := rfl
  rw [x49]; unfold F49 rdF
  dsimp only
  cases h4 : decide ((b4.toNat : Int) = 45)
  · refine ⟨s, ?_, (Grew.refl s).mono (by omega)⟩
    simp only [op2_s, op_s, bin_e, pick_e, not_e, ext_e, nth_z, nth_1, nth_2, nth_3, gval_e, gval_u, cmp_e, orUndef_t, orUndef_f, condV_t, condV_f, cond_true, cond_false, eqI_eq, neI_eq, ltI_eq, leI_eq, gtI_eq, geI_eq, Bool.not_true, Bool.not_false, bf_tt, bf_tf, bf_ft, bf_ff, decide_true, decide_false, oneOf_1, oneOf_2, oneOf_3, thenV_n, thenV_e, thenV_r, exV_e, exV_r, Nat.beq_refl, eq_self, lenS_u, el, i4, h4, Bool.false_and]
  cases h7 : decide ((b7.toNat : Int) = 45)
  · refine ⟨s, ?_, (Grew.refl s).mono (by omega)⟩
    simp only [op2_s, op_s, bin_e, pick_e, not_e, ext_e, nth_z, nth_1, nth_2, nth_3, gval_e, gval_u, cmp_e, orUndef_t, orUndef_f, condV_t, condV_f, cond_true, cond_false, eqI_eq, neI_eq, ltI_eq, leI_eq, gtI_eq, geI_eq, Bool.not_true, Bool.not_false, bf_tt, bf_tf, bf_ft, bf_ff, decide_true, decide_false, oneOf_1, oneOf_2, oneOf_3, thenV_n, thenV_e, thenV_r, exV_e, exV_r, Nat.beq_refl, eq_self, lenS_u, el, i4, h4, i7, h7, Bool.and_false]
  have s1 : ∀ s, oSliceS (.v (.string ⟨⟨[b0, b1, b2, b3, b4, b5, b6, b7, b8, b9]⟩⟩)) none (some (.v (.int .i64 4))) (callN E (M + 1)) PT.nil s = some (.string ⟨⟨[b0, b1, b2, b3]⟩⟩, s) := fun s => slS_hi [b0, b1, b2, b3, b4, b5, b6, b7, b8, b9] 4 (by show 4 ≤ 10; decide) _ s
  have s2 : ∀ s, oSliceS (.v (.string ⟨⟨[b0, b1, b2, b3, b4, b5, b6, b7, b8, b9]⟩⟩)) (some (.v (.int .i64 5))) (some (.v (.int .i64 7))) (callN E (M + 1)) PT.nil s = some (.string ⟨⟨[b5, b6]⟩⟩, s) := fun s => slS_lh [b0, b1, b2, b3, b4, b5, b6, b7, b8, b9] 5 7 (by decide) (by show 7 ≤ 10; decide) _ s
  have s3 : ∀ s, oSliceS (.v (.string ⟨⟨[b0, b1, b2, b3, b4, b5, b6, b7, b8, b9]⟩⟩)) (some (.v (.int .i64 8))) none (callN E (M + 1)) PT.nil s = some (.string ⟨⟨[b8, b9]⟩⟩, s) := fun s => slS_lo [b0, b1, b2, b3, b4, b5, b6, b7, b8, b9] 8 (by show 8 ≤ 10; decide) _ s
  obtain ⟨u1, q1, g1⟩ := r56 M (by omega) [b0, b1, b2, b3] (by show 4 ≤ 8; decide) (z0 s) (by rw [z0_next]; omega)
  have g1 := g1.z0
  have n1 := g1.2.1
  obtain ⟨u2, q2, g2⟩ := r56 M (by omega) [b5, b6] (by show 2 ≤ 8; decide) (z0 (jn s u1)) (by rw [z0_next]; omega)
  have g2 := g2.z0
  have n2 := g2.2.1
  obtain ⟨u3, q3, g3⟩ := r56 M (by omega) [b8, b9] (by show 2 ≤ 8; decide) (z0 (jn (jn s u1) u2)) (by rw [z0_next]; omega)
  have g3 := g3.z0
  refine ⟨jn (jn (jn s u1) u2) u3, ?_, (g1.trans g2).trans g3⟩
  have h55 := fun s => r55 M (by omega) (numL 0 [b0, b1, b2, b3]) (numL 0 [b5, b6]) (numL 0 [b8, b9]) s
  simp only [op2_s, op_s, bin_e, pick_e, not_e, ext_e, nth_z, nth_1, nth_2, nth_3, gval_e, gval_u, cmp_e, orUndef_t, orUndef_f, condV_t, condV_f, cond_true, cond_false, eqI_eq, neI_eq, ltI_eq, leI_eq, gtI_eq, geI_eq, Bool.not_true, Bool.not_false, bf_tt, bf_tf, bf_ft, bf_ff, decide_true, decide_false, oneOf_1, oneOf_2, oneOf_3, thenV_n, thenV_e, thenV_r, exV_e, exV_r, Nat.beq_refl, eq_self, lenS_u, el, i4, h4, i7, h7, Bool.and_self, s1, s2, s3, q1, q2, q3, rV_s, h55, jn_z]
end Go.Proofs.Ytikdjhlcbkkkfaa.AbsLexO
namespace Go.Proofs.Ytikdjhlcbkkkfaa.AbsLexO
open Go Go.Abs Go.Proofs
set_option maxRecDepth 100000
set_option linter.unusedVariables false
set_option linter.unusedSimpArgs false

/-! what a word is does not hang on what stands behind it, if that is a blank -/
theorem cntF_run (p : UInt8 → Bool) : ∀ (x y : List UInt8), x.all p = true → (y.head?.any p) = false → cntF p (x ++ y) = x.length
  | [], [], _, _ => rfl
  | [], c :: y, _, h => by
    show cntF p (c :: y) = 0
    have h : p c = false := by simpa using h
    rw [cntF_c, h]; rfl
  | b :: x, y, hx, h => by
    rw [List.all_cons, Bool.and_eq_true] at hx
    show cntF p (b :: (x ++ y)) = x.length + 1
    rw [cntF_c, hx.1, cond_true, cntF_run p x y hx.2 h]
theorem cntF_drop (p : UInt8 → Bool) : ∀ l : List UInt8, ((l.drop (cntF p l)).head?.any p) = false
  | [] => rfl
  | b :: l => by
    rw [cntF_c]
    cases h : p b
    · show (some b).any p = false
      simpa using h
    · rw [cond_true]; exact cntF_drop p l
theorem cntF_at (p : UInt8 → Bool) (l : List UInt8) : l.take (cntF p l) ++ l.drop (cntF p l) = l := List.take_append_drop _ _
theorem len_take_cnt (p : UInt8 → Bool) (l : List UInt8) : (l.take (cntF p l)).length = cntF p l := by rw [List.length_take]; have := cntF_le p l; omega
/-- a run, and what may follow -/
theorem cntF_take (p : UInt8 → Bool) (l y : List UInt8) (h : (y.head?.any p) = false) : cntF p (l.take (cntF p l) ++ y) = cntF p l := by
  rw [cntF_run p _ y (cntF_all p l) h, len_take_cnt]
theorem take_run (p : UInt8 → Bool) (l y : List UInt8) : (l.take (cntF p l) ++ y).take (cntF p l) = l.take (cntF p l) := by
  have := len_take_cnt p l
  rw [List.take_append_of_le_length (by omega), List.take_of_length_le (by omega)]
theorem drop_run (p : UInt8 → Bool) (l y : List UInt8) : (l.take (cntF p l) ++ y).drop (cntF p l) = y := by
  have := len_take_cnt p l
  rw [List.drop_append_of_le_length (by omega), List.drop_of_length_le (by omega), List.nil_append]
theorem moneyF_b (t rest : List UInt8) (h : 0 < (moneyF t).1) : moneyF (t.take ((moneyF t).1 - 1) ++ 32 :: rest) = moneyF t := by
  obtain ⟨k, hk⟩ : ∃ k, cntF isD t = k := ⟨_, rfl⟩
  by_cases h0 : k = 0
  · exfalso
    unfold moneyF at h
    rw [hk, decide_eq_true h0] at h
    exact absurd h (Nat.lt_irrefl 0)
  by_cases h2 : plF 2 (t.drop k) = 2
  · have e1 : (moneyF t).1 - 1 = k + 3 := by
      unfold moneyF
      rw [hk, decide_eq_false h0, cond_false, decide_eq_true h2, cond_true]
      show 1 + k + 3 - 1 = k + 3
      omega
    obtain ⟨r, hr, hc, _⟩ := plF_two (n := 1) h2
    have hrl := cntF_le isD r
    have ht : t = t.take k ++ 46 :: r := by rw [← hr, List.take_append_drop]
    have htl : (t.take k).length = k := by have := len_take_cnt isD t; rwa [hk] at this
    have hx : t.take (k + 3) = t.take k ++ 46 :: r.take 2 := by
      conv => lhs; rw [ht]
      rw [List.take_append, htl, List.take_take, Nat.min_eq_right (by omega), show k + 3 - k = 3 by omega]
      rfl
    rw [e1, hx, List.append_assoc]
    have c1 : cntF isD (t.take k ++ (46 :: r.take 2 ++ 32 :: rest)) = k := by have := cntF_take isD t (46 :: r.take 2 ++ 32 :: rest) (by rfl); rwa [hk] at this
    have c2 : (t.take k ++ (46 :: r.take 2 ++ 32 :: rest)).drop k = 46 :: (r.take 2 ++ 32 :: rest) := by have := drop_run isD t (46 :: r.take 2 ++ 32 :: rest); rwa [hk] at this
    have c3 : (t.take k ++ (46 :: r.take 2 ++ 32 :: rest)).take k = t.take k := by have := take_run isD t (46 :: r.take 2 ++ 32 :: rest); rwa [hk] at this
    have c4 : cntF isD (r.take 2 ++ 32 :: rest) = 2 := by have := cntF_take isD r (32 :: rest) (by rfl); rwa [hc] at this
    have c5 : plF 2 (46 :: (r.take 2 ++ 32 :: rest)) = 2 := by rw [plF_c, c4]; rfl
    have c6 : (t.take k ++ (46 :: r.take 2 ++ 32 :: rest)).drop (k + 1) = r.take 2 ++ 32 :: rest := by rw [← List.drop_drop, c2]; rfl
    have c7 : (r.take 2 ++ 32 :: rest).take 2 = r.take 2 := by have := take_run isD r (32 :: rest); rwa [hc] at this
    have d6 : t.drop (k + 1) = r := by rw [← List.drop_drop, hr]; rfl
    unfold moneyF
    rw [c1, hk, c2, c3, c5, c6, c7, h2, d6]
  · have e1 : (moneyF t).1 - 1 = k := by
      unfold moneyF
      rw [hk, decide_eq_false h0, cond_false, decide_eq_false h2, cond_false]
      show 1 + k - 1 = k
      omega
    rw [e1]
    have c1 : cntF isD (t.take k ++ 32 :: rest) = k := by have := cntF_take isD t (32 :: rest) (by rfl); rwa [hk] at this
    have c2 : (t.take k ++ 32 :: rest).drop k = 32 :: rest := by have := drop_run isD t (32 :: rest); rwa [hk] at this
    have c3 : (t.take k ++ 32 :: rest).take k = t.take k := by have := take_run isD t (32 :: rest); rwa [hk] at this
    have c5 : plF 2 (32 :: rest) = 0 := by rw [plF_c]; rfl
    unfold moneyF
    rw [c1, hk, c2, c3, c5, decide_eq_false h2]
    rfl
/-- a day begins with four digits and a dash -/
theorem numL_neg : ∀ (l : List UInt8) (a : Int), numL a l ≠ -1 → l.all isD = true
  | [], _, _ => rfl
  | b :: l, a, h => by
    rw [numL_c] at h
    cases hb : isD b
    · rw [hb] at h; exact absurd rfl h
    · rw [hb, cond_true] at h
      rw [List.all_cons, hb, numL_neg l _ h]; rfl
theorem day_dash {l : List UInt8} (h : 0 < (dayF rdF l).1) : (l.drop (cntF isD l)).head? = some 45 := by
  unfold dayF at h
  by_cases h10 : l.length < 10
  · rw [decide_eq_true h10, Bool.true_or] at h; exact absurd h (Nat.lt_irrefl 0)
  rw [decide_eq_false h10, Bool.false_or] at h
  have hlt : (l.take 10).length = 10 := by rw [List.length_take]; omega
  obtain ⟨b0, b1, b2, b3, b4, b5, b6, b7, b8, b9, hb⟩ := ten hlt
  have hl : l = [b0, b1, b2, b3, b4, b5, b6, b7, b8, b9] ++ l.drop 10 := by rw [← hb, List.take_append_drop]
  have hr : (rdF (l.take 10)).2 = true := by
    cases hh : (rdF (l.take 10)).2 with
    | true => rfl
    | false =>
      rw [hh] at h
      revert h
      cases nextD l <;> exact fun h => absurd h (Nat.lt_irrefl 0)
  rw [hb] at hr
  unfold rdF at hr
  dsimp only at hr
  cases h4 : decide ((b4.toNat : Int) = 45) with
  | false => rw [h4, Bool.false_and] at hr; cases hr
  | true =>
    cases h7 : decide ((b7.toNat : Int) = 45) with
    | false => rw [h7, Bool.and_false] at hr; cases hr
    | true =>
      rw [h4, h7] at hr
      have hr : (ofR (numL 0 [b0, b1, b2, b3]) (numL 0 [b5, b6]) (numL 0 [b8, b9])).2 = true := hr
      have hn : numL 0 [b0, b1, b2, b3] ≠ -1 := by
        intro e
        unfold ofR at hr
        rw [e, if_neg (by omega)] at hr
        cases hr
      have hall := numL_neg _ _ hn
      have hb4 : b4 = 45 := UInt8.toNat_inj.1 (by have e : (45 : UInt8).toNat = 45 := rfl; have := of_decide_eq_true h4; rw [e]; omega)
      subst hb4
      have hc : cntF isD l = 4 := by
        rw [hl]
        exact cntF_run isD [b0, b1, b2, b3] ([45, b5, b6, b7, b8, b9] ++ l.drop 10) hall (by rfl)
      rw [hc, hl]
      rfl
theorem dayF_no {l : List UInt8} (h : (l.drop (cntF isD l)).head? ≠ some 45) : (dayF rdF l).1 = 0 := by
  rcases Nat.eq_zero_or_pos (dayF rdF l).1 with h0 | h0
  · exact h0
  · exact absurd (day_dash h0) h
theorem dayF_b (r rest : List UInt8) (h : 0 < (dayF rdF r).1) : dayF rdF (r.take 10 ++ 32 :: rest) = dayF rdF r := by
  unfold dayF at h ⊢
  by_cases h10 : r.length < 10
  · rw [decide_eq_true h10, Bool.true_or] at h; exact absurd h (Nat.lt_irrefl 0)
  have hlt : (r.take 10).length = 10 := by rw [List.length_take]; omega
  rw [decide_eq_false h10, Bool.false_or] at h ⊢
  have e1 : decide ((r.take 10 ++ 32 :: rest).length < 10) = false := decide_eq_false (by rw [List.length_append, hlt]; omega)
  have e2 : (r.take 10 ++ 32 :: rest).drop 10 = 32 :: rest := by rw [List.drop_append_of_le_length (by omega), List.drop_of_length_le (by omega), List.nil_append]
  have e3 : (r.take 10 ++ 32 :: rest).take 10 = r.take 10 := by rw [List.take_append_of_le_length (by omega), List.take_take, Nat.min_self]
  have e4 : nextD (r.take 10 ++ 32 :: rest) = false := by unfold nextD; rw [e2]; rfl
  rw [e1, Bool.false_or, e4, e3]
  cases hn : nextD r
  · rfl
  · rw [hn] at h; exact absurd h (Nat.lt_irrefl 0)
end Go.Proofs.Ytikdjhlcbkkkfaa.AbsLexO
namespace Go.Proofs.Ytikdjhlcbkkkfaa.AbsLexO
open Go Go.Abs Go.Proofs
set_option maxRecDepth 100000
set_option linter.unusedVariables false
set_option linter.unusedSimpArgs false

theorem plF_blank (m : Nat) (rest : List UInt8) : plF m (32 :: rest) = 0 := by rw [plF_c]; rfl
theorem plF_dot {m : Nat} {l : List UInt8} (h : plF m l ≠ 0) : ∃ r, l = 46 :: r ∧ cntF isD r = plF m l ∧ plF m l ≤ m := by
  obtain ⟨n, hn⟩ : ∃ n, plF m l = n + 1 := ⟨plF m l - 1, by omega⟩
  obtain ⟨r, h1, h2, h3⟩ := plF_two hn
  exact ⟨r, h1, by rw [h2, hn], by rw [hn]; exact h3⟩
theorem rateF_b (r rest : List UInt8) (h : 0 < (rateF r).1) : rateF (r.take (rateF r).1 ++ 32 :: rest) = rateF r ∧ ((r.take (rateF r).1 ++ 32 :: rest).drop (cntF isD (r.take (rateF r).1 ++ 32 :: rest))).head? ≠ some 45 := by
  obtain ⟨n, hn⟩ : ∃ n, cntF isD r = n := ⟨_, rfl⟩
  obtain ⟨k, hk⟩ : ∃ k, plF 4 (r.drop n) = k := ⟨_, rfl⟩
  by_cases h0 : n = 0
  · exfalso
    unfold rateF at h
    rw [hn, decide_eq_true h0] at h
    exact absurd h (Nat.lt_irrefl 0)
  by_cases hh : (r.drop (rtE r)).head? = some 37
  rotate_left
  · exfalso
    unfold rateF at h
    rw [hn, decide_eq_false h0, decide_eq_false hh] at h
    exact absurd h (Nat.lt_irrefl 0)
  have e1 : (rateF r).1 = rtE r + 1 := by
    unfold rateF
    rw [hn, decide_eq_false h0, decide_eq_true hh]; rfl
  have htl : (r.take n).length = n := by have := len_take_cnt isD r; rwa [hn] at this
  have hnl : n ≤ r.length := by have := cntF_le isD r; omega
  by_cases hk0 : k = 0
  · have hE : rtE r = n := by
      unfold rtE
      rw [hn, hk, hk0]; rfl
    rw [hE] at hh e1
    obtain ⟨c, q, hq⟩ : ∃ c q, r.drop n = c :: q := by
      cases hd : r.drop n with
      | nil => rw [hd] at hh; cases hh
      | cons c q => exact ⟨c, q, rfl⟩
    rw [hq] at hh
    have hc : c = 37 := by simpa using hh
    subst hc
    have hx : r.take (n + 1) = r.take n ++ [37] := by
      have : r = r.take n ++ 37 :: q := by rw [← hq, List.take_append_drop]
      conv => lhs; rw [this]
      rw [List.take_append, htl, List.take_of_length_le (by omega), show n + 1 - n = 1 by omega]
      rfl
    have hy : r.take (rateF r).1 ++ 32 :: rest = r.take n ++ 37 :: 32 :: rest := by rw [e1, hx, List.append_assoc]; rfl
    rw [hy]
    have c1 : cntF isD (r.take n ++ 37 :: 32 :: rest) = n := by have := cntF_take isD r (37 :: 32 :: rest) (by rfl); rwa [hn] at this
    have c2 : (r.take n ++ 37 :: 32 :: rest).drop n = 37 :: 32 :: rest := by have := drop_run isD r (37 :: 32 :: rest); rwa [hn] at this
    have c3 : (r.take n ++ 37 :: 32 :: rest).take n = r.take n := by have := take_run isD r (37 :: 32 :: rest); rwa [hn] at this
    have c4 : plF 4 (37 :: 32 :: rest) = 0 := by rw [plF_c]; rfl
    have c5 : rtE (r.take n ++ 37 :: 32 :: rest) = n := by unfold rtE; rw [c1, c2, c4]; rfl
    have hk'' : plF 4 (37 :: q) = 0 := by rw [← hq, hk, hk0]
    refine ⟨?_, by rw [c1, c2]; simp⟩
    unfold rateF rtV
    rw [c1, c5, c2, c3, c4, hE, hn, hq, hk'']
    simp only [Nat.lt_irrefl, decide_false, Bool.and_false, cond_false]
    rfl
  · have hkp : 0 < k := by omega
    have hE : rtE r = n + (1 + k) := by
      unfold rtE
      rw [hn, hk, decide_eq_true hkp]; rfl
    rw [hE] at hh e1
    obtain ⟨q, hq, hqc, hk4⟩ := plF_dot (m := 4) (l := r.drop n) (by omega)
    rw [hk] at hqc hk4
    have hql := cntF_le isD q
    have hqt : (q.take k).length = k := by have := len_take_cnt isD q; rwa [hqc] at this
    have hd2 : r.drop (n + (1 + k)) = q.drop k := by rw [← List.drop_drop, hq, Nat.add_comm 1 k, List.drop_succ_cons]
    rw [hd2] at hh
    obtain ⟨c, z, hz⟩ : ∃ c z, q.drop k = c :: z := by
      cases hd : q.drop k with
      | nil => rw [hd] at hh; cases hh
      | cons c z => exact ⟨c, z, rfl⟩
    rw [hz] at hh
    have hc : c = 37 := by simpa using hh
    subst hc
    have hx : r.take (n + (1 + k) + 1) = r.take n ++ 46 :: (q.take k ++ [37]) := by
      have : r = r.take n ++ 46 :: (q.take k ++ 37 :: z) := by rw [← hz, List.take_append_drop, ← hq, List.take_append_drop]
      conv => lhs; rw [this]
      rw [List.take_append, htl, List.take_of_length_le (by omega), show n + (1 + k) + 1 - n = k + 1 + 1 by omega, List.take_succ_cons, List.take_append, hqt, show (q.take k).take (k + 1) = q.take k from List.take_of_length_le (by omega), show k + 1 - k = 1 by omega]
      rfl
    have hy : r.take (rateF r).1 ++ 32 :: rest = r.take n ++ 46 :: (q.take k ++ 37 :: 32 :: rest) := by rw [e1, hx]; simp
    rw [hy]
    have c1 : cntF isD (r.take n ++ 46 :: (q.take k ++ 37 :: 32 :: rest)) = n := by have := cntF_take isD r (46 :: (q.take k ++ 37 :: 32 :: rest)) (by rfl); rwa [hn] at this
    have c2 : (r.take n ++ 46 :: (q.take k ++ 37 :: 32 :: rest)).drop n = 46 :: (q.take k ++ 37 :: 32 :: rest) := by have := drop_run isD r (46 :: (q.take k ++ 37 :: 32 :: rest)); rwa [hn] at this
    have c3 : (r.take n ++ 46 :: (q.take k ++ 37 :: 32 :: rest)).take n = r.take n := by have := take_run isD r (46 :: (q.take k ++ 37 :: 32 :: rest)); rwa [hn] at this
    have c6 : cntF isD (q.take k ++ 37 :: 32 :: rest) = k := by have := cntF_take isD q (37 :: 32 :: rest) (by rfl); rwa [hqc] at this
    have c4 : plF 4 (46 :: (q.take k ++ 37 :: 32 :: rest)) = k := by
      rw [plF_c, c6, decide_eq_true hk4]; rfl
    have c5 : rtE (r.take n ++ 46 :: (q.take k ++ 37 :: 32 :: rest)) = n + (1 + k) := by unfold rtE; rw [c1, c2, c4, decide_eq_true hkp]; rfl
    have c7 : (r.take n ++ 46 :: (q.take k ++ 37 :: 32 :: rest)).drop (n + 1) = q.take k ++ 37 :: 32 :: rest := by rw [← List.drop_drop, c2]; rfl
    have c8 : (q.take k ++ 37 :: 32 :: rest).take k = q.take k := by have := take_run isD q (37 :: 32 :: rest); rwa [hqc] at this
    have c9 : (r.take n ++ 46 :: (q.take k ++ 37 :: 32 :: rest)).drop (n + (1 + k)) = 37 :: 32 :: rest := by
      have := drop_run isD q (37 :: 32 :: rest)
      rw [hqc] at this
      rw [← List.drop_drop, c2, Nat.add_comm 1 k, List.drop_succ_cons, this]
    have d7 : r.drop (n + 1) = q := by rw [← List.drop_drop, hq]; rfl
    refine ⟨?_, by rw [c1, c2]; simp⟩
    unfold rateF rtV
    rw [c1, c5, c9, c2, c3, c4, c7, c8, hE, hn, hd2, hz, hk, d7]
    rfl
theorem cntN_b (r rest : List UInt8) (h : 0 < cntF isD r) : cntN (r.take (cntF isD r) ++ 32 :: rest) = cntN r ∧ (rateF (r.take (cntF isD r) ++ 32 :: rest)).1 = 0 ∧ ((r.take (cntF isD r) ++ 32 :: rest).drop (cntF isD (r.take (cntF isD r) ++ 32 :: rest))).head? ≠ some 45 := by
  obtain ⟨n, hn⟩ : ∃ n, cntF isD r = n := ⟨_, rfl⟩
  rw [hn]
  have c1 : cntF isD (r.take n ++ 32 :: rest) = n := by have := cntF_take isD r (32 :: rest) (by rfl); rwa [hn] at this
  have c2 : (r.take n ++ 32 :: rest).drop n = 32 :: rest := by have := drop_run isD r (32 :: rest); rwa [hn] at this
  have c3 : (r.take n ++ 32 :: rest).take n = r.take n := by have := take_run isD r (32 :: rest); rwa [hn] at this
  have c5 : rtE (r.take n ++ 32 :: rest) = n := by unfold rtE; rw [c1, c2, plF_blank]; rfl
  refine ⟨?_, ?_, by rw [c1, c2]; simp⟩
  · unfold cntN; rw [c1, c3, hn]
  · unfold rateF
    rw [c1, c5, c2, decide_eq_false (show ¬ n = 0 by omega)]
    rfl
theorem names_b (r rest : List UInt8) : cntF isN (r.take (cntF isN r) ++ 32 :: rest) = cntF isN r ∧ (r.take (cntF isN r) ++ 32 :: rest).take (cntF isN r) = r.take (cntF isN r) :=
  ⟨cntF_take isN r (32 :: rest) (by rfl), take_run isN r (32 :: rest)⟩
theorem prefF_eq (l w : List UInt8) : prefF l w = w.isPrefixOf l := by
  unfold prefF
  cases h : w.isPrefixOf l with
  | true =>
    rw [List.isPrefixOf_iff_prefix] at h
    obtain ⟨t, rfl⟩ := h
    rw [decide_eq_true (by simp), decide_eq_true (by simp)]; rfl
  | false =>
    cases h1 : decide (w.length ≤ l.length)
    · rfl
    · cases h2 : decide (l.take w.length = w)
      · rfl
      · exfalso
        have h2 := of_decide_eq_true h2
        have : w.isPrefixOf l = true := by rw [List.isPrefixOf_iff_prefix]; exact ⟨l.drop w.length, (congrArg (· ++ l.drop w.length) h2.symm).trans (List.take_append_drop _ _)⟩
        rw [h] at this; cases this
theorem findS_b (rest : List UInt8) : ∀ w ∈ SG, findS (w ++ 32 :: rest) SG = some w := by
  intro w hw
  unfold SG at hw
  simp only [List.mem_cons, List.not_mem_nil, or_false] at hw
  rcases hw with rfl | rfl | rfl | rfl | rfl | rfl | rfl | rfl | rfl | rfl | rfl | rfl | rfl | rfl | rfl | rfl | rfl | rfl | rfl | rfl <;>
    (unfold SG; simp only [findS, prefF_eq]; rfl)
end Go.Proofs.Ytikdjhlcbkkkfaa.AbsLexO
namespace Go.Proofs.Ytikdjhlcbkkkfaa.AbsLexO
open Go Go.Abs Go.Proofs
set_option maxRecDepth 100000
set_option linter.unusedVariables false
set_option linter.unusedSimpArgs false

/-! words written with blanks between them -/
theorem take_cons_pos {b : UInt8} {t : List UInt8} {n : Nat} (h : 0 < n) : (b :: t).take n = b :: t.take (n - 1) := by
  obtain ⟨m, rfl⟩ : ∃ m, n = m + 1 := ⟨n - 1, by omega⟩
  rfl
theorem mkW_eq {kk : Int} {p : Nat × Int} (h : (mkW kk p).1 ≠ 0) : mkW kk p = (kk, p.1, p.2) := by
  unfold mkW at h ⊢
  cases hc : decide (p.1 = 0) || decide (p.2 < 0)
  · rfl
  · rw [hc] at h; exact absurd rfl h
theorem wordF_b (b : UInt8) (t rest : List UInt8) (h : (wordF rdF (b :: t)).1 ≠ 0) : wordF rdF ((b :: t).take (wordF rdF (b :: t)).2.1 ++ 32 :: rest) = wordF rdF (b :: t) := by
  obtain ⟨hp, hle⟩ := wordF_len h
  have hx : ∀ n, 0 < n → (b :: t).take n ++ 32 :: rest = b :: (t.take (n - 1) ++ 32 :: rest) := fun n hn => by rw [take_cons_pos hn]; rfl
  have key : ∀ l', wordF rdF (b :: l') = bif isL b then (bif decide (32 < cntF isN (b :: l')) then W0 else (bif keptF ((b :: l').take (cntF isN (b :: l'))) then 2 else 1, cntF isN (b :: l'), 0))
    else bif decide ((b.toNat : Int) = 36) then mkW 4 (moneyF l')
    else bif isD b then (bif decide (0 < (dayF rdF (b :: l')).1) then mkW 6 (dayF rdF (b :: l')) else bif decide (0 < (rateF (b :: l')).1) then mkW 5 (rateF (b :: l')) else mkW 3 (cntN (b :: l')))
    else (match findS (b :: l') SG with
      | some w => (7, w.length, 0)
      | none => W0) := fun l' => rfl
  cases hL : isL b with
  | true =>
    have hN : isN b = true := by unfold isN; rw [hL]; rfl
    have e := key t
    rw [hL, cond_true] at e
    by_cases h32 : 32 < cntF isN (b :: t)
    · rw [decide_eq_true h32] at e
      rw [e] at h; exact absurd rfl h
    rw [decide_eq_false h32, cond_false] at e
    have hpos : 0 < cntF isN (b :: t) := by rw [cntF_c, hN, cond_true]; omega
    obtain ⟨n1, n2⟩ := names_b (b :: t) rest
    rw [e]
    show wordF rdF ((b :: t).take (cntF isN (b :: t)) ++ 32 :: rest) = _
    rw [hx _ hpos] at n1 n2 ⊢
    rw [key, hL, cond_true, n1, n2, decide_eq_false h32, cond_false]
  | false =>
    cases h36 : decide ((b.toNat : Int) = 36) with
    | true =>
      have e := key t
      rw [hL, cond_false, h36, cond_true] at e
      rw [e] at h hp
      have e2 := mkW_eq h
      rw [e, e2]
      rw [e2] at hp
      show wordF rdF ((b :: t).take (moneyF t).1 ++ 32 :: rest) = _
      rw [hx _ hp, key, hL, cond_false, h36, cond_true, moneyF_b t rest hp, e2]
    | false =>
      cases hD : isD b with
      | true =>
        have hcd : 0 < cntF isD (b :: t) := by rw [cntF_c, hD, cond_true]; omega
        have e := key t
        rw [hL, cond_false, h36, cond_false, hD, cond_true] at e
        by_cases h6 : 0 < (dayF rdF (b :: t)).1
        · rw [decide_eq_true h6, cond_true] at e
          have h10 : (dayF rdF (b :: t)).1 = 10 := by
            unfold dayF at h6 ⊢
            revert h6
            cases decide ((b :: t).length < 10) || nextD (b :: t)
            · cases (rdF ((b :: t).take 10)).2
              · exact fun h => absurd h (Nat.lt_irrefl 0)
              · exact fun _ => rfl
            · exact fun h => absurd h (Nat.lt_irrefl 0)
          rw [e] at h
          have e2 := mkW_eq h
          rw [e, e2, h10]
          have hb := dayF_b (b :: t) rest h6
          show wordF rdF ((b :: t).take 10 ++ 32 :: rest) = _
          rw [hx 10 (by omega)] at hb ⊢
          rw [key, hL, cond_false, h36, cond_false, hD, cond_true, hb, decide_eq_true h6, cond_true, e2, h10]
        rw [decide_eq_false h6, cond_false] at e
        by_cases h5 : 0 < (rateF (b :: t)).1
        · rw [decide_eq_true h5, cond_true] at e
          rw [e] at h
          have e2 := mkW_eq h
          rw [e, e2]
          obtain ⟨q1, q2⟩ := rateF_b (b :: t) rest h5
          show wordF rdF ((b :: t).take (rateF (b :: t)).1 ++ 32 :: rest) = _
          rw [hx _ h5] at q1 q2 ⊢
          have q3 := dayF_no q2
          rw [key, hL, cond_false, h36, cond_false, hD, cond_true, q3, q1, decide_eq_true h5, e2]
          rfl
        · rw [decide_eq_false h5, cond_false] at e
          rw [e] at h
          have e2 := mkW_eq h
          rw [e, e2]
          obtain ⟨q1, q2, q3⟩ := cntN_b (b :: t) rest hcd
          show wordF rdF ((b :: t).take (cntF isD (b :: t)) ++ 32 :: rest) = _
          rw [hx _ hcd] at q1 q2 q3 ⊢
          have q4 := dayF_no q3
          rw [key, hL, cond_false, h36, cond_false, hD, cond_true, q4, q2, q1, e2]
          rfl
      | false =>
        have e := key t
        rw [hL, cond_false, h36, cond_false, hD, cond_false] at e
        cases hf : findS (b :: t) SG with
        | none => rw [hf] at e; rw [e] at h; exact absurd rfl h
        | some w =>
          rw [hf] at e
          have e : wordF rdF (b :: t) = (7, w.length, 0) := e
          have hpre := findS_pre hf
          have hw := hpre.1
          unfold prefF at hw
          rw [Bool.and_eq_true, decide_eq_true_eq, decide_eq_true_eq] at hw
          rw [e] at hp ⊢
          have hb := findS_b rest w hpre.2
          show wordF rdF ((b :: t).take w.length ++ 32 :: rest) = _
          rw [← hw.2, hx _ hp] at hb
          rw [hx _ hp, key, hL, cond_false, h36, cond_false, hD, cond_false, hb]
          show (7, ((b :: t).take w.length).length, 0) = _
          rw [hw.2]
/-- no word begins with a blank -/
theorem wordF_nb {b : UInt8} {t : List UInt8} (h : (wordF rdF (b :: t)).1 ≠ 0) (rest : List UInt8) : skF false (b :: rest) = 0 := by
  have hb : isB b = false ∧ decide ((b.toNat : Int) = 35) = false := by
    cases hL : isL b with
    | true =>
      unfold isL at hL
      rw [Bool.and_eq_true, decide_eq_true_eq, decide_eq_true_eq] at hL
      refine ⟨?_, decide_eq_false (by omega)⟩
      unfold isB
      rw [decide_eq_false (by omega), decide_eq_false (by omega), decide_eq_false (by omega), decide_eq_false (by omega)]; rfl
    | false =>
      by_cases h36 : (b.toNat : Int) = 36
      · refine ⟨?_, decide_eq_false (by omega)⟩
        unfold isB
        rw [decide_eq_false (by omega), decide_eq_false (by omega), decide_eq_false (by omega), decide_eq_false (by omega)]; rfl
      · cases hD : isD b with
        | true =>
          have := isD_in hD
          refine ⟨?_, decide_eq_false (by omega)⟩
          unfold isB
          rw [decide_eq_false (by omega), decide_eq_false (by omega), decide_eq_false (by omega), decide_eq_false (by omega)]; rfl
        | false =>
          have e : wordF rdF (b :: t) = (match findS (b :: t) SG with
            | some w => (7, w.length, 0)
            | none => W0) := by
            show (bif isL b then _ else bif decide ((b.toNat : Int) = 36) then _ else bif isD b then _ else _) = _
            rw [hL, decide_eq_false h36, hD]; rfl
          cases hf : findS (b :: t) SG with
          | none => rw [e, hf] at h; exact absurd rfl h
          | some w =>
            have hpre := findS_pre hf
            have hw := hpre.1
            rw [prefF_eq] at hw
            have : ∀ w ∈ SG, ∀ b t, w.isPrefixOf (b :: t) = true → isB b = false ∧ decide ((b.toNat : Int) = 35) = false := by
              intro w hw b t hp
              unfold SG at hw
              simp only [List.mem_cons, List.not_mem_nil, or_false] at hw
              rcases hw with rfl | rfl | rfl | rfl | rfl | rfl | rfl | rfl | rfl | rfl | rfl | rfl | rfl | rfl | rfl | rfl | rfl | rfl | rfl | rfl <;>
                (simp only [List.isPrefixOf, Bool.and_eq_true, beq_iff_eq] at hp; obtain ⟨rfl, _⟩ := hp; exact ⟨rfl, rfl⟩)
            exact this w hpre.2 b t hw
  rw [skF_f, hb.1, hb.2]; rfl
end Go.Proofs.Ytikdjhlcbkkkfaa.AbsLexO
