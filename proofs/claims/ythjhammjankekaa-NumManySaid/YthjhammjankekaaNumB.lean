/- Plain laws of chapter 1's two limbs: sums, turned signs, products, exact quotients of the printed functions, as whole numbers. No Go and no memory. -/
import Derived.Test.YthjhammjankekaaNumA
namespace Go.Proofs.Ythjhammjankekaa.PNum
open Go.RowKit Go.Proofs.YthjhammjankekaaW.PrintWords Go.Proofs.YthjhammjankekaaW.PrintLast Go.Proofs.YthjhammjankekaaW.PrintMore
set_option linter.unusedVariables false
set_option linter.unusedSimpArgs false

/-- A number of two limbs. -/
def wv (h l : Int) : Int := h * 18446744073709551616 + l
/-- Are these two limbs? -/
def WOk (h l : Int) : Prop := -9223372036854775808 ≤ h ∧ h ≤ 9223372036854775807 ∧ 0 ≤ l ∧ l < 18446744073709551616
theorem wv_split (S : Int) : wv (S / 18446744073709551616) (S % 18446744073709551616) = S := by unfold wv; omega
theorem wok_split (S : Int) (h0 : -170141183460469231731687303715884105728 ≤ S) (h1 : S < 170141183460469231731687303715884105728) : WOk (S / 18446744073709551616) (S % 18446744073709551616) := by
  unfold WOk; omega
theorem plus_f (a b c d : Int) (hw : WOk a b) (hv : WOk c d) :
    num_Wide_Plus.f a b c d = if -170141183460469231731687303715884105728 ≤ wv a b + wv c d ∧ wv a b + wv c d < 170141183460469231731687303715884105728 then some ((wv a b + wv c d) / 18446744073709551616, (wv a b + wv c d) % 18446744073709551616, true) else some (0, 0, false) := by
  obtain ⟨a0, a1, b0, b1⟩ := hw
  obtain ⟨c0, c1, d0, d1⟩ := hv
  unfold num_Wide_Plus.f wv
  rw [if_pos ⟨b0, b1, d0, d1⟩]
  have e : plusHi a c ((b + d) / 18446744073709551616) = (((a % 18446744073709551616 + c % 18446744073709551616 + (b + d) / 18446744073709551616) % 18446744073709551616) + 9223372036854775808) % 18446744073709551616 - 9223372036854775808 := by
    unfold plusHi; rw [w64, u64w, u64w]
  generalize plusHi a c ((b + d) / 18446744073709551616) = p at e
  by_cases h : -170141183460469231731687303715884105728 ≤ a * 18446744073709551616 + b + (c * 18446744073709551616 + d) ∧ a * 18446744073709551616 + b + (c * 18446744073709551616 + d) < 170141183460469231731687303715884105728
  · rw [if_pos h, if_neg (by omega)]
    have e1 : p = (a * 18446744073709551616 + b + (c * 18446744073709551616 + d)) / 18446744073709551616 := by omega
    have e2 : (b + d) % 18446744073709551616 = (a * 18446744073709551616 + b + (c * 18446744073709551616 + d)) % 18446744073709551616 := by omega
    rw [e1, e2]
  · rw [if_neg h, if_pos (by omega)]
theorem turned_f (a b : Int) (hw : WOk a b) (hne : wv a b ≠ -170141183460469231731687303715884105728) : num_Wide_turned.f a b = some (-(wv a b) / 18446744073709551616, -(wv a b) % 18446744073709551616) := by
  obtain ⟨a0, a1, b0, b1⟩ := hw
  unfold num_Wide_turned.f
  rw [if_pos b0, if_pos b1, w64, u64w]
  unfold bor
  unfold wv at hne ⊢
  have e1 : (((-(a % 18446744073709551616) - if 0 < b then 1 else 0) % 18446744073709551616 + 9223372036854775808) % 18446744073709551616 - 9223372036854775808) = -(a * 18446744073709551616 + b) / 18446744073709551616 := by
    split <;> omega
  have e2 : -b % 18446744073709551616 = -(a * 18446744073709551616 + b) % 18446744073709551616 := by omega
  rw [e1, e2]
theorem of_f (a : Int) (a0 : -9223372036854775808 ≤ a) (a1 : a ≤ 9223372036854775807) : num_Of.f a = some (a / 18446744073709551616, a % 18446744073709551616) := by
  unfold num_Of.f
  rw [u64w]
  have e : a / 9223372036854775808 = a / 18446744073709551616 := by omega
  rw [e]
theorem of_ok (a : Int) (a0 : -9223372036854775808 ≤ a) (a1 : a ≤ 9223372036854775807) : WOk (a / 18446744073709551616) (a % 18446744073709551616) := wok_split a (by omega) (by omega)
theorem minus_f (a b : Int) (hw : WOk a b) :
    num_Wide_Minus.f a b = if wv a b = -170141183460469231731687303715884105728 then some (0, 0, false) else some (-(wv a b) / 18446744073709551616, -(wv a b) % 18446744073709551616, true) := by
  unfold num_Wide_Minus.f
  by_cases h : wv a b = -170141183460469231731687303715884105728
  · rw [if_pos h]
    obtain ⟨a0, a1, b0, b1⟩ := hw
    unfold wv at h
    obtain rfl : a = -9223372036854775808 := by omega
    obtain rfl : b = 0 := by omega
    rfl
  · rw [if_neg h, turned_f a b hw h, if_neg]
    · rfl
    · intro h2
      simp only [Bool.and_eq_true, beq_iff_eq] at h2
      apply h
      unfold wv
      rw [h2.1, h2.2]
      decide
theorem plusmul_f (a b c d : Int) (hw : WOk a b) (c0 : -9223372036854775808 ≤ c) (c1 : c ≤ 9223372036854775807) (d0 : -9223372036854775808 ≤ d) (d1 : d ≤ 9223372036854775807) :
    num_Wide_PlusMul.f a b c d = if -170141183460469231731687303715884105728 ≤ wv a b + c * d ∧ wv a b + c * d < 170141183460469231731687303715884105728 then some ((wv a b + c * d) / 18446744073709551616, (wv a b + c * d) % 18446744073709551616, true) else some (0, 0, false) := by
  unfold num_Wide_PlusMul.f
  rw [product_f c d c0 c1 d0 d1]
  simp only [Option.bind_some]
  have hp := mul_i64 c d c0 c1 d0 d1
  rw [plus_f a b _ _ hw (wok_split _ (by omega) (by omega)), wv_split]
  split <;> rfl
theorem cmp_f (a b c d : Int) (hw : WOk a b) (hv : WOk c d) :
    num_Wide_Cmp.f a b c d = some (if wv a b = wv c d then 0 else if wv a b < wv c d then -1 else 1) := by
  obtain ⟨a0, a1, b0, b1⟩ := hw
  obtain ⟨c0, c1, d0, d1⟩ := hv
  unfold num_Wide_Cmp.f wv
  by_cases h1 : a = c
  · rw [if_pos h1]
    by_cases h2 : b = d
    · rw [if_pos h2, if_pos (by omega)]
    · by_cases h3 : b < d
      · rw [if_neg h2, if_pos h3, if_neg (by omega), if_pos (by omega)]
      · rw [if_neg h2, if_neg h3, if_neg (by omega), if_neg (by omega)]
  · by_cases h3 : a < c
    · rw [if_neg h1, if_pos h3, if_neg (by omega), if_pos (by omega)]
    · rw [if_neg h1, if_neg h3, if_neg (by omega), if_neg (by omega)]
end Go.Proofs.Ythjhammjankekaa.PNum
