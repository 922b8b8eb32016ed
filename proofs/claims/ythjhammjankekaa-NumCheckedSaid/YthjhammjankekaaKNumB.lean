import Derived.Test.YthjhammjankekaaKNumA
namespace Go.Proofs.Ythjhammjankekaa.PNum
open Go.RowKit Go.Proofs.YthjhammjankekaaW.PrintWords Go.Proofs.YthjhammjankekaaW.PrintLast Go.Proofs.YthjhammjankekaaW.PrintMore
set_option linter.unusedVariables false
set_option linter.unusedSimpArgs false
def wv (h l : Int) : Int := h * 18446744073709551616 + l
def WOk (h l : Int) : Prop := -9223372036854775808 ≤ h ∧ h ≤ 9223372036854775807 ∧ 0 ≤ l ∧ l < 18446744073709551616
theorem wv_split (S : Int) : wv (S / 18446744073709551616) (S % 18446744073709551616) = S := by unfold wv; omega
theorem wok_split (S : Int) (h0 : -170141183460469231731687303715884105728 ≤ S) (h1 : S < 170141183460469231731687303715884105728) : WOk (S / 18446744073709551616) (S % 18446744073709551616) := by
  unfold WOk; omega
theorem plus_f (a b c d : Int) (hw : WOk a b) (hv : WOk c d) :
    num_Wide_Plus.f a b c d = if -170141183460469231731687303715884105728 ≤ wv a b + wv c d ∧ wv a b + wv c d < 170141183460469231731687303715884105728 then some ((wv a b + wv c d) / 18446744073709551616, (wv a b + wv c d) % 18446744073709551616, true) else some (0, 0, false) := by
  obtain ⟨a0, a1, b0, b1⟩ := hw
  obtain ⟨c0, c1, d0, d1⟩ := hv
  unfold num_Wide_Plus.f wv
  rw [if_pos ⟨b0, b1, d0, d1⟩]
  have e : plusHi a c ((b + d) / 18446744073709551616) = (((a % 18446744073709551616 + c % 18446744073709551616 + (b + d) / 18446744073709551616) % 18446744073709551616) + 9223372036854775808) % 18446744073709551616 - 9223372036854775808 := by
    unfold plusHi; rw [w64, u64w, u64w]
  generalize plusHi a c ((b + d) / 18446744073709551616) = p at e
  by_cases h : -170141183460469231731687303715884105728 ≤ a * 18446744073709551616 + b + (c * 18446744073709551616 + d) ∧ a * 18446744073709551616 + b + (c * 18446744073709551616 + d) < 170141183460469231731687303715884105728
  · rw [if_pos h, if_neg (by omega)]
    have e1 : p = (a * 18446744073709551616 + b + (c * 18446744073709551616 + d)) / 18446744073709551616 := by omega
    have e2 : (b + d) % 18446744073709551616 = (a * 18446744073709551616 + b + (c * 18446744073709551616 + d)) % 18446744073709551616 := by omega
    rw [e1, e2]
  · rw [if_neg h, if_pos (by omega)]
theorem turned_f (a b : Int) (hw : WOk a b) (hne : wv a b ≠ -170141183460469231731687303715884105728) : num_Wide_turned.f a b = some (-(wv a b) / 18446744073709551616, -(wv a b) % 18446744073709551616) := by
  obtain ⟨a0, a1, b0, b1⟩ := hw
  unfold num_Wide_turned.f
  rw [if_pos b0, if_pos b1, w64, u64w]
  unfold bor
  unfold wv at hne ⊢
  have e1 : (((-(a % 18446744073709551616) - if 0 < b then 1 else 0) % 18446744073709551616 + 9223372036854775808) % 18446744073709551616 - 9223372036854775808) = -(a * 18446744073709551616 + b) / 18446744073709551616 := by
    split <;> omega
  have e2 : -b % 18446744073709551616 = -(a * 18446744073709551616 + b) % 18446744073709551616 := by omega
  rw [e1, e2]
theorem of_f (a : Int) (a0 : -9223372036854775808 ≤ a) (a1 : a ≤ 9223372036854775807) : num_Of.f a = some (a / 18446744073709551616, a % 18446744073709551616) := by
  unfold num_Of.f
  rw [u64w]
  have e : a / 9223372036854775808 = a / 18446744073709551616 := by omega
  rw [e]
theorem of_ok (a : Int) (a0 : -9223372036854775808 ≤ a) (a1 : a ≤ 9223372036854775807) : WOk (a / 18446744073709551616) (a % 18446744073709551616) := wok_split a (by omega) (by omega)
end Go.Proofs.Ythjhammjankekaa.PNum
