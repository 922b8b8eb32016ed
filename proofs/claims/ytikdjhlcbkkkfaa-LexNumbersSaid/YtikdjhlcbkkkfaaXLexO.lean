import Derived.Test.YtikdjhlcbkkkfaaLiftLexO0
import Derived.Test.YtikdjhlcbkkkfaaLiftLexO1
import Derived.Test.YtikdjhlcbkkkfaaLiftLexO2
import Derived.Test.YtikdjhlcbkkkfaaAbsY
import Derived.Test.YtikdjhlcbkkkfaaAbsZM
import Derived.Test.YtikdjhlcbkkkfaaShelf
namespace Go.Proofs.Ytikdjhlcbkkkfaa.AbsLexO
open Go Go.Abs Go.Proofs
set_option maxRecDepth 100000
set_option linter.unusedVariables false
noncomputable section
def E : Env := ⟨fns, repeatK 48 noKnown⟩
theorem known : RecOk Try.prog noGl (repeatK 48 noKnown) :=
  repeatK_ok ⟨_, Try.func48, by kernel_rfl, by kernel_rfl⟩ noKnown_ok fun s c w h1 h2 => Try.strings_Repeat s c w h1 h2
theorem x5 (M : Nat) (a0 : Value) (a1 : Value) (s : St) : callN E (M + 1) 5 [a0, a1] s = F5 (callN E M) M a0 a1 s :=
  (by kernel_rfl : callN E (M + 1) 5 [a0, a1] s = callF (callN E M) M c5 [a0, a1] s).trans (f5 (callN E M) M a0 a1 s)
theorem x9 (M : Nat) (a0 : Value) (s : St) : callN E (M + 1) 9 [a0] s = F9 (callN E M) M a0 s :=
  (by kernel_rfl : callN E (M + 1) 9 [a0] s = callF (callN E M) M c9 [a0] s).trans (f9 (callN E M) M a0 s)
theorem x11 (M : Nat) (a0 : Value) (a1 : Value) (s : St) : callN E (M + 1) 11 [a0, a1] s = F11 (callN E M) M a0 a1 s :=
  (by kernel_rfl : callN E (M + 1) 11 [a0, a1] s = callF (callN E M) M c11 [a0, a1] s).trans (f11 (callN E M) M a0 a1 s)
theorem x12 (M : Nat) (a0 : Value) (s : St) : callN E (M + 1) 12 [a0] s = F12 (callN E M) M a0 s :=
  (by kernel_rfl : callN E (M + 1) 12 [a0] s = callF (callN E M) M c12 [a0] s).trans (f12 (callN E M) M a0 s)
theorem x13 (M : Nat) (a0 : Value) (s : St) : callN E (M + 1) 13 [a0] s = F13 (callN E M) M a0 s :=
  (by kernel_rfl : callN E (M + 1) 13 [a0] s = callF (callN E M) M c13 [a0] s).trans (f13 (callN E M) M a0 s)
theorem x14 (M : Nat) (a0 : Value) (s : St) : callN E (M + 1) 14 [a0] s = F14 (callN E M) M a0 s :=
  (by kernel_rfl : callN E (M + 1) 14 [a0] s = callF (callN E M) M c14 [a0] s).trans (f14 (callN E M) M a0 s)
theorem x15 (M : Nat) (a0 : Value) (s : St) : callN E (M + 1) 15 [a0] s = F15 (callN E M) M a0 s :=
  (by kernel_rfl : callN E (M + 1) 15 [a0] s = callF (callN E M) M c15 [a0] s).trans (f15 (callN E M) M a0 s)
theorem x22 (M : Nat) (a0 : Value) (s : St) : callN E (M + 1) 22 [a0] s = F22 (callN E M) M a0 s :=
  (by kernel_rfl : callN E (M + 1) 22 [a0] s = callF (callN E M) M c22 [a0] s).trans (f22 (callN E M) M a0 s)
theorem x23 (M : Nat) (a0 : Value) (a1 : Value) (s : St) : callN E (M + 1) 23 [a0, a1] s = F23 (callN E M) M a0 a1 s :=
  (by kernel_rfl : callN E (M + 1) 23 [a0, a1] s = callF (callN E M) M c23 [a0, a1] s).trans (f23 (callN E M) M a0 a1 s)
theorem x24 (M : Nat) (a0 : Value) (s : St) : callN E (M + 1) 24 [a0] s = F24 (callN E M) M a0 s :=
  (by kernel_rfl : callN E (M + 1) 24 [a0] s = callF (callN E M) M c24 [a0] s).trans (f24 (callN E M) M a0 s)
theorem x25 (M : Nat) (a0 : Value) (a1 : Value) (s : St) : callN E (M + 1) 25 [a0, a1] s = F25 (callN E M) M a0 a1 s :=
  (by kernel_rfl : callN E (M + 1) 25 [a0, a1] s = callF (callN E M) M c25 [a0, a1] s).trans (f25 (callN E M) M a0 a1 s)
theorem x26 (M : Nat) (a0 : Value) (s : St) : callN E (M + 1) 26 [a0] s = F26 (callN E M) M a0 s :=
  (by kernel_rfl : callN E (M + 1) 26 [a0] s = callF (callN E M) M c26 [a0] s).trans (f26 (callN E M) M a0 s)
theorem x27 (M : Nat) (a0 : Value) (s : St) : callN E (M + 1) 27 [a0] s = F27 (callN E M) M a0 s :=
  (by kernel_rfl : callN E (M + 1) 27 [a0] s = callF (callN E M) M c27 [a0] s).trans (f27 (callN E M) M a0 s)
theorem x28 (M : Nat) (a0 : Value) (s : St) : callN E (M + 1) 28 [a0] s = F28 (callN E M) M a0 s :=
  (by kernel_rfl : callN E (M + 1) 28 [a0] s = callF (callN E M) M c28 [a0] s).trans (f28 (callN E M) M a0 s)
theorem x29 (M : Nat) (a0 : Value) (a1 : Value) (s : St) : callN E (M + 1) 29 [a0, a1] s = F29 (callN E M) M a0 a1 s :=
  (by kernel_rfl : callN E (M + 1) 29 [a0, a1] s = callF (callN E M) M c29 [a0, a1] s).trans (f29 (callN E M) M a0 a1 s)
theorem x30 (M : Nat) (a0 : Value) (s : St) : callN E (M + 1) 30 [a0] s = F30 (callN E M) M a0 s :=
  (by kernel_rfl : callN E (M + 1) 30 [a0] s = callF (callN E M) M c30 [a0] s).trans (f30 (callN E M) M a0 s)
theorem x31 (M : Nat) (a0 : Value) (a1 : Value) (s : St) : callN E (M + 1) 31 [a0, a1] s = F31 (callN E M) M a0 a1 s :=
  (by kernel_rfl : callN E (M + 1) 31 [a0, a1] s = callF (callN E M) M c31 [a0, a1] s).trans (f31 (callN E M) M a0 a1 s)
theorem x32 (M : Nat) (s : St) : callN E (M + 1) 32 [] s = F32 (callN E M) M s :=
  (by kernel_rfl : callN E (M + 1) 32 [] s = callF (callN E M) M c32 [] s).trans (f32 (callN E M) M s)
theorem x33 (M : Nat) (a0 : Value) (a1 : Value) (s : St) : callN E (M + 1) 33 [a0, a1] s = F33 (callN E M) M a0 a1 s :=
  (by kernel_rfl : callN E (M + 1) 33 [a0, a1] s = callF (callN E M) M c33 [a0, a1] s).trans (f33 (callN E M) M a0 a1 s)
theorem x37 (M : Nat) (a0 : Value) (s : St) : callN E (M + 1) 37 [a0] s = F37 (callN E M) M a0 s :=
  (by kernel_rfl : callN E (M + 1) 37 [a0] s = callF (callN E M) M c37 [a0] s).trans (f37 (callN E M) M a0 s)
theorem x38 (M : Nat) (a0 : Value) (s : St) : callN E (M + 1) 38 [a0] s = F38 (callN E M) M a0 s :=
  (by kernel_rfl : callN E (M + 1) 38 [a0] s = callF (callN E M) M c38 [a0] s).trans (f38 (callN E M) M a0 s)
theorem x39 (M : Nat) (a0 : Value) (s : St) : callN E (M + 1) 39 [a0] s = F39 (callN E M) M a0 s :=
  (by kernel_rfl : callN E (M + 1) 39 [a0] s = callF (callN E M) M c39 [a0] s).trans (f39 (callN E M) M a0 s)
theorem x40 (M : Nat) (a0 : Value) (s : St) : callN E (M + 1) 40 [a0] s = F40 (callN E M) M a0 s :=
  (by kernel_rfl : callN E (M + 1) 40 [a0] s = callF (callN E M) M c40 [a0] s).trans (f40 (callN E M) M a0 s)
theorem x41 (M : Nat) (a0 : Value) (s : St) : callN E (M + 1) 41 [a0] s = F41 (callN E M) M a0 s :=
  (by kernel_rfl : callN E (M + 1) 41 [a0] s = callF (callN E M) M c41 [a0] s).trans (f41 (callN E M) M a0 s)
theorem x42 (M : Nat) (a0 : Value) (a1 : Value) (s : St) : callN E (M + 1) 42 [a0, a1] s = F42 (callN E M) M a0 a1 s :=
  (by kernel_rfl : callN E (M + 1) 42 [a0, a1] s = callF (callN E M) M c42 [a0, a1] s).trans (f42 (callN E M) M a0 a1 s)
theorem x43 (M : Nat) (a0 : Value) (a1 : Value) (s : St) : callN E (M + 1) 43 [a0, a1] s = F43 (callN E M) M a0 a1 s :=
  (by kernel_rfl : callN E (M + 1) 43 [a0, a1] s = callF (callN E M) M c43 [a0, a1] s).trans (f43 (callN E M) M a0 a1 s)
theorem x45 (M : Nat) (a0 : Value) (s : St) : callN E (M + 1) 45 [a0] s = F45 (callN E M) M a0 s :=
  (by kernel_rfl : callN E (M + 1) 45 [a0] s = callF (callN E M) M c45 [a0] s).trans (f45 (callN E M) M a0 s)
theorem x46 (M : Nat) (a0 : Value) (a1 : Value) (s : St) : callN E (M + 1) 46 [a0, a1] s = F46 (callN E M) M a0 a1 s :=
  (by kernel_rfl : callN E (M + 1) 46 [a0, a1] s = callF (callN E M) M c46 [a0, a1] s).trans (f46 (callN E M) M a0 a1 s)
theorem x47 (M : Nat) (a0 : Value) (a1 : Value) (s : St) : callN E (M + 1) 47 [a0, a1] s = F47 (callN E M) M a0 a1 s :=
  (by kernel_rfl : callN E (M + 1) 47 [a0, a1] s = callF (callN E M) M c47 [a0, a1] s).trans (f47 (callN E M) M a0 a1 s)
theorem x49 (M : Nat) (a0 : Value) (s : St) : callN E (M + 1) 49 [a0] s = F49 (callN E M) M a0 s :=
  (by kernel_rfl : callN E (M + 1) 49 [a0] s = callF (callN E M) M c49 [a0] s).trans (f49 (callN E M) M a0 s)
theorem x55 (M : Nat) (a0 : Value) (a1 : Value) (a2 : Value) (s : St) : callN E (M + 1) 55 [a0, a1, a2] s = F55 (callN E M) M a0 a1 a2 s :=
  (by kernel_rfl : callN E (M + 1) 55 [a0, a1, a2] s = callF (callN E M) M c55 [a0, a1, a2] s).trans (f55 (callN E M) M a0 a1 a2 s)
theorem x56 (M : Nat) (a0 : Value) (s : St) : callN E (M + 1) 56 [a0] s = F56 (callN E M) M a0 s :=
  (by kernel_rfl : callN E (M + 1) 56 [a0] s = callF (callN E M) M c56 [a0] s).trans (f56 (callN E M) M a0 s)
theorem x61 (M : Nat) (a0 : Value) (a1 : Value) (s : St) : callN E (M + 1) 61 [a0, a1] s = F61 (callN E M) M a0 a1 s :=
  (by kernel_rfl : callN E (M + 1) 61 [a0, a1] s = callF (callN E M) M c61 [a0, a1] s).trans (f61 (callN E M) M a0 a1 s)
theorem x62 (M : Nat) (a0 : Value) (s : St) : callN E (M + 1) 62 [a0] s = F62 (callN E M) M a0 s :=
  (by kernel_rfl : callN E (M + 1) 62 [a0] s = callF (callN E M) M c62 [a0] s).trans (f62 (callN E M) M a0 s)
theorem x65 (M : Nat) (a0 : Value) (s : St) : callN E (M + 1) 65 [a0] s = F65 (callN E M) M a0 s :=
  (by kernel_rfl : callN E (M + 1) 65 [a0] s = callF (callN E M) M c65 [a0] s).trans (f65 (callN E M) M a0 s)
end
theorem es : type_of% @op2_s ∧ type_of% @op_s ∧ type_of% @bin_e ∧ type_of% @pick_e ∧ type_of% @not_e ∧ type_of% @ext_e ∧ type_of% @nth_z ∧ type_of% @nth_1 ∧ type_of% @nth_2 ∧ type_of% @nth_3 ∧ type_of% @gval_e ∧ type_of% @gval_u ∧ type_of% @cmp_e ∧ type_of% @orUndef_t ∧ type_of% @orUndef_f ∧ type_of% @condV_t ∧ type_of% @condV_f ∧ type_of% @eqI_eq ∧ type_of% @neI_eq ∧ type_of% @ltI_eq ∧ type_of% @leI_eq ∧ type_of% @gtI_eq ∧ type_of% @geI_eq ∧ type_of% @Bool.not_true ∧ type_of% @Bool.not_false ∧ type_of% @bf_tt ∧ type_of% @bf_tf ∧ type_of% @bf_ft ∧ type_of% @bf_ff ∧ type_of% @decide_true ∧ type_of% @decide_false ∧ type_of% @oneOf_1 ∧ type_of% @oneOf_2 ∧ type_of% @oneOf_3 ∧ type_of% @thenV_n ∧ type_of% @thenV_e ∧ type_of% @thenV_r ∧ type_of% @exV_e ∧ type_of% @exV_r ∧ type_of% @Nat.beq_refl := ⟨@op2_s, @op_s, @bin_e, @pick_e, @not_e, @ext_e, @nth_z, @nth_1, @nth_2, @nth_3, @gval_e, @gval_u, @cmp_e, @orUndef_t, @orUndef_f, @condV_t, @condV_f, @eqI_eq, @neI_eq, @ltI_eq, @leI_eq, @gtI_eq, @geI_eq, @Bool.not_true, @Bool.not_false, @bf_tt, @bf_tf, @bf_ft, @bf_ff, @decide_true, @decide_false, @oneOf_1, @oneOf_2, @oneOf_3, @thenV_n, @thenV_e, @thenV_r, @exV_e, @exV_r, @Nat.beq_refl⟩
end Go.Proofs.Ytikdjhlcbkkkfaa.AbsLexO
