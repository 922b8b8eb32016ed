import Derived.Test.YtdnedangfnincaaLiftAccO0
import Derived.Test.YtdnedangfnincaaLiftAccO1
import Derived.Test.YtdnedangfnincaaLiftAccO2
import Derived.Test.YtdnedangfnincaaLiftAccO3
import Derived.Test.YtdnedangfnincaaLiftAccO4
import Derived.Test.YtdnedangfnincaaAbsY
import Derived.Test.YtdnedangfnincaaAbsZM
import Derived.Test.YtdnedangfnincaaInsB
import Derived.Test.YtdnedangfnincaaAbsYI
import Derived.Test.YtdnedangfnincaaAbsZS
namespace Go.Proofs.Ytdnedangfnincaa.AbsAccO
open Go Go.Abs Go.Proofs
set_option maxRecDepth 100000
set_option linter.unusedVariables false
noncomputable section
def E : Env := ⟨fns, insertK 57 2 16 noKnown⟩
theorem known : RecOk Try.prog noGl (insertK 57 2 16 noKnown) := insertK_ok (by decide) ⟨_, Try.func57, by kernel_rfl, by kernel_rfl⟩ noKnown_ok Ins.room Ins.grow
theorem x5 (M : Nat) (a0 : Value) (a1 : Value) (a2 : Value) (a3 : Value) (s : St) : callN E (M + 1) 5 [a0, a1, a2, a3] s = F5 (callN E M) M a0 a1 a2 a3 s :=
  (by kernel_rfl : callN E (M + 1) 5 [a0, a1, a2, a3] s = callF (callN E M) M c5 [a0, a1, a2, a3] s).trans (f5 (callN E M) M a0 a1 a2 a3 s)
theorem x7 (M : Nat) (a0 : Value) (a1 : Value) (a2 : Value) (a3 : Value) (s : St) : callN E (M + 1) 7 [a0, a1, a2, a3] s = F7 (callN E M) M a0 a1 a2 a3 s :=
  (by kernel_rfl : callN E (M + 1) 7 [a0, a1, a2, a3] s = callF (callN E M) M c7 [a0, a1, a2, a3] s).trans (f7 (callN E M) M a0 a1 a2 a3 s)
theorem x8 (M : Nat) (a0 : Value) (a1 : Value) (a2 : Value) (s : St) : callN E (M + 1) 8 [a0, a1, a2] s = F8 (callN E M) M a0 a1 a2 s :=
  (by kernel_rfl : callN E (M + 1) 8 [a0, a1, a2] s = callF (callN E M) M c8 [a0, a1, a2] s).trans (f8 (callN E M) M a0 a1 a2 s)
theorem x11 (M : Nat) (a0 : Value) (a1 : Value) (s : St) : callN E (M + 1) 11 [a0, a1] s = F11 (callN E M) M a0 a1 s :=
  (by kernel_rfl : callN E (M + 1) 11 [a0, a1] s = callF (callN E M) M c11 [a0, a1] s).trans (f11 (callN E M) M a0 a1 s)
theorem x12 (M : Nat) (a0 : Value) (s : St) : callN E (M + 1) 12 [a0] s = F12 (callN E M) M a0 s :=
  (by kernel_rfl : callN E (M + 1) 12 [a0] s = callF (callN E M) M c12 [a0] s).trans (f12 (callN E M) M a0 s)
theorem x13 (M : Nat) (a0 : Value) (a1 : Value) (a2 : Value) (s : St) : callN E (M + 1) 13 [a0, a1, a2] s = F13 (callN E M) M a0 a1 a2 s :=
  (by kernel_rfl : callN E (M + 1) 13 [a0, a1, a2] s = callF (callN E M) M c13 [a0, a1, a2] s).trans (f13 (callN E M) M a0 a1 a2 s)
theorem x14 (M : Nat) (a0 : Value) (a1 : Value) (a2 : Value) (a3 : Value) (s : St) : callN E (M + 1) 14 [a0, a1, a2, a3] s = F14 (callN E M) M a0 a1 a2 a3 s :=
  (by kernel_rfl : callN E (M + 1) 14 [a0, a1, a2, a3] s = callF (callN E M) M c14 [a0, a1, a2, a3] s).trans (f14 (callN E M) M a0 a1 a2 a3 s)
theorem x20 (M : Nat) (a0 : Value) (a1 : Value) (a2 : Value) (s : St) : callN E (M + 1) 20 [a0, a1, a2] s = F20 (callN E M) M a0 a1 a2 s :=
  (by kernel_rfl : callN E (M + 1) 20 [a0, a1, a2] s = callF (callN E M) M c20 [a0, a1, a2] s).trans (f20 (callN E M) M a0 a1 a2 s)
theorem x22 (M : Nat) (a0 : Value) (a1 : Value) (a2 : Value) (s : St) : callN E (M + 1) 22 [a0, a1, a2] s = F22 (callN E M) M a0 a1 a2 s :=
  (by kernel_rfl : callN E (M + 1) 22 [a0, a1, a2] s = callF (callN E M) M c22 [a0, a1, a2] s).trans (f22 (callN E M) M a0 a1 a2 s)
theorem x24 (M : Nat) (a0 : Value) (s : St) : callN E (M + 1) 24 [a0] s = F24 (callN E M) M a0 s :=
  (by kernel_rfl : callN E (M + 1) 24 [a0] s = callF (callN E M) M c24 [a0] s).trans (f24 (callN E M) M a0 s)
theorem x30 (M : Nat) (a0 : Value) (s : St) : callN E (M + 1) 30 [a0] s = F30 (callN E M) M a0 s :=
  (by kernel_rfl : callN E (M + 1) 30 [a0] s = callF (callN E M) M c30 [a0] s).trans (f30 (callN E M) M a0 s)
theorem x31 (M : Nat) (a0 : Value) (s : St) : callN E (M + 1) 31 [a0] s = F31 (callN E M) M a0 s :=
  (by kernel_rfl : callN E (M + 1) 31 [a0] s = callF (callN E M) M c31 [a0] s).trans (f31 (callN E M) M a0 s)
theorem x32 (M : Nat) (a0 : Value) (s : St) : callN E (M + 1) 32 [a0] s = F32 (callN E M) M a0 s :=
  (by kernel_rfl : callN E (M + 1) 32 [a0] s = callF (callN E M) M c32 [a0] s).trans (f32 (callN E M) M a0 s)
theorem x33 (M : Nat) (a0 : Value) (s : St) : callN E (M + 1) 33 [a0] s = F33 (callN E M) M a0 s :=
  (by kernel_rfl : callN E (M + 1) 33 [a0] s = callF (callN E M) M c33 [a0] s).trans (f33 (callN E M) M a0 s)
theorem x38 (M : Nat) (a0 : Value) (s : St) : callN E (M + 1) 38 [a0] s = F38 (callN E M) M a0 s :=
  (by kernel_rfl : callN E (M + 1) 38 [a0] s = callF (callN E M) M c38 [a0] s).trans (f38 (callN E M) M a0 s)
theorem x39 (M : Nat) (a0 : Value) (s : St) : callN E (M + 1) 39 [a0] s = F39 (callN E M) M a0 s :=
  (by kernel_rfl : callN E (M + 1) 39 [a0] s = callF (callN E M) M c39 [a0] s).trans (f39 (callN E M) M a0 s)
theorem x40 (M : Nat) (a0 : Value) (s : St) : callN E (M + 1) 40 [a0] s = F40 (callN E M) M a0 s :=
  (by kernel_rfl : callN E (M + 1) 40 [a0] s = callF (callN E M) M c40 [a0] s).trans (f40 (callN E M) M a0 s)
theorem x41 (M : Nat) (a0 : Value) (s : St) : callN E (M + 1) 41 [a0] s = F41 (callN E M) M a0 s :=
  (by kernel_rfl : callN E (M + 1) 41 [a0] s = callF (callN E M) M c41 [a0] s).trans (f41 (callN E M) M a0 s)
theorem x42 (M : Nat) (a0 : Value) (s : St) : callN E (M + 1) 42 [a0] s = F42 (callN E M) M a0 s :=
  (by kernel_rfl : callN E (M + 1) 42 [a0] s = callF (callN E M) M c42 [a0] s).trans (f42 (callN E M) M a0 s)
theorem x43 (M : Nat) (a0 : Value) (s : St) : callN E (M + 1) 43 [a0] s = F43 (callN E M) M a0 s :=
  (by kernel_rfl : callN E (M + 1) 43 [a0] s = callF (callN E M) M c43 [a0] s).trans (f43 (callN E M) M a0 s)
theorem x44 (M : Nat) (a0 : Value) (a1 : Value) (s : St) : callN E (M + 1) 44 [a0, a1] s = F44 (callN E M) M a0 a1 s :=
  (by kernel_rfl : callN E (M + 1) 44 [a0, a1] s = callF (callN E M) M c44 [a0, a1] s).trans (f44 (callN E M) M a0 a1 s)
theorem x45 (M : Nat) (a0 : Value) (a1 : Value) (s : St) : callN E (M + 1) 45 [a0, a1] s = F45 (callN E M) M a0 a1 s :=
  (by kernel_rfl : callN E (M + 1) 45 [a0, a1] s = callF (callN E M) M c45 [a0, a1] s).trans (f45 (callN E M) M a0 a1 s)
theorem x51 (M : Nat) (a0 : Value) (a1 : Value) (s : St) : callN E (M + 1) 51 [a0, a1] s = F51 (callN E M) M a0 a1 s :=
  (by kernel_rfl : callN E (M + 1) 51 [a0, a1] s = callF (callN E M) M c51 [a0, a1] s).trans (f51 (callN E M) M a0 a1 s)
theorem x52 (M : Nat) (a0 : Value) (a1 : Value) (s : St) : callN E (M + 1) 52 [a0, a1] s = F52 (callN E M) M a0 a1 s :=
  (by kernel_rfl : callN E (M + 1) 52 [a0, a1] s = callF (callN E M) M c52 [a0, a1] s).trans (f52 (callN E M) M a0 a1 s)
theorem x60 (M : Nat) (a0 : Value) (s : St) : callN E (M + 1) 60 [a0] s = F60 (callN E M) M a0 s :=
  (by kernel_rfl : callN E (M + 1) 60 [a0] s = callF (callN E M) M c60 [a0] s).trans (f60 (callN E M) M a0 s)
theorem x61 (M : Nat) (a0 : Value) (s : St) : callN E (M + 1) 61 [a0] s = F61 (callN E M) M a0 s :=
  (by kernel_rfl : callN E (M + 1) 61 [a0] s = callF (callN E M) M c61 [a0] s).trans (f61 (callN E M) M a0 s)
theorem x62 (M : Nat) (a0 : Value) (a1 : Value) (a2 : Value) (s : St) : callN E (M + 1) 62 [a0, a1, a2] s = F62 (callN E M) M a0 a1 a2 s :=
  (by kernel_rfl : callN E (M + 1) 62 [a0, a1, a2] s = callF (callN E M) M c62 [a0, a1, a2] s).trans (f62 (callN E M) M a0 a1 a2 s)
theorem x66 (M : Nat) (a0 : Value) (a1 : Value) (a2 : Value) (s : St) : callN E (M + 1) 66 [a0, a1, a2] s = F66 (callN E M) M a0 a1 a2 s :=
  (by kernel_rfl : callN E (M + 1) 66 [a0, a1, a2] s = callF (callN E M) M c66 [a0, a1, a2] s).trans (f66 (callN E M) M a0 a1 a2 s)
theorem x67 (M : Nat) (a0 : Value) (s : St) : callN E (M + 1) 67 [a0] s = F67 (callN E M) M a0 s :=
  (by kernel_rfl : callN E (M + 1) 67 [a0] s = callF (callN E M) M c67 [a0] s).trans (f67 (callN E M) M a0 s)
theorem x68 (M : Nat) (a0 : Value) (a1 : Value) (s : St) : callN E (M + 1) 68 [a0, a1] s = F68 (callN E M) M a0 a1 s :=
  (by kernel_rfl : callN E (M + 1) 68 [a0, a1] s = callF (callN E M) M c68 [a0, a1] s).trans (f68 (callN E M) M a0 a1 s)
theorem x76 (M : Nat) (a0 : Value) (a1 : Value) (s : St) : callN E (M + 1) 76 [a0, a1] s = F76 (callN E M) M a0 a1 s :=
  (by kernel_rfl : callN E (M + 1) 76 [a0, a1] s = callF (callN E M) M c76 [a0, a1] s).trans (f76 (callN E M) M a0 a1 s)
theorem x77 (M : Nat) (a0 : Value) (a1 : Value) (s : St) : callN E (M + 1) 77 [a0, a1] s = F77 (callN E M) M a0 a1 s :=
  (by kernel_rfl : callN E (M + 1) 77 [a0, a1] s = callF (callN E M) M c77 [a0, a1] s).trans (f77 (callN E M) M a0 a1 s)
theorem x79 (M : Nat) (a0 : Value) (s : St) : callN E (M + 1) 79 [a0] s = F79 (callN E M) M a0 s :=
  (by kernel_rfl : callN E (M + 1) 79 [a0] s = callF (callN E M) M c79 [a0] s).trans (f79 (callN E M) M a0 s)
theorem x81 (M : Nat) (a0 : Value) (a1 : Value) (s : St) : callN E (M + 1) 81 [a0, a1] s = F81 (callN E M) M a0 a1 s :=
  (by kernel_rfl : callN E (M + 1) 81 [a0, a1] s = callF (callN E M) M c81 [a0, a1] s).trans (f81 (callN E M) M a0 a1 s)
theorem x82 (M : Nat) (a0 : Value) (a1 : Value) (s : St) : callN E (M + 1) 82 [a0, a1] s = F82 (callN E M) M a0 a1 s :=
  (by kernel_rfl : callN E (M + 1) 82 [a0, a1] s = callF (callN E M) M c82 [a0, a1] s).trans (f82 (callN E M) M a0 a1 s)
theorem x83 (M : Nat) (a0 : Value) (s : St) : callN E (M + 1) 83 [a0] s = F83 (callN E M) M a0 s :=
  (by kernel_rfl : callN E (M + 1) 83 [a0] s = callF (callN E M) M c83 [a0] s).trans (f83 (callN E M) M a0 s)
end
end Go.Proofs.Ytdnedangfnincaa.AbsAccO
