import Derived.Test.YtdnedangfnincaaLiftAccR0
import Derived.Test.YtdnedangfnincaaLiftAccR1
import Derived.Test.YtdnedangfnincaaLiftAccR2
import Derived.Test.YtdnedangfnincaaLiftAccR3
import Derived.Test.YtdnedangfnincaaAbsY
import Derived.Test.YtdnedangfnincaaAbsZM
import Derived.Test.YtdnedangfnincaaInsB
import Derived.Test.YtdnedangfnincaaAbsYI
import Derived.Test.YtdnedangfnincaaAbsZS
namespace Go.Proofs.Ytdnedangfnincaa.AbsAccR
open Go Go.Abs Go.Proofs
set_option maxRecDepth 100000
set_option linter.unusedVariables false
noncomputable section
def E : Env := ⟨fns, insertK 57 2 16 noKnown⟩
theorem known : RecOk Try.prog noGl (insertK 57 2 16 noKnown) := insertK_ok (by decide) ⟨_, Try.func57, by kernel_rfl, by kernel_rfl⟩ noKnown_ok Ins.room Ins.grow
theorem x6 (M : Nat) (a0 : Value) (s : St) : callN E (M + 1) 6 [a0] s = F6 (callN E M) M a0 s :=
  (by kernel_rfl : callN E (M + 1) 6 [a0] s = callF (callN E M) M c6 [a0] s).trans (f6 (callN E M) M a0 s)
theorem x12 (M : Nat) (a0 : Value) (s : St) : callN E (M + 1) 12 [a0] s = F12 (callN E M) M a0 s :=
  (by kernel_rfl : callN E (M + 1) 12 [a0] s = callF (callN E M) M c12 [a0] s).trans (f12 (callN E M) M a0 s)
theorem x24 (M : Nat) (a0 : Value) (s : St) : callN E (M + 1) 24 [a0] s = F24 (callN E M) M a0 s :=
  (by kernel_rfl : callN E (M + 1) 24 [a0] s = callF (callN E M) M c24 [a0] s).trans (f24 (callN E M) M a0 s)
theorem x25 (M : Nat) (a0 : Value) (a1 : Value) (s : St) : callN E (M + 1) 25 [a0, a1] s = F25 (callN E M) M a0 a1 s :=
  (by kernel_rfl : callN E (M + 1) 25 [a0, a1] s = callF (callN E M) M c25 [a0, a1] s).trans (f25 (callN E M) M a0 a1 s)
theorem x26 (M : Nat) (s : St) : callN E (M + 1) 26 [] s = F26 (callN E M) M s :=
  (by kernel_rfl : callN E (M + 1) 26 [] s = callF (callN E M) M c26 [] s).trans (f26 (callN E M) M s)
theorem x30 (M : Nat) (a0 : Value) (s : St) : callN E (M + 1) 30 [a0] s = F30 (callN E M) M a0 s :=
  (by kernel_rfl : callN E (M + 1) 30 [a0] s = callF (callN E M) M c30 [a0] s).trans (f30 (callN E M) M a0 s)
theorem x31 (M : Nat) (a0 : Value) (s : St) : callN E (M + 1) 31 [a0] s = F31 (callN E M) M a0 s :=
  (by kernel_rfl : callN E (M + 1) 31 [a0] s = callF (callN E M) M c31 [a0] s).trans (f31 (callN E M) M a0 s)
theorem x34 (M : Nat) (a0 : Value) (s : St) : callN E (M + 1) 34 [a0] s = F34 (callN E M) M a0 s :=
  (by kernel_rfl : callN E (M + 1) 34 [a0] s = callF (callN E M) M c34 [a0] s).trans (f34 (callN E M) M a0 s)
theorem x35 (M : Nat) (a0 : Value) (s : St) : callN E (M + 1) 35 [a0] s = F35 (callN E M) M a0 s :=
  (by kernel_rfl : callN E (M + 1) 35 [a0] s = callF (callN E M) M c35 [a0] s).trans (f35 (callN E M) M a0 s)
theorem x36 (M : Nat) (a0 : Value) (a1 : Value) (s : St) : callN E (M + 1) 36 [a0, a1] s = F36 (callN E M) M a0 a1 s :=
  (by kernel_rfl : callN E (M + 1) 36 [a0, a1] s = callF (callN E M) M c36 [a0, a1] s).trans (f36 (callN E M) M a0 a1 s)
theorem x37 (M : Nat) (a0 : Value) (s : St) : callN E (M + 1) 37 [a0] s = F37 (callN E M) M a0 s :=
  (by kernel_rfl : callN E (M + 1) 37 [a0] s = callF (callN E M) M c37 [a0] s).trans (f37 (callN E M) M a0 s)
theorem x39 (M : Nat) (a0 : Value) (s : St) : callN E (M + 1) 39 [a0] s = F39 (callN E M) M a0 s :=
  (by kernel_rfl : callN E (M + 1) 39 [a0] s = callF (callN E M) M c39 [a0] s).trans (f39 (callN E M) M a0 s)
theorem x40 (M : Nat) (a0 : Value) (s : St) : callN E (M + 1) 40 [a0] s = F40 (callN E M) M a0 s :=
  (by kernel_rfl : callN E (M + 1) 40 [a0] s = callF (callN E M) M c40 [a0] s).trans (f40 (callN E M) M a0 s)
theorem x41 (M : Nat) (a0 : Value) (s : St) : callN E (M + 1) 41 [a0] s = F41 (callN E M) M a0 s :=
  (by kernel_rfl : callN E (M + 1) 41 [a0] s = callF (callN E M) M c41 [a0] s).trans (f41 (callN E M) M a0 s)
theorem x42 (M : Nat) (a0 : Value) (s : St) : callN E (M + 1) 42 [a0] s = F42 (callN E M) M a0 s :=
  (by kernel_rfl : callN E (M + 1) 42 [a0] s = callF (callN E M) M c42 [a0] s).trans (f42 (callN E M) M a0 s)
theorem x43 (M : Nat) (a0 : Value) (s : St) : callN E (M + 1) 43 [a0] s = F43 (callN E M) M a0 s :=
  (by kernel_rfl : callN E (M + 1) 43 [a0] s = callF (callN E M) M c43 [a0] s).trans (f43 (callN E M) M a0 s)
theorem x44 (M : Nat) (a0 : Value) (a1 : Value) (s : St) : callN E (M + 1) 44 [a0, a1] s = F44 (callN E M) M a0 a1 s :=
  (by kernel_rfl : callN E (M + 1) 44 [a0, a1] s = callF (callN E M) M c44 [a0, a1] s).trans (f44 (callN E M) M a0 a1 s)
theorem x51 (M : Nat) (a0 : Value) (a1 : Value) (s : St) : callN E (M + 1) 51 [a0, a1] s = F51 (callN E M) M a0 a1 s :=
  (by kernel_rfl : callN E (M + 1) 51 [a0, a1] s = callF (callN E M) M c51 [a0, a1] s).trans (f51 (callN E M) M a0 a1 s)
theorem x52 (M : Nat) (a0 : Value) (a1 : Value) (s : St) : callN E (M + 1) 52 [a0, a1] s = F52 (callN E M) M a0 a1 s :=
  (by kernel_rfl : callN E (M + 1) 52 [a0, a1] s = callF (callN E M) M c52 [a0, a1] s).trans (f52 (callN E M) M a0 a1 s)
theorem x53 (M : Nat) (a0 : Value) (a1 : Value) (s : St) : callN E (M + 1) 53 [a0, a1] s = F53 (callN E M) M a0 a1 s :=
  (by kernel_rfl : callN E (M + 1) 53 [a0, a1] s = callF (callN E M) M c53 [a0, a1] s).trans (f53 (callN E M) M a0 a1 s)
theorem x54 (M : Nat) (a0 : Value) (s : St) : callN E (M + 1) 54 [a0] s = F54 (callN E M) M a0 s :=
  (by kernel_rfl : callN E (M + 1) 54 [a0] s = callF (callN E M) M c54 [a0] s).trans (f54 (callN E M) M a0 s)
theorem x55 (M : Nat) (a0 : Value) (a1 : Value) (s : St) : callN E (M + 1) 55 [a0, a1] s = F55 (callN E M) M a0 a1 s :=
  (by kernel_rfl : callN E (M + 1) 55 [a0, a1] s = callF (callN E M) M c55 [a0, a1] s).trans (f55 (callN E M) M a0 a1 s)
theorem x58 (M : Nat) (a0 : Value) (a1 : Value) (s : St) : callN E (M + 1) 58 [a0, a1] s = F58 (callN E M) M a0 a1 s :=
  (by kernel_rfl : callN E (M + 1) 58 [a0, a1] s = callF (callN E M) M c58 [a0, a1] s).trans (f58 (callN E M) M a0 a1 s)
theorem x59 (M : Nat) (a0 : Value) (s : St) : callN E (M + 1) 59 [a0] s = F59 (callN E M) M a0 s :=
  (by kernel_rfl : callN E (M + 1) 59 [a0] s = callF (callN E M) M c59 [a0] s).trans (f59 (callN E M) M a0 s)
theorem x60 (M : Nat) (a0 : Value) (s : St) : callN E (M + 1) 60 [a0] s = F60 (callN E M) M a0 s :=
  (by kernel_rfl : callN E (M + 1) 60 [a0] s = callF (callN E M) M c60 [a0] s).trans (f60 (callN E M) M a0 s)
theorem x61 (M : Nat) (a0 : Value) (s : St) : callN E (M + 1) 61 [a0] s = F61 (callN E M) M a0 s :=
  (by kernel_rfl : callN E (M + 1) 61 [a0] s = callF (callN E M) M c61 [a0] s).trans (f61 (callN E M) M a0 s)
theorem x70 (M : Nat) (a0 : Value) (a1 : Value) (s : St) : callN E (M + 1) 70 [a0, a1] s = F70 (callN E M) M a0 a1 s :=
  (by kernel_rfl : callN E (M + 1) 70 [a0, a1] s = callF (callN E M) M c70 [a0, a1] s).trans (f70 (callN E M) M a0 a1 s)
theorem x71 (M : Nat) (a0 : Value) (s : St) : callN E (M + 1) 71 [a0] s = F71 (callN E M) M a0 s :=
  (by kernel_rfl : callN E (M + 1) 71 [a0] s = callF (callN E M) M c71 [a0] s).trans (f71 (callN E M) M a0 s)
theorem x72 (M : Nat) (a0 : Value) (a1 : Value) (s : St) : callN E (M + 1) 72 [a0, a1] s = F72 (callN E M) M a0 a1 s :=
  (by kernel_rfl : callN E (M + 1) 72 [a0, a1] s = callF (callN E M) M c72 [a0, a1] s).trans (f72 (callN E M) M a0 a1 s)
end
end Go.Proofs.Ytdnedangfnincaa.AbsAccR
