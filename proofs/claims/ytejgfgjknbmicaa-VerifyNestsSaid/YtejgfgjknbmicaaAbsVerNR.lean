import Derived.Test.YtejgfgjknbmicaaAbsVerNE
namespace Go.Proofs.Ytejgfgjknbmicaa.AbsVerN
open Go Go.Abs Go.Proofs
set_option maxRecDepth 100000
set_option linter.unusedVariables false
noncomputable section
def E : Env := ⟨fns, noKnown⟩
theorem neg (m : Nat) : isTrue (callN E 100000 4 [.int .i64 (.negSucc m)] st0) = true := by kernel_rfl
theorem big (m : Nat) : isTrue (callN E 100000 4 [.int .i64 (.ofNat (m + 15))] st0) = true := by kernel_rfl
theorem s0 : isTrue (callN E 100000 4 [.int .i64 (.ofNat 0)] st0) = true := by kernel_rfl
theorem s1 : isTrue (callN E 100000 4 [.int .i64 (.ofNat 1)] st0) = true := by kernel_rfl
theorem s2 : isTrue (callN E 100000 4 [.int .i64 (.ofNat 2)] st0) = true := by kernel_rfl
theorem s3 : isTrue (callN E 100000 4 [.int .i64 (.ofNat 3)] st0) = true := by kernel_rfl
theorem s4 : isTrue (callN E 100000 4 [.int .i64 (.ofNat 4)] st0) = true := by kernel_rfl
theorem s5 : isTrue (callN E 100000 4 [.int .i64 (.ofNat 5)] st0) = true := by kernel_rfl
theorem s6 : isTrue (callN E 100000 4 [.int .i64 (.ofNat 6)] st0) = true := by kernel_rfl
theorem s7 : isTrue (callN E 100000 4 [.int .i64 (.ofNat 7)] st0) = true := by kernel_rfl
theorem s8 : isTrue (callN E 100000 4 [.int .i64 (.ofNat 8)] st0) = true := by kernel_rfl
theorem s9 : isTrue (callN E 100000 4 [.int .i64 (.ofNat 9)] st0) = true := by kernel_rfl
theorem s10 : isTrue (callN E 100000 4 [.int .i64 (.ofNat 10)] st0) = true := by kernel_rfl
theorem s11 : isTrue (callN E 100000 4 [.int .i64 (.ofNat 11)] st0) = true := by kernel_rfl
theorem s12 : isTrue (callN E 100000 4 [.int .i64 (.ofNat 12)] st0) = true := by kernel_rfl
theorem s13 : isTrue (callN E 100000 4 [.int .i64 (.ofNat 13)] st0) = true := by kernel_rfl
theorem s14 : isTrue (callN E 100000 4 [.int .i64 (.ofNat 14)] st0) = true := by kernel_rfl
theorem all : ∀ n : Int, isTrue (callN E 100000 4 [.int .i64 n] st0) = true
  | .negSucc m => neg m
  | .ofNat 0 => s0
  | .ofNat 1 => s1
  | .ofNat 2 => s2
  | .ofNat 3 => s3
  | .ofNat 4 => s4
  | .ofNat 5 => s5
  | .ofNat 6 => s6
  | .ofNat 7 => s7
  | .ofNat 8 => s8
  | .ofNat 9 => s9
  | .ofNat 10 => s10
  | .ofNat 11 => s11
  | .ofNat 12 => s12
  | .ofNat 13 => s13
  | .ofNat 14 => s14
  | .ofNat (m + 15) => big m
theorem law (n : Int) (w : World) : Calls Try.prog 4 #[.int .i64 n] w fun e w' => e = .returned (.bool true) ∧ RowKit.Below w.heap.size w w' :=
  args_true mixed exOk ⟨fnsOk, noKnown_ok⟩ rfl (all n) w
end
end Go.Proofs.Ytejgfgjknbmicaa.AbsVerN
