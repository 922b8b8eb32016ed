import Derived.Test.YtcjamnbbedpebaaAbsTypKF
import Derived.Test.YtcjamnbbedpebaaAbsTypKG
import Derived.Test.YtcjamnbbedpebaaAbsTypKH
import Derived.Test.YtcjamnbbedpebaaAbsTypKI
import Derived.Test.YtcjamnbbedpebaaAbsTypKJ
import Derived.Test.YtcjamnbbedpebaaAbsTypKK
import Derived.Test.YtcjamnbbedpebaaAbsTypKL
import Derived.Test.YtcjamnbbedpebaaAbsTypKM
import Derived.Test.YtcjamnbbedpebaaAbsTypKN
import Derived.Test.YtcjamnbbedpebaaAbsTypKP
import Derived.Test.YtcjamnbbedpebaaAbsTypKQ
import Derived.Test.YtcjamnbbedpebaaAbsTypKR
import Derived.Test.YtcjamnbbedpebaaAbsTypKS
import Derived.Test.YtcjamnbbedpebaaAbsTypKU
namespace Go.Proofs.Ytcjamnbbedpebaa.AbsTypK
open Go Go.Abs Go.Proofs
set_option maxRecDepth 1000000
set_option linter.unusedVariables false
theorem all (o a b : Int) : isTrue (callN E 100000 5 [.int .i64 o, .int .i64 a, .int .i64 b] st0) = true := match o with
  | .negSucc m => (by kernel_rfl : isTrue (callN E 100000 5 [.int .i64 (.negSucc m), .int .i64 a, .int .i64 b] st0) = true)
  | .ofNat 0 => r0 a b
  | .ofNat 1 => r1 a b
  | .ofNat 2 => r2 a b
  | .ofNat 3 => r3 a b
  | .ofNat 4 => r4 a b
  | .ofNat 5 => r5 a b
  | .ofNat 6 => r6 a b
  | .ofNat 7 => r7 a b
  | .ofNat 8 => r8 a b
  | .ofNat 9 => r9 a b
  | .ofNat 10 => r10 a b
  | .ofNat 11 => r11 a b
  | .ofNat 12 => r12 a b
  | .ofNat 13 => r13 a b
  | .ofNat (m + 14) => (by kernel_rfl : isTrue (callN E 100000 5 [.int .i64 (.ofNat (m + 14)), .int .i64 a, .int .i64 b] st0) = true)
theorem lawTypOps (o a b : Int) (w : World) : Calls Try.prog 5 #[.int .i64 o, .int .i64 a, .int .i64 b] w fun e w' => e = .returned (.bool true) ∧ RowKit.Below w.heap.size w w' :=
  args_true (E := E) (args := [.int .i64 o, .int .i64 a, .int .i64 b]) mixed exOk ⟨fnsOk, known⟩ rfl (all o a b) w
end Go.Proofs.Ytcjamnbbedpebaa.AbsTypK
