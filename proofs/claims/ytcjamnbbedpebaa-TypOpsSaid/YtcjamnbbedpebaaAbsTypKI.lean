import Derived.Test.YtcjamnbbedpebaaAbsTypKO
namespace Go.Proofs.Ytcjamnbbedpebaa.AbsTypK
open Go Go.Abs Go.Proofs
set_option maxRecDepth 1000000
set_option linter.unusedVariables false
theorem r3_1_1 : isTrue (callN E 100000 5 [.int .i64 (.ofNat 3), .int .i64 (.ofNat 1), .int .i64 (.ofNat 1)] st0) = true := by kernel_rfl
theorem r3_1_2 : isTrue (callN E 100000 5 [.int .i64 (.ofNat 3), .int .i64 (.ofNat 1), .int .i64 (.ofNat 2)] st0) = true := by kernel_rfl
theorem r3_1_3 : isTrue (callN E 100000 5 [.int .i64 (.ofNat 3), .int .i64 (.ofNat 1), .int .i64 (.ofNat 3)] st0) = true := by kernel_rfl
theorem r3_1_4 : isTrue (callN E 100000 5 [.int .i64 (.ofNat 3), .int .i64 (.ofNat 1), .int .i64 (.ofNat 4)] st0) = true := by kernel_rfl
theorem r3_1_5 : isTrue (callN E 100000 5 [.int .i64 (.ofNat 3), .int .i64 (.ofNat 1), .int .i64 (.ofNat 5)] st0) = true := by kernel_rfl
theorem r3_1_6 : isTrue (callN E 100000 5 [.int .i64 (.ofNat 3), .int .i64 (.ofNat 1), .int .i64 (.ofNat 6)] st0) = true := by kernel_rfl
theorem r3_1 (b : Int) : isTrue (callN E 100000 5 [.int .i64 (.ofNat 3), .int .i64 (.ofNat 1), .int .i64 b] st0) = true := match b with
  | .negSucc m => (by kernel_rfl : isTrue (callN E 100000 5 [.int .i64 (.ofNat 3), .int .i64 (.ofNat 1), .int .i64 (.negSucc m)] st0) = true)
  | .ofNat 0 => (by kernel_rfl : isTrue (callN E 100000 5 [.int .i64 (.ofNat 3), .int .i64 (.ofNat 1), .int .i64 (.ofNat 0)] st0) = true)
  | .ofNat 1 => r3_1_1
  | .ofNat 2 => r3_1_2
  | .ofNat 3 => r3_1_3
  | .ofNat 4 => r3_1_4
  | .ofNat 5 => r3_1_5
  | .ofNat 6 => r3_1_6
  | .ofNat (m + 7) => (by kernel_rfl : isTrue (callN E 100000 5 [.int .i64 (.ofNat 3), .int .i64 (.ofNat 1), .int .i64 (.ofNat (m + 7))] st0) = true)
theorem r3_2_1 : isTrue (callN E 100000 5 [.int .i64 (.ofNat 3), .int .i64 (.ofNat 2), .int .i64 (.ofNat 1)] st0) = true := by kernel_rfl
theorem r3_2_2 : isTrue (callN E 100000 5 [.int .i64 (.ofNat 3), .int .i64 (.ofNat 2), .int .i64 (.ofNat 2)] st0) = true := by kernel_rfl
theorem r3_2_3 : isTrue (callN E 100000 5 [.int .i64 (.ofNat 3), .int .i64 (.ofNat 2), .int .i64 (.ofNat 3)] st0) = true := by kernel_rfl
theorem r3_2_4 : isTrue (callN E 100000 5 [.int .i64 (.ofNat 3), .int .i64 (.ofNat 2), .int .i64 (.ofNat 4)] st0) = true := by kernel_rfl
theorem r3_2_5 : isTrue (callN E 100000 5 [.int .i64 (.ofNat 3), .int .i64 (.ofNat 2), .int .i64 (.ofNat 5)] st0) = true := by kernel_rfl
theorem r3_2_6 : isTrue (callN E 100000 5 [.int .i64 (.ofNat 3), .int .i64 (.ofNat 2), .int .i64 (.ofNat 6)] st0) = true := by kernel_rfl
theorem r3_2 (b : Int) : isTrue (callN E 100000 5 [.int .i64 (.ofNat 3), .int .i64 (.ofNat 2), .int .i64 b] st0) = true := match b with
  | .negSucc m => (by kernel_rfl : isTrue (callN E 100000 5 [.int .i64 (.ofNat 3), .int .i64 (.ofNat 2), .int .i64 (.negSucc m)] st0) = true)
  | .ofNat 0 => (by kernel_rfl : isTrue (callN E 100000 5 [.int .i64 (.ofNat 3), .int .i64 (.ofNat 2), .int .i64 (.ofNat 0)] st0) = true)
  | .ofNat 1 => r3_2_1
  | .ofNat 2 => r3_2_2
  | .ofNat 3 => r3_2_3
  | .ofNat 4 => r3_2_4
  | .ofNat 5 => r3_2_5
  | .ofNat 6 => r3_2_6
  | .ofNat (m + 7) => (by kernel_rfl : isTrue (callN E 100000 5 [.int .i64 (.ofNat 3), .int .i64 (.ofNat 2), .int .i64 (.ofNat (m + 7))] st0) = true)
theorem r3_3_1 : isTrue (callN E 100000 5 [.int .i64 (.ofNat 3), .int .i64 (.ofNat 3), .int .i64 (.ofNat 1)] st0) = true := by kernel_rfl
theorem r3_3_2 : isTrue (callN E 100000 5 [.int .i64 (.ofNat 3), .int .i64 (.ofNat 3), .int .i64 (.ofNat 2)] st0) = true := by kernel_rfl
theorem r3_3_3 : isTrue (callN E 100000 5 [.int .i64 (.ofNat 3), .int .i64 (.ofNat 3), .int .i64 (.ofNat 3)] st0) = true := by kernel_rfl
theorem r3_3_4 : isTrue (callN E 100000 5 [.int .i64 (.ofNat 3), .int .i64 (.ofNat 3), .int .i64 (.ofNat 4)] st0) = true := by kernel_rfl
theorem r3_3_5 : isTrue (callN E 100000 5 [.int .i64 (.ofNat 3), .int .i64 (.ofNat 3), .int .i64 (.ofNat 5)] st0) = true := by kernel_rfl
theorem r3_3_6 : isTrue (callN E 100000 5 [.int .i64 (.ofNat 3), .int .i64 (.ofNat 3), .int .i64 (.ofNat 6)] st0) = true := by kernel_rfl
theorem r3_3 (b : Int) : isTrue (callN E 100000 5 [.int .i64 (.ofNat 3), .int .i64 (.ofNat 3), .int .i64 b] st0) = true := match b with
  | .negSucc m => (by kernel_rfl : isTrue (callN E 100000 5 [.int .i64 (.ofNat 3), .int .i64 (.ofNat 3), .int .i64 (.negSucc m)] st0) = true)
  | .ofNat 0 => (by kernel_rfl : isTrue (callN E 100000 5 [.int .i64 (.ofNat 3), .int .i64 (.ofNat 3), .int .i64 (.ofNat 0)] st0) = true)
  | .ofNat 1 => r3_3_1
  | .ofNat 2 => r3_3_2
  | .ofNat 3 => r3_3_3
  | .ofNat 4 => r3_3_4
  | .ofNat 5 => r3_3_5
  | .ofNat 6 => r3_3_6
  | .ofNat (m + 7) => (by kernel_rfl : isTrue (callN E 100000 5 [.int .i64 (.ofNat 3), .int .i64 (.ofNat 3), .int .i64 (.ofNat (m + 7))] st0) = true)
theorem r3_4_1 : isTrue (callN E 100000 5 [.int .i64 (.ofNat 3), .int .i64 (.ofNat 4), .int .i64 (.ofNat 1)] st0) = true := by kernel_rfl
theorem r3_4_2 : isTrue (callN E 100000 5 [.int .i64 (.ofNat 3), .int .i64 (.ofNat 4), .int .i64 (.ofNat 2)] st0) = true := by kernel_rfl
theorem r3_4_3 : isTrue (callN E 100000 5 [.int .i64 (.ofNat 3), .int .i64 (.ofNat 4), .int .i64 (.ofNat 3)] st0) = true := by kernel_rfl
theorem r3_4_4 : isTrue (callN E 100000 5 [.int .i64 (.ofNat 3), .int .i64 (.ofNat 4), .int .i64 (.ofNat 4)] st0) = true := by kernel_rfl
theorem r3_4_5 : isTrue (callN E 100000 5 [.int .i64 (.ofNat 3), .int .i64 (.ofNat 4), .int .i64 (.ofNat 5)] st0) = true := by kernel_rfl
theorem r3_4_6 : isTrue (callN E 100000 5 [.int .i64 (.ofNat 3), .int .i64 (.ofNat 4), .int .i64 (.ofNat 6)] st0) = true := by kernel_rfl
theorem r3_4 (b : Int) : isTrue (callN E 100000 5 [.int .i64 (.ofNat 3), .int .i64 (.ofNat 4), .int .i64 b] st0) = true := match b with
  | .negSucc m => (by kernel_rfl : isTrue (callN E 100000 5 [.int .i64 (.ofNat 3), .int .i64 (.ofNat 4), .int .i64 (.negSucc m)] st0) = true)
  | .ofNat 0 => (by kernel_rfl : isTrue (callN E 100000 5 [.int .i64 (.ofNat 3), .int .i64 (.ofNat 4), .int .i64 (.ofNat 0)] st0) = true)
  | .ofNat 1 => r3_4_1
  | .ofNat 2 => r3_4_2
  | .ofNat 3 => r3_4_3
  | .ofNat 4 => r3_4_4
  | .ofNat 5 => r3_4_5
  | .ofNat 6 => r3_4_6
  | .ofNat (m + 7) => (by kernel_rfl : isTrue (callN E 100000 5 [.int .i64 (.ofNat 3), .int .i64 (.ofNat 4), .int .i64 (.ofNat (m + 7))] st0) = true)
theorem r3_5_1 : isTrue (callN E 100000 5 [.int .i64 (.ofNat 3), .int .i64 (.ofNat 5), .int .i64 (.ofNat 1)] st0) = true := by kernel_rfl
theorem r3_5_2 : isTrue (callN E 100000 5 [.int .i64 (.ofNat 3), .int .i64 (.ofNat 5), .int .i64 (.ofNat 2)] st0) = true := by kernel_rfl
theorem r3_5_3 : isTrue (callN E 100000 5 [.int .i64 (.ofNat 3), .int .i64 (.ofNat 5), .int .i64 (.ofNat 3)] st0) = true := by kernel_rfl
theorem r3_5_4 : isTrue (callN E 100000 5 [.int .i64 (.ofNat 3), .int .i64 (.ofNat 5), .int .i64 (.ofNat 4)] st0) = true := by kernel_rfl
theorem r3_5_5 : isTrue (callN E 100000 5 [.int .i64 (.ofNat 3), .int .i64 (.ofNat 5), .int .i64 (.ofNat 5)] st0) = true := by kernel_rfl
theorem r3_5_6 : isTrue (callN E 100000 5 [.int .i64 (.ofNat 3), .int .i64 (.ofNat 5), .int .i64 (.ofNat 6)] st0) = true := by kernel_rfl
theorem r3_5 (b : Int) : isTrue (callN E 100000 5 [.int .i64 (.ofNat 3), .int .i64 (.ofNat 5), .int .i64 b] st0) = true := match b with
  | .negSucc m => (by kernel_rfl : isTrue (callN E 100000 5 [.int .i64 (.ofNat 3), .int .i64 (.ofNat 5), .int .i64 (.negSucc m)] st0) = true)
  | .ofNat 0 => (by kernel_rfl : isTrue (callN E 100000 5 [.int .i64 (.ofNat 3), .int .i64 (.ofNat 5), .int .i64 (.ofNat 0)] st0) = true)
  | .ofNat 1 => r3_5_1
  | .ofNat 2 => r3_5_2
  | .ofNat 3 => r3_5_3
  | .ofNat 4 => r3_5_4
  | .ofNat 5 => r3_5_5
  | .ofNat 6 => r3_5_6
  | .ofNat (m + 7) => (by kernel_rfl : isTrue (callN E 100000 5 [.int .i64 (.ofNat 3), .int .i64 (.ofNat 5), .int .i64 (.ofNat (m + 7))] st0) = true)
theorem r3_6_1 : isTrue (callN E 100000 5 [.int .i64 (.ofNat 3), .int .i64 (.ofNat 6), .int .i64 (.ofNat 1)] st0) = true := by kernel_rfl
theorem r3_6_2 : isTrue (callN E 100000 5 [.int .i64 (.ofNat 3), .int .i64 (.ofNat 6), .int .i64 (.ofNat 2)] st0) = true := by kernel_rfl
theorem r3_6_3 : isTrue (callN E 100000 5 [.int .i64 (.ofNat 3), .int .i64 (.ofNat 6), .int .i64 (.ofNat 3)] st0) = true := by kernel_rfl
theorem r3_6_4 : isTrue (callN E 100000 5 [.int .i64 (.ofNat 3), .int .i64 (.ofNat 6), .int .i64 (.ofNat 4)] st0) = true := by kernel_rfl
theorem r3_6_5 : isTrue (callN E 100000 5 [.int .i64 (.ofNat 3), .int .i64 (.ofNat 6), .int .i64 (.ofNat 5)] st0) = true := by kernel_rfl
theorem r3_6_6 : isTrue (callN E 100000 5 [.int .i64 (.ofNat 3), .int .i64 (.ofNat 6), .int .i64 (.ofNat 6)] st0) = true := by kernel_rfl
theorem r3_6 (b : Int) : isTrue (callN E 100000 5 [.int .i64 (.ofNat 3), .int .i64 (.ofNat 6), .int .i64 b] st0) = true := match b with
  | .negSucc m => (by kernel_rfl : isTrue (callN E 100000 5 [.int .i64 (.ofNat 3), .int .i64 (.ofNat 6), .int .i64 (.negSucc m)] st0) = true)
  | .ofNat 0 => (by kernel_rfl : isTrue (callN E 100000 5 [.int .i64 (.ofNat 3), .int .i64 (.ofNat 6), .int .i64 (.ofNat 0)] st0) = true)
  | .ofNat 1 => r3_6_1
  | .ofNat 2 => r3_6_2
  | .ofNat 3 => r3_6_3
  | .ofNat 4 => r3_6_4
  | .ofNat 5 => r3_6_5
  | .ofNat 6 => r3_6_6
  | .ofNat (m + 7) => (by kernel_rfl : isTrue (callN E 100000 5 [.int .i64 (.ofNat 3), .int .i64 (.ofNat 6), .int .i64 (.ofNat (m + 7))] st0) = true)
theorem r3 (a b : Int) : isTrue (callN E 100000 5 [.int .i64 (.ofNat 3), .int .i64 a, .int .i64 b] st0) = true := match a with
  | .negSucc m => (by kernel_rfl : isTrue (callN E 100000 5 [.int .i64 (.ofNat 3), .int .i64 (.negSucc m), .int .i64 b] st0) = true)
  | .ofNat 0 => (by kernel_rfl : isTrue (callN E 100000 5 [.int .i64 (.ofNat 3), .int .i64 (.ofNat 0), .int .i64 b] st0) = true)
  | .ofNat 1 => r3_1 b
  | .ofNat 2 => r3_2 b
  | .ofNat 3 => r3_3 b
  | .ofNat 4 => r3_4 b
  | .ofNat 5 => r3_5 b
  | .ofNat 6 => r3_6 b
  | .ofNat (m + 7) => (by kernel_rfl : isTrue (callN E 100000 5 [.int .i64 (.ofNat 3), .int .i64 (.ofNat (m + 7)), .int .i64 b] st0) = true)
end Go.Proofs.Ytcjamnbbedpebaa.AbsTypK
