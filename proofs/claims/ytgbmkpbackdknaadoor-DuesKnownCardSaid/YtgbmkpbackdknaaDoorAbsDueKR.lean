import Derived.Test.YtgbmkpbackdknaaDoorAbsDueKE
import Derived.Test.YtgbmkpbackdknaaDoorAbsDueKK
namespace Go.Proofs.YtgbmkpbackdknaaDoor.AbsDueK
open Go Go.Abs Go.Proofs
set_option maxRecDepth 100000
set_option linter.unusedVariables false
noncomputable section
def E : Env := ⟨fns, cloneK 56 noKnown⟩
def pow : List Int := [1, 10, 100, 1000, 10000, 100000, 1000000, 10000000, 100000000, 1000000000, 10000000000, 100000000000, 1000000000000, 10000000000000, 100000000000000, 1000000000000000, 10000000000000000, 100000000000000000, 1000000000000000000, 10000000000000000000]
def cells : List Value := [.int .u64 (.ofNat 1), .int .u64 (.ofNat 10), .int .u64 (.ofNat 100), .int .u64 (.ofNat 1000), .int .u64 (.ofNat 10000), .int .u64 (.ofNat 100000), .int .u64 (.ofNat 1000000), .int .u64 (.ofNat 10000000), .int .u64 (.ofNat 100000000), .int .u64 (.ofNat 1000000000), .int .u64 (.ofNat 10000000000), .int .u64 (.ofNat 100000000000), .int .u64 (.ofNat 1000000000000), .int .u64 (.ofNat 10000000000000), .int .u64 (.ofNat 100000000000000), .int .u64 (.ofNat 1000000000000000), .int .u64 (.ofNat 10000000000000000), .int .u64 (.ofNat 100000000000000000), .int .u64 (.ofNat 1000000000000000000), .int .u64 (.ofNat 10000000000000000000)]
theorem run : isTrueG 2 (callN E 100000 3 [] (stg 2 cells)) = true := by kernel_rfl
theorem law (W : World) (hL : laidMet Tryd.prog Rows.duesKnownRow.laid W) : Calls Tryd.prog 3 #[] W fun e w' => e = .returned (.bool true) ∧ RowKit.Below W.heap.size W w' := by
  obtain ⟨arr, ty, h1, h2⟩ := laid_cells (n := "internal/strconv.uint64pow10") (k := .u64) (zs := pow) (g := 2) (t := 130) (e := 81) (m := 20) hL (List.Mem.tail _ (List.Mem.tail _ (List.Mem.head _))) (by kernel_rfl) (by kernel_rfl) Tryd.underlying130 Tryd.underlying81 (by kernel_rfl) (by kernel_rfl) (by decide)
  exact laid_true (by decide) mixed exOk ⟨fnsOk, cloneOk⟩ rfl (by kernel_rfl) run W h1 h2
end
end Go.Proofs.YtgbmkpbackdknaaDoor.AbsDueK
