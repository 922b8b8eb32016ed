import Derived.Test.YtdnedangfnincaaAbsAccKE
import Derived.Test.YtdnedangfnincaaInsB
namespace Go.Proofs.Ytdnedangfnincaa.AbsAccK
open Go Go.Abs Go.Proofs
set_option maxRecDepth 100000
set_option linter.unusedVariables false
noncomputable section
def E : Env := ⟨fns, insertK 57 2 16 noKnown⟩
theorem known : RecOk Try.prog noGl (insertK 57 2 16 noKnown) := insertK_ok (by decide) ⟨_, Try.func57, by kernel_rfl, by kernel_rfl⟩ noKnown_ok Ins.room Ins.grow
theorem run : isTrue (callN E 100000 3 [] st0) = true := by kernel_rfl
theorem law (w : World) : Calls Try.prog 3 #[] w fun e w' => e = .returned (.bool true) ∧ RowKit.Below w.heap.size w w' :=
  closed_true mixed exOk ⟨fnsOk, known⟩ run w
end
end Go.Proofs.Ytdnedangfnincaa.AbsAccK
