import Derived.Test.YtikdjhlcbkkkfaaAbsLexKE
import Derived.Test.YtikdjhlcbkkkfaaAbsY
import Derived.Test.YtikdjhlcbkkkfaaShelf
namespace Go.Proofs.Ytikdjhlcbkkkfaa.AbsLexK
open Go Go.Abs Go.Proofs
set_option maxRecDepth 100000
set_option linter.unusedVariables false
noncomputable section
def E : Env := ⟨fns, repeatK 48 noKnown⟩
theorem known : RecOk Try.prog noGl (repeatK 48 noKnown) :=
  repeatK_ok ⟨_, Try.func48, by kernel_rfl, by kernel_rfl⟩ noKnown_ok fun s c w h1 h2 => Try.strings_Repeat s c w h1 h2
theorem run : isTrue (callN E 100000 3 [] st0) = true := by kernel_rfl
theorem law (w : World) : Calls Try.prog 3 #[] w fun e w' => e = .returned (.bool true) ∧ RowKit.Below w.heap.size w w' :=
  closed_true mixed exOk ⟨fnsOk, known⟩ run w
end
end Go.Proofs.Ytikdjhlcbkkkfaa.AbsLexK
