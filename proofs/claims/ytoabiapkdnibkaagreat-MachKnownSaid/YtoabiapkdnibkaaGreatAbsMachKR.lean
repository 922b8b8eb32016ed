import Derived.Test.YtoabiapkdnibkaaGreatAbsMachKE
namespace Go.Proofs.YtoabiapkdnibkaaGreat.AbsMachK
open Go Go.Abs Go.Proofs
set_option maxRecDepth 100000
set_option linter.unusedVariables false
noncomputable section
def E : Env := ⟨fns, noKnown⟩
theorem run : isTrue (callN E 100000 3 [] st0) = true := by kernel_rfl
theorem law (w : World) : Calls Tryz.prog 3 #[] w fun e w' => e = .returned (.bool true) ∧ RowKit.Below w.heap.size w w' :=
  closed_true mixed exOk ⟨fnsOk, noKnown_ok⟩ run w
end
end Go.Proofs.YtoabiapkdnibkaaGreat.AbsMachK
