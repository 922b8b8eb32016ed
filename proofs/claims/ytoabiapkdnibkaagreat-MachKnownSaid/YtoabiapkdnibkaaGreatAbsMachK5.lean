import Derived.Test.YtoabiapkdnibkaaGreatRows
import Derived.Test.YtoabiapkdnibkaaGreatAbsMachKT
import Derived.KernelRfl
namespace Go.Proofs.YtoabiapkdnibkaaGreat.AbsMachK
open Go Go.Abs Go.Proofs
set_option maxRecDepth 100000
set_option linter.unusedVariables false
noncomputable section
end
end Go.Proofs.YtoabiapkdnibkaaGreat.AbsMachK
