import Derived.Test.YthjhammjankekaaKWInv
import Derived.Test.YthjhammjankekaaKWFootNe
namespace Go.Proofs.YthjhammjankekaaW.PrintWords
open Go.RowKit
end Go.Proofs.YthjhammjankekaaW.PrintWords
namespace Go.Proofs.YthjhammjankekaaW.PrintLast
section
variable {ops : Array Oper} {a : Act} {o og : Oper} {g : Nat} {t : Tmp} {u : Bool}
end
end Go.Proofs.YthjhammjankekaaW.PrintLast
