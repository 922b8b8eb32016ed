import Derived.Test.YthjhammjankekaaProg
import Derived.Below
import Derived.Deep.Draws
import Derived.Deep.AppendLies
import Derived.Maps.AppendAt
import Derived.OwnWalk
import Derived.Laws.BytesArg
import Derived.Laws.MakeOwn
import Derived.Laws.OwnMore
import Derived.Deep.OwnRows
import Derived.Tactics
import Derived.Lib.ConvBytes
import Derived.Laws.Slices
import Derived.WalkKit
import Derived.KernelRfl
import Derived.RowKit3
import Derived.Deep.LoopGhost
import Derived.Deep.QuietTactic
import Derived.BigQuiet
import Derived.WideLaws
import Derived.Deep.DeepCutAuto
import Derived.Deep.CutBlock
import Derived.Deep.RegionHeld3
import Derived.Laws.Rows
import Derived.Lib.AppendStr
import Derived.ArgAppend
import Derived.Laws.IdiomCopy
import Derived.OrdersHeld
import Derived.Laws.BitsLemmas
import Derived.RowKit
import Derived.WalkSpells
import Derived.Laws.Externs
import Derived.Shelf.Spec.BitsCarry
import Derived.Lib.Hide
import Derived.Test.YthjhammjankekaaKShelf
import Derived.Test.YthjhammjankekaaKWWords
import Derived.Test.YthjhammjankekaaKWLast
import Derived.Test.YthjhammjankekaaKWTab
import Derived.Test.YthjhammjankekaaKWFour
import Derived.Test.YthjhammjankekaaKWQPut
import Derived.Test.YthjhammjankekaaKWApart
import Derived.Test.YthjhammjankekaaKWArr
import Derived.Test.YthjhammjankekaaKWZeros
import Derived.Test.YthjhammjankekaaKWFoot
import Derived.Test.YthjhammjankekaaKWKept
import Derived.Test.YthjhammjankekaaKWShare
import Derived.Test.YthjhammjankekaaKWN
import Derived.Test.YthjhammjankekaaKWFootNe
import Derived.Test.YthjhammjankekaaKWAt
import Derived.Test.YthjhammjankekaaKWEqStruct
import Derived.Test.YthjhammjankekaaKWRepsOne
import Derived.Test.YthjhammjankekaaKWInv
import Derived.Test.YthjhammjankekaaKWInvWords
import Derived.Test.YthjhammjankekaaKWGuard
import Derived.Test.YthjhammjankekaaKWNEv
import Derived.Test.YthjhammjankekaaKWMore
namespace Go.Proofs.Ythjhammjankekaa.PNum
open Go.RowKit Go.Proofs.YthjhammjankekaaW.PrintWords Go.Proofs.YthjhammjankekaaW.PrintLast Go.Proofs.YthjhammjankekaaW.PrintMore
attribute [local go_sem] max2_int min2_int max_two min_two max_three min_three max_four min_four
set_option linter.unusedVariables false
set_option linter.unusedSimpArgs false
def errW : Option Int → Value
 | none => .nilIface
 | some c => .iface 0 (.int .i64 c)
theorem errW_none : errW none = .nilIface := rfl
theorem errW_some (c : Int) : errW (some c) = .iface 0 (.int .i64 c) := rfl
theorem info46 : (Try.prog.info? 46).map (fun i => (i.zero, i.size, i.bytes)) = some (some (.int .u64 0), 1, 8) := by kernel_rfl
end Go.Proofs.Ythjhammjankekaa.PNum
