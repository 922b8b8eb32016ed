import Derived.Test.YtdfmhjbmenfaeaaDoorRows
import Derived.Test.YtdfmhjbmenfaeaaDoorAbsCalDT
import Derived.KernelRfl
namespace Go.Proofs.YtdfmhjbmenfaeaaDoor.AbsCalD
open Go Go.Abs Go.Proofs
set_option maxRecDepth 100000
set_option linter.unusedVariables false
noncomputable section
-- publican/cal.day
def c28 : AFunc := ⟨9, [.tmp t2],
 (xSeq (xOps [⟨(some t2), oMov (.v (.bool false)), none, none⟩])
 (xSeq (xOps [⟨(some t3), oMov (.t t0), none, none⟩,
   ⟨(some t4), oBin (int2 (cmpO geI)) (.t t3) (.v (.int .i64 0)), none, none⟩,
   ⟨(some t5), oMov (.t t4), none, none⟩,
   ⟨(some t6), oMov (.t t0), (some (t5, true)), none⟩,
   ⟨(some t7), oBin (int2 (cmpO leI)) (.t t6) (.v (.int .i64 109572)), (some (t5, true)), none⟩,
   ⟨(some t8), oPick (.t t5) (.t t7) (.v (.bool false)), none, none⟩,
   ⟨(some t2), oMov (.t t8), none, none⟩])
 xRet))⟩
theorem ok28 : cFunc Tryd.prog gl ex Tryd.f28 = some c28 := by kernel_rfl
-- publican/cal.digits
def c29_l0 : X := (xSeq (xSeq (xOps [⟨(some t8), oMov (.t t5), none, none⟩,
   ⟨(some t9), oLenS (.t t8), none, none⟩,
   ⟨(some t10), oMov (.t t1), none, none⟩,
   ⟨(some t11), oBin (int2 (cmpO ltI)) (.t t9) (.t t10), none, none⟩])
 (xCond (.t t11)
 xSkip
 (xExit 0)))
 (xBlock 1 (xOps [⟨(some t12), oMov (.t t5), none, none⟩,
   ⟨(some t13), oBin (str2 catO) (.v (.string ⟨⟨[48]⟩⟩)) (.t t12), none, none⟩,
   ⟨(some t5), oMov (.t t13), none, none⟩])))
def c29_r0 : X := (xSeq (xOps [⟨(some t14), oMov (.t t5), none, none⟩,
   ⟨(some t4), oMov (.t t14), none, none⟩])
 xRet)
def c29 : AFunc := ⟨15, [.tmp t4],
 (xSeq (xOps [⟨(some t4), oMov (.v (.string ⟨⟨[]⟩⟩)), none, none⟩])
 (xSeq (xOps [⟨(some t6), oMov (.t t0), none, none⟩,
   ⟨(some t7), oCall 31 [(.t t6)], none, none⟩,
   ⟨(some t5), oMov (.t t7), none, none⟩])
 (xSeq (xBlock 0 (xLoop c29_l0))
 c29_r0)))⟩
theorem ok29 : cFunc Tryd.prog gl ex Tryd.f29 = some c29 := by kernel_rfl
-- publican/publicanref1.two
def c30 : AFunc := ⟨14, [.tmp t2],
 (xSeq (xOps [⟨(some t2), oMov (.v (.string ⟨⟨[]⟩⟩)), none, none⟩])
 (xSeq (xOps [⟨(some t3), oMov (.t t0), none, none⟩,
   ⟨(some t4), oBin (int2 quoO) (.t t3) (.v (.int .i64 10)), none, none⟩,
   ⟨(some t5), oBin (int2 remO) (.t t4) (.v (.int .i64 10)), none, none⟩,
   ⟨(some t6), oBin (int2 addO) (.v (.int .i64 48)) (.t t5), none, none⟩,
   ⟨(some t7), oConv .u8 (.t t6), none, none⟩,
   ⟨(some t8), oMov (.t t0), none, none⟩,
   ⟨(some t9), oBin (int2 remO) (.t t8) (.v (.int .i64 10)), none, none⟩,
   ⟨(some t10), oBin (int2 addO) (.v (.int .i64 48)) (.t t9), none, none⟩,
   ⟨(some t11), oConv .u8 (.t t10), none, none⟩,
   ⟨(some t12), oBuildSlice 2 [(.int .u8 0), (.int .u8 0)] [(0, 1, (.t t7)), (1, 1, (.t t11))], none, none⟩,
   ⟨(some t13), oBytesStr (.t t12), none, none⟩,
   ⟨(some t2), oMov (.t t13), none, none⟩])
 xRet))⟩
theorem ok30 : cFunc Tryd.prog gl ex Tryd.f30 = some c30 := by kernel_rfl
end
end Go.Proofs.YtdfmhjbmenfaeaaDoor.AbsCalD
