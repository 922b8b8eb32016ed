import Derived.Test.YtdnedangfnincaaRows
import Derived.Test.YtdnedangfnincaaAbsAccOT
import Derived.KernelRfl
namespace Go.Proofs.Ytdnedangfnincaa.AbsAccO
open Go Go.Abs Go.Proofs
set_option maxRecDepth 100000
set_option linter.unusedVariables false
noncomputable section
-- (*publican/accrue.Acc).Encode
def c24 : AFunc := ⟨32, [.tmp t2],
 (xSeq (xOps [⟨(some t2), oMov (.v (.slice none 0 0)), none, none⟩])
 (xSeq (xReg [⟨(some t4), oMov (.t t0), none, none⟩,
   ⟨(some t5), oNilCheck (.t t4), none, none⟩,
   ⟨(some t6), oFieldAddr 0 (.t t5), none, none⟩,
   ⟨(some t7), oLoad1 (.t t6), none, (some (.t t6))⟩,
   ⟨(some t8), oCall 51 [(.v (.slice none 0 0)), (.t t7)], none, none⟩,
   ⟨(some t9), oMov (.t t0), none, none⟩,
   ⟨(some t10), oNilCheck (.t t9), none, none⟩,
   ⟨(some t11), oFieldAddr 1 (.t t10), none, none⟩,
   ⟨(some t12), oLoad1 (.t t11), none, (some (.t t11))⟩,
   ⟨(some t13), oCall 51 [(.t t8), (.t t12)], none, none⟩,
   ⟨(some t14), oMov (.t t0), none, none⟩,
   ⟨(some t15), oNilCheck (.t t14), none, none⟩,
   ⟨(some t16), oFieldAddr 2 (.t t15), none, none⟩,
   ⟨(some t17), oLoad1 (.t t16), none, (some (.t t16))⟩,
   ⟨(some t18), oCall 51 [(.t t13), (.t t17)], none, none⟩,
   ⟨(some t3), oMov (.t t18), none, none⟩] [(0, 5), (1, 5), (2, 5), (3, 5), (4, 5), (0, 6), (1, 6), (2, 6), (3, 6), (4, 6), (0, 7), (1, 7), (2, 7), (3, 7), (4, 7), (0, 8), (1, 8), (2, 8), (3, 8), (4, 8), (0, 10), (1, 10), (2, 10), (3, 10), (4, 10), (5, 10), (6, 10), (7, 10), (8, 10), (9, 10), (0, 11), (1, 11), (2, 11), (3, 11), (4, 11), (5, 11), (6, 11), (7, 11), (8, 11), (9, 11), (0, 12), (1, 12), (2, 12), (3, 12), (4, 12), (5, 12), (6, 12), (7, 12), (8, 12), (9, 12), (0, 13), (1, 13), (2, 13), (3, 13), (4, 13), (5, 13), (6, 13), (7, 13), (8, 13), (9, 13)])
 (xSeq (xReg [⟨(some t19), oMov (.t t3), none, none⟩,
   ⟨(some t20), oMov (.t t0), none, none⟩,
   ⟨(some t21), oNilCheck (.t t20), none, none⟩,
   ⟨(some t22), oFieldAddr 3 (.t t21), none, none⟩,
   ⟨(some t23), oFieldAddr 0 (.t t22), none, none⟩,
   ⟨(some t24), oLoad1 (.t t23), none, (some (.t t23))⟩,
   ⟨(some t25), oCall 51 [(.t t19), (.t t24)], none, none⟩,
   ⟨(some t26), oMov (.t t0), none, none⟩,
   ⟨(some t27), oNilCheck (.t t26), none, none⟩,
   ⟨(some t28), oFieldAddr 3 (.t t27), none, none⟩,
   ⟨(some t29), oFieldAddr 1 (.t t28), none, none⟩,
   ⟨(some t30), oLoad1 (.t t29), none, (some (.t t29))⟩,
   ⟨(some t31), oCall 52 [(.t t25), (.t t30)], none, none⟩,
   ⟨(some t2), oMov (.t t31), none, none⟩] [(0, 1), (0, 2), (0, 3), (0, 4), (0, 5), (0, 7), (1, 7), (2, 7), (3, 7), (4, 7), (5, 7), (6, 7), (0, 8), (1, 8), (2, 8), (3, 8), (4, 8), (5, 8), (6, 8), (0, 9), (1, 9), (2, 9), (3, 9), (4, 9), (5, 9), (6, 9), (0, 10), (1, 10), (2, 10), (3, 10), (4, 10), (5, 10), (6, 10), (0, 11), (1, 11), (2, 11), (3, 11), (4, 11), (5, 11), (6, 11)])
 xRet)))⟩
theorem ok24 : cFunc Try.prog gl ex Try.f24 = some c24 := by kernel_rfl
-- (*publican/rate.Table).Put
-- (*publican/accrue.Acc).Day
def c30 : AFunc := ⟨7, [.tmp t2],
 (xSeq (xOps [⟨(some t2), oMov (.v (.int .i64 0)), none, none⟩])
 (xSeq (xOps [⟨(some t3), oMov (.t t0), none, none⟩,
   ⟨(some t4), oNilCheck (.t t3), none, none⟩,
   ⟨(some t5), oFieldAddr 0 (.t t4), none, none⟩,
   ⟨(some t6), oLoad1 (.t t5), none, (some (.t t5))⟩,
   ⟨(some t2), oMov (.t t6), none, none⟩])
 xRet))⟩
theorem ok30 : cFunc Try.prog gl ex Try.f30 = some c30 := by kernel_rfl
-- (*publican/accrue.Acc).Principal
def c31 : AFunc := ⟨7, [.tmp t2],
 (xSeq (xOps [⟨(some t2), oMov (.v (.int .i64 0)), none, none⟩])
 (xSeq (xOps [⟨(some t3), oMov (.t t0), none, none⟩,
   ⟨(some t4), oNilCheck (.t t3), none, none⟩,
   ⟨(some t5), oFieldAddr 1 (.t t4), none, none⟩,
   ⟨(some t6), oLoad1 (.t t5), none, (some (.t t5))⟩,
   ⟨(some t2), oMov (.t t6), none, none⟩])
 xRet))⟩
theorem ok31 : cFunc Try.prog gl ex Try.f31 = some c31 := by kernel_rfl
-- (*publican/accrue.Acc).Posted
def c32 : AFunc := ⟨7, [.tmp t2],
 (xSeq (xOps [⟨(some t2), oMov (.v (.int .i64 0)), none, none⟩])
 (xSeq (xOps [⟨(some t3), oMov (.t t0), none, none⟩,
   ⟨(some t4), oNilCheck (.t t3), none, none⟩,
   ⟨(some t5), oFieldAddr 2 (.t t4), none, none⟩,
   ⟨(some t6), oLoad1 (.t t5), none, (some (.t t5))⟩,
   ⟨(some t2), oMov (.t t6), none, none⟩])
 xRet))⟩
theorem ok32 : cFunc Try.prog gl ex Try.f32 = some c32 := by kernel_rfl
-- (*publican/accrue.Acc).Sum
def c33 : AFunc := ⟨7, [.cell t2 (some 2)],
 (xSeq (xOps [⟨(some t2), oNew [(.int .i64 0), (.int .u64 0)], none, none⟩])
 (xSeq (xOps [⟨(some t3), oMov (.t t0), none, none⟩,
   ⟨(some t4), oNilCheck (.t t3), none, none⟩,
   ⟨(some t5), oFieldAddr 3 (.t t4), none, none⟩,
   ⟨(some t6), oLoadN 2 (.t t5), none, none⟩,
   ⟨none, oStore 2 (.t t2) (.t t6), none, none⟩])
 xRet))⟩
theorem ok33 : cFunc Try.prog gl ex Try.f33 = some c33 := by kernel_rfl
-- (*publican/accrue.Acc).Copy
def c38 : AFunc := ⟨7, [.tmp t2],
 (xSeq (xOps [⟨(some t2), oMov (.v (.pointer none)), none, none⟩])
 (xSeq (xOps [⟨(some t4), oMov (.t t0), none, none⟩,
   ⟨(some t5), oNilCheck (.t t4), none, none⟩,
   ⟨(some t6), oLoadN 5 (.t t5), none, none⟩,
   ⟨(some t3), oNew [(.int .i64 0), (.int .i64 0), (.int .i64 0), (.int .i64 0), (.int .u64 0)], none, none⟩,
   ⟨none, oStore 5 (.t t3) (.t t6), none, none⟩])
 (xSeq (xOps [⟨(some t2), oMov (.t t3), none, none⟩])
 xRet)))⟩
theorem ok38 : cFunc Try.prog gl ex Try.f38 = some c38 := by kernel_rfl
-- publican/pack.Read
def c39 : AFunc := ⟨7, [.tmp t2],
 (xSeq (xOps [⟨(some t2), oMov (.v (.pointer none)), none, none⟩])
 (xSeq (xOps [⟨(some t3), oMov (.t t0), none, none⟩,
   ⟨(some t4), oCall 60 [(.t t3)], none, none⟩,
   ⟨(some t5), oBuild [(.slice none 0 0), (.bool false)] [(0, 1, (.t t4))], none, none⟩,
   ⟨(some t6), oBox (.t t5), none, none⟩,
   ⟨(some t2), oMov (.t t6), none, none⟩])
 xRet))⟩
theorem ok39 : cFunc Try.prog gl ex Try.f39 = some c39 := by kernel_rfl
-- (*publican/pack.Reader).I
def c40 : AFunc := ⟨14, [.tmp t2],
 (xSeq (xOps [⟨(some t2), oMov (.v (.int .i64 0)), none, none⟩])
 (xSeq (xOps [⟨(some t4), oMov (.t t0), none, none⟩,
   ⟨(some t5), oCall 41 [(.t t4)], none, none⟩,
   ⟨(some t3), oMov (.t t5), none, none⟩])
 (xSeq (xOps [⟨(some t6), oMov (.t t3), none, none⟩,
   ⟨(some t7), oBin (sh2 shrO) (.t t6) (.v (.int .u64 1)), none, none⟩,
   ⟨(some t8), oConv .i64 (.t t7), none, none⟩,
   ⟨(some t9), oMov (.t t3), none, none⟩,
   ⟨(some t10), oBin (int2 andO) (.t t9) (.v (.int .u64 1)), none, none⟩,
   ⟨(some t11), oConv .i64 (.t t10), none, none⟩,
   ⟨(some t12), oNeg (.t t11), none, none⟩,
   ⟨(some t13), oBin (int2 xorO) (.t t8) (.t t12), none, none⟩,
   ⟨(some t2), oMov (.t t13), none, none⟩])
 xRet)))⟩
theorem ok40 : cFunc Try.prog gl ex Try.f40 = some c40 := by kernel_rfl
-- (*publican/pack.Reader).U
def c41_l0 : X := (xSeq (xOps [⟨(some t12), oBin (int2 (cmpO ltI)) (.t t11) (.t t10), none, none⟩])
 (xSeq (xCond (.t t12)
 xSkip
 (xExit 0))
 (xSeq (xBlock 1 (xSeq (xOps [⟨(some t13), oMov (.t t11), none, none⟩,
   ⟨(some t14), oIdxAddrL 1 (.t t9) (.t t11), none, none⟩,
   ⟨(some t15), oLoad1 (.t t14), none, (some (.t t14))⟩,
   ⟨(some t4), oMov (.t t13), none, none⟩,
   ⟨(some t5), oMov (.t t15), none, none⟩])
 (xSeq (xSeq (xOps [⟨(some t16), oMov (.t t4), none, none⟩,
   ⟨(some t17), oBin (int2 (cmpO eqI)) (.t t16) (.v (.int .i64 9)), none, none⟩,
   ⟨(some t18), oMov (.t t17), none, none⟩,
   ⟨(some t19), oMov (.t t5), (some (t18, true)), none⟩,
   ⟨(some t20), oBin (int2 (cmpO gtI)) (.t t19) (.v (.int .u8 1)), (some (t18, true)), none⟩,
   ⟨(some t21), oPick (.t t18) (.t t20) (.v (.bool false)), none, none⟩])
 (xCond (.t t21)
 (xExit 0)
 xSkip))
 (xSeq (xOps [⟨(some t22), oMov (.t t3), none, none⟩,
   ⟨(some t23), oMov (.t t5), none, none⟩,
   ⟨(some t24), oBin (int2 andO) (.t t23) (.v (.int .u8 127)), none, none⟩,
   ⟨(some t25), oConv .u64 (.t t24), none, none⟩,
   ⟨(some t26), oMov (.t t4), none, none⟩,
   ⟨(some t27), oConv .u64 (.t t26), none, none⟩,
   ⟨(some t28), oBin (int2 mulO) (.v (.int .u64 7)) (.t t27), none, none⟩,
   ⟨(some t29), oBin (sh2 shlO) (.t t25) (.t t28), none, none⟩,
   ⟨(some t30), oBin (int2 orO) (.t t22) (.t t29), none, none⟩,
   ⟨(some t3), oMov (.t t30), none, none⟩])
 (xSeq (xSeq (xOps [⟨(some t31), oMov (.t t5), none, none⟩,
   ⟨(some t32), oBin (int2 (cmpO geI)) (.t t31) (.v (.int .u8 128)), none, none⟩])
 (xCond (.t t32)
 (xExit 1)
 xSkip))
 (xSeq (xSeq (xOps [⟨(some t33), oMov (.t t5), none, none⟩,
   ⟨(some t34), oBin (int2 (cmpO eqI)) (.t t33) (.v (.int .u8 0)), none, none⟩,
   ⟨(some t35), oMov (.t t34), none, none⟩,
   ⟨(some t36), oMov (.t t4), (some (t35, true)), none⟩,
   ⟨(some t37), oBin (int2 (cmpO gtI)) (.t t36) (.v (.int .i64 0)), (some (t35, true)), none⟩,
   ⟨(some t38), oPick (.t t35) (.t t37) (.v (.bool false)), none, none⟩])
 (xCond (.t t38)
 (xExit 0)
 xSkip))
 (xSeq (xOps [⟨(some t39), oMov (.t t0), none, none⟩,
   ⟨(some t40), oMov (.t t0), none, none⟩,
   ⟨(some t41), oNilCheck (.t t40), none, none⟩,
   ⟨(some t42), oFieldAddr 0 (.t t41), none, none⟩,
   ⟨(some t43), oLoad1 (.t t42), none, (some (.t t42))⟩,
   ⟨(some t44), oMov (.t t4), none, none⟩,
   ⟨(some t45), oBin (int2 addO) (.t t44) (.v (.int .i64 1)), none, none⟩,
   ⟨(some t46), oSliceL 1 (.t t43) (some (.t t45)) none none, none, none⟩,
   ⟨(some t47), oNilCheck (.t t39), none, none⟩,
   ⟨(some t48), oFieldAddr 0 (.t t47), none, none⟩,
   ⟨none, oStore 1 (.t t48) (.t t46), none, none⟩])
 (xSeq (xOps [⟨(some t49), oMov (.t t3), none, none⟩,
   ⟨(some t2), oMov (.t t49), none, none⟩])
 xRet))))))))
 (xOps [⟨(some t50), oBin (int2 addO) (.t t11) (.v (.int .i64 1)), none, none⟩,
   ⟨(some t11), oMov (.t t50), none, none⟩]))))
def c41_r0 : X := (xSeq (xOps [⟨(some t51), oMov (.t t0), none, none⟩,
   ⟨(some t52), oCall 61 [(.t t51)], none, none⟩])
 (xSeq (xOps [⟨(some t2), oMov (.v (.int .u64 0)), none, none⟩])
 xRet))
def c41 : AFunc := ⟨53, [.tmp t2],
 (xSeq (xOps [⟨(some t2), oMov (.v (.int .u64 0)), none, none⟩])
 (xSeq (xOps [⟨(some t3), oMov (.v (.int .u64 0)), none, none⟩])
 (xSeq (xSeq (xOps [⟨(some t6), oMov (.t t0), none, none⟩,
   ⟨(some t7), oNilCheck (.t t6), none, none⟩,
   ⟨(some t8), oFieldAddr 0 (.t t7), none, none⟩,
   ⟨(some t9), oLoad1 (.t t8), none, (some (.t t8))⟩,
   ⟨(some t10), oLenL (.t t9), none, none⟩,
   ⟨(some t11), oMov (.v (.int .i64 0)), none, none⟩])
 (xBlock 0 (xLoop c41_l0)))
 c41_r0)))⟩
theorem ok41 : cFunc Try.prog gl ex Try.f41 = some c41 := by kernel_rfl
-- (*publican/pack.Reader).Bad
def c42 : AFunc := ⟨7, [.tmp t2],
 (xSeq (xOps [⟨(some t2), oMov (.v (.bool false)), none, none⟩])
 (xSeq (xOps [⟨(some t3), oMov (.t t0), none, none⟩,
   ⟨(some t4), oNilCheck (.t t3), none, none⟩,
   ⟨(some t5), oFieldAddr 1 (.t t4), none, none⟩,
   ⟨(some t6), oLoad1 (.t t5), none, (some (.t t5))⟩,
   ⟨(some t2), oMov (.t t6), none, none⟩])
 xRet))⟩
theorem ok42 : cFunc Try.prog gl ex Try.f42 = some c42 := by kernel_rfl
-- (*publican/pack.Reader).Left
def c43 : AFunc := ⟨8, [.tmp t2],
 (xSeq (xOps [⟨(some t2), oMov (.v (.int .i64 0)), none, none⟩])
 (xSeq (xOps [⟨(some t3), oMov (.t t0), none, none⟩,
   ⟨(some t4), oNilCheck (.t t3), none, none⟩,
   ⟨(some t5), oFieldAddr 0 (.t t4), none, none⟩,
   ⟨(some t6), oLoad1 (.t t5), none, (some (.t t5))⟩,
   ⟨(some t7), oLenL (.t t6), none, none⟩,
   ⟨(some t2), oMov (.t t7), none, none⟩])
 xRet))⟩
theorem ok43 : cFunc Try.prog gl ex Try.f43 = some c43 := by kernel_rfl
-- (publican/num.Wide).Cmp
def c44_q0 : List AOper := [⟨(some t24), oFieldAddr 1 (.t t3), (some (t21, true)), none⟩,
   ⟨(some t25), oLoad1 (.t t24), (some (t21, true)), (some (.t t24))⟩,
   ⟨(some t26), oBin (int2 (cmpO ltI)) (.t t23) (.t t25), (some (t21, true)), none⟩,
   ⟨(some t27), oPick (.t t21) (.t t26) (.v (.bool false)), (some (t15, false)), none⟩,
   ⟨(some t28), oPick (.t t15) (.v (.bool true)) (.t t27), none, none⟩,
   ⟨(some t9), oMov (.t t28), none, none⟩]
def c44_j0 : X := (xCond (.t t9)
 (xSeq (xOps [⟨(some t4), oMov (.v (.int .i64 (-1))), none, none⟩])
 xRet)
 xSkip)
def c44_j1 : X := (xSeq (xOps [⟨(some t4), oMov (.v (.int .i64 1)), none, none⟩])
 xRet)
def c44 : AFunc := ⟨29, [.tmp t4],
 (xSeq (xOps [⟨(some t2), oBox (.t t0), none, none⟩,
   ⟨(some t3), oBox (.t t1), none, none⟩,
   ⟨(some t4), oMov (.v (.int .i64 0)), none, none⟩])
 (xSeq (xBlock 0 (xSeq (xOps [⟨(some t6), oLoadN 2 (.t t2), none, none⟩,
   ⟨(some t7), oLoadN 2 (.t t3), none, none⟩,
   ⟨(some t8), oEqs false [(0, eqN), (1, eqN)] (.t t6) (.t t7), none, none⟩,
   ⟨(some t5), oMov (.t t8), none, none⟩])
 (xCond (.t t5)
 (xSeq (xOps [⟨(some t4), oMov (.v (.int .i64 0)), none, none⟩])
 xRet)
 (xSeq (xOps (⟨(some t10), oFieldAddr 0 (.t t2), none, none⟩ ::
   ⟨(some t11), oLoad1 (.t t10), none, (some (.t t10))⟩ ::
   ⟨(some t12), oFieldAddr 0 (.t t3), none, none⟩ ::
   ⟨(some t13), oLoad1 (.t t12), none, (some (.t t12))⟩ ::
   ⟨(some t14), oBin (int2 (cmpO ltI)) (.t t11) (.t t13), none, none⟩ ::
   ⟨(some t15), oMov (.t t14), none, none⟩ ::
   ⟨(some t16), oFieldAddr 0 (.t t2), (some (t15, false)), none⟩ ::
   ⟨(some t17), oLoad1 (.t t16), (some (t15, false)), (some (.t t16))⟩ ::
   ⟨(some t18), oFieldAddr 0 (.t t3), (some (t15, false)), none⟩ ::
   ⟨(some t19), oLoad1 (.t t18), (some (t15, false)), (some (.t t18))⟩ ::
   ⟨(some t20), oBin (int2 (cmpO eqI)) (.t t17) (.t t19), (some (t15, false)), none⟩ ::
   ⟨(some t21), oMov (.t t20), (some (t15, false)), none⟩ ::
   ⟨(some t22), oFieldAddr 1 (.t t2), (some (t21, true)), none⟩ ::
   ⟨(some t23), oLoad1 (.t t22), (some (t21, true)), (some (.t t22))⟩ :: c44_q0))
 c44_j0))))
 c44_j1))⟩
theorem ok44 : cFunc Try.prog gl ex Try.f44 = some c44 := by kernel_rfl
-- (*publican/accrue.Acc).may
def c45 : AFunc := ⟨19, [.tmp t4],
 (xSeq (xOps [⟨(some t4), oMov (.v (.int .i64 0)), none, none⟩])
 (xSeq (xBlock 0 (xSeq (xOps [⟨(some t6), oMov (.t t1), none, none⟩,
   ⟨(some t7), oBin (int2 (cmpO ltI)) (.t t6) (.v (.int .i64 0)), none, none⟩,
   ⟨(some t8), oMov (.t t7), none, none⟩,
   ⟨(some t9), oMov (.t t1), (some (t8, false)), none⟩,
   ⟨(some t10), oBin (int2 (cmpO gtI)) (.t t9) (.v (.int .i64 109572)), (some (t8, false)), none⟩,
   ⟨(some t11), oPick (.t t8) (.v (.bool true)) (.t t10), none, none⟩,
   ⟨(some t5), oMov (.t t11), none, none⟩])
 (xCond (.t t5)
 (xSeq (xOps [⟨(some t4), oMov (.v (.int .i64 12)), none, none⟩])
 xRet)
 (xSeq (xOps [⟨(some t13), oMov (.t t1), none, none⟩,
   ⟨(some t14), oMov (.t t0), none, none⟩,
   ⟨(some t15), oNilCheck (.t t14), none, none⟩,
   ⟨(some t16), oFieldAddr 0 (.t t15), none, none⟩,
   ⟨(some t17), oLoad1 (.t t16), none, (some (.t t16))⟩,
   ⟨(some t18), oBin (int2 (cmpO ltI)) (.t t13) (.t t17), none, none⟩,
   ⟨(some t12), oMov (.t t18), none, none⟩])
 (xCond (.t t12)
 (xSeq (xOps [⟨(some t4), oMov (.v (.int .i64 14)), none, none⟩])
 xRet)
 xSkip)))))
 (xSeq (xOps [⟨(some t4), oMov (.v (.int .i64 0)), none, none⟩])
 xRet)))⟩
theorem ok45 : cFunc Try.prog gl ex Try.f45 = some c45 := by kernel_rfl
-- (*publican/accrue.Acc).upTo
-- (publican/num.Wide).Floor
-- publican/pack.I
def c51 : AFunc := ⟨14, [.tmp t4],
 (xSeq (xOps [⟨(some t4), oMov (.v (.slice none 0 0)), none, none⟩])
 (xSeq (xOps [⟨(some t5), oMov (.t t0), none, none⟩,
   ⟨(some t6), oMov (.t t1), none, none⟩,
   ⟨(some t7), oBin (sh2 shlO) (.t t6) (.v (.int .u64 1)), none, none⟩,
   ⟨(some t8), oConv .u64 (.t t7), none, none⟩,
   ⟨(some t9), oMov (.t t1), none, none⟩,
   ⟨(some t10), oBin (sh2 shrO) (.t t9) (.v (.int .u64 63)), none, none⟩,
   ⟨(some t11), oConv .u64 (.t t10), none, none⟩,
   ⟨(some t12), oBin (int2 xorO) (.t t8) (.t t11), none, none⟩,
   ⟨(some t13), oCall 52 [(.t t5), (.t t12)], none, none⟩,
   ⟨(some t4), oMov (.t t13), none, none⟩])
 xRet))⟩
theorem ok51 : cFunc Try.prog gl ex Try.f51 = some c51 := by kernel_rfl
-- publican/pack.U
def c52_l0 : X := (xSeq (xSeq (xOps [⟨(some t7), oMov (.t t1), none, none⟩,
   ⟨(some t8), oBin (int2 (cmpO gtI)) (.t t7) (.v (.int .u64 127)), none, none⟩])
 (xCond (.t t8)
 xSkip
 (xExit 0)))
 (xSeq (xBlock 1 (xOps [⟨(some t11), oMov (.t t0), none, none⟩,
   ⟨(some t12), oMov (.t t1), none, none⟩,
   ⟨(some t13), oBin (int2 andO) (.t t12) (.v (.int .u64 127)), none, none⟩,
   ⟨(some t14), oBin (int2 orO) (.t t13) (.v (.int .u64 128)), none, none⟩,
   ⟨(some t15), oConv .u8 (.t t14), none, none⟩,
   ⟨(some t16), oBuildSlice 1 [(.int .u8 0)] [(0, 1, (.t t15))], none, none⟩,
   ⟨(some t17), oAppend 1 1 (.t t11) (.t t16), none, none⟩,
   ⟨(some t0), oMov (.t t17), none, none⟩]))
 (xOps [⟨(some t9), oMov (.t t1), none, none⟩,
   ⟨(some t10), oBin (sh2 shrO) (.t t9) (.v (.int .u64 7)), none, none⟩,
   ⟨(some t1), oMov (.t t10), none, none⟩])))
def c52_r0 : X := (xSeq (xOps [⟨(some t18), oMov (.t t0), none, none⟩,
   ⟨(some t19), oMov (.t t1), none, none⟩,
   ⟨(some t20), oConv .u8 (.t t19), none, none⟩,
   ⟨(some t21), oBuildSlice 1 [(.int .u8 0)] [(0, 1, (.t t20))], none, none⟩,
   ⟨(some t22), oAppend 1 1 (.t t18) (.t t21), none, none⟩,
   ⟨(some t4), oMov (.t t22), none, none⟩])
 xRet)
def c52 : AFunc := ⟨23, [.tmp t4],
 (xSeq (xOps [⟨(some t4), oMov (.v (.slice none 0 0)), none, none⟩])
 (xSeq (xOps [⟨(some t5), oMov (.t t0), none, none⟩,
   ⟨(some t6), oCall 60 [(.t t5)], none, none⟩,
   ⟨(some t0), oMov (.t t6), none, none⟩])
 (xSeq (xBlock 0 (xLoop c52_l0))
 c52_r0)))⟩
theorem ok52 : cFunc Try.prog gl ex Try.f52 = some c52 := by kernel_rfl
-- (*publican/rate.Table).behind
-- slices.Insert[[]publican/rate.Step,publican/rate.Step]
-- slices.Clone[[]byte,byte]
def c60 : AFunc := ⟨8, [.tmp t2],
 (xSeq (xOps [⟨(some t2), oMov (.v (.slice none 0 0)), none, none⟩])
 (xSeq (xSeq (xOps [⟨(some t3), oMov (.t t0), none, none⟩,
   ⟨(some t4), oEqv eqL false (.t t3) (.v (.slice none 0 0)), none, none⟩])
 (xCond (.t t4)
 (xSeq (xOps [⟨(some t2), oMov (.v (.slice none 0 0)), none, none⟩])
 xRet)
 xSkip))
 (xSeq (xOps [⟨(some t5), oBuildSlice 0 [] [], none, none⟩,
   ⟨(some t6), oMov (.t t0), none, none⟩,
   ⟨(some t7), oAppend 1 1 (.t t5) (.t t6), none, none⟩,
   ⟨(some t2), oMov (.t t7), none, none⟩])
 xRet)))⟩
theorem ok60 : cFunc Try.prog gl ex Try.f60 = some c60 := by kernel_rfl
-- (*publican/pack.Reader).spoil
def c61 : AFunc := ⟨8, [],
 (xOps [⟨(some t2), oMov (.t t0), none, none⟩,
   ⟨(some t3), oMov (.t t0), none, none⟩,
   ⟨(some t4), oNilCheck (.t t2), none, none⟩,
   ⟨(some t5), oFieldAddr 0 (.t t4), none, none⟩,
   ⟨none, oStore 1 (.t t5) (.v (.slice none 0 0)), none, none⟩,
   ⟨(some t6), oNilCheck (.t t3), none, none⟩,
   ⟨(some t7), oFieldAddr 1 (.t t6), none, none⟩,
   ⟨none, oStore 1 (.t t7) (.v (.bool true)), none, none⟩])⟩
theorem ok61 : cFunc Try.prog gl ex Try.f61 = some c61 := by kernel_rfl
-- (publican/num.Wide).PlusMul
def c62 : AFunc := ⟨15, [.cell t6 (some 2), .tmp t7],
 (xSeq (xOps [⟨(some t3), oBox (.t t0), none, none⟩,
   ⟨(some t6), oNew [(.int .i64 0), (.int .u64 0)], none, none⟩,
   ⟨(some t7), oMov (.v (.bool false)), none, none⟩])
 (xSeq (xReg [⟨(some t8), oLoadN 2 (.t t3), none, none⟩,
   ⟨(some t9), oMov (.t t1), none, none⟩,
   ⟨(some t10), oMov (.t t2), none, none⟩,
   ⟨(some t11), oCall 77 [(.t t9), (.t t10)], none, none⟩,
   ⟨(some t12), oCall 68 [(.t t8), (.t t11)], none, none⟩,
   ⟨(some t13), oExtract (.t t12) 0, none, none⟩,
   ⟨(some t14), oExtract (.t t12) 1, none, none⟩,
   ⟨none, oStore 2 (.t t6) (.t t13), none, none⟩,
   ⟨(some t7), oMov (.t t14), none, none⟩] [(0, 1), (0, 2), (1, 2), (0, 3), (5, 6)])
 xRet))⟩
theorem ok62 : cFunc Try.prog gl ex Try.f62 = some c62 := by kernel_rfl
-- (*publican/rate.Table).Sum
-- (publican/num.Wide).turned
def c65 : AFunc := ⟨25, [.cell t2 (some 2)],
 (xSeq (xOps [⟨(some t1), oBox (.t t0), none, none⟩,
   ⟨(some t2), oNew [(.int .i64 0), (.int .u64 0)], none, none⟩])
 (xSeq (xOps [⟨(some t8), oFieldAddr 1 (.t t1), none, none⟩,
   ⟨(some t9), oLoad1 (.t t8), none, (some (.t t8))⟩,
   ⟨(some t10), oExt sub64X [(.v (.int .u64 0)), (.t t9), (.v (.int .u64 0))], none, none⟩,
   ⟨(some t7), oMov (.t t10), none, none⟩,
   ⟨(some t11), oExtract (.t t7) 0, none, none⟩,
   ⟨(some t12), oExtract (.t t7) 1, none, none⟩,
   ⟨(some t3), oMov (.t t11), none, none⟩,
   ⟨(some t4), oMov (.t t12), none, none⟩])
 (xSeq (xOps [⟨(some t14), oFieldAddr 0 (.t t1), none, none⟩,
   ⟨(some t15), oLoad1 (.t t14), none, (some (.t t14))⟩,
   ⟨(some t16), oConv .u64 (.t t15), none, none⟩,
   ⟨(some t17), oMov (.t t4), none, none⟩,
   ⟨(some t18), oExt sub64X [(.v (.int .u64 0)), (.t t16), (.t t17)], none, none⟩,
   ⟨(some t13), oMov (.t t18), none, none⟩,
   ⟨(some t19), oExtract (.t t13) 0, none, none⟩,
   ⟨(some t20), oExtract (.t t13) 1, none, none⟩,
   ⟨(some t5), oMov (.t t19), none, none⟩,
   ⟨(some t6), oMov (.t t20), none, none⟩])
 (xSeq (xOps [⟨(some t21), oMov (.t t5), none, none⟩,
   ⟨(some t22), oConv .i64 (.t t21), none, none⟩,
   ⟨(some t23), oMov (.t t3), none, none⟩,
   ⟨(some t24), oBuild [(.int .i64 0), (.int .u64 0)] [(0, 1, (.t t22)), (1, 1, (.t t23))], none, none⟩,
   ⟨none, oStore 2 (.t t2) (.t t24), none, none⟩])
 xRet))))⟩
theorem ok65 : cFunc Try.prog gl ex Try.f65 = some c65 := by kernel_rfl
-- math/bits.Div64
def c66_g0 : List AOper := [⟨(some t28), oMov (.t t1), none, none⟩,
   ⟨(some t29), oMov (.t t2), none, none⟩,
   ⟨(some t30), oBin (int2 quoO) (.t t28) (.t t29), none, none⟩,
   ⟨(some t31), oMov (.t t1), none, none⟩,
   ⟨(some t32), oMov (.t t2), none, none⟩,
   ⟨(some t33), oBin (int2 remO) (.t t31) (.t t32), none, none⟩,
   ⟨(some t6), oMov (.t t30), none, none⟩,
   ⟨(some t7), oMov (.t t33), none, none⟩]
def c66_l0 : X := (xSeq (xSeq (xOps [⟨(some t67), oMov (.t t15), none, none⟩,
   ⟨(some t68), oBin (int2 (cmpO geI)) (.t t67) (.v (.int .u64 4294967296)), none, none⟩,
   ⟨(some t69), oMov (.t t68), none, none⟩,
   ⟨(some t70), oMov (.t t15), (some (t69, false)), none⟩,
   ⟨(some t71), oMov (.t t10), (some (t69, false)), none⟩,
   ⟨(some t72), oBin (int2 mulO) (.t t70) (.t t71), (some (t69, false)), none⟩,
   ⟨(some t73), oMov (.t t16), (some (t69, false)), none⟩,
   ⟨(some t74), oBin (int2 mulO) (.v (.int .u64 4294967296)) (.t t73), (some (t69, false)), none⟩,
   ⟨(some t75), oMov (.t t13), (some (t69, false)), none⟩,
   ⟨(some t76), oBin (int2 addO) (.t t74) (.t t75), (some (t69, false)), none⟩,
   ⟨(some t77), oBin (int2 (cmpO gtI)) (.t t72) (.t t76), (some (t69, false)), none⟩,
   ⟨(some t78), oPick (.t t69) (.v (.bool true)) (.t t77), none, none⟩])
 (xCond (.t t78)
 xSkip
 (xExit 0)))
 (xBlock 1 (xSeq (xOps [⟨(some t79), oMov (.t t15), none, none⟩,
   ⟨(some t80), oBin (int2 subO) (.t t79) (.v (.int .u64 1)), none, none⟩,
   ⟨(some t15), oMov (.t t80), none, none⟩])
 (xSeq (xOps [⟨(some t81), oMov (.t t16), none, none⟩,
   ⟨(some t82), oMov (.t t9), none, none⟩,
   ⟨(some t83), oBin (int2 addO) (.t t81) (.t t82), none, none⟩,
   ⟨(some t16), oMov (.t t83), none, none⟩])
 (xSeq (xOps [⟨(some t84), oMov (.t t16), none, none⟩,
   ⟨(some t85), oBin (int2 (cmpO geI)) (.t t84) (.v (.int .u64 4294967296)), none, none⟩])
 (xCond (.t t85)
 (xExit 0)
 xSkip))))))
def c66_l1 : X := (xSeq (xSeq (xOps [⟨(some t102), oMov (.t t18), none, none⟩,
   ⟨(some t103), oBin (int2 (cmpO geI)) (.t t102) (.v (.int .u64 4294967296)), none, none⟩,
   ⟨(some t104), oMov (.t t103), none, none⟩,
   ⟨(some t105), oMov (.t t18), (some (t104, false)), none⟩,
   ⟨(some t106), oMov (.t t10), (some (t104, false)), none⟩,
   ⟨(some t107), oBin (int2 mulO) (.t t105) (.t t106), (some (t104, false)), none⟩,
   ⟨(some t108), oMov (.t t16), (some (t104, false)), none⟩,
   ⟨(some t109), oBin (int2 mulO) (.v (.int .u64 4294967296)) (.t t108), (some (t104, false)), none⟩,
   ⟨(some t110), oMov (.t t14), (some (t104, false)), none⟩,
   ⟨(some t111), oBin (int2 addO) (.t t109) (.t t110), (some (t104, false)), none⟩,
   ⟨(some t112), oBin (int2 (cmpO gtI)) (.t t107) (.t t111), (some (t104, false)), none⟩,
   ⟨(some t113), oPick (.t t104) (.v (.bool true)) (.t t112), none, none⟩])
 (xCond (.t t113)
 xSkip
 (xExit 2)))
 (xBlock 3 (xSeq (xOps [⟨(some t114), oMov (.t t18), none, none⟩,
   ⟨(some t115), oBin (int2 subO) (.t t114) (.v (.int .u64 1)), none, none⟩,
   ⟨(some t18), oMov (.t t115), none, none⟩])
 (xSeq (xOps [⟨(some t116), oMov (.t t16), none, none⟩,
   ⟨(some t117), oMov (.t t9), none, none⟩,
   ⟨(some t118), oBin (int2 addO) (.t t116) (.t t117), none, none⟩,
   ⟨(some t16), oMov (.t t118), none, none⟩])
 (xSeq (xOps [⟨(some t119), oMov (.t t16), none, none⟩,
   ⟨(some t120), oBin (int2 (cmpO geI)) (.t t119) (.v (.int .u64 4294967296)), none, none⟩])
 (xCond (.t t120)
 (xExit 2)
 xSkip))))))
def c66_r0 : X := (xSeq (xOps [⟨(some t121), oMov (.t t15), none, none⟩,
   ⟨(some t122), oBin (int2 mulO) (.t t121) (.v (.int .u64 4294967296)), none, none⟩,
   ⟨(some t123), oMov (.t t18), none, none⟩,
   ⟨(some t124), oBin (int2 addO) (.t t122) (.t t123), none, none⟩,
   ⟨(some t125), oMov (.t t17), none, none⟩,
   ⟨(some t126), oBin (int2 mulO) (.t t125) (.v (.int .u64 4294967296)), none, none⟩,
   ⟨(some t127), oMov (.t t14), none, none⟩,
   ⟨(some t128), oBin (int2 addO) (.t t126) (.t t127), none, none⟩,
   ⟨(some t129), oMov (.t t18), none, none⟩,
   ⟨(some t130), oMov (.t t2), none, none⟩,
   ⟨(some t131), oBin (int2 mulO) (.t t129) (.t t130), none, none⟩,
   ⟨(some t132), oBin (int2 subO) (.t t128) (.t t131), none, none⟩,
   ⟨(some t133), oMov (.t t8), none, none⟩,
   ⟨(some t134), oBin (sh2 shrO) (.t t132) (.t t133), none, none⟩,
   ⟨(some t6), oMov (.t t124), none, none⟩,
   ⟨(some t7), oMov (.t t134), none, none⟩])
 xRet)
def c66_r1 : X := (xSeq (xOps [⟨(some t86), oMov (.t t11), none, none⟩,
   ⟨(some t87), oBin (int2 mulO) (.t t86) (.v (.int .u64 4294967296)), none, none⟩,
   ⟨(some t88), oMov (.t t13), none, none⟩,
   ⟨(some t89), oBin (int2 addO) (.t t87) (.t t88), none, none⟩,
   ⟨(some t90), oMov (.t t15), none, none⟩,
   ⟨(some t91), oMov (.t t2), none, none⟩,
   ⟨(some t92), oBin (int2 mulO) (.t t90) (.t t91), none, none⟩,
   ⟨(some t93), oBin (int2 subO) (.t t89) (.t t92), none, none⟩,
   ⟨(some t17), oMov (.t t93), none, none⟩])
 (xSeq (xOps [⟨(some t94), oMov (.t t17), none, none⟩,
   ⟨(some t95), oMov (.t t9), none, none⟩,
   ⟨(some t96), oBin (int2 quoO) (.t t94) (.t t95), none, none⟩,
   ⟨(some t18), oMov (.t t96), none, none⟩])
 (xSeq (xOps [⟨(some t97), oMov (.t t17), none, none⟩,
   ⟨(some t98), oMov (.t t18), none, none⟩,
   ⟨(some t99), oMov (.t t9), none, none⟩,
   ⟨(some t100), oBin (int2 mulO) (.t t98) (.t t99), none, none⟩,
   ⟨(some t101), oBin (int2 subO) (.t t97) (.t t100), none, none⟩,
   ⟨(some t16), oMov (.t t101), none, none⟩])
 (xSeq (xBlock 2 (xLoop c66_l1))
 c66_r0))))
def c66_j0 : X := (xSeq (xSeq (xOps [⟨(some t26), oMov (.t t0), none, none⟩,
   ⟨(some t27), oBin (int2 (cmpO eqI)) (.t t26) (.v (.int .u64 0)), none, none⟩])
 (xCond (.t t27)
 (xSeq (xReg c66_g0 [(0, 1), (0, 3), (1, 3), (2, 3), (0, 4), (1, 4), (2, 4), (3, 4), (0, 5), (1, 5), (2, 5), (3, 6), (4, 6), (5, 6)])
 xRet)
 xSkip))
 (xSeq (xOps [⟨(some t34), oMov (.t t2), none, none⟩,
   ⟨(some t35), oCall 79 [(.t t34)], none, none⟩,
   ⟨(some t36), oConv .u64 (.t t35), none, none⟩,
   ⟨(some t8), oMov (.t t36), none, none⟩])
 (xSeq (xOps [⟨(some t37), oMov (.t t2), none, none⟩,
   ⟨(some t38), oMov (.t t8), none, none⟩,
   ⟨(some t39), oBin (sh2 shlO) (.t t37) (.t t38), none, none⟩,
   ⟨(some t2), oMov (.t t39), none, none⟩])
 (xSeq (xOps [⟨(some t40), oMov (.t t2), none, none⟩,
   ⟨(some t41), oBin (sh2 shrO) (.t t40) (.v (.int .u64 32)), none, none⟩,
   ⟨(some t9), oMov (.t t41), none, none⟩])
 (xSeq (xOps [⟨(some t42), oMov (.t t2), none, none⟩,
   ⟨(some t43), oBin (int2 andO) (.t t42) (.v (.int .u64 4294967295)), none, none⟩,
   ⟨(some t10), oMov (.t t43), none, none⟩])
 (xSeq (xOps [⟨(some t44), oMov (.t t0), none, none⟩,
   ⟨(some t45), oMov (.t t8), none, none⟩,
   ⟨(some t46), oBin (sh2 shlO) (.t t44) (.t t45), none, none⟩,
   ⟨(some t47), oMov (.t t1), none, none⟩,
   ⟨(some t48), oMov (.t t8), none, none⟩,
   ⟨(some t49), oBin (int2 subO) (.v (.int .u64 64)) (.t t48), none, none⟩,
   ⟨(some t50), oBin (sh2 shrO) (.t t47) (.t t49), none, none⟩,
   ⟨(some t51), oBin (int2 orO) (.t t46) (.t t50), none, none⟩,
   ⟨(some t11), oMov (.t t51), none, none⟩])
 (xSeq (xOps [⟨(some t52), oMov (.t t1), none, none⟩,
   ⟨(some t53), oMov (.t t8), none, none⟩,
   ⟨(some t54), oBin (sh2 shlO) (.t t52) (.t t53), none, none⟩,
   ⟨(some t12), oMov (.t t54), none, none⟩])
 (xSeq (xOps [⟨(some t55), oMov (.t t12), none, none⟩,
   ⟨(some t56), oBin (sh2 shrO) (.t t55) (.v (.int .u64 32)), none, none⟩,
   ⟨(some t13), oMov (.t t56), none, none⟩])
 (xSeq (xOps [⟨(some t57), oMov (.t t12), none, none⟩,
   ⟨(some t58), oBin (int2 andO) (.t t57) (.v (.int .u64 4294967295)), none, none⟩,
   ⟨(some t14), oMov (.t t58), none, none⟩])
 (xSeq (xOps [⟨(some t59), oMov (.t t11), none, none⟩,
   ⟨(some t60), oMov (.t t9), none, none⟩,
   ⟨(some t61), oBin (int2 quoO) (.t t59) (.t t60), none, none⟩,
   ⟨(some t15), oMov (.t t61), none, none⟩])
 (xSeq (xOps [⟨(some t62), oMov (.t t11), none, none⟩,
   ⟨(some t63), oMov (.t t15), none, none⟩,
   ⟨(some t64), oMov (.t t9), none, none⟩,
   ⟨(some t65), oBin (int2 mulO) (.t t63) (.t t64), none, none⟩,
   ⟨(some t66), oBin (int2 subO) (.t t62) (.t t65), none, none⟩,
   ⟨(some t16), oMov (.t t66), none, none⟩])
 (xSeq (xBlock 0 (xLoop c66_l0))
 c66_r1))))))))))))
def c66 : AFunc := ⟨135, [.tmp t6, .tmp t7],
 (xSeq (xOps [⟨(some t6), oMov (.v (.int .u64 0)), none, none⟩,
   ⟨(some t7), oMov (.v (.int .u64 0)), none, none⟩])
 (xSeq (xSeq (xOps [⟨(some t19), oMov (.t t2), none, none⟩,
   ⟨(some t20), oBin (int2 (cmpO eqI)) (.t t19) (.v (.int .u64 0)), none, none⟩])
 (xCond (.t t20)
 (xOps [⟨(some t21), oBad, none, none⟩,
   ⟨none, oBad, none, none⟩])
 xSkip))
 (xSeq (xSeq (xOps [⟨(some t22), oMov (.t t2), none, none⟩,
   ⟨(some t23), oMov (.t t0), none, none⟩,
   ⟨(some t24), oBin (int2 (cmpO leI)) (.t t22) (.t t23), none, none⟩])
 (xCond (.t t24)
 (xOps [⟨(some t25), oBad, none, none⟩,
   ⟨none, oBad, none, none⟩])
 xSkip))
 c66_j0)))⟩
theorem ok66 : cFunc Try.prog gl ex Try.f66 = some c66 := by kernel_rfl
-- publican/num.narrow
def c67 : AFunc := ⟨14, [.tmp t2, .tmp t3],
 (xSeq (xOps [⟨(some t1), oBox (.t t0), none, none⟩,
   ⟨(some t2), oMov (.v (.int .i64 0)), none, none⟩,
   ⟨(some t3), oMov (.v (.bool false)), none, none⟩])
 (xSeq (xOps [⟨(some t5), oFieldAddr 1 (.t t1), none, none⟩,
   ⟨(some t6), oLoad1 (.t t5), none, (some (.t t5))⟩,
   ⟨(some t7), oConv .i64 (.t t6), none, none⟩,
   ⟨(some t4), oMov (.t t7), none, none⟩])
 (xSeq (xSeq (xOps [⟨(some t8), oFieldAddr 0 (.t t1), none, none⟩,
   ⟨(some t9), oLoad1 (.t t8), none, (some (.t t8))⟩,
   ⟨(some t10), oMov (.t t4), none, none⟩,
   ⟨(some t11), oBin (sh2 shrO) (.t t10) (.v (.int .u64 63)), none, none⟩,
   ⟨(some t12), oBin (int2 (cmpO neI)) (.t t9) (.t t11), none, none⟩])
 (xCond (.t t12)
 (xSeq (xOps [⟨(some t2), oMov (.v (.int .i64 0)), none, none⟩,
   ⟨(some t3), oMov (.v (.bool false)), none, none⟩])
 xRet)
 xSkip))
 (xSeq (xOps [⟨(some t13), oMov (.t t4), none, none⟩,
   ⟨(some t2), oMov (.t t13), none, none⟩,
   ⟨(some t3), oMov (.v (.bool true)), none, none⟩])
 xRet))))⟩
theorem ok67 : cFunc Try.prog gl ex Try.f67 = some c67 := by kernel_rfl
-- (publican/num.Wide).Plus
def c68_q0 : List AOper := [⟨(some t43), oLoad1 (.t t42), (some (t41, true)), (some (.t t42))⟩,
   ⟨(some t44), oBin (int2 (cmpO ltI)) (.t t43) (.v (.int .i64 0)), (some (t41, true)), none⟩,
   ⟨(some t45), oFieldAddr 0 (.t t2), (some (t41, true)), none⟩,
   ⟨(some t46), oLoad1 (.t t45), (some (t41, true)), (some (.t t45))⟩,
   ⟨(some t47), oBin (int2 (cmpO ltI)) (.t t46) (.v (.int .i64 0)), (some (t41, true)), none⟩,
   ⟨(some t48), oEqv eqB true (.t t44) (.t t47), (some (t41, true)), none⟩,
   ⟨(some t49), oPick (.t t41) (.t t48) (.v (.bool false)), none, none⟩]
def c68_j0 : X := (xCond (.t t49)
 (xSeq (xOps [⟨(some t50), oBuild [(.int .i64 0), (.int .u64 0)] [], none, none⟩,
   ⟨none, oStore 2 (.t t4) (.t t50), none, none⟩,
   ⟨(some t5), oMov (.v (.bool false)), none, none⟩])
 xRet)
 xSkip)
def c68_j1 : X := (xSeq (xOps [⟨(some t51), oLoadN 2 (.t t10), none, none⟩,
   ⟨none, oStore 2 (.t t4) (.t t51), none, none⟩,
   ⟨(some t5), oMov (.v (.bool true)), none, none⟩])
 xRet)
def c68 : AFunc := ⟨52, [.cell t4 (some 2), .tmp t5],
 (xSeq (xOps [⟨(some t2), oBox (.t t0), none, none⟩,
   ⟨(some t3), oBox (.t t1), none, none⟩,
   ⟨(some t4), oNew [(.int .i64 0), (.int .u64 0)], none, none⟩,
   ⟨(some t5), oMov (.v (.bool false)), none, none⟩])
 (xSeq (xOps [⟨(some t12), oFieldAddr 1 (.t t2), none, none⟩,
   ⟨(some t13), oLoad1 (.t t12), none, (some (.t t12))⟩,
   ⟨(some t14), oFieldAddr 1 (.t t3), none, none⟩,
   ⟨(some t15), oLoad1 (.t t14), none, (some (.t t14))⟩,
   ⟨(some t16), oExt add64X [(.t t13), (.t t15), (.v (.int .u64 0))], none, none⟩,
   ⟨(some t11), oMov (.t t16), none, none⟩,
   ⟨(some t17), oExtract (.t t11) 0, none, none⟩,
   ⟨(some t18), oExtract (.t t11) 1, none, none⟩,
   ⟨(some t6), oMov (.t t17), none, none⟩,
   ⟨(some t7), oMov (.t t18), none, none⟩])
 (xSeq (xOps [⟨(some t20), oFieldAddr 0 (.t t2), none, none⟩,
   ⟨(some t21), oLoad1 (.t t20), none, (some (.t t20))⟩,
   ⟨(some t22), oConv .u64 (.t t21), none, none⟩,
   ⟨(some t23), oFieldAddr 0 (.t t3), none, none⟩,
   ⟨(some t24), oLoad1 (.t t23), none, (some (.t t23))⟩,
   ⟨(some t25), oConv .u64 (.t t24), none, none⟩,
   ⟨(some t26), oMov (.t t7), none, none⟩,
   ⟨(some t27), oExt add64X [(.t t22), (.t t25), (.t t26)], none, none⟩,
   ⟨(some t19), oMov (.t t27), none, none⟩,
   ⟨(some t28), oExtract (.t t19) 0, none, none⟩,
   ⟨(some t29), oExtract (.t t19) 1, none, none⟩,
   ⟨(some t8), oMov (.t t28), none, none⟩,
   ⟨(some t9), oMov (.t t29), none, none⟩])
 (xSeq (xOps [⟨(some t30), oMov (.t t8), none, none⟩,
   ⟨(some t31), oConv .i64 (.t t30), none, none⟩,
   ⟨(some t32), oMov (.t t6), none, none⟩,
   ⟨(some t33), oBuild [(.int .i64 0), (.int .u64 0)] [(0, 1, (.t t31)), (1, 1, (.t t32))], none, none⟩,
   ⟨(some t10), oNew [(.int .i64 0), (.int .u64 0)], none, none⟩,
   ⟨none, oStore 2 (.t t10) (.t t33), none, none⟩])
 (xSeq (xSeq (xOps (⟨(some t34), oFieldAddr 0 (.t t2), none, none⟩ ::
   ⟨(some t35), oLoad1 (.t t34), none, (some (.t t34))⟩ ::
   ⟨(some t36), oBin (int2 (cmpO ltI)) (.t t35) (.v (.int .i64 0)), none, none⟩ ::
   ⟨(some t37), oFieldAddr 0 (.t t3), none, none⟩ ::
   ⟨(some t38), oLoad1 (.t t37), none, (some (.t t37))⟩ ::
   ⟨(some t39), oBin (int2 (cmpO ltI)) (.t t38) (.v (.int .i64 0)), none, none⟩ ::
   ⟨(some t40), oEqv eqB false (.t t36) (.t t39), none, none⟩ ::
   ⟨(some t41), oMov (.t t40), none, none⟩ ::
   ⟨(some t42), oFieldAddr 0 (.t t10), (some (t41, true)), none⟩ :: c68_q0))
 c68_j0)
 c68_j1)))))⟩
theorem ok68 : cFunc Try.prog gl ex Try.f68 = some c68 := by kernel_rfl
-- publican/num.Of
def c69 : AFunc := ⟨8, [.cell t2 (some 2)],
 (xSeq (xOps [⟨(some t2), oNew [(.int .i64 0), (.int .u64 0)], none, none⟩])
 (xSeq (xOps [⟨(some t3), oMov (.t t0), none, none⟩,
   ⟨(some t4), oBin (sh2 shrO) (.t t3) (.v (.int .u64 63)), none, none⟩,
   ⟨(some t5), oMov (.t t0), none, none⟩,
   ⟨(some t6), oConv .u64 (.t t5), none, none⟩,
   ⟨(some t7), oBuild [(.int .i64 0), (.int .u64 0)] [(0, 1, (.t t4)), (1, 1, (.t t6))], none, none⟩,
   ⟨none, oStore 2 (.t t2) (.t t7), none, none⟩])
 xRet))⟩
theorem ok69 : cFunc Try.prog gl ex Try.f69 = some c69 := by kernel_rfl
-- sort.Search
-- (*publican/rate.Table).behind$1
-- slices.rotateRight[publican/rate.Step]
def c76 : AFunc := ⟨10, [],
 (xOps [⟨(some t4), oMov (.t t0), none, none⟩,
   ⟨(some t5), oMov (.t t0), none, none⟩,
   ⟨(some t6), oLenL (.t t5), none, none⟩,
   ⟨(some t7), oMov (.t t1), none, none⟩,
   ⟨(some t8), oBin (int2 subO) (.t t6) (.t t7), none, none⟩,
   ⟨(some t9), oCall 81 [(.t t4), (.t t8)], none, none⟩])⟩
theorem ok76 : cFunc Try.prog gl ex Try.f76 = some c76 := by kernel_rfl
-- publican/num.product
def c77 : AFunc := ⟨31, [.cell t4 (some 2)],
 (xSeq (xOps [⟨(some t4), oNew [(.int .i64 0), (.int .u64 0)], none, none⟩])
 (xSeq (xOps [⟨(some t9), oMov (.t t0), none, none⟩,
   ⟨(some t10), oConv .u64 (.t t9), none, none⟩,
   ⟨(some t11), oMov (.t t1), none, none⟩,
   ⟨(some t12), oConv .u64 (.t t11), none, none⟩,
   ⟨(some t13), oCall 82 [(.t t10), (.t t12)], none, none⟩,
   ⟨(some t8), oMov (.t t13), none, none⟩,
   ⟨(some t14), oExtract (.t t8) 0, none, none⟩,
   ⟨(some t15), oExtract (.t t8) 1, none, none⟩,
   ⟨(some t5), oMov (.t t14), none, none⟩,
   ⟨(some t6), oMov (.t t15), none, none⟩])
 (xSeq (xOps [⟨(some t16), oMov (.t t5), none, none⟩,
   ⟨(some t17), oConv .i64 (.t t16), none, none⟩,
   ⟨(some t7), oMov (.t t17), none, none⟩])
 (xSeq (xSeq (xOps [⟨(some t18), oMov (.t t0), none, none⟩,
   ⟨(some t19), oBin (int2 (cmpO ltI)) (.t t18) (.v (.int .i64 0)), none, none⟩])
 (xCond (.t t19)
 (xOps [⟨(some t20), oMov (.t t7), none, none⟩,
   ⟨(some t21), oMov (.t t1), none, none⟩,
   ⟨(some t22), oBin (int2 subO) (.t t20) (.t t21), none, none⟩,
   ⟨(some t7), oMov (.t t22), none, none⟩])
 xSkip))
 (xSeq (xSeq (xOps [⟨(some t23), oMov (.t t1), none, none⟩,
   ⟨(some t24), oBin (int2 (cmpO ltI)) (.t t23) (.v (.int .i64 0)), none, none⟩])
 (xCond (.t t24)
 (xOps [⟨(some t25), oMov (.t t7), none, none⟩,
   ⟨(some t26), oMov (.t t0), none, none⟩,
   ⟨(some t27), oBin (int2 subO) (.t t25) (.t t26), none, none⟩,
   ⟨(some t7), oMov (.t t27), none, none⟩])
 xSkip))
 (xSeq (xOps [⟨(some t28), oMov (.t t7), none, none⟩,
   ⟨(some t29), oMov (.t t6), none, none⟩,
   ⟨(some t30), oBuild [(.int .i64 0), (.int .u64 0)] [(0, 1, (.t t28)), (1, 1, (.t t29))], none, none⟩,
   ⟨none, oStore 2 (.t t4) (.t t30), none, none⟩])
 xRet))))))⟩
theorem ok77 : cFunc Try.prog gl ex Try.f77 = some c77 := by kernel_rfl
end
end Go.Proofs.Ytdnedangfnincaa.AbsAccO
