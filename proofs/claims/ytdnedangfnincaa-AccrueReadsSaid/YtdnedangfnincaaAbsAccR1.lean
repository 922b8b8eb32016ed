import Derived.Test.YtdnedangfnincaaRows
import Derived.Test.YtdnedangfnincaaAbsAccRT
import Derived.KernelRfl
namespace Go.Proofs.Ytdnedangfnincaa.AbsAccR
open Go Go.Abs Go.Proofs
set_option maxRecDepth 100000
set_option linter.unusedVariables false
noncomputable section
-- (publican/num.Wide).Cmp
def c44_q0 : List AOper := [⟨(some t24), oFieldAddr 1 (.t t3), (some (t21, true)), none⟩,
   ⟨(some t25), oLoad1 (.t t24), (some (t21, true)), (some (.t t24))⟩,
   ⟨(some t26), oBin (int2 (cmpO ltI)) (.t t23) (.t t25), (some (t21, true)), none⟩,
   ⟨(some t27), oPick (.t t21) (.t t26) (.v (.bool false)), (some (t15, false)), none⟩,
   ⟨(some t28), oPick (.t t15) (.v (.bool true)) (.t t27), none, none⟩,
   ⟨(some t9), oMov (.t t28), none, none⟩]
def c44_j0 : X := (xCond (.t t9)
 (xSeq (xOps [⟨(some t4), oMov (.v (.int .i64 (-1))), none, none⟩])
 xRet)
 xSkip)
def c44_j1 : X := (xSeq (xOps [⟨(some t4), oMov (.v (.int .i64 1)), none, none⟩])
 xRet)
def c44 : AFunc := ⟨29, [.tmp t4],
 (xSeq (xOps [⟨(some t2), oBox (.t t0), none, none⟩,
   ⟨(some t3), oBox (.t t1), none, none⟩,
   ⟨(some t4), oMov (.v (.int .i64 0)), none, none⟩])
 (xSeq (xBlock 0 (xSeq (xOps [⟨(some t6), oLoadN 2 (.t t2), none, none⟩,
   ⟨(some t7), oLoadN 2 (.t t3), none, none⟩,
   ⟨(some t8), oEqs false [(0, eqN), (1, eqN)] (.t t6) (.t t7), none, none⟩,
   ⟨(some t5), oMov (.t t8), none, none⟩])
 (xCond (.t t5)
 (xSeq (xOps [⟨(some t4), oMov (.v (.int .i64 0)), none, none⟩])
 xRet)
 (xSeq (xOps (⟨(some t10), oFieldAddr 0 (.t t2), none, none⟩ ::
   ⟨(some t11), oLoad1 (.t t10), none, (some (.t t10))⟩ ::
   ⟨(some t12), oFieldAddr 0 (.t t3), none, none⟩ ::
   ⟨(some t13), oLoad1 (.t t12), none, (some (.t t12))⟩ ::
   ⟨(some t14), oBin (int2 (cmpO ltI)) (.t t11) (.t t13), none, none⟩ ::
   ⟨(some t15), oMov (.t t14), none, none⟩ ::
   ⟨(some t16), oFieldAddr 0 (.t t2), (some (t15, false)), none⟩ ::
   ⟨(some t17), oLoad1 (.t t16), (some (t15, false)), (some (.t t16))⟩ ::
   ⟨(some t18), oFieldAddr 0 (.t t3), (some (t15, false)), none⟩ ::
   ⟨(some t19), oLoad1 (.t t18), (some (t15, false)), (some (.t t18))⟩ ::
   ⟨(some t20), oBin (int2 (cmpO eqI)) (.t t17) (.t t19), (some (t15, false)), none⟩ ::
   ⟨(some t21), oMov (.t t20), (some (t15, false)), none⟩ ::
   ⟨(some t22), oFieldAddr 1 (.t t2), (some (t21, true)), none⟩ ::
   ⟨(some t23), oLoad1 (.t t22), (some (t21, true)), (some (.t t22))⟩ :: c44_q0))
 c44_j0))))
 c44_j1))⟩
theorem ok44 : cFunc Try.prog gl ex Try.f44 = some c44 := by kernel_rfl
-- (*publican/accrue.Acc).may
def c45 : AFunc := ⟨19, [.tmp t4],
 (xSeq (xOps [⟨(some t4), oMov (.v (.int .i64 0)), none, none⟩])
 (xSeq (xBlock 0 (xSeq (xOps [⟨(some t6), oMov (.t t1), none, none⟩,
   ⟨(some t7), oBin (int2 (cmpO ltI)) (.t t6) (.v (.int .i64 0)), none, none⟩,
   ⟨(some t8), oMov (.t t7), none, none⟩,
   ⟨(some t9), oMov (.t t1), (some (t8, false)), none⟩,
   ⟨(some t10), oBin (int2 (cmpO gtI)) (.t t9) (.v (.int .i64 109572)), (some (t8, false)), none⟩,
   ⟨(some t11), oPick (.t t8) (.v (.bool true)) (.t t10), none, none⟩,
   ⟨(some t5), oMov (.t t11), none, none⟩])
 (xCond (.t t5)
 (xSeq (xOps [⟨(some t4), oMov (.v (.int .i64 12)), none, none⟩])
 xRet)
 (xSeq (xOps [⟨(some t13), oMov (.t t1), none, none⟩,
   ⟨(some t14), oMov (.t t0), none, none⟩,
   ⟨(some t15), oNilCheck (.t t14), none, none⟩,
   ⟨(some t16), oFieldAddr 0 (.t t15), none, none⟩,
   ⟨(some t17), oLoad1 (.t t16), none, (some (.t t16))⟩,
   ⟨(some t18), oBin (int2 (cmpO ltI)) (.t t13) (.t t17), none, none⟩,
   ⟨(some t12), oMov (.t t18), none, none⟩])
 (xCond (.t t12)
 (xSeq (xOps [⟨(some t4), oMov (.v (.int .i64 14)), none, none⟩])
 xRet)
 xSkip)))))
 (xSeq (xOps [⟨(some t4), oMov (.v (.int .i64 0)), none, none⟩])
 xRet)))⟩
theorem ok45 : cFunc Try.prog gl ex Try.f45 = some c45 := by kernel_rfl
-- (*publican/accrue.Acc).upTo
def c46_j0 : X := (xSeq (xOps [⟨(some t28), oLoadN 2 (.t t7), none, none⟩,
   ⟨none, oStore 2 (.t t6) (.t t28), none, none⟩])
 xRet)
def c46 : AFunc := ⟨29, [.cell t6 (some 2)],
 (xSeq (xOps [⟨(some t6), oNew [(.int .i64 0), (.int .u64 0)], none, none⟩])
 (xSeq (xReg [⟨(some t10), oMov (.t t0), none, none⟩,
   ⟨(some t11), oNilCheck (.t t10), none, none⟩,
   ⟨(some t12), oFieldAddr 3 (.t t11), none, none⟩,
   ⟨(some t13), oLoadN 2 (.t t12), none, none⟩,
   ⟨(some t14), oMov (.t t0), none, none⟩,
   ⟨(some t15), oNilCheck (.t t14), none, none⟩,
   ⟨(some t16), oFieldAddr 1 (.t t15), none, none⟩,
   ⟨(some t17), oLoad1 (.t t16), none, (some (.t t16))⟩,
   ⟨(some t18), oMov (.t t1), none, none⟩,
   ⟨(some t19), oMov (.t t0), none, none⟩,
   ⟨(some t20), oNilCheck (.t t19), none, none⟩,
   ⟨(some t21), oFieldAddr 0 (.t t20), none, none⟩,
   ⟨(some t22), oLoad1 (.t t21), none, (some (.t t21))⟩,
   ⟨(some t23), oMov (.t t2), none, none⟩,
   ⟨(some t24), oCall 63 [(.t t18), (.t t22), (.t t23)], none, none⟩,
   ⟨(some t25), oCall 62 [(.t t13), (.t t17), (.t t24)], none, none⟩,
   ⟨(some t9), oMov (.t t25), none, none⟩,
   ⟨(some t26), oExtract (.t t9) 0, none, none⟩,
   ⟨(some t27), oExtract (.t t9) 1, none, none⟩,
   ⟨(some t7), oNew [(.int .i64 0), (.int .u64 0)], none, none⟩,
   ⟨none, oStore 2 (.t t7) (.t t26), none, none⟩,
   ⟨(some t8), oMov (.t t27), none, none⟩] [(0, 4), (1, 4), (2, 4), (3, 4), (0, 5), (1, 5), (2, 5), (3, 5), (0, 6), (1, 6), (2, 6), (3, 6), (0, 7), (1, 7), (2, 7), (3, 7), (0, 8), (1, 8), (2, 8), (3, 8), (4, 8), (5, 8), (6, 8), (7, 8), (0, 9), (1, 9), (2, 9), (3, 9), (4, 9), (5, 9), (6, 9), (7, 9), (8, 9), (0, 10), (1, 10), (2, 10), (3, 10), (4, 10), (5, 10), (6, 10), (7, 10), (8, 10), (0, 11), (1, 11), (2, 11), (3, 11), (4, 11), (5, 11), (6, 11), (7, 11), (8, 11), (0, 12), (1, 12), (2, 12), (3, 12), (4, 12), (5, 12), (6, 12), (7, 12), (8, 12), (0, 13), (1, 13), (2, 13), (3, 13), (4, 13), (5, 13), (6, 13), (7, 13), (8, 13), (9, 13), (10, 13), (11, 13), (12, 13), (0, 14), (1, 14), (2, 14), (3, 14), (4, 14), (5, 14), (6, 14), (7, 14), (17, 18), (0, 19), (1, 19), (2, 19), (3, 19), (4, 19), (5, 19), (6, 19), (7, 19), (8, 19), (9, 19), (10, 19), (11, 19), (12, 19), (13, 19), (14, 19), (15, 19), (16, 19), (17, 19), (18, 19), (18, 20)])
 c46_j0))⟩
theorem ok46 : cFunc Try.prog gl ex Try.f46 = some c46 := by kernel_rfl
-- (publican/num.Wide).Floor
def c48_j0 : X := (xSeq (xOps [⟨(some t19), oMov (.t t1), none, none⟩,
   ⟨(some t20), oConv .u64 (.t t19), none, none⟩,
   ⟨(some t7), oMov (.t t20), none, none⟩])
 (xSeq (xSeq (xOps [⟨(some t21), oFieldAddr 0 (.t t6), none, none⟩,
   ⟨(some t22), oLoad1 (.t t21), none, (some (.t t21))⟩,
   ⟨(some t23), oConv .u64 (.t t22), none, none⟩,
   ⟨(some t24), oMov (.t t7), none, none⟩,
   ⟨(some t25), oBin (int2 (cmpO geI)) (.t t23) (.t t24), none, none⟩])
 (xCond (.t t25)
 (xSeq (xOps [⟨(some t4), oMov (.v (.int .i64 0)), none, none⟩,
   ⟨(some t5), oMov (.v (.bool false)), none, none⟩])
 xRet)
 xSkip))
 (xSeq (xOps [⟨(some t27), oFieldAddr 0 (.t t6), none, none⟩,
   ⟨(some t28), oLoad1 (.t t27), none, (some (.t t27))⟩,
   ⟨(some t29), oConv .u64 (.t t28), none, none⟩,
   ⟨(some t30), oFieldAddr 1 (.t t6), none, none⟩,
   ⟨(some t31), oLoad1 (.t t30), none, (some (.t t30))⟩,
   ⟨(some t32), oMov (.t t7), none, none⟩,
   ⟨(some t33), oCall 66 [(.t t29), (.t t31), (.t t32)], none, none⟩,
   ⟨(some t26), oMov (.t t33), none, none⟩,
   ⟨(some t34), oExtract (.t t26) 0, none, none⟩,
   ⟨(some t35), oExtract (.t t26) 1, none, none⟩,
   ⟨(some t8), oMov (.t t34), none, none⟩,
   ⟨(some t9), oMov (.t t35), none, none⟩])
 (xSeq (xSeq (xOps [⟨(some t36), oFieldAddr 0 (.t t2), none, none⟩,
   ⟨(some t37), oLoad1 (.t t36), none, (some (.t t36))⟩,
   ⟨(some t38), oBin (int2 (cmpO geI)) (.t t37) (.v (.int .i64 0)), none, none⟩])
 (xCond (.t t38)
 (xSeq (xOps [⟨(some t39), oMov (.t t8), none, none⟩,
   ⟨(some t40), oBuild [(.int .i64 0), (.int .u64 0)] [(0, 1, (.v (.int .i64 0))), (1, 1, (.t t39))], none, none⟩,
   ⟨(some t41), oCall 67 [(.t t40)], none, none⟩,
   ⟨(some t42), oExtract (.t t41) 0, none, none⟩,
   ⟨(some t43), oExtract (.t t41) 1, none, none⟩,
   ⟨(some t4), oMov (.t t42), none, none⟩,
   ⟨(some t5), oMov (.t t43), none, none⟩])
 xRet)
 xSkip))
 (xSeq (xOps [⟨(some t44), oMov (.t t8), none, none⟩,
   ⟨(some t45), oBuild [(.int .i64 0), (.int .u64 0)] [(0, 1, (.v (.int .i64 0))), (1, 1, (.t t44))], none, none⟩,
   ⟨(some t46), oCall 65 [(.t t45)], none, none⟩,
   ⟨(some t10), oNew [(.int .i64 0), (.int .u64 0)], none, none⟩,
   ⟨none, oStore 2 (.t t10) (.t t46), none, none⟩])
 (xSeq (xSeq (xOps [⟨(some t47), oMov (.t t9), none, none⟩,
   ⟨(some t48), oBin (int2 (cmpO gtI)) (.t t47) (.v (.int .u64 0)), none, none⟩])
 (xCond (.t t48)
 (xReg [⟨(some t50), oLoadN 2 (.t t10), none, none⟩,
   ⟨(some t51), oCall 69 [(.v (.int .i64 (-1)))], none, none⟩,
   ⟨(some t52), oCall 68 [(.t t50), (.t t51)], none, none⟩,
   ⟨(some t49), oMov (.t t52), none, none⟩,
   ⟨(some t53), oExtract (.t t49) 0, none, none⟩,
   ⟨(some t54), oExtract (.t t49) 1, none, none⟩,
   ⟨none, oStore 2 (.t t10) (.t t53), none, none⟩] [(0, 1), (4, 5), (5, 6)])
 xSkip))
 (xSeq (xOps [⟨(some t55), oLoadN 2 (.t t10), none, none⟩,
   ⟨(some t56), oCall 67 [(.t t55)], none, none⟩,
   ⟨(some t57), oExtract (.t t56) 0, none, none⟩,
   ⟨(some t58), oExtract (.t t56) 1, none, none⟩,
   ⟨(some t4), oMov (.t t57), none, none⟩,
   ⟨(some t5), oMov (.t t58), none, none⟩])
 xRet)))))))
def c48 : AFunc := ⟨59, [.tmp t4, .tmp t5],
 (xSeq (xOps [⟨(some t2), oBox (.t t0), none, none⟩,
   ⟨(some t4), oMov (.v (.int .i64 0)), none, none⟩,
   ⟨(some t5), oMov (.v (.bool false)), none, none⟩])
 (xSeq (xSeq (xOps [⟨(some t11), oMov (.t t1), none, none⟩,
   ⟨(some t12), oBin (int2 (cmpO ltI)) (.t t11) (.v (.int .i64 1)), none, none⟩])
 (xCond (.t t12)
 (xSeq (xOps [⟨(some t4), oMov (.v (.int .i64 0)), none, none⟩,
   ⟨(some t5), oMov (.v (.bool false)), none, none⟩])
 xRet)
 xSkip))
 (xSeq (xOps [⟨(some t13), oLoadN 2 (.t t2), none, none⟩,
   ⟨(some t6), oNew [(.int .i64 0), (.int .u64 0)], none, none⟩,
   ⟨none, oStore 2 (.t t6) (.t t13), none, none⟩])
 (xSeq (xSeq (xOps [⟨(some t14), oFieldAddr 0 (.t t2), none, none⟩,
   ⟨(some t15), oLoad1 (.t t14), none, (some (.t t14))⟩,
   ⟨(some t16), oBin (int2 (cmpO ltI)) (.t t15) (.v (.int .i64 0)), none, none⟩])
 (xCond (.t t16)
 (xOps [⟨(some t17), oLoadN 2 (.t t2), none, none⟩,
   ⟨(some t18), oCall 65 [(.t t17)], none, none⟩,
   ⟨none, oStore 2 (.t t6) (.t t18), none, none⟩])
 xSkip))
 c48_j0))))⟩
theorem ok48 : cFunc Try.prog gl ex Try.f48 = some c48 := by kernel_rfl
-- publican/pack.I
def c51 : AFunc := ⟨14, [.tmp t4],
 (xSeq (xOps [⟨(some t4), oMov (.v (.slice none 0 0)), none, none⟩])
 (xSeq (xOps [⟨(some t5), oMov (.t t0), none, none⟩,
   ⟨(some t6), oMov (.t t1), none, none⟩,
   ⟨(some t7), oBin (sh2 shlO) (.t t6) (.v (.int .u64 1)), none, none⟩,
   ⟨(some t8), oConv .u64 (.t t7), none, none⟩,
   ⟨(some t9), oMov (.t t1), none, none⟩,
   ⟨(some t10), oBin (sh2 shrO) (.t t9) (.v (.int .u64 63)), none, none⟩,
   ⟨(some t11), oConv .u64 (.t t10), none, none⟩,
   ⟨(some t12), oBin (int2 xorO) (.t t8) (.t t11), none, none⟩,
   ⟨(some t13), oCall 52 [(.t t5), (.t t12)], none, none⟩,
   ⟨(some t4), oMov (.t t13), none, none⟩])
 xRet))⟩
theorem ok51 : cFunc Try.prog gl ex Try.f51 = some c51 := by kernel_rfl
-- publican/pack.U
def c52_l0 : X := (xSeq (xSeq (xOps [⟨(some t7), oMov (.t t1), none, none⟩,
   ⟨(some t8), oBin (int2 (cmpO gtI)) (.t t7) (.v (.int .u64 127)), none, none⟩])
 (xCond (.t t8)
 xSkip
 (xExit 0)))
 (xSeq (xBlock 1 (xOps [⟨(some t11), oMov (.t t0), none, none⟩,
   ⟨(some t12), oMov (.t t1), none, none⟩,
   ⟨(some t13), oBin (int2 andO) (.t t12) (.v (.int .u64 127)), none, none⟩,
   ⟨(some t14), oBin (int2 orO) (.t t13) (.v (.int .u64 128)), none, none⟩,
   ⟨(some t15), oConv .u8 (.t t14), none, none⟩,
   ⟨(some t16), oBuildSlice 1 [(.int .u8 0)] [(0, 1, (.t t15))], none, none⟩,
   ⟨(some t17), oAppend 1 1 (.t t11) (.t t16), none, none⟩,
   ⟨(some t0), oMov (.t t17), none, none⟩]))
 (xOps [⟨(some t9), oMov (.t t1), none, none⟩,
   ⟨(some t10), oBin (sh2 shrO) (.t t9) (.v (.int .u64 7)), none, none⟩,
   ⟨(some t1), oMov (.t t10), none, none⟩])))
def c52_r0 : X := (xSeq (xOps [⟨(some t18), oMov (.t t0), none, none⟩,
   ⟨(some t19), oMov (.t t1), none, none⟩,
   ⟨(some t20), oConv .u8 (.t t19), none, none⟩,
   ⟨(some t21), oBuildSlice 1 [(.int .u8 0)] [(0, 1, (.t t20))], none, none⟩,
   ⟨(some t22), oAppend 1 1 (.t t18) (.t t21), none, none⟩,
   ⟨(some t4), oMov (.t t22), none, none⟩])
 xRet)
def c52 : AFunc := ⟨23, [.tmp t4],
 (xSeq (xOps [⟨(some t4), oMov (.v (.slice none 0 0)), none, none⟩])
 (xSeq (xOps [⟨(some t5), oMov (.t t0), none, none⟩,
   ⟨(some t6), oCall 60 [(.t t5)], none, none⟩,
   ⟨(some t0), oMov (.t t6), none, none⟩])
 (xSeq (xBlock 0 (xLoop c52_l0))
 c52_r0)))⟩
theorem ok52 : cFunc Try.prog gl ex Try.f52 = some c52 := by kernel_rfl
-- publican/publicanref1.Add
def c53_l0 : X := (xSeq (xSeq (xOps [⟨(some t25), oMov (.t t7), none, none⟩,
   ⟨(some t26), oFieldAddr 1 (.t t2), none, none⟩,
   ⟨(some t27), oLoad1 (.t t26), none, (some (.t t26))⟩,
   ⟨(some t28), oLenL (.t t27), none, none⟩,
   ⟨(some t29), oBin (int2 (cmpO ltI)) (.t t25) (.t t28), none, none⟩])
 (xCond (.t t29)
 xSkip
 (xExit 0)))
 (xSeq (xBlock 1 (xSeq (xReg [⟨(some t32), oFieldAddr 1 (.t t2), none, none⟩,
   ⟨(some t33), oLoad1 (.t t32), none, (some (.t t32))⟩,
   ⟨(some t34), oMov (.t t7), none, none⟩,
   ⟨(some t35), oIdxAddrL 1 (.t t33) (.t t34), none, none⟩,
   ⟨(some t36), oLoad1 (.t t35), none, (some (.t t35))⟩,
   ⟨(some t37), oBin (int2 addO) (.t t36) (.v (.int .u64 65536)), none, none⟩,
   ⟨(some t38), oFieldAddr 1 (.t t3), none, none⟩,
   ⟨(some t39), oLoad1 (.t t38), none, (some (.t t38))⟩,
   ⟨(some t40), oMov (.t t7), none, none⟩,
   ⟨(some t41), oCall 72 [(.t t39), (.t t40)], none, none⟩,
   ⟨(some t42), oBin (int2 subO) (.t t37) (.t t41), none, none⟩,
   ⟨(some t43), oMov (.t t6), none, none⟩,
   ⟨(some t44), oBin (int2 subO) (.t t42) (.t t43), none, none⟩,
   ⟨(some t8), oMov (.t t44), none, none⟩] [(0, 2), (1, 2), (0, 6), (1, 6), (2, 6), (3, 6), (4, 6), (5, 6), (0, 7), (1, 7), (2, 7), (3, 7), (4, 7), (5, 7), (0, 8), (1, 8), (2, 8), (3, 8), (4, 8), (5, 8), (6, 8), (7, 8), (0, 9), (1, 9), (2, 9), (3, 9), (4, 9), (5, 9), (0, 11), (1, 11), (2, 11), (3, 11), (4, 11), (5, 11), (6, 11), (7, 11), (8, 11), (9, 11), (10, 11)])
 (xSeq (xOps [⟨(some t45), oMov (.t t5), none, none⟩,
   ⟨(some t46), oMov (.t t8), none, none⟩,
   ⟨(some t47), oBin (int2 andO) (.t t46) (.v (.int .u64 65535)), none, none⟩,
   ⟨(some t48), oBuildSlice 1 [(.int .u64 0)] [(0, 1, (.t t47))], none, none⟩,
   ⟨(some t49), oAppend 1 8 (.t t45) (.t t48), none, none⟩,
   ⟨(some t5), oMov (.t t49), none, none⟩])
 (xOps [⟨(some t50), oMov (.t t8), none, none⟩,
   ⟨(some t51), oBin (sh2 shrO) (.t t50) (.v (.int .u64 16)), none, none⟩,
   ⟨(some t52), oBin (int2 subO) (.v (.int .u64 1)) (.t t51), none, none⟩,
   ⟨(some t6), oMov (.t t52), none, none⟩]))))
 (xOps [⟨(some t30), oMov (.t t7), none, none⟩,
   ⟨(some t31), oBin (int2 addO) (.t t30) (.v (.int .i64 1)), none, none⟩,
   ⟨(some t7), oMov (.t t31), none, none⟩])))
def c53_r0 : X := (xSeq (xOps [⟨(some t53), oFieldAddr 0 (.t t2), none, none⟩,
   ⟨(some t54), oLoad1 (.t t53), none, (some (.t t53))⟩,
   ⟨(some t55), oMov (.t t5), none, none⟩,
   ⟨(some t56), oBuild [(.bool false), (.slice none 0 0)] [(0, 1, (.t t54)), (1, 1, (.t t55))], none, none⟩,
   ⟨(some t57), oCall 71 [(.t t56)], none, none⟩,
   ⟨none, oStore 2 (.t t4) (.t t57), none, none⟩])
 xRet)
def c53_l1 : X := (xSeq (xSeq (xOps [⟨(some t58), oMov (.t t11), none, none⟩,
   ⟨(some t59), oFieldAddr 1 (.t t2), none, none⟩,
   ⟨(some t60), oLoad1 (.t t59), none, (some (.t t59))⟩,
   ⟨(some t61), oLenL (.t t60), none, none⟩,
   ⟨(some t62), oBin (int2 (cmpO ltI)) (.t t58) (.t t61), none, none⟩,
   ⟨(some t63), oMov (.t t62), none, none⟩,
   ⟨(some t64), oMov (.t t11), (some (t63, false)), none⟩,
   ⟨(some t65), oFieldAddr 1 (.t t3), (some (t63, false)), none⟩,
   ⟨(some t66), oLoad1 (.t t65), (some (t63, false)), (some (.t t65))⟩,
   ⟨(some t67), oLenL (.t t66), (some (t63, false)), none⟩,
   ⟨(some t68), oBin (int2 (cmpO ltI)) (.t t64) (.t t67), (some (t63, false)), none⟩,
   ⟨(some t69), oPick (.t t63) (.v (.bool true)) (.t t68), none, none⟩,
   ⟨(some t70), oMov (.t t69), none, none⟩,
   ⟨(some t71), oMov (.t t10), (some (t70, false)), none⟩,
   ⟨(some t72), oBin (int2 (cmpO gtI)) (.t t71) (.v (.int .u64 0)), (some (t70, false)), none⟩,
   ⟨(some t73), oPick (.t t70) (.v (.bool true)) (.t t72), none, none⟩])
 (xCond (.t t73)
 xSkip
 (xExit 2)))
 (xSeq (xBlock 3 (xSeq (xReg [⟨(some t76), oFieldAddr 1 (.t t2), none, none⟩,
   ⟨(some t77), oLoad1 (.t t76), none, (some (.t t76))⟩,
   ⟨(some t78), oMov (.t t11), none, none⟩,
   ⟨(some t79), oCall 72 [(.t t77), (.t t78)], none, none⟩,
   ⟨(some t80), oFieldAddr 1 (.t t3), none, none⟩,
   ⟨(some t81), oLoad1 (.t t80), none, (some (.t t80))⟩,
   ⟨(some t82), oMov (.t t11), none, none⟩,
   ⟨(some t83), oCall 72 [(.t t81), (.t t82)], none, none⟩,
   ⟨(some t84), oBin (int2 addO) (.t t79) (.t t83), none, none⟩,
   ⟨(some t85), oMov (.t t10), none, none⟩,
   ⟨(some t86), oBin (int2 addO) (.t t84) (.t t85), none, none⟩,
   ⟨(some t12), oMov (.t t86), none, none⟩] [(0, 2), (1, 2), (0, 4), (1, 4), (2, 4), (3, 4), (0, 5), (1, 5), (2, 5), (3, 5), (0, 6), (1, 6), (2, 6), (3, 6), (4, 6), (5, 6), (0, 9), (1, 9), (2, 9), (3, 9), (4, 9), (5, 9), (6, 9), (7, 9), (8, 9)])
 (xSeq (xOps [⟨(some t87), oMov (.t t9), none, none⟩,
   ⟨(some t88), oMov (.t t12), none, none⟩,
   ⟨(some t89), oBin (int2 andO) (.t t88) (.v (.int .u64 65535)), none, none⟩,
   ⟨(some t90), oBuildSlice 1 [(.int .u64 0)] [(0, 1, (.t t89))], none, none⟩,
   ⟨(some t91), oAppend 1 8 (.t t87) (.t t90), none, none⟩,
   ⟨(some t9), oMov (.t t91), none, none⟩])
 (xOps [⟨(some t92), oMov (.t t12), none, none⟩,
   ⟨(some t93), oBin (sh2 shrO) (.t t92) (.v (.int .u64 16)), none, none⟩,
   ⟨(some t10), oMov (.t t93), none, none⟩]))))
 (xOps [⟨(some t74), oMov (.t t11), none, none⟩,
   ⟨(some t75), oBin (int2 addO) (.t t74) (.v (.int .i64 1)), none, none⟩,
   ⟨(some t11), oMov (.t t75), none, none⟩])))
def c53_r1 : X := (xSeq (xOps [⟨(some t94), oFieldAddr 0 (.t t2), none, none⟩,
   ⟨(some t95), oLoad1 (.t t94), none, (some (.t t94))⟩,
   ⟨(some t96), oMov (.t t9), none, none⟩,
   ⟨(some t97), oBuild [(.bool false), (.slice none 0 0)] [(0, 1, (.t t95)), (1, 1, (.t t96))], none, none⟩,
   ⟨(some t98), oCall 71 [(.t t97)], none, none⟩,
   ⟨none, oStore 2 (.t t4) (.t t98), none, none⟩])
 xRet)
def c53_r2 : X := (xSeq (xOps [⟨(some t9), oMov (.v (.slice none 0 0)), none, none⟩])
 (xSeq (xOps [⟨(some t10), oMov (.v (.int .u64 0)), none, none⟩])
 (xSeq (xSeq (xOps [⟨(some t11), oMov (.v (.int .i64 0)), none, none⟩])
 (xBlock 2 (xLoop c53_l1)))
 c53_r1)))
def c53 : AFunc := ⟨99, [.cell t4 (some 2)],
 (xSeq (xOps [⟨(some t2), oBox (.t t0), none, none⟩,
   ⟨(some t3), oBox (.t t1), none, none⟩,
   ⟨(some t4), oNew [(.bool false), (.slice none 0 0)], none, none⟩])
 (xSeq (xSeq (xOps [⟨(some t13), oFieldAddr 0 (.t t2), none, none⟩,
   ⟨(some t14), oLoad1 (.t t13), none, (some (.t t13))⟩,
   ⟨(some t15), oFieldAddr 0 (.t t3), none, none⟩,
   ⟨(some t16), oLoad1 (.t t15), none, (some (.t t15))⟩,
   ⟨(some t17), oEqv eqB true (.t t14) (.t t16), none, none⟩])
 (xCond (.t t17)
 (xSeq (xSeq (xOps [⟨(some t18), oFieldAddr 1 (.t t2), none, none⟩,
   ⟨(some t19), oLoad1 (.t t18), none, (some (.t t18))⟩,
   ⟨(some t20), oFieldAddr 1 (.t t3), none, none⟩,
   ⟨(some t21), oLoad1 (.t t20), none, (some (.t t20))⟩,
   ⟨(some t22), oCall 70 [(.t t19), (.t t21)], none, none⟩])
 (xCond (.t t22)
 (xOps [⟨(some t23), oLoadN 2 (.t t3), none, none⟩,
   ⟨(some t24), oLoadN 2 (.t t2), none, none⟩,
   ⟨none, oStore 2 (.t t2) (.t t23), none, none⟩,
   ⟨none, oStore 2 (.t t3) (.t t24), none, none⟩])
 xSkip))
 (xSeq (xOps [⟨(some t5), oMov (.v (.slice none 0 0)), none, none⟩])
 (xSeq (xOps [⟨(some t6), oMov (.v (.int .u64 0)), none, none⟩])
 (xSeq (xSeq (xOps [⟨(some t7), oMov (.v (.int .i64 0)), none, none⟩])
 (xBlock 0 (xLoop c53_l0)))
 c53_r0))))
 xSkip))
 c53_r2))⟩
theorem ok53 : cFunc Try.prog gl ex Try.f53 = some c53 := by kernel_rfl
-- publican/publicanref1.Minus
def c54 : AFunc := ⟨10, [.cell t2 (some 2)],
 (xSeq (xOps [⟨(some t1), oBox (.t t0), none, none⟩,
   ⟨(some t2), oNew [(.bool false), (.slice none 0 0)], none, none⟩])
 (xSeq (xOps [⟨(some t3), oFieldAddr 0 (.t t1), none, none⟩,
   ⟨(some t4), oLoad1 (.t t3), none, (some (.t t3))⟩,
   ⟨(some t5), oNot (.t t4), none, none⟩,
   ⟨(some t6), oFieldAddr 1 (.t t1), none, none⟩,
   ⟨(some t7), oLoad1 (.t t6), none, (some (.t t6))⟩,
   ⟨(some t8), oBuild [(.bool false), (.slice none 0 0)] [(0, 1, (.t t5)), (1, 1, (.t t7))], none, none⟩,
   ⟨(some t9), oCall 71 [(.t t8)], none, none⟩,
   ⟨none, oStore 2 (.t t2) (.t t9), none, none⟩])
 xRet))⟩
theorem ok54 : cFunc Try.prog gl ex Try.f54 = some c54 := by kernel_rfl
-- publican/publicanref1.Mul
def c55_j0 : X := (xSeq (xOps [⟨(some t56), oMov (.t t5), none, none⟩,
   ⟨(some t57), oMov (.t t6), none, none⟩,
   ⟨(some t58), oMov (.t t8), none, none⟩,
   ⟨(some t59), oBin (int2 addO) (.t t57) (.t t58), none, none⟩,
   ⟨(some t60), oMov (.t t9), none, none⟩,
   ⟨(some t61), oBin (int2 andO) (.t t60) (.v (.int .u64 65535)), none, none⟩,
   ⟨(some t62), oIdxAddrL 1 (.t t56) (.t t59), none, none⟩,
   ⟨none, oStore 1 (.t t62) (.t t61), none, none⟩])
 (xOps [⟨(some t63), oMov (.t t9), none, none⟩,
   ⟨(some t64), oBin (sh2 shrO) (.t t63) (.v (.int .u64 16)), none, none⟩,
   ⟨(some t7), oMov (.t t64), none, none⟩]))
def c55_j1 : X := (xOps [⟨(some t35), oMov (.t t8), none, none⟩,
   ⟨(some t36), oBin (int2 addO) (.t t35) (.v (.int .i64 1)), none, none⟩,
   ⟨(some t8), oMov (.t t36), none, none⟩])
def c55_l0 : X := (xSeq (xSeq (xOps [⟨(some t26), oMov (.t t8), none, none⟩,
   ⟨(some t27), oFieldAddr 1 (.t t3), none, none⟩,
   ⟨(some t28), oLoad1 (.t t27), none, (some (.t t27))⟩,
   ⟨(some t29), oLenL (.t t28), none, none⟩,
   ⟨(some t30), oBin (int2 (cmpO ltI)) (.t t26) (.t t29), none, none⟩,
   ⟨(some t31), oMov (.t t30), none, none⟩,
   ⟨(some t32), oMov (.t t7), (some (t31, false)), none⟩,
   ⟨(some t33), oBin (int2 (cmpO gtI)) (.t t32) (.v (.int .u64 0)), (some (t31, false)), none⟩,
   ⟨(some t34), oPick (.t t31) (.v (.bool true)) (.t t33), none, none⟩])
 (xCond (.t t34)
 xSkip
 (xExit 2)))
 (xSeq (xBlock 3 (xSeq (xReg [⟨(some t37), oMov (.t t5), none, none⟩,
   ⟨(some t38), oMov (.t t6), none, none⟩,
   ⟨(some t39), oMov (.t t8), none, none⟩,
   ⟨(some t40), oBin (int2 addO) (.t t38) (.t t39), none, none⟩,
   ⟨(some t41), oIdxAddrL 1 (.t t37) (.t t40), none, none⟩,
   ⟨(some t42), oLoad1 (.t t41), none, (some (.t t41))⟩,
   ⟨(some t43), oFieldAddr 1 (.t t2), none, none⟩,
   ⟨(some t44), oLoad1 (.t t43), none, (some (.t t43))⟩,
   ⟨(some t45), oMov (.t t6), none, none⟩,
   ⟨(some t46), oIdxAddrL 1 (.t t44) (.t t45), none, none⟩,
   ⟨(some t47), oLoad1 (.t t46), none, (some (.t t46))⟩,
   ⟨(some t48), oFieldAddr 1 (.t t3), none, none⟩,
   ⟨(some t49), oLoad1 (.t t48), none, (some (.t t48))⟩,
   ⟨(some t50), oMov (.t t8), none, none⟩,
   ⟨(some t51), oCall 72 [(.t t49), (.t t50)], none, none⟩,
   ⟨(some t52), oBin (int2 mulO) (.t t47) (.t t51), none, none⟩,
   ⟨(some t53), oBin (int2 addO) (.t t42) (.t t52), none, none⟩,
   ⟨(some t54), oMov (.t t7), none, none⟩,
   ⟨(some t55), oBin (int2 addO) (.t t53) (.t t54), none, none⟩,
   ⟨(some t9), oMov (.t t55), none, none⟩] [(0, 1), (0, 2), (1, 2), (0, 3), (0, 6), (1, 6), (2, 6), (3, 6), (4, 6), (5, 6), (0, 7), (1, 7), (2, 7), (3, 7), (4, 7), (5, 7), (0, 8), (1, 8), (2, 8), (3, 8), (4, 8), (5, 8), (6, 8), (7, 8), (0, 9), (1, 9), (2, 9), (3, 9), (4, 9), (5, 9), (0, 10), (1, 10), (2, 10), (3, 10), (4, 10), (5, 10), (0, 11), (1, 11), (2, 11), (3, 11), (4, 11), (5, 11), (6, 11), (7, 11), (8, 11), (9, 11), (10, 11), (0, 12), (1, 12), (2, 12), (3, 12), (4, 12), (5, 12), (6, 12), (7, 12), (8, 12), (9, 12), (10, 12), (0, 13), (1, 13), (2, 13), (3, 13), (4, 13), (5, 13), (6, 13), (7, 13), (8, 13), (9, 13), (10, 13), (11, 13), (12, 13), (0, 14), (1, 14), (2, 14), (3, 14), (4, 14), (5, 14), (6, 14), (7, 14), (8, 14), (9, 14), (10, 14), (0, 15), (1, 15), (2, 15), (3, 15), (4, 15), (5, 15), (0, 17), (1, 17), (2, 17), (3, 17), (4, 17), (5, 17), (6, 17), (7, 17), (8, 17), (9, 17), (10, 17), (11, 17), (12, 17), (13, 17), (14, 17), (15, 17), (16, 17)])
 c55_j0))
 c55_j1))
def c55_r0 : X := (xOps [⟨(some t24), oMov (.t t6), none, none⟩,
   ⟨(some t25), oBin (int2 addO) (.t t24) (.v (.int .i64 1)), none, none⟩,
   ⟨(some t6), oMov (.t t25), none, none⟩])
def c55_l1 : X := (xSeq (xSeq (xOps [⟨(some t19), oMov (.t t6), none, none⟩,
   ⟨(some t20), oFieldAddr 1 (.t t2), none, none⟩,
   ⟨(some t21), oLoad1 (.t t20), none, (some (.t t20))⟩,
   ⟨(some t22), oLenL (.t t21), none, none⟩,
   ⟨(some t23), oBin (int2 (cmpO ltI)) (.t t19) (.t t22), none, none⟩])
 (xCond (.t t23)
 xSkip
 (xExit 0)))
 (xSeq (xBlock 1 (xSeq (xOps [⟨(some t7), oMov (.v (.int .u64 0)), none, none⟩])
 (xSeq (xOps [⟨(some t8), oMov (.v (.int .i64 0)), none, none⟩])
 (xBlock 2 (xLoop c55_l0)))))
 c55_r0))
def c55_r1 : X := (xSeq (xOps [⟨(some t65), oFieldAddr 0 (.t t2), none, none⟩,
   ⟨(some t66), oLoad1 (.t t65), none, (some (.t t65))⟩,
   ⟨(some t67), oFieldAddr 0 (.t t3), none, none⟩,
   ⟨(some t68), oLoad1 (.t t67), none, (some (.t t67))⟩,
   ⟨(some t69), oEqv eqB true (.t t66) (.t t68), none, none⟩,
   ⟨(some t70), oMov (.t t5), none, none⟩,
   ⟨(some t71), oBuild [(.bool false), (.slice none 0 0)] [(0, 1, (.t t69)), (1, 1, (.t t70))], none, none⟩,
   ⟨(some t72), oCall 71 [(.t t71)], none, none⟩,
   ⟨none, oStore 2 (.t t4) (.t t72), none, none⟩])
 xRet)
def c55 : AFunc := ⟨73, [.cell t4 (some 2)],
 (xSeq (xOps [⟨(some t2), oBox (.t t0), none, none⟩,
   ⟨(some t3), oBox (.t t1), none, none⟩,
   ⟨(some t4), oNew [(.bool false), (.slice none 0 0)], none, none⟩])
 (xSeq (xOps [⟨(some t10), oFieldAddr 1 (.t t2), none, none⟩,
   ⟨(some t11), oLoad1 (.t t10), none, (some (.t t10))⟩,
   ⟨(some t12), oLenL (.t t11), none, none⟩,
   ⟨(some t13), oFieldAddr 1 (.t t3), none, none⟩,
   ⟨(some t14), oLoad1 (.t t13), none, (some (.t t13))⟩,
   ⟨(some t15), oLenL (.t t14), none, none⟩,
   ⟨(some t16), oBin (int2 addO) (.t t12) (.t t15), none, none⟩,
   ⟨(some t17), oBin (int2 addO) (.t t16) (.v (.int .i64 1)), none, none⟩,
   ⟨(some t18), oMakeSlice 1 8 [(.int .u64 0)] (.t t17) (.t t17), none, none⟩,
   ⟨(some t5), oMov (.t t18), none, none⟩])
 (xSeq (xSeq (xOps [⟨(some t6), oMov (.v (.int .i64 0)), none, none⟩])
 (xBlock 0 (xLoop c55_l1)))
 c55_r1)))⟩
theorem ok55 : cFunc Try.prog gl ex Try.f55 = some c55 := by kernel_rfl
-- (*publican/rate.Table).behind
def c56 : AFunc := ⟨12, [.tmp t4],
 (xSeq (xOps [⟨(some t2), oBox (.t t0), none, none⟩,
   ⟨(some t3), oBox (.t t1), none, none⟩,
   ⟨(some t4), oMov (.v (.int .i64 0)), none, none⟩])
 (xSeq (xOps [⟨(some t5), oLoad1 (.t t2), none, (some (.t t2))⟩,
   ⟨(some t6), oNilCheck (.t t5), none, none⟩,
   ⟨(some t7), oFieldAddr 0 (.t t6), none, none⟩,
   ⟨(some t8), oLoad1 (.t t7), none, (some (.t t7))⟩,
   ⟨(some t9), oLenL (.t t8), none, none⟩,
   ⟨(some t10), oFunc (.func 74) [] [(.t t2), (.t t3)], none, none⟩,
   ⟨(some t11), oCall 73 [(.t t9), (.t t10)], none, none⟩,
   ⟨(some t4), oMov (.t t11), none, none⟩])
 xRet))⟩
theorem ok56 : cFunc Try.prog gl ex Try.f56 = some c56 := by kernel_rfl
-- slices.Insert[[]publican/rate.Step,publican/rate.Step]
def c57 : AFunc := ⟨95, [.tmp t6],
 (xSeq (xOps [⟨(some t6), oMov (.v (.slice none 0 0)), none, none⟩])
 (xSeq (xOps [⟨(some t10), oMov (.t t0), none, none⟩,
   ⟨(some t11), oMov (.t t1), none, none⟩,
   ⟨(some t12), oSliceL 2 (.t t10) (some (.t t11)) none none, none, none⟩])
 (xSeq (xOps [⟨(some t13), oMov (.t t2), none, none⟩,
   ⟨(some t14), oLenL (.t t13), none, none⟩,
   ⟨(some t7), oMov (.t t14), none, none⟩])
 (xSeq (xSeq (xOps [⟨(some t15), oMov (.t t7), none, none⟩,
   ⟨(some t16), oBin (int2 (cmpO eqI)) (.t t15) (.v (.int .i64 0)), none, none⟩])
 (xCond (.t t16)
 (xSeq (xOps [⟨(some t17), oMov (.t t0), none, none⟩,
   ⟨(some t6), oMov (.t t17), none, none⟩])
 xRet)
 xSkip))
 (xSeq (xOps [⟨(some t18), oMov (.t t0), none, none⟩,
   ⟨(some t19), oLenL (.t t18), none, none⟩,
   ⟨(some t8), oMov (.t t19), none, none⟩])
 (xSeq (xSeq (xOps [⟨(some t20), oMov (.t t1), none, none⟩,
   ⟨(some t21), oMov (.t t8), none, none⟩,
   ⟨(some t22), oBin (int2 (cmpO eqI)) (.t t20) (.t t21), none, none⟩])
 (xCond (.t t22)
 (xSeq (xOps [⟨(some t23), oMov (.t t0), none, none⟩,
   ⟨(some t24), oMov (.t t2), none, none⟩,
   ⟨(some t25), oAppend 2 16 (.t t23) (.t t24), none, none⟩,
   ⟨(some t6), oMov (.t t25), none, none⟩])
 xRet)
 xSkip))
 (xSeq (xSeq (xOps [⟨(some t26), oMov (.t t8), none, none⟩,
   ⟨(some t27), oMov (.t t7), none, none⟩,
   ⟨(some t28), oBin (int2 addO) (.t t26) (.t t27), none, none⟩,
   ⟨(some t29), oMov (.t t0), none, none⟩,
   ⟨(some t30), oCap (.t t29), none, none⟩,
   ⟨(some t31), oBin (int2 (cmpO gtI)) (.t t28) (.t t30), none, none⟩])
 (xCond (.t t31)
 (xSeq (xOps [⟨(some t32), oMov (.t t0), none, none⟩,
   ⟨(some t33), oMov (.t t1), none, none⟩,
   ⟨(some t34), oSliceL 2 (.t t32) none (some (.t t33)) none, none, none⟩,
   ⟨(some t35), oMov (.t t8), none, none⟩,
   ⟨(some t36), oMov (.t t7), none, none⟩,
   ⟨(some t37), oBin (int2 addO) (.t t35) (.t t36), none, none⟩,
   ⟨(some t38), oMov (.t t1), none, none⟩,
   ⟨(some t39), oBin (int2 subO) (.t t37) (.t t38), none, none⟩,
   ⟨(some t40), oBad, none, none⟩,
   ⟨(some t9), oMov (.t t40), none, none⟩])
 (xSeq (xOps [⟨(some t41), oMov (.t t9), none, none⟩,
   ⟨(some t42), oMov (.t t1), none, none⟩,
   ⟨(some t43), oSliceL 2 (.t t41) (some (.t t42)) none none, none, none⟩,
   ⟨(some t44), oMov (.t t2), none, none⟩,
   ⟨(some t45), oCopy 2 (.t t43) (.t t44), none, none⟩])
 (xSeq (xReg [⟨(some t46), oMov (.t t9), none, none⟩,
   ⟨(some t47), oMov (.t t1), none, none⟩,
   ⟨(some t48), oMov (.t t7), none, none⟩,
   ⟨(some t49), oBin (int2 addO) (.t t47) (.t t48), none, none⟩,
   ⟨(some t50), oSliceL 2 (.t t46) (some (.t t49)) none none, none, none⟩,
   ⟨(some t51), oMov (.t t0), none, none⟩,
   ⟨(some t52), oMov (.t t1), none, none⟩,
   ⟨(some t53), oSliceL 2 (.t t51) (some (.t t52)) none none, none, none⟩,
   ⟨(some t54), oCopy 2 (.t t50) (.t t53), none, none⟩] [(0, 1), (0, 2), (1, 2), (0, 3), (0, 5), (1, 5), (2, 5), (3, 5), (4, 5), (0, 6), (1, 6), (2, 6), (3, 6), (4, 6), (5, 6), (0, 7), (1, 7), (2, 7), (3, 7), (4, 7)])
 (xSeq (xOps [⟨(some t55), oMov (.t t9), none, none⟩,
   ⟨(some t6), oMov (.t t55), none, none⟩])
 xRet))))
 xSkip))
 (xSeq (xOps [⟨(some t56), oMov (.t t0), none, none⟩,
   ⟨(some t57), oMov (.t t8), none, none⟩,
   ⟨(some t58), oMov (.t t7), none, none⟩,
   ⟨(some t59), oBin (int2 addO) (.t t57) (.t t58), none, none⟩,
   ⟨(some t60), oSliceL 2 (.t t56) none (some (.t t59)) none, none, none⟩,
   ⟨(some t0), oMov (.t t60), none, none⟩])
 (xSeq (xSeq (xOps [⟨(some t61), oMov (.t t2), none, none⟩,
   ⟨(some t62), oMov (.t t0), none, none⟩,
   ⟨(some t63), oMov (.t t1), none, none⟩,
   ⟨(some t64), oMov (.t t7), none, none⟩,
   ⟨(some t65), oBin (int2 addO) (.t t63) (.t t64), none, none⟩,
   ⟨(some t66), oSliceL 2 (.t t62) (some (.t t65)) none none, none, none⟩,
   ⟨(some t67), oCall 75 [(.t t61), (.t t66)], none, none⟩,
   ⟨(some t68), oNot (.t t67), none, none⟩])
 (xCond (.t t68)
 (xSeq (xReg [⟨(some t69), oMov (.t t0), none, none⟩,
   ⟨(some t70), oMov (.t t1), none, none⟩,
   ⟨(some t71), oMov (.t t7), none, none⟩,
   ⟨(some t72), oBin (int2 addO) (.t t70) (.t t71), none, none⟩,
   ⟨(some t73), oSliceL 2 (.t t69) (some (.t t72)) none none, none, none⟩,
   ⟨(some t74), oMov (.t t0), none, none⟩,
   ⟨(some t75), oMov (.t t1), none, none⟩,
   ⟨(some t76), oSliceL 2 (.t t74) (some (.t t75)) none none, none, none⟩,
   ⟨(some t77), oCopy 2 (.t t73) (.t t76), none, none⟩] [(0, 1), (0, 2), (1, 2), (0, 3), (0, 5), (1, 5), (2, 5), (3, 5), (4, 5), (0, 6), (1, 6), (2, 6), (3, 6), (4, 6), (5, 6), (0, 7), (1, 7), (2, 7), (3, 7), (4, 7)])
 (xSeq (xOps [⟨(some t78), oMov (.t t0), none, none⟩,
   ⟨(some t79), oMov (.t t1), none, none⟩,
   ⟨(some t80), oSliceL 2 (.t t78) (some (.t t79)) none none, none, none⟩,
   ⟨(some t81), oMov (.t t2), none, none⟩,
   ⟨(some t82), oCopy 2 (.t t80) (.t t81), none, none⟩])
 (xSeq (xOps [⟨(some t83), oMov (.t t0), none, none⟩,
   ⟨(some t6), oMov (.t t83), none, none⟩])
 xRet)))
 xSkip))
 (xSeq (xOps [⟨(some t84), oMov (.t t0), none, none⟩,
   ⟨(some t85), oMov (.t t8), none, none⟩,
   ⟨(some t86), oSliceL 2 (.t t84) (some (.t t85)) none none, none, none⟩,
   ⟨(some t87), oMov (.t t2), none, none⟩,
   ⟨(some t88), oCopy 2 (.t t86) (.t t87), none, none⟩])
 (xSeq (xOps [⟨(some t89), oMov (.t t0), none, none⟩,
   ⟨(some t90), oMov (.t t1), none, none⟩,
   ⟨(some t91), oSliceL 2 (.t t89) (some (.t t90)) none none, none, none⟩,
   ⟨(some t92), oMov (.t t7), none, none⟩,
   ⟨(some t93), oCall 76 [(.t t91), (.t t92)], none, none⟩])
 (xSeq (xOps [⟨(some t94), oMov (.t t0), none, none⟩,
   ⟨(some t6), oMov (.t t94), none, none⟩])
 xRet))))))))))))⟩
theorem ok57 : cFunc Try.prog gl ex Try.f57 = some c57 := by kernel_rfl
-- publican/publicanref1.U
def c58_l0 : X := (xSeq (xSeq (xOps [⟨(some t6), oMov (.t t0), none, none⟩,
   ⟨(some t7), oBin (int2 (cmpO gtI)) (.t t6) (.v (.int .u64 0)), none, none⟩])
 (xCond (.t t7)
 xSkip
 (xExit 0)))
 (xBlock 1 (xSeq (xOps [⟨(some t8), oMov (.t t5), none, none⟩,
   ⟨(some t9), oMov (.t t0), none, none⟩,
   ⟨(some t10), oBin (int2 andO) (.t t9) (.v (.int .u64 65535)), none, none⟩,
   ⟨(some t11), oBuildSlice 1 [(.int .u64 0)] [(0, 1, (.t t10))], none, none⟩,
   ⟨(some t12), oAppend 1 8 (.t t8) (.t t11), none, none⟩,
   ⟨(some t5), oMov (.t t12), none, none⟩])
 (xOps [⟨(some t13), oMov (.t t0), none, none⟩,
   ⟨(some t14), oBin (sh2 shrO) (.t t13) (.v (.int .u64 16)), none, none⟩,
   ⟨(some t0), oMov (.t t14), none, none⟩]))))
def c58_r0 : X := (xSeq (xOps [⟨(some t15), oMov (.t t1), none, none⟩,
   ⟨(some t16), oMov (.t t5), none, none⟩,
   ⟨(some t17), oBuild [(.bool false), (.slice none 0 0)] [(0, 1, (.t t15)), (1, 1, (.t t16))], none, none⟩,
   ⟨(some t18), oCall 71 [(.t t17)], none, none⟩,
   ⟨none, oStore 2 (.t t4) (.t t18), none, none⟩])
 xRet)
def c58 : AFunc := ⟨19, [.cell t4 (some 2)],
 (xSeq (xOps [⟨(some t4), oNew [(.bool false), (.slice none 0 0)], none, none⟩])
 (xSeq (xOps [⟨(some t5), oMov (.v (.slice none 0 0)), none, none⟩])
 (xSeq (xBlock 0 (xLoop c58_l0))
 c58_r0)))⟩
theorem ok58 : cFunc Try.prog gl ex Try.f58 = some c58 := by kernel_rfl
-- (*publican/publicanref1.Reader).fail
def c59 : AFunc := ⟨9, [.tmp t2],
 (xSeq (xOps [⟨(some t2), oMov (.v (.int .u64 0)), none, none⟩])
 (xSeq (xOps [⟨(some t3), oMov (.t t0), none, none⟩,
   ⟨(some t4), oNilCheck (.t t3), none, none⟩,
   ⟨(some t5), oFieldAddr 1 (.t t4), none, none⟩,
   ⟨none, oStore 1 (.t t5) (.v (.bool true)), none, none⟩])
 (xSeq (xOps [⟨(some t6), oMov (.t t0), none, none⟩,
   ⟨(some t7), oNilCheck (.t t6), none, none⟩,
   ⟨(some t8), oFieldAddr 0 (.t t7), none, none⟩,
   ⟨none, oStore 1 (.t t8) (.v (.slice none 0 0)), none, none⟩])
 (xSeq (xOps [⟨(some t2), oMov (.v (.int .u64 0)), none, none⟩])
 xRet))))⟩
theorem ok59 : cFunc Try.prog gl ex Try.f59 = some c59 := by kernel_rfl
-- slices.Clone[[]byte,byte]
def c60 : AFunc := ⟨8, [.tmp t2],
 (xSeq (xOps [⟨(some t2), oMov (.v (.slice none 0 0)), none, none⟩])
 (xSeq (xSeq (xOps [⟨(some t3), oMov (.t t0), none, none⟩,
   ⟨(some t4), oEqv eqL false (.t t3) (.v (.slice none 0 0)), none, none⟩])
 (xCond (.t t4)
 (xSeq (xOps [⟨(some t2), oMov (.v (.slice none 0 0)), none, none⟩])
 xRet)
 xSkip))
 (xSeq (xOps [⟨(some t5), oBuildSlice 0 [] [], none, none⟩,
   ⟨(some t6), oMov (.t t0), none, none⟩,
   ⟨(some t7), oAppend 1 1 (.t t5) (.t t6), none, none⟩,
   ⟨(some t2), oMov (.t t7), none, none⟩])
 xRet)))⟩
theorem ok60 : cFunc Try.prog gl ex Try.f60 = some c60 := by kernel_rfl
-- (*publican/pack.Reader).spoil
def c61 : AFunc := ⟨8, [],
 (xOps [⟨(some t2), oMov (.t t0), none, none⟩,
   ⟨(some t3), oMov (.t t0), none, none⟩,
   ⟨(some t4), oNilCheck (.t t2), none, none⟩,
   ⟨(some t5), oFieldAddr 0 (.t t4), none, none⟩,
   ⟨none, oStore 1 (.t t5) (.v (.slice none 0 0)), none, none⟩,
   ⟨(some t6), oNilCheck (.t t3), none, none⟩,
   ⟨(some t7), oFieldAddr 1 (.t t6), none, none⟩,
   ⟨none, oStore 1 (.t t7) (.v (.bool true)), none, none⟩])⟩
theorem ok61 : cFunc Try.prog gl ex Try.f61 = some c61 := by kernel_rfl
-- (publican/num.Wide).PlusMul
def c62 : AFunc := ⟨15, [.cell t6 (some 2), .tmp t7],
 (xSeq (xOps [⟨(some t3), oBox (.t t0), none, none⟩,
   ⟨(some t6), oNew [(.int .i64 0), (.int .u64 0)], none, none⟩,
   ⟨(some t7), oMov (.v (.bool false)), none, none⟩])
 (xSeq (xReg [⟨(some t8), oLoadN 2 (.t t3), none, none⟩,
   ⟨(some t9), oMov (.t t1), none, none⟩,
   ⟨(some t10), oMov (.t t2), none, none⟩,
   ⟨(some t11), oCall 77 [(.t t9), (.t t10)], none, none⟩,
   ⟨(some t12), oCall 68 [(.t t8), (.t t11)], none, none⟩,
   ⟨(some t13), oExtract (.t t12) 0, none, none⟩,
   ⟨(some t14), oExtract (.t t12) 1, none, none⟩,
   ⟨none, oStore 2 (.t t6) (.t t13), none, none⟩,
   ⟨(some t7), oMov (.t t14), none, none⟩] [(0, 1), (0, 2), (1, 2), (0, 3), (5, 6)])
 xRet))⟩
theorem ok62 : cFunc Try.prog gl ex Try.f62 = some c62 := by kernel_rfl
-- (*publican/rate.Table).Sum
def c63_j0 : X := (xSeq (xOps [⟨(some t45), oMov (.t t10), none, none⟩,
   ⟨(some t46), oMov (.t t2), none, none⟩,
   ⟨(some t47), oMM false (.t t45) [(.t t46)], none, none⟩,
   ⟨(some t48), oFieldAddr 0 (.t t9), none, none⟩,
   ⟨(some t49), oLoad1 (.t t48), none, (some (.t t48))⟩,
   ⟨(some t50), oMov (.t t1), none, none⟩,
   ⟨(some t51), oMM true (.t t49) [(.t t50)], none, none⟩,
   ⟨(some t52), oBin (int2 subO) (.t t47) (.t t51), none, none⟩,
   ⟨(some t11), oMov (.t t52), none, none⟩])
 (xSeq (xOps [⟨(some t53), oMov (.t t11), none, none⟩,
   ⟨(some t54), oBin (int2 (cmpO gtI)) (.t t53) (.v (.int .i64 0)), none, none⟩])
 (xCond (.t t54)
 (xOps [⟨(some t55), oMov (.t t7), none, none⟩,
   ⟨(some t56), oMov (.t t11), none, none⟩,
   ⟨(some t57), oFieldAddr 1 (.t t9), none, none⟩,
   ⟨(some t58), oLoad1 (.t t57), none, (some (.t t57))⟩,
   ⟨(some t59), oBin (int2 mulO) (.t t56) (.t t58), none, none⟩,
   ⟨(some t60), oBin (int2 addO) (.t t55) (.t t59), none, none⟩,
   ⟨(some t7), oMov (.t t60), none, none⟩])
 xSkip)))
def c63_j1 : X := (xOps [⟨(some t61), oBin (int2 addO) (.t t23) (.v (.int .i64 1)), none, none⟩,
   ⟨(some t23), oMov (.t t61), none, none⟩])
def c63_l0 : X := (xSeq (xOps [⟨(some t24), oBin (int2 (cmpO ltI)) (.t t23) (.t t22), none, none⟩])
 (xSeq (xCond (.t t24)
 xSkip
 (xExit 0))
 (xSeq (xBlock 1 (xSeq (xOps [⟨(some t25), oMov (.t t23), none, none⟩,
   ⟨(some t26), oIdxAddrL 2 (.t t21) (.t t23), none, none⟩,
   ⟨(some t27), oLoadN 2 (.t t26), none, none⟩,
   ⟨(some t9), oNew [(.int .i64 0), (.int .i64 0)], none, none⟩,
   ⟨(some t8), oMov (.t t25), none, none⟩,
   ⟨none, oStore 2 (.t t9) (.t t27), none, none⟩])
 (xSeq (xOps [⟨(some t10), oMov (.v (.int .i64 109573)), none, none⟩])
 (xSeq (xSeq (xOps [⟨(some t28), oMov (.t t8), none, none⟩,
   ⟨(some t29), oMov (.t t0), none, none⟩,
   ⟨(some t30), oNilCheck (.t t29), none, none⟩,
   ⟨(some t31), oFieldAddr 0 (.t t30), none, none⟩,
   ⟨(some t32), oLoad1 (.t t31), none, (some (.t t31))⟩,
   ⟨(some t33), oLenL (.t t32), none, none⟩,
   ⟨(some t34), oBin (int2 subO) (.t t33) (.v (.int .i64 1)), none, none⟩,
   ⟨(some t35), oBin (int2 (cmpO ltI)) (.t t28) (.t t34), none, none⟩])
 (xCond (.t t35)
 (xOps [⟨(some t36), oMov (.t t0), none, none⟩,
   ⟨(some t37), oNilCheck (.t t36), none, none⟩,
   ⟨(some t38), oFieldAddr 0 (.t t37), none, none⟩,
   ⟨(some t39), oLoad1 (.t t38), none, (some (.t t38))⟩,
   ⟨(some t40), oMov (.t t8), none, none⟩,
   ⟨(some t41), oBin (int2 addO) (.t t40) (.v (.int .i64 1)), none, none⟩,
   ⟨(some t42), oIdxAddrL 2 (.t t39) (.t t41), none, none⟩,
   ⟨(some t43), oFieldAddr 0 (.t t42), none, none⟩,
   ⟨(some t44), oLoad1 (.t t43), none, (some (.t t43))⟩,
   ⟨(some t10), oMov (.t t44), none, none⟩])
 xSkip))
 c63_j0))))
 c63_j1)))
def c63_r0 : X := (xSeq (xOps [⟨(some t62), oMov (.t t7), none, none⟩,
   ⟨(some t6), oMov (.t t62), none, none⟩])
 xRet)
def c63 : AFunc := ⟨63, [.tmp t6],
 (xSeq (xOps [⟨(some t6), oMov (.v (.int .i64 0)), none, none⟩])
 (xSeq (xOps [⟨(some t12), oMov (.t t1), none, none⟩,
   ⟨(some t13), oMM true (.t t12) [(.v (.int .i64 0))], none, none⟩,
   ⟨(some t14), oMM false (.t t13) [(.v (.int .i64 109573))], none, none⟩,
   ⟨(some t15), oMov (.t t2), none, none⟩,
   ⟨(some t16), oMM true (.t t15) [(.v (.int .i64 0))], none, none⟩,
   ⟨(some t17), oMM false (.t t16) [(.v (.int .i64 109573))], none, none⟩,
   ⟨(some t1), oMov (.t t14), none, none⟩,
   ⟨(some t2), oMov (.t t17), none, none⟩])
 (xSeq (xOps [⟨(some t7), oMov (.v (.int .i64 0)), none, none⟩])
 (xSeq (xSeq (xOps [⟨(some t18), oMov (.t t0), none, none⟩,
   ⟨(some t19), oNilCheck (.t t18), none, none⟩,
   ⟨(some t20), oFieldAddr 0 (.t t19), none, none⟩,
   ⟨(some t21), oLoad1 (.t t20), none, (some (.t t20))⟩,
   ⟨(some t22), oLenL (.t t21), none, none⟩,
   ⟨(some t23), oMov (.v (.int .i64 0)), none, none⟩])
 (xBlock 0 (xLoop c63_l0)))
 c63_r0))))⟩
theorem ok63 : cFunc Try.prog gl ex Try.f63 = some c63 := by kernel_rfl
-- (publican/num.Wide).turned
def c65 : AFunc := ⟨25, [.cell t2 (some 2)],
 (xSeq (xOps [⟨(some t1), oBox (.t t0), none, none⟩,
   ⟨(some t2), oNew [(.int .i64 0), (.int .u64 0)], none, none⟩])
 (xSeq (xOps [⟨(some t8), oFieldAddr 1 (.t t1), none, none⟩,
   ⟨(some t9), oLoad1 (.t t8), none, (some (.t t8))⟩,
   ⟨(some t10), oExt sub64X [(.v (.int .u64 0)), (.t t9), (.v (.int .u64 0))], none, none⟩,
   ⟨(some t7), oMov (.t t10), none, none⟩,
   ⟨(some t11), oExtract (.t t7) 0, none, none⟩,
   ⟨(some t12), oExtract (.t t7) 1, none, none⟩,
   ⟨(some t3), oMov (.t t11), none, none⟩,
   ⟨(some t4), oMov (.t t12), none, none⟩])
 (xSeq (xOps [⟨(some t14), oFieldAddr 0 (.t t1), none, none⟩,
   ⟨(some t15), oLoad1 (.t t14), none, (some (.t t14))⟩,
   ⟨(some t16), oConv .u64 (.t t15), none, none⟩,
   ⟨(some t17), oMov (.t t4), none, none⟩,
   ⟨(some t18), oExt sub64X [(.v (.int .u64 0)), (.t t16), (.t t17)], none, none⟩,
   ⟨(some t13), oMov (.t t18), none, none⟩,
   ⟨(some t19), oExtract (.t t13) 0, none, none⟩,
   ⟨(some t20), oExtract (.t t13) 1, none, none⟩,
   ⟨(some t5), oMov (.t t19), none, none⟩,
   ⟨(some t6), oMov (.t t20), none, none⟩])
 (xSeq (xOps [⟨(some t21), oMov (.t t5), none, none⟩,
   ⟨(some t22), oConv .i64 (.t t21), none, none⟩,
   ⟨(some t23), oMov (.t t3), none, none⟩,
   ⟨(some t24), oBuild [(.int .i64 0), (.int .u64 0)] [(0, 1, (.t t22)), (1, 1, (.t t23))], none, none⟩,
   ⟨none, oStore 2 (.t t2) (.t t24), none, none⟩])
 xRet))))⟩
theorem ok65 : cFunc Try.prog gl ex Try.f65 = some c65 := by kernel_rfl
-- math/bits.Div64
def c66_g0 : List AOper := [⟨(some t28), oMov (.t t1), none, none⟩,
   ⟨(some t29), oMov (.t t2), none, none⟩,
   ⟨(some t30), oBin (int2 quoO) (.t t28) (.t t29), none, none⟩,
   ⟨(some t31), oMov (.t t1), none, none⟩,
   ⟨(some t32), oMov (.t t2), none, none⟩,
   ⟨(some t33), oBin (int2 remO) (.t t31) (.t t32), none, none⟩,
   ⟨(some t6), oMov (.t t30), none, none⟩,
   ⟨(some t7), oMov (.t t33), none, none⟩]
def c66_l0 : X := (xSeq (xSeq (xOps [⟨(some t67), oMov (.t t15), none, none⟩,
   ⟨(some t68), oBin (int2 (cmpO geI)) (.t t67) (.v (.int .u64 4294967296)), none, none⟩,
   ⟨(some t69), oMov (.t t68), none, none⟩,
   ⟨(some t70), oMov (.t t15), (some (t69, false)), none⟩,
   ⟨(some t71), oMov (.t t10), (some (t69, false)), none⟩,
   ⟨(some t72), oBin (int2 mulO) (.t t70) (.t t71), (some (t69, false)), none⟩,
   ⟨(some t73), oMov (.t t16), (some (t69, false)), none⟩,
   ⟨(some t74), oBin (int2 mulO) (.v (.int .u64 4294967296)) (.t t73), (some (t69, false)), none⟩,
   ⟨(some t75), oMov (.t t13), (some (t69, false)), none⟩,
   ⟨(some t76), oBin (int2 addO) (.t t74) (.t t75), (some (t69, false)), none⟩,
   ⟨(some t77), oBin (int2 (cmpO gtI)) (.t t72) (.t t76), (some (t69, false)), none⟩,
   ⟨(some t78), oPick (.t t69) (.v (.bool true)) (.t t77), none, none⟩])
 (xCond (.t t78)
 xSkip
 (xExit 0)))
 (xBlock 1 (xSeq (xOps [⟨(some t79), oMov (.t t15), none, none⟩,
   ⟨(some t80), oBin (int2 subO) (.t t79) (.v (.int .u64 1)), none, none⟩,
   ⟨(some t15), oMov (.t t80), none, none⟩])
 (xSeq (xOps [⟨(some t81), oMov (.t t16), none, none⟩,
   ⟨(some t82), oMov (.t t9), none, none⟩,
   ⟨(some t83), oBin (int2 addO) (.t t81) (.t t82), none, none⟩,
   ⟨(some t16), oMov (.t t83), none, none⟩])
 (xSeq (xOps [⟨(some t84), oMov (.t t16), none, none⟩,
   ⟨(some t85), oBin (int2 (cmpO geI)) (.t t84) (.v (.int .u64 4294967296)), none, none⟩])
 (xCond (.t t85)
 (xExit 0)
 xSkip))))))
def c66_l1 : X := (xSeq (xSeq (xOps [⟨(some t102), oMov (.t t18), none, none⟩,
   ⟨(some t103), oBin (int2 (cmpO geI)) (.t t102) (.v (.int .u64 4294967296)), none, none⟩,
   ⟨(some t104), oMov (.t t103), none, none⟩,
   ⟨(some t105), oMov (.t t18), (some (t104, false)), none⟩,
   ⟨(some t106), oMov (.t t10), (some (t104, false)), none⟩,
   ⟨(some t107), oBin (int2 mulO) (.t t105) (.t t106), (some (t104, false)), none⟩,
   ⟨(some t108), oMov (.t t16), (some (t104, false)), none⟩,
   ⟨(some t109), oBin (int2 mulO) (.v (.int .u64 4294967296)) (.t t108), (some (t104, false)), none⟩,
   ⟨(some t110), oMov (.t t14), (some (t104, false)), none⟩,
   ⟨(some t111), oBin (int2 addO) (.t t109) (.t t110), (some (t104, false)), none⟩,
   ⟨(some t112), oBin (int2 (cmpO gtI)) (.t t107) (.t t111), (some (t104, false)), none⟩,
   ⟨(some t113), oPick (.t t104) (.v (.bool true)) (.t t112), none, none⟩])
 (xCond (.t t113)
 xSkip
 (xExit 2)))
 (xBlock 3 (xSeq (xOps [⟨(some t114), oMov (.t t18), none, none⟩,
   ⟨(some t115), oBin (int2 subO) (.t t114) (.v (.int .u64 1)), none, none⟩,
   ⟨(some t18), oMov (.t t115), none, none⟩])
 (xSeq (xOps [⟨(some t116), oMov (.t t16), none, none⟩,
   ⟨(some t117), oMov (.t t9), none, none⟩,
   ⟨(some t118), oBin (int2 addO) (.t t116) (.t t117), none, none⟩,
   ⟨(some t16), oMov (.t t118), none, none⟩])
 (xSeq (xOps [⟨(some t119), oMov (.t t16), none, none⟩,
   ⟨(some t120), oBin (int2 (cmpO geI)) (.t t119) (.v (.int .u64 4294967296)), none, none⟩])
 (xCond (.t t120)
 (xExit 2)
 xSkip))))))
def c66_r0 : X := (xSeq (xOps [⟨(some t121), oMov (.t t15), none, none⟩,
   ⟨(some t122), oBin (int2 mulO) (.t t121) (.v (.int .u64 4294967296)), none, none⟩,
   ⟨(some t123), oMov (.t t18), none, none⟩,
   ⟨(some t124), oBin (int2 addO) (.t t122) (.t t123), none, none⟩,
   ⟨(some t125), oMov (.t t17), none, none⟩,
   ⟨(some t126), oBin (int2 mulO) (.t t125) (.v (.int .u64 4294967296)), none, none⟩,
   ⟨(some t127), oMov (.t t14), none, none⟩,
   ⟨(some t128), oBin (int2 addO) (.t t126) (.t t127), none, none⟩,
   ⟨(some t129), oMov (.t t18), none, none⟩,
   ⟨(some t130), oMov (.t t2), none, none⟩,
   ⟨(some t131), oBin (int2 mulO) (.t t129) (.t t130), none, none⟩,
   ⟨(some t132), oBin (int2 subO) (.t t128) (.t t131), none, none⟩,
   ⟨(some t133), oMov (.t t8), none, none⟩,
   ⟨(some t134), oBin (sh2 shrO) (.t t132) (.t t133), none, none⟩,
   ⟨(some t6), oMov (.t t124), none, none⟩,
   ⟨(some t7), oMov (.t t134), none, none⟩])
 xRet)
def c66_r1 : X := (xSeq (xOps [⟨(some t86), oMov (.t t11), none, none⟩,
   ⟨(some t87), oBin (int2 mulO) (.t t86) (.v (.int .u64 4294967296)), none, none⟩,
   ⟨(some t88), oMov (.t t13), none, none⟩,
   ⟨(some t89), oBin (int2 addO) (.t t87) (.t t88), none, none⟩,
   ⟨(some t90), oMov (.t t15), none, none⟩,
   ⟨(some t91), oMov (.t t2), none, none⟩,
   ⟨(some t92), oBin (int2 mulO) (.t t90) (.t t91), none, none⟩,
   ⟨(some t93), oBin (int2 subO) (.t t89) (.t t92), none, none⟩,
   ⟨(some t17), oMov (.t t93), none, none⟩])
 (xSeq (xOps [⟨(some t94), oMov (.t t17), none, none⟩,
   ⟨(some t95), oMov (.t t9), none, none⟩,
   ⟨(some t96), oBin (int2 quoO) (.t t94) (.t t95), none, none⟩,
   ⟨(some t18), oMov (.t t96), none, none⟩])
 (xSeq (xOps [⟨(some t97), oMov (.t t17), none, none⟩,
   ⟨(some t98), oMov (.t t18), none, none⟩,
   ⟨(some t99), oMov (.t t9), none, none⟩,
   ⟨(some t100), oBin (int2 mulO) (.t t98) (.t t99), none, none⟩,
   ⟨(some t101), oBin (int2 subO) (.t t97) (.t t100), none, none⟩,
   ⟨(some t16), oMov (.t t101), none, none⟩])
 (xSeq (xBlock 2 (xLoop c66_l1))
 c66_r0))))
def c66_j0 : X := (xSeq (xSeq (xOps [⟨(some t26), oMov (.t t0), none, none⟩,
   ⟨(some t27), oBin (int2 (cmpO eqI)) (.t t26) (.v (.int .u64 0)), none, none⟩])
 (xCond (.t t27)
 (xSeq (xReg c66_g0 [(0, 1), (0, 3), (1, 3), (2, 3), (0, 4), (1, 4), (2, 4), (3, 4), (0, 5), (1, 5), (2, 5), (3, 6), (4, 6), (5, 6)])
 xRet)
 xSkip))
 (xSeq (xOps [⟨(some t34), oMov (.t t2), none, none⟩,
   ⟨(some t35), oCall 79 [(.t t34)], none, none⟩,
   ⟨(some t36), oConv .u64 (.t t35), none, none⟩,
   ⟨(some t8), oMov (.t t36), none, none⟩])
 (xSeq (xOps [⟨(some t37), oMov (.t t2), none, none⟩,
   ⟨(some t38), oMov (.t t8), none, none⟩,
   ⟨(some t39), oBin (sh2 shlO) (.t t37) (.t t38), none, none⟩,
   ⟨(some t2), oMov (.t t39), none, none⟩])
 (xSeq (xOps [⟨(some t40), oMov (.t t2), none, none⟩,
   ⟨(some t41), oBin (sh2 shrO) (.t t40) (.v (.int .u64 32)), none, none⟩,
   ⟨(some t9), oMov (.t t41), none, none⟩])
 (xSeq (xOps [⟨(some t42), oMov (.t t2), none, none⟩,
   ⟨(some t43), oBin (int2 andO) (.t t42) (.v (.int .u64 4294967295)), none, none⟩,
   ⟨(some t10), oMov (.t t43), none, none⟩])
 (xSeq (xOps [⟨(some t44), oMov (.t t0), none, none⟩,
   ⟨(some t45), oMov (.t t8), none, none⟩,
   ⟨(some t46), oBin (sh2 shlO) (.t t44) (.t t45), none, none⟩,
   ⟨(some t47), oMov (.t t1), none, none⟩,
   ⟨(some t48), oMov (.t t8), none, none⟩,
   ⟨(some t49), oBin (int2 subO) (.v (.int .u64 64)) (.t t48), none, none⟩,
   ⟨(some t50), oBin (sh2 shrO) (.t t47) (.t t49), none, none⟩,
   ⟨(some t51), oBin (int2 orO) (.t t46) (.t t50), none, none⟩,
   ⟨(some t11), oMov (.t t51), none, none⟩])
 (xSeq (xOps [⟨(some t52), oMov (.t t1), none, none⟩,
   ⟨(some t53), oMov (.t t8), none, none⟩,
   ⟨(some t54), oBin (sh2 shlO) (.t t52) (.t t53), none, none⟩,
   ⟨(some t12), oMov (.t t54), none, none⟩])
 (xSeq (xOps [⟨(some t55), oMov (.t t12), none, none⟩,
   ⟨(some t56), oBin (sh2 shrO) (.t t55) (.v (.int .u64 32)), none, none⟩,
   ⟨(some t13), oMov (.t t56), none, none⟩])
 (xSeq (xOps [⟨(some t57), oMov (.t t12), none, none⟩,
   ⟨(some t58), oBin (int2 andO) (.t t57) (.v (.int .u64 4294967295)), none, none⟩,
   ⟨(some t14), oMov (.t t58), none, none⟩])
 (xSeq (xOps [⟨(some t59), oMov (.t t11), none, none⟩,
   ⟨(some t60), oMov (.t t9), none, none⟩,
   ⟨(some t61), oBin (int2 quoO) (.t t59) (.t t60), none, none⟩,
   ⟨(some t15), oMov (.t t61), none, none⟩])
 (xSeq (xOps [⟨(some t62), oMov (.t t11), none, none⟩,
   ⟨(some t63), oMov (.t t15), none, none⟩,
   ⟨(some t64), oMov (.t t9), none, none⟩,
   ⟨(some t65), oBin (int2 mulO) (.t t63) (.t t64), none, none⟩,
   ⟨(some t66), oBin (int2 subO) (.t t62) (.t t65), none, none⟩,
   ⟨(some t16), oMov (.t t66), none, none⟩])
 (xSeq (xBlock 0 (xLoop c66_l0))
 c66_r1))))))))))))
def c66 : AFunc := ⟨135, [.tmp t6, .tmp t7],
 (xSeq (xOps [⟨(some t6), oMov (.v (.int .u64 0)), none, none⟩,
   ⟨(some t7), oMov (.v (.int .u64 0)), none, none⟩])
 (xSeq (xSeq (xOps [⟨(some t19), oMov (.t t2), none, none⟩,
   ⟨(some t20), oBin (int2 (cmpO eqI)) (.t t19) (.v (.int .u64 0)), none, none⟩])
 (xCond (.t t20)
 (xOps [⟨(some t21), oBad, none, none⟩,
   ⟨none, oBad, none, none⟩])
 xSkip))
 (xSeq (xSeq (xOps [⟨(some t22), oMov (.t t2), none, none⟩,
   ⟨(some t23), oMov (.t t0), none, none⟩,
   ⟨(some t24), oBin (int2 (cmpO leI)) (.t t22) (.t t23), none, none⟩])
 (xCond (.t t24)
 (xOps [⟨(some t25), oBad, none, none⟩,
   ⟨none, oBad, none, none⟩])
 xSkip))
 c66_j0)))⟩
theorem ok66 : cFunc Try.prog gl ex Try.f66 = some c66 := by kernel_rfl
-- publican/num.narrow
def c67 : AFunc := ⟨14, [.tmp t2, .tmp t3],
 (xSeq (xOps [⟨(some t1), oBox (.t t0), none, none⟩,
   ⟨(some t2), oMov (.v (.int .i64 0)), none, none⟩,
   ⟨(some t3), oMov (.v (.bool false)), none, none⟩])
 (xSeq (xOps [⟨(some t5), oFieldAddr 1 (.t t1), none, none⟩,
   ⟨(some t6), oLoad1 (.t t5), none, (some (.t t5))⟩,
   ⟨(some t7), oConv .i64 (.t t6), none, none⟩,
   ⟨(some t4), oMov (.t t7), none, none⟩])
 (xSeq (xSeq (xOps [⟨(some t8), oFieldAddr 0 (.t t1), none, none⟩,
   ⟨(some t9), oLoad1 (.t t8), none, (some (.t t8))⟩,
   ⟨(some t10), oMov (.t t4), none, none⟩,
   ⟨(some t11), oBin (sh2 shrO) (.t t10) (.v (.int .u64 63)), none, none⟩,
   ⟨(some t12), oBin (int2 (cmpO neI)) (.t t9) (.t t11), none, none⟩])
 (xCond (.t t12)
 (xSeq (xOps [⟨(some t2), oMov (.v (.int .i64 0)), none, none⟩,
   ⟨(some t3), oMov (.v (.bool false)), none, none⟩])
 xRet)
 xSkip))
 (xSeq (xOps [⟨(some t13), oMov (.t t4), none, none⟩,
   ⟨(some t2), oMov (.t t13), none, none⟩,
   ⟨(some t3), oMov (.v (.bool true)), none, none⟩])
 xRet))))⟩
theorem ok67 : cFunc Try.prog gl ex Try.f67 = some c67 := by kernel_rfl
-- (publican/num.Wide).Plus
def c68 : AFunc := ⟨52, [.cell t4 (some 2), .tmp t5],
 (xSeq (xOps [⟨(some t2), oBox (.t t0), none, none⟩,
   ⟨(some t3), oBox (.t t1), none, none⟩,
   ⟨(some t4), oNew [(.int .i64 0), (.int .u64 0)], none, none⟩,
   ⟨(some t5), oMov (.v (.bool false)), none, none⟩])
 (xSeq (xOps [⟨(some t12), oFieldAddr 1 (.t t2), none, none⟩,
   ⟨(some t13), oLoad1 (.t t12), none, (some (.t t12))⟩,
   ⟨(some t14), oFieldAddr 1 (.t t3), none, none⟩,
   ⟨(some t15), oLoad1 (.t t14), none, (some (.t t14))⟩,
   ⟨(some t16), oExt add64X [(.t t13), (.t t15), (.v (.int .u64 0))], none, none⟩,
   ⟨(some t11), oMov (.t t16), none, none⟩,
   ⟨(some t17), oExtract (.t t11) 0, none, none⟩,
   ⟨(some t18), oExtract (.t t11) 1, none, none⟩,
   ⟨(some t6), oMov (.t t17), none, none⟩,
   ⟨(some t7), oMov (.t t18), none, none⟩])
 (xSeq (xOps [⟨(some t20), oFieldAddr 0 (.t t2), none, none⟩,
   ⟨(some t21), oLoad1 (.t t20), none, (some (.t t20))⟩,
   ⟨(some t22), oConv .u64 (.t t21), none, none⟩,
   ⟨(some t23), oFieldAddr 0 (.t t3), none, none⟩,
   ⟨(some t24), oLoad1 (.t t23), none, (some (.t t23))⟩,
   ⟨(some t25), oConv .u64 (.t t24), none, none⟩,
   ⟨(some t26), oMov (.t t7), none, none⟩,
   ⟨(some t27), oExt add64X [(.t t22), (.t t25), (.t t26)], none, none⟩,
   ⟨(some t19), oMov (.t t27), none, none⟩,
   ⟨(some t28), oExtract (.t t19) 0, none, none⟩,
   ⟨(some t29), oExtract (.t t19) 1, none, none⟩,
   ⟨(some t8), oMov (.t t28), none, none⟩,
   ⟨(some t9), oMov (.t t29), none, none⟩])
 (xSeq (xOps [⟨(some t30), oMov (.t t8), none, none⟩,
   ⟨(some t31), oConv .i64 (.t t30), none, none⟩,
   ⟨(some t32), oMov (.t t6), none, none⟩,
   ⟨(some t33), oBuild [(.int .i64 0), (.int .u64 0)] [(0, 1, (.t t31)), (1, 1, (.t t32))], none, none⟩,
   ⟨(some t10), oNew [(.int .i64 0), (.int .u64 0)], none, none⟩,
   ⟨none, oStore 2 (.t t10) (.t t33), none, none⟩])
 (xSeq (xSeq (xOps [⟨(some t34), oFieldAddr 0 (.t t2), none, none⟩,
   ⟨(some t35), oLoad1 (.t t34), none, (some (.t t34))⟩,
   ⟨(some t36), oBin (int2 (cmpO ltI)) (.t t35) (.v (.int .i64 0)), none, none⟩,
   ⟨(some t37), oFieldAddr 0 (.t t3), none, none⟩,
   ⟨(some t38), oLoad1 (.t t37), none, (some (.t t37))⟩,
   ⟨(some t39), oBin (int2 (cmpO ltI)) (.t t38) (.v (.int .i64 0)), none, none⟩,
   ⟨(some t40), oEqv eqB false (.t t36) (.t t39), none, none⟩,
   ⟨(some t41), oMov (.t t40), none, none⟩,
   ⟨(some t42), oFieldAddr 0 (.t t10), (some (t41, true)), none⟩,
   ⟨(some t43), oLoad1 (.t t42), (some (t41, true)), (some (.t t42))⟩,
   ⟨(some t44), oBin (int2 (cmpO ltI)) (.t t43) (.v (.int .i64 0)), (some (t41, true)), none⟩,
   ⟨(some t45), oFieldAddr 0 (.t t2), (some (t41, true)), none⟩,
   ⟨(some t46), oLoad1 (.t t45), (some (t41, true)), (some (.t t45))⟩,
   ⟨(some t47), oBin (int2 (cmpO ltI)) (.t t46) (.v (.int .i64 0)), (some (t41, true)), none⟩,
   ⟨(some t48), oEqv eqB true (.t t44) (.t t47), (some (t41, true)), none⟩,
   ⟨(some t49), oPick (.t t41) (.t t48) (.v (.bool false)), none, none⟩])
 (xCond (.t t49)
 (xSeq (xOps [⟨(some t50), oBuild [(.int .i64 0), (.int .u64 0)] [], none, none⟩,
   ⟨none, oStore 2 (.t t4) (.t t50), none, none⟩,
   ⟨(some t5), oMov (.v (.bool false)), none, none⟩])
 xRet)
 xSkip))
 (xSeq (xOps [⟨(some t51), oLoadN 2 (.t t10), none, none⟩,
   ⟨none, oStore 2 (.t t4) (.t t51), none, none⟩,
   ⟨(some t5), oMov (.v (.bool true)), none, none⟩])
 xRet))))))⟩
theorem ok68 : cFunc Try.prog gl ex Try.f68 = some c68 := by kernel_rfl
-- publican/num.Of
def c69 : AFunc := ⟨8, [.cell t2 (some 2)],
 (xSeq (xOps [⟨(some t2), oNew [(.int .i64 0), (.int .u64 0)], none, none⟩])
 (xSeq (xOps [⟨(some t3), oMov (.t t0), none, none⟩,
   ⟨(some t4), oBin (sh2 shrO) (.t t3) (.v (.int .u64 63)), none, none⟩,
   ⟨(some t5), oMov (.t t0), none, none⟩,
   ⟨(some t6), oConv .u64 (.t t5), none, none⟩,
   ⟨(some t7), oBuild [(.int .i64 0), (.int .u64 0)] [(0, 1, (.t t4)), (1, 1, (.t t6))], none, none⟩,
   ⟨none, oStore 2 (.t t2) (.t t7), none, none⟩])
 xRet))⟩
theorem ok69 : cFunc Try.prog gl ex Try.f69 = some c69 := by kernel_rfl
-- publican/publicanref1.less
def c70_g0 : List AOper := [⟨(some t23), oMov (.t t0), none, none⟩,
   ⟨(some t24), oMov (.t t5), none, none⟩,
   ⟨(some t25), oIdxAddrL 1 (.t t23) (.t t24), none, none⟩,
   ⟨(some t26), oLoad1 (.t t25), none, (some (.t t25))⟩,
   ⟨(some t27), oMov (.t t1), none, none⟩,
   ⟨(some t28), oMov (.t t5), none, none⟩,
   ⟨(some t29), oIdxAddrL 1 (.t t27) (.t t28), none, none⟩,
   ⟨(some t30), oLoad1 (.t t29), none, (some (.t t29))⟩,
   ⟨(some t31), oBin (int2 (cmpO neI)) (.t t26) (.t t30), none, none⟩]
def c70_g1 : List AOper := [⟨(some t32), oMov (.t t0), none, none⟩,
   ⟨(some t33), oMov (.t t5), none, none⟩,
   ⟨(some t34), oIdxAddrL 1 (.t t32) (.t t33), none, none⟩,
   ⟨(some t35), oLoad1 (.t t34), none, (some (.t t34))⟩,
   ⟨(some t36), oMov (.t t1), none, none⟩,
   ⟨(some t37), oMov (.t t5), none, none⟩,
   ⟨(some t38), oIdxAddrL 1 (.t t36) (.t t37), none, none⟩,
   ⟨(some t39), oLoad1 (.t t38), none, (some (.t t38))⟩,
   ⟨(some t40), oBin (int2 (cmpO ltI)) (.t t35) (.t t39), none, none⟩,
   ⟨(some t4), oMov (.t t40), none, none⟩]
def c70_l0 : X := (xSeq (xSeq (xOps [⟨(some t19), oMov (.t t5), none, none⟩,
   ⟨(some t20), oBin (int2 (cmpO geI)) (.t t19) (.v (.int .i64 0)), none, none⟩])
 (xCond (.t t20)
 xSkip
 (xExit 0)))
 (xSeq (xBlock 1 (xSeq (xReg c70_g0 [(0, 1), (0, 4), (1, 4), (2, 4), (3, 4), (0, 5), (1, 5), (2, 5), (3, 5), (4, 5), (0, 6), (1, 6), (2, 6), (3, 6), (0, 7), (1, 7), (2, 7), (3, 7)])
 (xCond (.t t31)
 (xSeq (xReg c70_g1 [(0, 1), (0, 4), (1, 4), (2, 4), (3, 4), (0, 5), (1, 5), (2, 5), (3, 5), (4, 5), (0, 6), (1, 6), (2, 6), (3, 6), (0, 7), (1, 7), (2, 7), (3, 7)])
 xRet)
 xSkip)))
 (xOps [⟨(some t21), oMov (.t t5), none, none⟩,
   ⟨(some t22), oBin (int2 subO) (.t t21) (.v (.int .i64 1)), none, none⟩,
   ⟨(some t5), oMov (.t t22), none, none⟩])))
def c70_r0 : X := (xSeq (xOps [⟨(some t4), oMov (.v (.bool false)), none, none⟩])
 xRet)
def c70 : AFunc := ⟨41, [.tmp t4],
 (xSeq (xOps [⟨(some t4), oMov (.v (.bool false)), none, none⟩])
 (xSeq (xSeq (xOps [⟨(some t6), oMov (.t t0), none, none⟩,
   ⟨(some t7), oLenL (.t t6), none, none⟩,
   ⟨(some t8), oMov (.t t1), none, none⟩,
   ⟨(some t9), oLenL (.t t8), none, none⟩,
   ⟨(some t10), oBin (int2 (cmpO neI)) (.t t7) (.t t9), none, none⟩])
 (xCond (.t t10)
 (xSeq (xOps [⟨(some t11), oMov (.t t0), none, none⟩,
   ⟨(some t12), oLenL (.t t11), none, none⟩,
   ⟨(some t13), oMov (.t t1), none, none⟩,
   ⟨(some t14), oLenL (.t t13), none, none⟩,
   ⟨(some t15), oBin (int2 (cmpO ltI)) (.t t12) (.t t14), none, none⟩,
   ⟨(some t4), oMov (.t t15), none, none⟩])
 xRet)
 xSkip))
 (xSeq (xSeq (xOps [⟨(some t16), oMov (.t t0), none, none⟩,
   ⟨(some t17), oLenL (.t t16), none, none⟩,
   ⟨(some t18), oBin (int2 subO) (.t t17) (.v (.int .i64 1)), none, none⟩,
   ⟨(some t5), oMov (.t t18), none, none⟩])
 (xBlock 0 (xLoop c70_l0)))
 c70_r0)))⟩
theorem ok70 : cFunc Try.prog gl ex Try.f70 = some c70 := by kernel_rfl
-- publican/publicanref1.trim
def c71_l0 : X := (xSeq (xSeq (xOps [⟨(some t6), oMov (.t t3), none, none⟩,
   ⟨(some t7), oLenL (.t t6), none, none⟩,
   ⟨(some t8), oBin (int2 (cmpO gtI)) (.t t7) (.v (.int .i64 0)), none, none⟩,
   ⟨(some t9), oMov (.t t8), none, none⟩,
   ⟨(some t10), oMov (.t t3), (some (t9, true)), none⟩,
   ⟨(some t11), oMov (.t t3), (some (t9, true)), none⟩,
   ⟨(some t12), oLenL (.t t11), (some (t9, true)), none⟩,
   ⟨(some t13), oBin (int2 subO) (.t t12) (.v (.int .i64 1)), (some (t9, true)), none⟩,
   ⟨(some t14), oIdxAddrL 1 (.t t10) (.t t13), (some (t9, true)), none⟩,
   ⟨(some t15), oLoad1 (.t t14), (some (t9, true)), (some (.t t14))⟩,
   ⟨(some t16), oBin (int2 (cmpO eqI)) (.t t15) (.v (.int .u64 0)), (some (t9, true)), none⟩,
   ⟨(some t17), oPick (.t t9) (.t t16) (.v (.bool false)), none, none⟩])
 (xCond (.t t17)
 xSkip
 (xExit 0)))
 (xBlock 1 (xOps [⟨(some t18), oMov (.t t3), none, none⟩,
   ⟨(some t19), oMov (.t t3), none, none⟩,
   ⟨(some t20), oLenL (.t t19), none, none⟩,
   ⟨(some t21), oBin (int2 subO) (.t t20) (.v (.int .i64 1)), none, none⟩,
   ⟨(some t22), oSliceL 1 (.t t18) none (some (.t t21)) none, none, none⟩,
   ⟨(some t3), oMov (.t t22), none, none⟩])))
def c71_r0 : X := (xSeq (xOps [⟨(some t23), oFieldAddr 0 (.t t1), none, none⟩,
   ⟨(some t24), oLoad1 (.t t23), none, (some (.t t23))⟩,
   ⟨(some t25), oMov (.t t24), none, none⟩,
   ⟨(some t26), oMov (.t t3), (some (t25, true)), none⟩,
   ⟨(some t27), oLenL (.t t26), (some (t25, true)), none⟩,
   ⟨(some t28), oBin (int2 (cmpO gtI)) (.t t27) (.v (.int .i64 0)), (some (t25, true)), none⟩,
   ⟨(some t29), oPick (.t t25) (.t t28) (.v (.bool false)), none, none⟩,
   ⟨(some t30), oMov (.t t3), none, none⟩,
   ⟨(some t31), oBuild [(.bool false), (.slice none 0 0)] [(0, 1, (.t t29)), (1, 1, (.t t30))], none, none⟩,
   ⟨none, oStore 2 (.t t2) (.t t31), none, none⟩])
 xRet)
def c71 : AFunc := ⟨32, [.cell t2 (some 2)],
 (xSeq (xOps [⟨(some t1), oBox (.t t0), none, none⟩,
   ⟨(some t2), oNew [(.bool false), (.slice none 0 0)], none, none⟩])
 (xSeq (xOps [⟨(some t4), oFieldAddr 1 (.t t1), none, none⟩,
   ⟨(some t5), oLoad1 (.t t4), none, (some (.t t4))⟩,
   ⟨(some t3), oMov (.t t5), none, none⟩])
 (xSeq (xBlock 0 (xLoop c71_l0))
 c71_r0)))⟩
theorem ok71 : cFunc Try.prog gl ex Try.f71 = some c71 := by kernel_rfl
end
end Go.Proofs.Ytdnedangfnincaa.AbsAccR
