import Derived.Test.YtdnedangfnincaaRows
import Derived.Test.YtdnedangfnincaaAbsAccOT
import Derived.KernelRfl
namespace Go.Proofs.Ytdnedangfnincaa.AbsAccO
open Go Go.Abs Go.Proofs
set_option maxRecDepth 100000
set_option linter.unusedVariables false
noncomputable section
def c10 : AFunc := ⟨3, [.tmp t0],
 (xSeq (xOps [⟨(some t0), oMov (.v (.pointer none)), none, none⟩])
 (xSeq (xOps [⟨(some t1), oBuild [(.slice none 0 0)] [], none, none⟩,
   ⟨(some t2), oBox (.t t1), none, none⟩,
   ⟨(some t0), oMov (.t t2), none, none⟩])
 xRet))⟩
theorem ok10 : cFunc Try.prog gl ex Try.f10 = some c10 := by kernel_rfl
def c27 : AFunc := ⟨68, [.tmp t6],
 (xSeq (xOps [⟨(some t6), oMov (.v (.int .i64 0)), none, none⟩])
 (xSeq (xBlock 0 (xSeq (xOps [⟨(some t9), oMov (.t t1), none, none⟩,
   ⟨(some t10), oBin (int2 (cmpO ltI)) (.t t9) (.v (.int .i64 0)), none, none⟩,
   ⟨(some t11), oMov (.t t10), none, none⟩,
   ⟨(some t12), oMov (.t t1), (some (t11, false)), none⟩,
   ⟨(some t13), oBin (int2 (cmpO gtI)) (.t t12) (.v (.int .i64 109572)), (some (t11, false)), none⟩,
   ⟨(some t14), oPick (.t t11) (.v (.bool true)) (.t t13), none, none⟩,
   ⟨(some t8), oMov (.t t14), none, none⟩])
 (xCond (.t t8)
 (xSeq (xOps [⟨(some t6), oMov (.v (.int .i64 12)), none, none⟩])
 xRet)
 (xSeq (xOps [⟨(some t16), oMov (.t t2), none, none⟩,
   ⟨(some t17), oBin (int2 (cmpO ltI)) (.t t16) (.v (.int .i64 0)), none, none⟩,
   ⟨(some t18), oMov (.t t17), none, none⟩,
   ⟨(some t19), oMov (.t t2), (some (t18, false)), none⟩,
   ⟨(some t20), oBin (int2 (cmpO gtI)) (.t t19) (.v (.int .i64 1000000000)), (some (t18, false)), none⟩,
   ⟨(some t21), oPick (.t t18) (.v (.bool true)) (.t t20), none, none⟩,
   ⟨(some t15), oMov (.t t21), none, none⟩])
 (xCond (.t t15)
 (xSeq (xOps [⟨(some t6), oMov (.v (.int .i64 1)), none, none⟩])
 xRet)
 xSkip)))))
 (xSeq (xOps [⟨(some t22), oMov (.t t0), none, none⟩,
   ⟨(some t23), oMov (.t t1), none, none⟩,
   ⟨(some t24), oCall 56 [(.t t22), (.t t23)], none, none⟩,
   ⟨(some t7), oMov (.t t24), none, none⟩])
 (xSeq (xSeq (xOps [⟨(some t25), oMov (.t t7), none, none⟩,
   ⟨(some t26), oBin (int2 (cmpO gtI)) (.t t25) (.v (.int .i64 0)), none, none⟩,
   ⟨(some t27), oMov (.t t26), none, none⟩,
   ⟨(some t28), oMov (.t t0), (some (t27, true)), none⟩,
   ⟨(some t29), oNilCheck (.t t28), (some (t27, true)), none⟩,
   ⟨(some t30), oFieldAddr 0 (.t t29), (some (t27, true)), none⟩,
   ⟨(some t31), oLoad1 (.t t30), (some (t27, true)), (some (.t t30))⟩,
   ⟨(some t32), oMov (.t t7), (some (t27, true)), none⟩,
   ⟨(some t33), oBin (int2 subO) (.t t32) (.v (.int .i64 1)), (some (t27, true)), none⟩,
   ⟨(some t34), oIdxAddrL 2 (.t t31) (.t t33), (some (t27, true)), none⟩,
   ⟨(some t35), oFieldAddr 0 (.t t34), (some (t27, true)), none⟩,
   ⟨(some t36), oLoad1 (.t t35), (some (t27, true)), (some (.t t35))⟩,
   ⟨(some t37), oMov (.t t1), (some (t27, true)), none⟩,
   ⟨(some t38), oBin (int2 (cmpO eqI)) (.t t36) (.t t37), (some (t27, true)), none⟩,
   ⟨(some t39), oPick (.t t27) (.t t38) (.v (.bool false)), none, none⟩])
 (xCond (.t t39)
 (xSeq (xOps [⟨(some t40), oMov (.t t0), none, none⟩,
   ⟨(some t41), oNilCheck (.t t40), none, none⟩,
   ⟨(some t42), oFieldAddr 0 (.t t41), none, none⟩,
   ⟨(some t43), oLoad1 (.t t42), none, (some (.t t42))⟩,
   ⟨(some t44), oMov (.t t7), none, none⟩,
   ⟨(some t45), oBin (int2 subO) (.t t44) (.v (.int .i64 1)), none, none⟩,
   ⟨(some t46), oMov (.t t2), none, none⟩,
   ⟨(some t47), oIdxAddrL 2 (.t t43) (.t t45), none, none⟩,
   ⟨(some t48), oFieldAddr 1 (.t t47), none, none⟩,
   ⟨none, oStore 1 (.t t48) (.t t46), none, none⟩])
 (xSeq (xOps [⟨(some t6), oMov (.v (.int .i64 0)), none, none⟩])
 xRet))
 xSkip))
 (xSeq (xSeq (xOps [⟨(some t49), oMov (.t t0), none, none⟩,
   ⟨(some t50), oNilCheck (.t t49), none, none⟩,
   ⟨(some t51), oFieldAddr 0 (.t t50), none, none⟩,
   ⟨(some t52), oLoad1 (.t t51), none, (some (.t t51))⟩,
   ⟨(some t53), oLenL (.t t52), none, none⟩,
   ⟨(some t54), oBin (int2 (cmpO eqI)) (.t t53) (.v (.int .i64 256)), none, none⟩])
 (xCond (.t t54)
 (xSeq (xOps [⟨(some t6), oMov (.v (.int .i64 2)), none, none⟩])
 xRet)
 xSkip))
 (xSeq (xOps [⟨(some t55), oMov (.t t0), none, none⟩,
   ⟨(some t56), oMov (.t t0), none, none⟩,
   ⟨(some t57), oNilCheck (.t t56), none, none⟩,
   ⟨(some t58), oFieldAddr 0 (.t t57), none, none⟩,
   ⟨(some t59), oLoad1 (.t t58), none, (some (.t t58))⟩,
   ⟨(some t60), oMov (.t t7), none, none⟩,
   ⟨(some t61), oMov (.t t1), none, none⟩,
   ⟨(some t62), oMov (.t t2), none, none⟩,
   ⟨(some t63), oBuild [(.int .i64 0), (.int .i64 0)] [(0, 1, (.t t61)), (1, 1, (.t t62))], none, none⟩,
   ⟨(some t64), oBuildSlice 1 [(.int .i64 0), (.int .i64 0)] [(0, 2, (.t t63))], none, none⟩,
   ⟨(some t65), oCall 57 [(.t t59), (.t t60), (.t t64)], none, none⟩,
   ⟨(some t66), oNilCheck (.t t55), none, none⟩,
   ⟨(some t67), oFieldAddr 0 (.t t66), none, none⟩,
   ⟨none, oStore 1 (.t t67) (.t t65), none, none⟩])
 (xSeq (xOps [⟨(some t6), oMov (.v (.int .i64 0)), none, none⟩])
 xRet)))))))⟩
theorem ok27 : cFunc Try.prog gl ex Try.f27 = some c27 := by kernel_rfl
def c46 : AFunc := ⟨29, [.cell t6 (some 2)],
 (xSeq (xOps [⟨(some t6), oNew [(.int .i64 0), (.int .u64 0)], none, none⟩])
 (xSeq (xReg [⟨(some t10), oMov (.t t0), none, none⟩,
   ⟨(some t11), oNilCheck (.t t10), none, none⟩,
   ⟨(some t12), oFieldAddr 3 (.t t11), none, none⟩,
   ⟨(some t13), oLoadN 2 (.t t12), none, none⟩,
   ⟨(some t14), oMov (.t t0), none, none⟩,
   ⟨(some t15), oNilCheck (.t t14), none, none⟩,
   ⟨(some t16), oFieldAddr 1 (.t t15), none, none⟩,
   ⟨(some t17), oLoad1 (.t t16), none, (some (.t t16))⟩,
   ⟨(some t18), oMov (.t t1), none, none⟩,
   ⟨(some t19), oMov (.t t0), none, none⟩,
   ⟨(some t20), oNilCheck (.t t19), none, none⟩,
   ⟨(some t21), oFieldAddr 0 (.t t20), none, none⟩,
   ⟨(some t22), oLoad1 (.t t21), none, (some (.t t21))⟩,
   ⟨(some t23), oMov (.t t2), none, none⟩,
   ⟨(some t24), oCall 63 [(.t t18), (.t t22), (.t t23)], none, none⟩,
   ⟨(some t25), oCall 62 [(.t t13), (.t t17), (.t t24)], none, none⟩,
   ⟨(some t9), oMov (.t t25), none, none⟩,
   ⟨(some t26), oExtract (.t t9) 0, none, none⟩,
   ⟨(some t27), oExtract (.t t9) 1, none, none⟩,
   ⟨(some t7), oNew [(.int .i64 0), (.int .u64 0)], none, none⟩,
   ⟨none, oStore 2 (.t t7) (.t t26), none, none⟩,
   ⟨(some t8), oMov (.t t27), none, none⟩] [(0, 4), (1, 4), (2, 4), (3, 4), (0, 5), (1, 5), (2, 5), (3, 5), (0, 6), (1, 6), (2, 6), (3, 6), (0, 7), (1, 7), (2, 7), (3, 7), (0, 8), (1, 8), (2, 8), (3, 8), (4, 8), (5, 8), (6, 8), (7, 8), (0, 9), (1, 9), (2, 9), (3, 9), (4, 9), (5, 9), (6, 9), (7, 9), (8, 9), (0, 10), (1, 10), (2, 10), (3, 10), (4, 10), (5, 10), (6, 10), (7, 10), (8, 10), (0, 11), (1, 11), (2, 11), (3, 11), (4, 11), (5, 11), (6, 11), (7, 11), (8, 11), (0, 12), (1, 12), (2, 12), (3, 12), (4, 12), (5, 12), (6, 12), (7, 12), (8, 12), (0, 13), (1, 13), (2, 13), (3, 13), (4, 13), (5, 13), (6, 13), (7, 13), (8, 13), (9, 13), (10, 13), (11, 13), (12, 13), (0, 14), (1, 14), (2, 14), (3, 14), (4, 14), (5, 14), (6, 14), (7, 14), (17, 18), (0, 19), (1, 19), (2, 19), (3, 19), (4, 19), (5, 19), (6, 19), (7, 19), (8, 19), (9, 19), (10, 19), (11, 19), (12, 19), (13, 19), (14, 19), (15, 19), (16, 19), (17, 19), (18, 19), (18, 20)])
 (xSeq (xOps [⟨(some t28), oLoadN 2 (.t t7), none, none⟩,
   ⟨none, oStore 2 (.t t6) (.t t28), none, none⟩])
 xRet)))⟩
theorem ok46 : cFunc Try.prog gl ex Try.f46 = some c46 := by kernel_rfl
def c48 : AFunc := ⟨59, [.tmp t4, .tmp t5],
 (xSeq (xOps [⟨(some t2), oBox (.t t0), none, none⟩,
   ⟨(some t4), oMov (.v (.int .i64 0)), none, none⟩,
   ⟨(some t5), oMov (.v (.bool false)), none, none⟩])
 (xSeq (xSeq (xOps [⟨(some t11), oMov (.t t1), none, none⟩,
   ⟨(some t12), oBin (int2 (cmpO ltI)) (.t t11) (.v (.int .i64 1)), none, none⟩])
 (xCond (.t t12)
 (xSeq (xOps [⟨(some t4), oMov (.v (.int .i64 0)), none, none⟩,
   ⟨(some t5), oMov (.v (.bool false)), none, none⟩])
 xRet)
 xSkip))
 (xSeq (xOps [⟨(some t13), oLoadN 2 (.t t2), none, none⟩,
   ⟨(some t6), oNew [(.int .i64 0), (.int .u64 0)], none, none⟩,
   ⟨none, oStore 2 (.t t6) (.t t13), none, none⟩])
 (xSeq (xSeq (xOps [⟨(some t14), oFieldAddr 0 (.t t2), none, none⟩,
   ⟨(some t15), oLoad1 (.t t14), none, (some (.t t14))⟩,
   ⟨(some t16), oBin (int2 (cmpO ltI)) (.t t15) (.v (.int .i64 0)), none, none⟩])
 (xCond (.t t16)
 (xOps [⟨(some t17), oLoadN 2 (.t t2), none, none⟩,
   ⟨(some t18), oCall 65 [(.t t17)], none, none⟩,
   ⟨none, oStore 2 (.t t6) (.t t18), none, none⟩])
 xSkip))
 (xSeq (xOps [⟨(some t19), oMov (.t t1), none, none⟩,
   ⟨(some t20), oConv .u64 (.t t19), none, none⟩,
   ⟨(some t7), oMov (.t t20), none, none⟩])
 (xSeq (xSeq (xOps [⟨(some t21), oFieldAddr 0 (.t t6), none, none⟩,
   ⟨(some t22), oLoad1 (.t t21), none, (some (.t t21))⟩,
   ⟨(some t23), oConv .u64 (.t t22), none, none⟩,
   ⟨(some t24), oMov (.t t7), none, none⟩,
   ⟨(some t25), oBin (int2 (cmpO geI)) (.t t23) (.t t24), none, none⟩])
 (xCond (.t t25)
 (xSeq (xOps [⟨(some t4), oMov (.v (.int .i64 0)), none, none⟩,
   ⟨(some t5), oMov (.v (.bool false)), none, none⟩])
 xRet)
 xSkip))
 (xSeq (xOps [⟨(some t27), oFieldAddr 0 (.t t6), none, none⟩,
   ⟨(some t28), oLoad1 (.t t27), none, (some (.t t27))⟩,
   ⟨(some t29), oConv .u64 (.t t28), none, none⟩,
   ⟨(some t30), oFieldAddr 1 (.t t6), none, none⟩,
   ⟨(some t31), oLoad1 (.t t30), none, (some (.t t30))⟩,
   ⟨(some t32), oMov (.t t7), none, none⟩,
   ⟨(some t33), oCall 66 [(.t t29), (.t t31), (.t t32)], none, none⟩,
   ⟨(some t26), oMov (.t t33), none, none⟩,
   ⟨(some t34), oExtract (.t t26) 0, none, none⟩,
   ⟨(some t35), oExtract (.t t26) 1, none, none⟩,
   ⟨(some t8), oMov (.t t34), none, none⟩,
   ⟨(some t9), oMov (.t t35), none, none⟩])
 (xSeq (xSeq (xOps [⟨(some t36), oFieldAddr 0 (.t t2), none, none⟩,
   ⟨(some t37), oLoad1 (.t t36), none, (some (.t t36))⟩,
   ⟨(some t38), oBin (int2 (cmpO geI)) (.t t37) (.v (.int .i64 0)), none, none⟩])
 (xCond (.t t38)
 (xSeq (xOps [⟨(some t39), oMov (.t t8), none, none⟩,
   ⟨(some t40), oBuild [(.int .i64 0), (.int .u64 0)] [(0, 1, (.v (.int .i64 0))), (1, 1, (.t t39))], none, none⟩,
   ⟨(some t41), oCall 67 [(.t t40)], none, none⟩,
   ⟨(some t42), oExtract (.t t41) 0, none, none⟩,
   ⟨(some t43), oExtract (.t t41) 1, none, none⟩,
   ⟨(some t4), oMov (.t t42), none, none⟩,
   ⟨(some t5), oMov (.t t43), none, none⟩])
 xRet)
 xSkip))
 (xSeq (xOps [⟨(some t44), oMov (.t t8), none, none⟩,
   ⟨(some t45), oBuild [(.int .i64 0), (.int .u64 0)] [(0, 1, (.v (.int .i64 0))), (1, 1, (.t t44))], none, none⟩,
   ⟨(some t46), oCall 65 [(.t t45)], none, none⟩,
   ⟨(some t10), oNew [(.int .i64 0), (.int .u64 0)], none, none⟩,
   ⟨none, oStore 2 (.t t10) (.t t46), none, none⟩])
 (xSeq (xSeq (xOps [⟨(some t47), oMov (.t t9), none, none⟩,
   ⟨(some t48), oBin (int2 (cmpO gtI)) (.t t47) (.v (.int .u64 0)), none, none⟩])
 (xCond (.t t48)
 (xReg [⟨(some t50), oLoadN 2 (.t t10), none, none⟩,
   ⟨(some t51), oCall 69 [(.v (.int .i64 (-1)))], none, none⟩,
   ⟨(some t52), oCall 68 [(.t t50), (.t t51)], none, none⟩,
   ⟨(some t49), oMov (.t t52), none, none⟩,
   ⟨(some t53), oExtract (.t t49) 0, none, none⟩,
   ⟨(some t54), oExtract (.t t49) 1, none, none⟩,
   ⟨none, oStore 2 (.t t10) (.t t53), none, none⟩] [(0, 1), (4, 5), (5, 6)])
 xSkip))
 (xSeq (xOps [⟨(some t55), oLoadN 2 (.t t10), none, none⟩,
   ⟨(some t56), oCall 67 [(.t t55)], none, none⟩,
   ⟨(some t57), oExtract (.t t56) 0, none, none⟩,
   ⟨(some t58), oExtract (.t t56) 1, none, none⟩,
   ⟨(some t4), oMov (.t t57), none, none⟩,
   ⟨(some t5), oMov (.t t58), none, none⟩])
 xRet)))))))))))⟩
theorem ok48 : cFunc Try.prog gl ex Try.f48 = some c48 := by kernel_rfl
def c56 : AFunc := ⟨12, [.tmp t4],
 (xSeq (xOps [⟨(some t2), oBox (.t t0), none, none⟩,
   ⟨(some t3), oBox (.t t1), none, none⟩,
   ⟨(some t4), oMov (.v (.int .i64 0)), none, none⟩])
 (xSeq (xOps [⟨(some t5), oLoad1 (.t t2), none, (some (.t t2))⟩,
   ⟨(some t6), oNilCheck (.t t5), none, none⟩,
   ⟨(some t7), oFieldAddr 0 (.t t6), none, none⟩,
   ⟨(some t8), oLoad1 (.t t7), none, (some (.t t7))⟩,
   ⟨(some t9), oLenL (.t t8), none, none⟩,
   ⟨(some t10), oFunc (.func 74) [] [(.t t2), (.t t3)], none, none⟩,
   ⟨(some t11), oCall 73 [(.t t9), (.t t10)], none, none⟩,
   ⟨(some t4), oMov (.t t11), none, none⟩])
 xRet))⟩
theorem ok56 : cFunc Try.prog gl ex Try.f56 = some c56 := by kernel_rfl
def c57 : AFunc := ⟨95, [.tmp t6],
 (xSeq (xOps [⟨(some t6), oMov (.v (.slice none 0 0)), none, none⟩])
 (xSeq (xOps [⟨(some t10), oMov (.t t0), none, none⟩,
   ⟨(some t11), oMov (.t t1), none, none⟩,
   ⟨(some t12), oSliceL 2 (.t t10) (some (.t t11)) none none, none, none⟩])
 (xSeq (xOps [⟨(some t13), oMov (.t t2), none, none⟩,
   ⟨(some t14), oLenL (.t t13), none, none⟩,
   ⟨(some t7), oMov (.t t14), none, none⟩])
 (xSeq (xSeq (xOps [⟨(some t15), oMov (.t t7), none, none⟩,
   ⟨(some t16), oBin (int2 (cmpO eqI)) (.t t15) (.v (.int .i64 0)), none, none⟩])
 (xCond (.t t16)
 (xSeq (xOps [⟨(some t17), oMov (.t t0), none, none⟩,
   ⟨(some t6), oMov (.t t17), none, none⟩])
 xRet)
 xSkip))
 (xSeq (xOps [⟨(some t18), oMov (.t t0), none, none⟩,
   ⟨(some t19), oLenL (.t t18), none, none⟩,
   ⟨(some t8), oMov (.t t19), none, none⟩])
 (xSeq (xSeq (xOps [⟨(some t20), oMov (.t t1), none, none⟩,
   ⟨(some t21), oMov (.t t8), none, none⟩,
   ⟨(some t22), oBin (int2 (cmpO eqI)) (.t t20) (.t t21), none, none⟩])
 (xCond (.t t22)
 (xSeq (xOps [⟨(some t23), oMov (.t t0), none, none⟩,
   ⟨(some t24), oMov (.t t2), none, none⟩,
   ⟨(some t25), oAppend 2 16 (.t t23) (.t t24), none, none⟩,
   ⟨(some t6), oMov (.t t25), none, none⟩])
 xRet)
 xSkip))
 (xSeq (xSeq (xOps [⟨(some t26), oMov (.t t8), none, none⟩,
   ⟨(some t27), oMov (.t t7), none, none⟩,
   ⟨(some t28), oBin (int2 addO) (.t t26) (.t t27), none, none⟩,
   ⟨(some t29), oMov (.t t0), none, none⟩,
   ⟨(some t30), oCap (.t t29), none, none⟩,
   ⟨(some t31), oBin (int2 (cmpO gtI)) (.t t28) (.t t30), none, none⟩])
 (xCond (.t t31)
 (xSeq (xOps [⟨(some t32), oMov (.t t0), none, none⟩,
   ⟨(some t33), oMov (.t t1), none, none⟩,
   ⟨(some t34), oSliceL 2 (.t t32) none (some (.t t33)) none, none, none⟩,
   ⟨(some t35), oMov (.t t8), none, none⟩,
   ⟨(some t36), oMov (.t t7), none, none⟩,
   ⟨(some t37), oBin (int2 addO) (.t t35) (.t t36), none, none⟩,
   ⟨(some t38), oMov (.t t1), none, none⟩,
   ⟨(some t39), oBin (int2 subO) (.t t37) (.t t38), none, none⟩,
   ⟨(some t40), oBad, none, none⟩,
   ⟨(some t9), oMov (.t t40), none, none⟩])
 (xSeq (xOps [⟨(some t41), oMov (.t t9), none, none⟩,
   ⟨(some t42), oMov (.t t1), none, none⟩,
   ⟨(some t43), oSliceL 2 (.t t41) (some (.t t42)) none none, none, none⟩,
   ⟨(some t44), oMov (.t t2), none, none⟩,
   ⟨(some t45), oCopy 2 (.t t43) (.t t44), none, none⟩])
 (xSeq (xReg [⟨(some t46), oMov (.t t9), none, none⟩,
   ⟨(some t47), oMov (.t t1), none, none⟩,
   ⟨(some t48), oMov (.t t7), none, none⟩,
   ⟨(some t49), oBin (int2 addO) (.t t47) (.t t48), none, none⟩,
   ⟨(some t50), oSliceL 2 (.t t46) (some (.t t49)) none none, none, none⟩,
   ⟨(some t51), oMov (.t t0), none, none⟩,
   ⟨(some t52), oMov (.t t1), none, none⟩,
   ⟨(some t53), oSliceL 2 (.t t51) (some (.t t52)) none none, none, none⟩,
   ⟨(some t54), oCopy 2 (.t t50) (.t t53), none, none⟩] [(0, 1), (0, 2), (1, 2), (0, 3), (0, 5), (1, 5), (2, 5), (3, 5), (4, 5), (0, 6), (1, 6), (2, 6), (3, 6), (4, 6), (5, 6), (0, 7), (1, 7), (2, 7), (3, 7), (4, 7)])
 (xSeq (xOps [⟨(some t55), oMov (.t t9), none, none⟩,
   ⟨(some t6), oMov (.t t55), none, none⟩])
 xRet))))
 xSkip))
 (xSeq (xOps [⟨(some t56), oMov (.t t0), none, none⟩,
   ⟨(some t57), oMov (.t t8), none, none⟩,
   ⟨(some t58), oMov (.t t7), none, none⟩,
   ⟨(some t59), oBin (int2 addO) (.t t57) (.t t58), none, none⟩,
   ⟨(some t60), oSliceL 2 (.t t56) none (some (.t t59)) none, none, none⟩,
   ⟨(some t0), oMov (.t t60), none, none⟩])
 (xSeq (xSeq (xOps [⟨(some t61), oMov (.t t2), none, none⟩,
   ⟨(some t62), oMov (.t t0), none, none⟩,
   ⟨(some t63), oMov (.t t1), none, none⟩,
   ⟨(some t64), oMov (.t t7), none, none⟩,
   ⟨(some t65), oBin (int2 addO) (.t t63) (.t t64), none, none⟩,
   ⟨(some t66), oSliceL 2 (.t t62) (some (.t t65)) none none, none, none⟩,
   ⟨(some t67), oCall 75 [(.t t61), (.t t66)], none, none⟩,
   ⟨(some t68), oNot (.t t67), none, none⟩])
 (xCond (.t t68)
 (xSeq (xReg [⟨(some t69), oMov (.t t0), none, none⟩,
   ⟨(some t70), oMov (.t t1), none, none⟩,
   ⟨(some t71), oMov (.t t7), none, none⟩,
   ⟨(some t72), oBin (int2 addO) (.t t70) (.t t71), none, none⟩,
   ⟨(some t73), oSliceL 2 (.t t69) (some (.t t72)) none none, none, none⟩,
   ⟨(some t74), oMov (.t t0), none, none⟩,
   ⟨(some t75), oMov (.t t1), none, none⟩,
   ⟨(some t76), oSliceL 2 (.t t74) (some (.t t75)) none none, none, none⟩,
   ⟨(some t77), oCopy 2 (.t t73) (.t t76), none, none⟩] [(0, 1), (0, 2), (1, 2), (0, 3), (0, 5), (1, 5), (2, 5), (3, 5), (4, 5), (0, 6), (1, 6), (2, 6), (3, 6), (4, 6), (5, 6), (0, 7), (1, 7), (2, 7), (3, 7), (4, 7)])
 (xSeq (xOps [⟨(some t78), oMov (.t t0), none, none⟩,
   ⟨(some t79), oMov (.t t1), none, none⟩,
   ⟨(some t80), oSliceL 2 (.t t78) (some (.t t79)) none none, none, none⟩,
   ⟨(some t81), oMov (.t t2), none, none⟩,
   ⟨(some t82), oCopy 2 (.t t80) (.t t81), none, none⟩])
 (xSeq (xOps [⟨(some t83), oMov (.t t0), none, none⟩,
   ⟨(some t6), oMov (.t t83), none, none⟩])
 xRet)))
 xSkip))
 (xSeq (xOps [⟨(some t84), oMov (.t t0), none, none⟩,
   ⟨(some t85), oMov (.t t8), none, none⟩,
   ⟨(some t86), oSliceL 2 (.t t84) (some (.t t85)) none none, none, none⟩,
   ⟨(some t87), oMov (.t t2), none, none⟩,
   ⟨(some t88), oCopy 2 (.t t86) (.t t87), none, none⟩])
 (xSeq (xOps [⟨(some t89), oMov (.t t0), none, none⟩,
   ⟨(some t90), oMov (.t t1), none, none⟩,
   ⟨(some t91), oSliceL 2 (.t t89) (some (.t t90)) none none, none, none⟩,
   ⟨(some t92), oMov (.t t7), none, none⟩,
   ⟨(some t93), oCall 76 [(.t t91), (.t t92)], none, none⟩])
 (xSeq (xOps [⟨(some t94), oMov (.t t0), none, none⟩,
   ⟨(some t6), oMov (.t t94), none, none⟩])
 xRet))))))))))))⟩
theorem ok57 : cFunc Try.prog gl ex Try.f57 = some c57 := by kernel_rfl
def c63_l0 : X := (xSeq (xOps [⟨(some t24), oBin (int2 (cmpO ltI)) (.t t23) (.t t22), none, none⟩])
 (xSeq (xCond (.t t24)
 xSkip
 (xExit 0))
 (xSeq (xBlock 1 (xSeq (xOps [⟨(some t25), oMov (.t t23), none, none⟩,
   ⟨(some t26), oIdxAddrL 2 (.t t21) (.t t23), none, none⟩,
   ⟨(some t27), oLoadN 2 (.t t26), none, none⟩,
   ⟨(some t9), oNew [(.int .i64 0), (.int .i64 0)], none, none⟩,
   ⟨(some t8), oMov (.t t25), none, none⟩,
   ⟨none, oStore 2 (.t t9) (.t t27), none, none⟩])
 (xSeq (xOps [⟨(some t10), oMov (.v (.int .i64 109573)), none, none⟩])
 (xSeq (xSeq (xOps [⟨(some t28), oMov (.t t8), none, none⟩,
   ⟨(some t29), oMov (.t t0), none, none⟩,
   ⟨(some t30), oNilCheck (.t t29), none, none⟩,
   ⟨(some t31), oFieldAddr 0 (.t t30), none, none⟩,
   ⟨(some t32), oLoad1 (.t t31), none, (some (.t t31))⟩,
   ⟨(some t33), oLenL (.t t32), none, none⟩,
   ⟨(some t34), oBin (int2 subO) (.t t33) (.v (.int .i64 1)), none, none⟩,
   ⟨(some t35), oBin (int2 (cmpO ltI)) (.t t28) (.t t34), none, none⟩])
 (xCond (.t t35)
 (xOps [⟨(some t36), oMov (.t t0), none, none⟩,
   ⟨(some t37), oNilCheck (.t t36), none, none⟩,
   ⟨(some t38), oFieldAddr 0 (.t t37), none, none⟩,
   ⟨(some t39), oLoad1 (.t t38), none, (some (.t t38))⟩,
   ⟨(some t40), oMov (.t t8), none, none⟩,
   ⟨(some t41), oBin (int2 addO) (.t t40) (.v (.int .i64 1)), none, none⟩,
   ⟨(some t42), oIdxAddrL 2 (.t t39) (.t t41), none, none⟩,
   ⟨(some t43), oFieldAddr 0 (.t t42), none, none⟩,
   ⟨(some t44), oLoad1 (.t t43), none, (some (.t t43))⟩,
   ⟨(some t10), oMov (.t t44), none, none⟩])
 xSkip))
 (xSeq (xOps [⟨(some t45), oMov (.t t10), none, none⟩,
   ⟨(some t46), oMov (.t t2), none, none⟩,
   ⟨(some t47), oMM false (.t t45) [(.t t46)], none, none⟩,
   ⟨(some t48), oFieldAddr 0 (.t t9), none, none⟩,
   ⟨(some t49), oLoad1 (.t t48), none, (some (.t t48))⟩,
   ⟨(some t50), oMov (.t t1), none, none⟩,
   ⟨(some t51), oMM true (.t t49) [(.t t50)], none, none⟩,
   ⟨(some t52), oBin (int2 subO) (.t t47) (.t t51), none, none⟩,
   ⟨(some t11), oMov (.t t52), none, none⟩])
 (xSeq (xOps [⟨(some t53), oMov (.t t11), none, none⟩,
   ⟨(some t54), oBin (int2 (cmpO gtI)) (.t t53) (.v (.int .i64 0)), none, none⟩])
 (xCond (.t t54)
 (xOps [⟨(some t55), oMov (.t t7), none, none⟩,
   ⟨(some t56), oMov (.t t11), none, none⟩,
   ⟨(some t57), oFieldAddr 1 (.t t9), none, none⟩,
   ⟨(some t58), oLoad1 (.t t57), none, (some (.t t57))⟩,
   ⟨(some t59), oBin (int2 mulO) (.t t56) (.t t58), none, none⟩,
   ⟨(some t60), oBin (int2 addO) (.t t55) (.t t59), none, none⟩,
   ⟨(some t7), oMov (.t t60), none, none⟩])
 xSkip)))))))
 (xOps [⟨(some t61), oBin (int2 addO) (.t t23) (.v (.int .i64 1)), none, none⟩,
   ⟨(some t23), oMov (.t t61), none, none⟩]))))
def c63_r0 : X := (xSeq (xOps [⟨(some t62), oMov (.t t7), none, none⟩,
   ⟨(some t6), oMov (.t t62), none, none⟩])
 xRet)
def c63 : AFunc := ⟨63, [.tmp t6],
 (xSeq (xOps [⟨(some t6), oMov (.v (.int .i64 0)), none, none⟩])
 (xSeq (xOps [⟨(some t12), oMov (.t t1), none, none⟩,
   ⟨(some t13), oMM true (.t t12) [(.v (.int .i64 0))], none, none⟩,
   ⟨(some t14), oMM false (.t t13) [(.v (.int .i64 109573))], none, none⟩,
   ⟨(some t15), oMov (.t t2), none, none⟩,
   ⟨(some t16), oMM true (.t t15) [(.v (.int .i64 0))], none, none⟩,
   ⟨(some t17), oMM false (.t t16) [(.v (.int .i64 109573))], none, none⟩,
   ⟨(some t1), oMov (.t t14), none, none⟩,
   ⟨(some t2), oMov (.t t17), none, none⟩])
 (xSeq (xOps [⟨(some t7), oMov (.v (.int .i64 0)), none, none⟩])
 (xSeq (xSeq (xOps [⟨(some t18), oMov (.t t0), none, none⟩,
   ⟨(some t19), oNilCheck (.t t18), none, none⟩,
   ⟨(some t20), oFieldAddr 0 (.t t19), none, none⟩,
   ⟨(some t21), oLoad1 (.t t20), none, (some (.t t20))⟩,
   ⟨(some t22), oLenL (.t t21), none, none⟩,
   ⟨(some t23), oMov (.v (.int .i64 0)), none, none⟩])
 (xBlock 0 (xLoop c63_l0)))
 c63_r0))))⟩
theorem ok63 : cFunc Try.prog gl ex Try.f63 = some c63 := by kernel_rfl
def c73_l0 : X := (xSeq (xSeq (xOps [⟨(some t9), oMov (.t t5), none, none⟩,
   ⟨(some t10), oMov (.t t6), none, none⟩,
   ⟨(some t11), oBin (int2 (cmpO ltI)) (.t t9) (.t t10), none, none⟩])
 (xCond (.t t11)
 xSkip
 (xExit 0)))
 (xBlock 1 (xSeq (xOps [⟨(some t12), oMov (.t t5), none, none⟩,
   ⟨(some t13), oMov (.t t6), none, none⟩,
   ⟨(some t14), oBin (int2 addO) (.t t12) (.t t13), none, none⟩,
   ⟨(some t15), oConv .u64 (.t t14), none, none⟩,
   ⟨(some t16), oBin (sh2 shrO) (.t t15) (.v (.int .u64 1)), none, none⟩,
   ⟨(some t17), oConv .i64 (.t t16), none, none⟩,
   ⟨(some t7), oMov (.t t17), none, none⟩])
 (xSeq (xOps [⟨(some t18), oMov (.t t1), none, none⟩,
   ⟨(some t19), oMov (.t t7), none, none⟩,
   ⟨(some t20), oCallV (.t t18) [(.t t19)], none, none⟩,
   ⟨(some t21), oNot (.t t20), none, none⟩])
 (xCond (.t t21)
 (xOps [⟨(some t22), oMov (.t t7), none, none⟩,
   ⟨(some t23), oBin (int2 addO) (.t t22) (.v (.int .i64 1)), none, none⟩,
   ⟨(some t5), oMov (.t t23), none, none⟩])
 (xOps [⟨(some t24), oMov (.t t7), none, none⟩,
   ⟨(some t6), oMov (.t t24), none, none⟩]))))))
def c73_r0 : X := (xSeq (xOps [⟨(some t25), oMov (.t t5), none, none⟩,
   ⟨(some t4), oMov (.t t25), none, none⟩])
 xRet)
def c73 : AFunc := ⟨26, [.tmp t4],
 (xSeq (xOps [⟨(some t4), oMov (.v (.int .i64 0)), none, none⟩])
 (xSeq (xOps [⟨(some t8), oMov (.t t0), none, none⟩,
   ⟨(some t5), oMov (.v (.int .i64 0)), none, none⟩,
   ⟨(some t6), oMov (.t t8), none, none⟩])
 (xSeq (xBlock 0 (xLoop c73_l0))
 c73_r0)))⟩
theorem ok73 : cFunc Try.prog gl ex Try.f73 = some c73 := by kernel_rfl
def c74 : AFunc := ⟨15, [.tmp t4],
 (xSeq (xOps [⟨(some t4), oMov (.v (.bool false)), none, none⟩])
 (xSeq (xReg [⟨(some t5), oLoad1 (.t t1), none, (some (.t t1))⟩,
   ⟨(some t6), oNilCheck (.t t5), none, none⟩,
   ⟨(some t7), oFieldAddr 0 (.t t6), none, none⟩,
   ⟨(some t8), oLoad1 (.t t7), none, (some (.t t7))⟩,
   ⟨(some t9), oMov (.t t0), none, none⟩,
   ⟨(some t10), oIdxAddrL 2 (.t t8) (.t t9), none, none⟩,
   ⟨(some t11), oFieldAddr 0 (.t t10), none, none⟩,
   ⟨(some t12), oLoad1 (.t t11), none, (some (.t t11))⟩,
   ⟨(some t13), oLoad1 (.t t2), none, (some (.t t2))⟩,
   ⟨(some t14), oBin (int2 (cmpO gtI)) (.t t12) (.t t13), none, none⟩,
   ⟨(some t4), oMov (.t t14), none, none⟩] [(0, 4), (1, 4), (2, 4), (3, 4), (0, 8), (1, 8), (2, 8), (3, 8), (4, 8), (5, 8), (6, 8), (7, 8)])
 xRet))⟩
theorem ok74 : cFunc Try.prog gl ex Try.f74 = some c74 := by kernel_rfl
end
end Go.Proofs.Ytdnedangfnincaa.AbsAccO
