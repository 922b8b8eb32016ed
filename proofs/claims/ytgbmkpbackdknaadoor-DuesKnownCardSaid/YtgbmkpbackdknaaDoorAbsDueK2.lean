import Derived.Test.YtgbmkpbackdknaaDoorRows
import Derived.Test.YtgbmkpbackdknaaDoorAbsDueKT
import Derived.KernelRfl
namespace Go.Proofs.YtgbmkpbackdknaaDoor.AbsDueK
open Go Go.Abs Go.Proofs
set_option maxRecDepth 100000
set_option linter.unusedVariables false
noncomputable section
/-- cmp.isNaN[int] -/
def c61 : AFunc := ⟨6, [.tmp t2],
 (xSeq (xOps [⟨(some t2), oMov (.v (.bool false)), none, none⟩])
 (xSeq (xOps [⟨(some t3), oMov (.t t0), none, none⟩,
   ⟨(some t4), oMov (.t t0), none, none⟩,
   ⟨(some t5), oBin (int2 (cmpO neI)) (.t t3) (.t t4), none, none⟩,
   ⟨(some t2), oMov (.t t5), none, none⟩])
 xRet))⟩
theorem ok61 : cFunc Tryd.prog gl ex Tryd.f61 = some c61 := by kernel_rfl
/-- (*publican/accrue.Acc).Run -/
def c62 : AFunc := ⟨25, [.tmp t6],
 (xSeq (xOps [⟨(some t6), oMov (.v (.int .i64 0)), none, none⟩])
 (xSeq (xSeq (xOps [⟨(some t8), oMov (.t t0), none, none⟩,
   ⟨(some t9), oMov (.t t2), none, none⟩,
   ⟨(some t10), oCall 53 [(.t t8), (.t t9)], none, none⟩,
   ⟨(some t7), oMov (.t t10), none, none⟩])
 (xSeq (xOps [⟨(some t11), oMov (.t t7), none, none⟩,
   ⟨(some t12), oBin (int2 (cmpO neI)) (.t t11) (.v (.int .i64 0)), none, none⟩])
 (xCond (.t t12)
 (xSeq (xOps [⟨(some t13), oMov (.t t7), none, none⟩,
   ⟨(some t6), oMov (.t t13), none, none⟩])
 xRet)
 xSkip)))
 (xSeq (xOps [⟨(some t14), oMov (.t t0), none, none⟩,
   ⟨(some t15), oMov (.t t0), none, none⟩,
   ⟨(some t16), oMov (.t t1), none, none⟩,
   ⟨(some t17), oMov (.t t2), none, none⟩,
   ⟨(some t18), oCall 54 [(.t t15), (.t t16), (.t t17)], none, none⟩,
   ⟨(some t19), oNilCheck (.t t14), none, none⟩,
   ⟨(some t20), oFieldAddr 3 (.t t19), none, none⟩,
   ⟨none, oStore 2 (.t t20) (.t t18), none, none⟩])
 (xSeq (xOps [⟨(some t21), oMov (.t t0), none, none⟩,
   ⟨(some t22), oMov (.t t2), none, none⟩,
   ⟨(some t23), oNilCheck (.t t21), none, none⟩,
   ⟨(some t24), oFieldAddr 0 (.t t23), none, none⟩,
   ⟨none, oStore 1 (.t t24) (.t t22), none, none⟩])
 (xSeq (xOps [⟨(some t6), oMov (.v (.int .i64 0)), none, none⟩])
 xRet)))))⟩
theorem ok62 : cFunc Tryd.prog gl ex Tryd.f62 = some c62 := by kernel_rfl
/-- (publican/num.Wide).PlusMul -/
def c63 : AFunc := ⟨15, [.cell t6 (some 2), .tmp t7],
 (xSeq (xOps [⟨(some t3), oBox (.t t0), none, none⟩,
   ⟨(some t6), oNew [(.int .i64 0), (.int .u64 0)], none, none⟩,
   ⟨(some t7), oMov (.v (.bool false)), none, none⟩])
 (xSeq (xReg [⟨(some t8), oLoadN 2 (.t t3), none, none⟩,
   ⟨(some t9), oMov (.t t1), none, none⟩,
   ⟨(some t10), oMov (.t t2), none, none⟩,
   ⟨(some t11), oCall 75 [(.t t9), (.t t10)], none, none⟩,
   ⟨(some t12), oCall 69 [(.t t8), (.t t11)], none, none⟩,
   ⟨(some t13), oExtract (.t t12) 0, none, none⟩,
   ⟨(some t14), oExtract (.t t12) 1, none, none⟩,
   ⟨none, oStore 2 (.t t6) (.t t13), none, none⟩,
   ⟨(some t7), oMov (.t t14), none, none⟩] [(0, 1), (0, 2), (1, 2), (0, 3), (5, 6)])
 xRet))⟩
theorem ok63 : cFunc Tryd.prog gl ex Tryd.f63 = some c63 := by kernel_rfl
/-- (*publican/rate.Table).Sum -/
def c64 : AFunc := ⟨63, [.tmp t6],
 (xSeq (xOps [⟨(some t6), oMov (.v (.int .i64 0)), none, none⟩])
 (xSeq (xOps [⟨(some t12), oMov (.t t1), none, none⟩,
   ⟨(some t13), oMM true (.t t12) [(.v (.int .i64 0))], none, none⟩,
   ⟨(some t14), oMM false (.t t13) [(.v (.int .i64 109573))], none, none⟩,
   ⟨(some t15), oMov (.t t2), none, none⟩,
   ⟨(some t16), oMM true (.t t15) [(.v (.int .i64 0))], none, none⟩,
   ⟨(some t17), oMM false (.t t16) [(.v (.int .i64 109573))], none, none⟩,
   ⟨(some t1), oMov (.t t14), none, none⟩,
   ⟨(some t2), oMov (.t t17), none, none⟩])
 (xSeq (xOps [⟨(some t7), oMov (.v (.int .i64 0)), none, none⟩])
 (xSeq (xSeq (xOps [⟨(some t18), oMov (.t t0), none, none⟩,
   ⟨(some t19), oNilCheck (.t t18), none, none⟩,
   ⟨(some t20), oFieldAddr 0 (.t t19), none, none⟩,
   ⟨(some t21), oLoad1 (.t t20), none, (some (.t t20))⟩,
   ⟨(some t22), oLenL (.t t21), none, none⟩,
   ⟨(some t23), oMov (.v (.int .i64 0)), none, none⟩])
 (xBlock 0 (xLoop (xSeq (xOps [⟨(some t24), oBin (int2 (cmpO ltI)) (.t t23) (.t t22), none, none⟩])
 (xSeq (xCond (.t t24)
 xSkip
 (xExit 0))
 (xSeq (xBlock 1 (xSeq (xOps [⟨(some t25), oMov (.t t23), none, none⟩,
   ⟨(some t26), oIdxAddrL 2 (.t t21) (.t t23), none, none⟩,
   ⟨(some t27), oLoadN 2 (.t t26), none, none⟩,
   ⟨(some t9), oNew [(.int .i64 0), (.int .i64 0)], none, none⟩,
   ⟨(some t8), oMov (.t t25), none, none⟩,
   ⟨none, oStore 2 (.t t9) (.t t27), none, none⟩])
 (xSeq (xOps [⟨(some t10), oMov (.v (.int .i64 109573)), none, none⟩])
 (xSeq (xSeq (xOps [⟨(some t28), oMov (.t t8), none, none⟩,
   ⟨(some t29), oMov (.t t0), none, none⟩,
   ⟨(some t30), oNilCheck (.t t29), none, none⟩,
   ⟨(some t31), oFieldAddr 0 (.t t30), none, none⟩,
   ⟨(some t32), oLoad1 (.t t31), none, (some (.t t31))⟩,
   ⟨(some t33), oLenL (.t t32), none, none⟩,
   ⟨(some t34), oBin (int2 subO) (.t t33) (.v (.int .i64 1)), none, none⟩,
   ⟨(some t35), oBin (int2 (cmpO ltI)) (.t t28) (.t t34), none, none⟩])
 (xCond (.t t35)
 (xOps [⟨(some t36), oMov (.t t0), none, none⟩,
   ⟨(some t37), oNilCheck (.t t36), none, none⟩,
   ⟨(some t38), oFieldAddr 0 (.t t37), none, none⟩,
   ⟨(some t39), oLoad1 (.t t38), none, (some (.t t38))⟩,
   ⟨(some t40), oMov (.t t8), none, none⟩,
   ⟨(some t41), oBin (int2 addO) (.t t40) (.v (.int .i64 1)), none, none⟩,
   ⟨(some t42), oIdxAddrL 2 (.t t39) (.t t41), none, none⟩,
   ⟨(some t43), oFieldAddr 0 (.t t42), none, none⟩,
   ⟨(some t44), oLoad1 (.t t43), none, (some (.t t43))⟩,
   ⟨(some t10), oMov (.t t44), none, none⟩])
 xSkip))
 (xSeq (xOps [⟨(some t45), oMov (.t t10), none, none⟩,
   ⟨(some t46), oMov (.t t2), none, none⟩,
   ⟨(some t47), oMM false (.t t45) [(.t t46)], none, none⟩,
   ⟨(some t48), oFieldAddr 0 (.t t9), none, none⟩,
   ⟨(some t49), oLoad1 (.t t48), none, (some (.t t48))⟩,
   ⟨(some t50), oMov (.t t1), none, none⟩,
   ⟨(some t51), oMM true (.t t49) [(.t t50)], none, none⟩,
   ⟨(some t52), oBin (int2 subO) (.t t47) (.t t51), none, none⟩,
   ⟨(some t11), oMov (.t t52), none, none⟩])
 (xSeq (xOps [⟨(some t53), oMov (.t t11), none, none⟩,
   ⟨(some t54), oBin (int2 (cmpO gtI)) (.t t53) (.v (.int .i64 0)), none, none⟩])
 (xCond (.t t54)
 (xOps [⟨(some t55), oMov (.t t7), none, none⟩,
   ⟨(some t56), oMov (.t t11), none, none⟩,
   ⟨(some t57), oFieldAddr 1 (.t t9), none, none⟩,
   ⟨(some t58), oLoad1 (.t t57), none, (some (.t t57))⟩,
   ⟨(some t59), oBin (int2 mulO) (.t t56) (.t t58), none, none⟩,
   ⟨(some t60), oBin (int2 addO) (.t t55) (.t t59), none, none⟩,
   ⟨(some t7), oMov (.t t60), none, none⟩])
 xSkip)))))))
 (xOps [⟨(some t61), oBin (int2 addO) (.t t23) (.v (.int .i64 1)), none, none⟩,
   ⟨(some t23), oMov (.t t61), none, none⟩])))))))
 (xSeq (xOps [⟨(some t62), oMov (.t t7), none, none⟩,
   ⟨(some t6), oMov (.t t62), none, none⟩])
 xRet)))))⟩
theorem ok64 : cFunc Tryd.prog gl ex Tryd.f64 = some c64 := by kernel_rfl
/-- (publican/num.Wide).turned -/
def c66 : AFunc := ⟨25, [.cell t2 (some 2)],
 (xSeq (xOps [⟨(some t1), oBox (.t t0), none, none⟩,
   ⟨(some t2), oNew [(.int .i64 0), (.int .u64 0)], none, none⟩])
 (xSeq (xOps [⟨(some t8), oFieldAddr 1 (.t t1), none, none⟩,
   ⟨(some t9), oLoad1 (.t t8), none, (some (.t t8))⟩,
   ⟨(some t10), oExt sub64X [(.v (.int .u64 0)), (.t t9), (.v (.int .u64 0))], none, none⟩,
   ⟨(some t7), oMov (.t t10), none, none⟩,
   ⟨(some t11), oExtract (.t t7) 0, none, none⟩,
   ⟨(some t12), oExtract (.t t7) 1, none, none⟩,
   ⟨(some t3), oMov (.t t11), none, none⟩,
   ⟨(some t4), oMov (.t t12), none, none⟩])
 (xSeq (xOps [⟨(some t14), oFieldAddr 0 (.t t1), none, none⟩,
   ⟨(some t15), oLoad1 (.t t14), none, (some (.t t14))⟩,
   ⟨(some t16), oConv .u64 (.t t15), none, none⟩,
   ⟨(some t17), oMov (.t t4), none, none⟩,
   ⟨(some t18), oExt sub64X [(.v (.int .u64 0)), (.t t16), (.t t17)], none, none⟩,
   ⟨(some t13), oMov (.t t18), none, none⟩,
   ⟨(some t19), oExtract (.t t13) 0, none, none⟩,
   ⟨(some t20), oExtract (.t t13) 1, none, none⟩,
   ⟨(some t5), oMov (.t t19), none, none⟩,
   ⟨(some t6), oMov (.t t20), none, none⟩])
 (xSeq (xOps [⟨(some t21), oMov (.t t5), none, none⟩,
   ⟨(some t22), oConv .i64 (.t t21), none, none⟩,
   ⟨(some t23), oMov (.t t3), none, none⟩,
   ⟨(some t24), oBuild [(.int .i64 0), (.int .u64 0)] [(0, 1, (.t t22)), (1, 1, (.t t23))], none, none⟩,
   ⟨none, oStore 2 (.t t2) (.t t24), none, none⟩])
 xRet))))⟩
theorem ok66 : cFunc Tryd.prog gl ex Tryd.f66 = some c66 := by kernel_rfl
/-- math/bits.Div64 -/
def c67 : AFunc := ⟨135, [.tmp t6, .tmp t7],
 (xSeq (xOps [⟨(some t6), oMov (.v (.int .u64 0)), none, none⟩,
   ⟨(some t7), oMov (.v (.int .u64 0)), none, none⟩])
 (xSeq (xSeq (xOps [⟨(some t19), oMov (.t t2), none, none⟩,
   ⟨(some t20), oBin (int2 (cmpO eqI)) (.t t19) (.v (.int .u64 0)), none, none⟩])
 (xCond (.t t20)
 (xOps [⟨(some t21), oBad, none, none⟩,
   ⟨none, oBad, none, none⟩])
 xSkip))
 (xSeq (xSeq (xOps [⟨(some t22), oMov (.t t2), none, none⟩,
   ⟨(some t23), oMov (.t t0), none, none⟩,
   ⟨(some t24), oBin (int2 (cmpO leI)) (.t t22) (.t t23), none, none⟩])
 (xCond (.t t24)
 (xOps [⟨(some t25), oBad, none, none⟩,
   ⟨none, oBad, none, none⟩])
 xSkip))
 (xSeq (xSeq (xOps [⟨(some t26), oMov (.t t0), none, none⟩,
   ⟨(some t27), oBin (int2 (cmpO eqI)) (.t t26) (.v (.int .u64 0)), none, none⟩])
 (xCond (.t t27)
 (xSeq (xReg [⟨(some t28), oMov (.t t1), none, none⟩,
   ⟨(some t29), oMov (.t t2), none, none⟩,
   ⟨(some t30), oBin (int2 quoO) (.t t28) (.t t29), none, none⟩,
   ⟨(some t31), oMov (.t t1), none, none⟩,
   ⟨(some t32), oMov (.t t2), none, none⟩,
   ⟨(some t33), oBin (int2 remO) (.t t31) (.t t32), none, none⟩,
   ⟨(some t6), oMov (.t t30), none, none⟩,
   ⟨(some t7), oMov (.t t33), none, none⟩] [(0, 1), (0, 3), (1, 3), (2, 3), (0, 4), (1, 4), (2, 4), (3, 4), (0, 5), (1, 5), (2, 5), (3, 6), (4, 6), (5, 6)])
 xRet)
 xSkip))
 (xSeq (xOps [⟨(some t34), oMov (.t t2), none, none⟩,
   ⟨(some t35), oCall 77 [(.t t34)], none, none⟩,
   ⟨(some t36), oConv .u64 (.t t35), none, none⟩,
   ⟨(some t8), oMov (.t t36), none, none⟩])
 (xSeq (xOps [⟨(some t37), oMov (.t t2), none, none⟩,
   ⟨(some t38), oMov (.t t8), none, none⟩,
   ⟨(some t39), oBin (sh2 shlO) (.t t37) (.t t38), none, none⟩,
   ⟨(some t2), oMov (.t t39), none, none⟩])
 (xSeq (xOps [⟨(some t40), oMov (.t t2), none, none⟩,
   ⟨(some t41), oBin (sh2 shrO) (.t t40) (.v (.int .u64 32)), none, none⟩,
   ⟨(some t9), oMov (.t t41), none, none⟩])
 (xSeq (xOps [⟨(some t42), oMov (.t t2), none, none⟩,
   ⟨(some t43), oBin (int2 andO) (.t t42) (.v (.int .u64 4294967295)), none, none⟩,
   ⟨(some t10), oMov (.t t43), none, none⟩])
 (xSeq (xOps [⟨(some t44), oMov (.t t0), none, none⟩,
   ⟨(some t45), oMov (.t t8), none, none⟩,
   ⟨(some t46), oBin (sh2 shlO) (.t t44) (.t t45), none, none⟩,
   ⟨(some t47), oMov (.t t1), none, none⟩,
   ⟨(some t48), oMov (.t t8), none, none⟩,
   ⟨(some t49), oBin (int2 subO) (.v (.int .u64 64)) (.t t48), none, none⟩,
   ⟨(some t50), oBin (sh2 shrO) (.t t47) (.t t49), none, none⟩,
   ⟨(some t51), oBin (int2 orO) (.t t46) (.t t50), none, none⟩,
   ⟨(some t11), oMov (.t t51), none, none⟩])
 (xSeq (xOps [⟨(some t52), oMov (.t t1), none, none⟩,
   ⟨(some t53), oMov (.t t8), none, none⟩,
   ⟨(some t54), oBin (sh2 shlO) (.t t52) (.t t53), none, none⟩,
   ⟨(some t12), oMov (.t t54), none, none⟩])
 (xSeq (xOps [⟨(some t55), oMov (.t t12), none, none⟩,
   ⟨(some t56), oBin (sh2 shrO) (.t t55) (.v (.int .u64 32)), none, none⟩,
   ⟨(some t13), oMov (.t t56), none, none⟩])
 (xSeq (xOps [⟨(some t57), oMov (.t t12), none, none⟩,
   ⟨(some t58), oBin (int2 andO) (.t t57) (.v (.int .u64 4294967295)), none, none⟩,
   ⟨(some t14), oMov (.t t58), none, none⟩])
 (xSeq (xOps [⟨(some t59), oMov (.t t11), none, none⟩,
   ⟨(some t60), oMov (.t t9), none, none⟩,
   ⟨(some t61), oBin (int2 quoO) (.t t59) (.t t60), none, none⟩,
   ⟨(some t15), oMov (.t t61), none, none⟩])
 (xSeq (xOps [⟨(some t62), oMov (.t t11), none, none⟩,
   ⟨(some t63), oMov (.t t15), none, none⟩,
   ⟨(some t64), oMov (.t t9), none, none⟩,
   ⟨(some t65), oBin (int2 mulO) (.t t63) (.t t64), none, none⟩,
   ⟨(some t66), oBin (int2 subO) (.t t62) (.t t65), none, none⟩,
   ⟨(some t16), oMov (.t t66), none, none⟩])
 (xSeq (xBlock 0 (xLoop (xSeq (xSeq (xOps [⟨(some t67), oMov (.t t15), none, none⟩,
   ⟨(some t68), oBin (int2 (cmpO geI)) (.t t67) (.v (.int .u64 4294967296)), none, none⟩,
   ⟨(some t69), oMov (.t t68), none, none⟩,
   ⟨(some t70), oMov (.t t15), (some (t69, false)), none⟩,
   ⟨(some t71), oMov (.t t10), (some (t69, false)), none⟩,
   ⟨(some t72), oBin (int2 mulO) (.t t70) (.t t71), (some (t69, false)), none⟩,
   ⟨(some t73), oMov (.t t16), (some (t69, false)), none⟩,
   ⟨(some t74), oBin (int2 mulO) (.v (.int .u64 4294967296)) (.t t73), (some (t69, false)), none⟩,
   ⟨(some t75), oMov (.t t13), (some (t69, false)), none⟩,
   ⟨(some t76), oBin (int2 addO) (.t t74) (.t t75), (some (t69, false)), none⟩,
   ⟨(some t77), oBin (int2 (cmpO gtI)) (.t t72) (.t t76), (some (t69, false)), none⟩,
   ⟨(some t78), oPick (.t t69) (.v (.bool true)) (.t t77), none, none⟩])
 (xCond (.t t78)
 xSkip
 (xExit 0)))
 (xBlock 1 (xSeq (xOps [⟨(some t79), oMov (.t t15), none, none⟩,
   ⟨(some t80), oBin (int2 subO) (.t t79) (.v (.int .u64 1)), none, none⟩,
   ⟨(some t15), oMov (.t t80), none, none⟩])
 (xSeq (xOps [⟨(some t81), oMov (.t t16), none, none⟩,
   ⟨(some t82), oMov (.t t9), none, none⟩,
   ⟨(some t83), oBin (int2 addO) (.t t81) (.t t82), none, none⟩,
   ⟨(some t16), oMov (.t t83), none, none⟩])
 (xSeq (xOps [⟨(some t84), oMov (.t t16), none, none⟩,
   ⟨(some t85), oBin (int2 (cmpO geI)) (.t t84) (.v (.int .u64 4294967296)), none, none⟩])
 (xCond (.t t85)
 (xExit 0)
 xSkip))))))))
 (xSeq (xOps [⟨(some t86), oMov (.t t11), none, none⟩,
   ⟨(some t87), oBin (int2 mulO) (.t t86) (.v (.int .u64 4294967296)), none, none⟩,
   ⟨(some t88), oMov (.t t13), none, none⟩,
   ⟨(some t89), oBin (int2 addO) (.t t87) (.t t88), none, none⟩,
   ⟨(some t90), oMov (.t t15), none, none⟩,
   ⟨(some t91), oMov (.t t2), none, none⟩,
   ⟨(some t92), oBin (int2 mulO) (.t t90) (.t t91), none, none⟩,
   ⟨(some t93), oBin (int2 subO) (.t t89) (.t t92), none, none⟩,
   ⟨(some t17), oMov (.t t93), none, none⟩])
 (xSeq (xOps [⟨(some t94), oMov (.t t17), none, none⟩,
   ⟨(some t95), oMov (.t t9), none, none⟩,
   ⟨(some t96), oBin (int2 quoO) (.t t94) (.t t95), none, none⟩,
   ⟨(some t18), oMov (.t t96), none, none⟩])
 (xSeq (xOps [⟨(some t97), oMov (.t t17), none, none⟩,
   ⟨(some t98), oMov (.t t18), none, none⟩,
   ⟨(some t99), oMov (.t t9), none, none⟩,
   ⟨(some t100), oBin (int2 mulO) (.t t98) (.t t99), none, none⟩,
   ⟨(some t101), oBin (int2 subO) (.t t97) (.t t100), none, none⟩,
   ⟨(some t16), oMov (.t t101), none, none⟩])
 (xSeq (xBlock 2 (xLoop (xSeq (xSeq (xOps [⟨(some t102), oMov (.t t18), none, none⟩,
   ⟨(some t103), oBin (int2 (cmpO geI)) (.t t102) (.v (.int .u64 4294967296)), none, none⟩,
   ⟨(some t104), oMov (.t t103), none, none⟩,
   ⟨(some t105), oMov (.t t18), (some (t104, false)), none⟩,
   ⟨(some t106), oMov (.t t10), (some (t104, false)), none⟩,
   ⟨(some t107), oBin (int2 mulO) (.t t105) (.t t106), (some (t104, false)), none⟩,
   ⟨(some t108), oMov (.t t16), (some (t104, false)), none⟩,
   ⟨(some t109), oBin (int2 mulO) (.v (.int .u64 4294967296)) (.t t108), (some (t104, false)), none⟩,
   ⟨(some t110), oMov (.t t14), (some (t104, false)), none⟩,
   ⟨(some t111), oBin (int2 addO) (.t t109) (.t t110), (some (t104, false)), none⟩,
   ⟨(some t112), oBin (int2 (cmpO gtI)) (.t t107) (.t t111), (some (t104, false)), none⟩,
   ⟨(some t113), oPick (.t t104) (.v (.bool true)) (.t t112), none, none⟩])
 (xCond (.t t113)
 xSkip
 (xExit 2)))
 (xBlock 3 (xSeq (xOps [⟨(some t114), oMov (.t t18), none, none⟩,
   ⟨(some t115), oBin (int2 subO) (.t t114) (.v (.int .u64 1)), none, none⟩,
   ⟨(some t18), oMov (.t t115), none, none⟩])
 (xSeq (xOps [⟨(some t116), oMov (.t t16), none, none⟩,
   ⟨(some t117), oMov (.t t9), none, none⟩,
   ⟨(some t118), oBin (int2 addO) (.t t116) (.t t117), none, none⟩,
   ⟨(some t16), oMov (.t t118), none, none⟩])
 (xSeq (xOps [⟨(some t119), oMov (.t t16), none, none⟩,
   ⟨(some t120), oBin (int2 (cmpO geI)) (.t t119) (.v (.int .u64 4294967296)), none, none⟩])
 (xCond (.t t120)
 (xExit 2)
 xSkip))))))))
 (xSeq (xOps [⟨(some t121), oMov (.t t15), none, none⟩,
   ⟨(some t122), oBin (int2 mulO) (.t t121) (.v (.int .u64 4294967296)), none, none⟩,
   ⟨(some t123), oMov (.t t18), none, none⟩,
   ⟨(some t124), oBin (int2 addO) (.t t122) (.t t123), none, none⟩,
   ⟨(some t125), oMov (.t t17), none, none⟩,
   ⟨(some t126), oBin (int2 mulO) (.t t125) (.v (.int .u64 4294967296)), none, none⟩,
   ⟨(some t127), oMov (.t t14), none, none⟩,
   ⟨(some t128), oBin (int2 addO) (.t t126) (.t t127), none, none⟩,
   ⟨(some t129), oMov (.t t18), none, none⟩,
   ⟨(some t130), oMov (.t t2), none, none⟩,
   ⟨(some t131), oBin (int2 mulO) (.t t129) (.t t130), none, none⟩,
   ⟨(some t132), oBin (int2 subO) (.t t128) (.t t131), none, none⟩,
   ⟨(some t133), oMov (.t t8), none, none⟩,
   ⟨(some t134), oBin (sh2 shrO) (.t t132) (.t t133), none, none⟩,
   ⟨(some t6), oMov (.t t124), none, none⟩,
   ⟨(some t7), oMov (.t t134), none, none⟩])
 xRet))))))))))))))))))))⟩
theorem ok67 : cFunc Tryd.prog gl ex Tryd.f67 = some c67 := by kernel_rfl
/-- publican/num.narrow -/
def c68 : AFunc := ⟨14, [.tmp t2, .tmp t3],
 (xSeq (xOps [⟨(some t1), oBox (.t t0), none, none⟩,
   ⟨(some t2), oMov (.v (.int .i64 0)), none, none⟩,
   ⟨(some t3), oMov (.v (.bool false)), none, none⟩])
 (xSeq (xOps [⟨(some t5), oFieldAddr 1 (.t t1), none, none⟩,
   ⟨(some t6), oLoad1 (.t t5), none, (some (.t t5))⟩,
   ⟨(some t7), oConv .i64 (.t t6), none, none⟩,
   ⟨(some t4), oMov (.t t7), none, none⟩])
 (xSeq (xSeq (xOps [⟨(some t8), oFieldAddr 0 (.t t1), none, none⟩,
   ⟨(some t9), oLoad1 (.t t8), none, (some (.t t8))⟩,
   ⟨(some t10), oMov (.t t4), none, none⟩,
   ⟨(some t11), oBin (sh2 shrO) (.t t10) (.v (.int .u64 63)), none, none⟩,
   ⟨(some t12), oBin (int2 (cmpO neI)) (.t t9) (.t t11), none, none⟩])
 (xCond (.t t12)
 (xSeq (xOps [⟨(some t2), oMov (.v (.int .i64 0)), none, none⟩,
   ⟨(some t3), oMov (.v (.bool false)), none, none⟩])
 xRet)
 xSkip))
 (xSeq (xOps [⟨(some t13), oMov (.t t4), none, none⟩,
   ⟨(some t2), oMov (.t t13), none, none⟩,
   ⟨(some t3), oMov (.v (.bool true)), none, none⟩])
 xRet))))⟩
theorem ok68 : cFunc Tryd.prog gl ex Tryd.f68 = some c68 := by kernel_rfl
/-- (publican/num.Wide).Plus -/
def c69 : AFunc := ⟨52, [.cell t4 (some 2), .tmp t5],
 (xSeq (xOps [⟨(some t2), oBox (.t t0), none, none⟩,
   ⟨(some t3), oBox (.t t1), none, none⟩,
   ⟨(some t4), oNew [(.int .i64 0), (.int .u64 0)], none, none⟩,
   ⟨(some t5), oMov (.v (.bool false)), none, none⟩])
 (xSeq (xOps [⟨(some t12), oFieldAddr 1 (.t t2), none, none⟩,
   ⟨(some t13), oLoad1 (.t t12), none, (some (.t t12))⟩,
   ⟨(some t14), oFieldAddr 1 (.t t3), none, none⟩,
   ⟨(some t15), oLoad1 (.t t14), none, (some (.t t14))⟩,
   ⟨(some t16), oExt add64X [(.t t13), (.t t15), (.v (.int .u64 0))], none, none⟩,
   ⟨(some t11), oMov (.t t16), none, none⟩,
   ⟨(some t17), oExtract (.t t11) 0, none, none⟩,
   ⟨(some t18), oExtract (.t t11) 1, none, none⟩,
   ⟨(some t6), oMov (.t t17), none, none⟩,
   ⟨(some t7), oMov (.t t18), none, none⟩])
 (xSeq (xOps [⟨(some t20), oFieldAddr 0 (.t t2), none, none⟩,
   ⟨(some t21), oLoad1 (.t t20), none, (some (.t t20))⟩,
   ⟨(some t22), oConv .u64 (.t t21), none, none⟩,
   ⟨(some t23), oFieldAddr 0 (.t t3), none, none⟩,
   ⟨(some t24), oLoad1 (.t t23), none, (some (.t t23))⟩,
   ⟨(some t25), oConv .u64 (.t t24), none, none⟩,
   ⟨(some t26), oMov (.t t7), none, none⟩,
   ⟨(some t27), oExt add64X [(.t t22), (.t t25), (.t t26)], none, none⟩,
   ⟨(some t19), oMov (.t t27), none, none⟩,
   ⟨(some t28), oExtract (.t t19) 0, none, none⟩,
   ⟨(some t29), oExtract (.t t19) 1, none, none⟩,
   ⟨(some t8), oMov (.t t28), none, none⟩,
   ⟨(some t9), oMov (.t t29), none, none⟩])
 (xSeq (xOps [⟨(some t30), oMov (.t t8), none, none⟩,
   ⟨(some t31), oConv .i64 (.t t30), none, none⟩,
   ⟨(some t32), oMov (.t t6), none, none⟩,
   ⟨(some t33), oBuild [(.int .i64 0), (.int .u64 0)] [(0, 1, (.t t31)), (1, 1, (.t t32))], none, none⟩,
   ⟨(some t10), oNew [(.int .i64 0), (.int .u64 0)], none, none⟩,
   ⟨none, oStore 2 (.t t10) (.t t33), none, none⟩])
 (xSeq (xSeq (xOps [⟨(some t34), oFieldAddr 0 (.t t2), none, none⟩,
   ⟨(some t35), oLoad1 (.t t34), none, (some (.t t34))⟩,
   ⟨(some t36), oBin (int2 (cmpO ltI)) (.t t35) (.v (.int .i64 0)), none, none⟩,
   ⟨(some t37), oFieldAddr 0 (.t t3), none, none⟩,
   ⟨(some t38), oLoad1 (.t t37), none, (some (.t t37))⟩,
   ⟨(some t39), oBin (int2 (cmpO ltI)) (.t t38) (.v (.int .i64 0)), none, none⟩,
   ⟨(some t40), oEqv eqB false (.t t36) (.t t39), none, none⟩,
   ⟨(some t41), oMov (.t t40), none, none⟩,
   ⟨(some t42), oFieldAddr 0 (.t t10), (some (t41, true)), none⟩,
   ⟨(some t43), oLoad1 (.t t42), (some (t41, true)), (some (.t t42))⟩,
   ⟨(some t44), oBin (int2 (cmpO ltI)) (.t t43) (.v (.int .i64 0)), (some (t41, true)), none⟩,
   ⟨(some t45), oFieldAddr 0 (.t t2), (some (t41, true)), none⟩,
   ⟨(some t46), oLoad1 (.t t45), (some (t41, true)), (some (.t t45))⟩,
   ⟨(some t47), oBin (int2 (cmpO ltI)) (.t t46) (.v (.int .i64 0)), (some (t41, true)), none⟩,
   ⟨(some t48), oEqv eqB true (.t t44) (.t t47), (some (t41, true)), none⟩,
   ⟨(some t49), oPick (.t t41) (.t t48) (.v (.bool false)), none, none⟩])
 (xCond (.t t49)
 (xSeq (xOps [⟨(some t50), oBuild [(.int .i64 0), (.int .u64 0)] [], none, none⟩,
   ⟨none, oStore 2 (.t t4) (.t t50), none, none⟩,
   ⟨(some t5), oMov (.v (.bool false)), none, none⟩])
 xRet)
 xSkip))
 (xSeq (xOps [⟨(some t51), oLoadN 2 (.t t10), none, none⟩,
   ⟨none, oStore 2 (.t t4) (.t t51), none, none⟩,
   ⟨(some t5), oMov (.v (.bool true)), none, none⟩])
 xRet))))))⟩
theorem ok69 : cFunc Tryd.prog gl ex Tryd.f69 = some c69 := by kernel_rfl
/-- publican/num.Of -/
def c70 : AFunc := ⟨8, [.cell t2 (some 2)],
 (xSeq (xOps [⟨(some t2), oNew [(.int .i64 0), (.int .u64 0)], none, none⟩])
 (xSeq (xOps [⟨(some t3), oMov (.t t0), none, none⟩,
   ⟨(some t4), oBin (sh2 shrO) (.t t3) (.v (.int .u64 63)), none, none⟩,
   ⟨(some t5), oMov (.t t0), none, none⟩,
   ⟨(some t6), oConv .u64 (.t t5), none, none⟩,
   ⟨(some t7), oBuild [(.int .i64 0), (.int .u64 0)] [(0, 1, (.t t4)), (1, 1, (.t t6))], none, none⟩,
   ⟨none, oStore 2 (.t t2) (.t t7), none, none⟩])
 xRet))⟩
theorem ok70 : cFunc Tryd.prog gl ex Tryd.f70 = some c70 := by kernel_rfl
/-- publican/books.name -/
def c71 : AFunc := ⟨11, [.tmp t2],
 (xSeq (xOps [⟨(some t2), oMov (.v (.bool false)), none, none⟩])
 (xSeq (xOps [⟨(some t3), oMov (.t t0), none, none⟩,
   ⟨(some t4), oLenS (.t t3), none, none⟩,
   ⟨(some t5), oBin (int2 (cmpO geI)) (.t t4) (.v (.int .i64 1)), none, none⟩,
   ⟨(some t6), oMov (.t t5), none, none⟩,
   ⟨(some t7), oMov (.t t0), (some (t6, true)), none⟩,
   ⟨(some t8), oLenS (.t t7), (some (t6, true)), none⟩,
   ⟨(some t9), oBin (int2 (cmpO leI)) (.t t8) (.v (.int .i64 32)), (some (t6, true)), none⟩,
   ⟨(some t10), oPick (.t t6) (.t t9) (.v (.bool false)), none, none⟩,
   ⟨(some t2), oMov (.t t10), none, none⟩])
 xRet))⟩
theorem ok71 : cFunc Tryd.prog gl ex Tryd.f71 = some c71 := by kernel_rfl
/-- internal/strconv.FormatInt -/
def c72 : AFunc := ⟨54, [.tmp t4],
 (xSeq (xOps [⟨(some t4), oMov (.v (.string ⟨⟨[]⟩⟩)), none, none⟩])
 (xSeq (xSeq (xOps [⟨(some t10), oMov (.t t1), none, none⟩,
   ⟨(some t11), oBin (int2 (cmpO eqI)) (.t t10) (.v (.int .i64 10)), none, none⟩])
 (xCond (.t t11)
 (xSeq (xSeq (xOps [⟨(some t12), oMov (.t t0), none, none⟩,
   ⟨(some t13), oBin (int2 (cmpO leI)) (.v (.int .i64 0)) (.t t12), none, none⟩,
   ⟨(some t14), oMov (.t t13), none, none⟩,
   ⟨(some t15), oMov (.t t0), (some (t14, true)), none⟩,
   ⟨(some t16), oBin (int2 (cmpO ltI)) (.t t15) (.v (.int .i64 100)), (some (t14, true)), none⟩,
   ⟨(some t17), oPick (.t t14) (.t t16) (.v (.bool false)), none, none⟩])
 (xCond (.t t17)
 (xSeq (xOps [⟨(some t18), oMov (.t t0), none, none⟩,
   ⟨(some t19), oCall 79 [(.t t18)], none, none⟩,
   ⟨(some t4), oMov (.t t19), none, none⟩])
 xRet)
 xSkip))
 (xSeq (xOps [⟨(some t5), oNew (rep 24 [(.int .u8 0)]), none, none⟩])
 (xSeq (xOps [⟨(some t20), oMov (.t t0), none, none⟩,
   ⟨(some t21), oConv .u64 (.t t20), none, none⟩,
   ⟨(some t6), oMov (.t t21), none, none⟩])
 (xSeq (xSeq (xOps [⟨(some t22), oMov (.t t0), none, none⟩,
   ⟨(some t23), oBin (int2 (cmpO ltI)) (.t t22) (.v (.int .i64 0)), none, none⟩])
 (xCond (.t t23)
 (xOps [⟨(some t24), oMov (.t t6), none, none⟩,
   ⟨(some t25), oNeg (.t t24), none, none⟩,
   ⟨(some t6), oMov (.t t25), none, none⟩])
 xSkip))
 (xSeq (xOps [⟨(some t26), oMov (.t t6), none, none⟩,
   ⟨(some t27), oCall 80 [(.t t26)], none, none⟩,
   ⟨(some t7), oMov (.t t27), none, none⟩])
 (xSeq (xOps [⟨(some t28), oMov (.t t7), none, none⟩,
   ⟨(some t29), oBin (int2 addO) (.v (.int .i64 1)) (.t t28), none, none⟩,
   ⟨(some t30), oSliceA 24 1 (.t t5) (some (.v (.int .i64 1))) (some (.t t29)), none, none⟩,
   ⟨(some t31), oMov (.t t6), none, none⟩,
   ⟨(some t32), oCall 81 [(.t t30), (.t t31)], none, none⟩])
 (xSeq (xSeq (xOps [⟨(some t33), oMov (.t t0), none, none⟩,
   ⟨(some t34), oBin (int2 (cmpO ltI)) (.t t33) (.v (.int .i64 0)), none, none⟩])
 (xCond (.t t34)
 (xSeq (xOps [⟨(some t35), oIdxAddrA 24 1 (.t t5) (.v (.int .i64 0)), none, none⟩,
   ⟨none, oStore 1 (.t t35) (.v (.int .u8 45)), none, none⟩])
 (xSeq (xOps [⟨(some t36), oMov (.t t7), none, none⟩,
   ⟨(some t37), oBin (int2 addO) (.v (.int .i64 1)) (.t t36), none, none⟩,
   ⟨(some t38), oSliceA 24 1 (.t t5) none (some (.t t37)), none, none⟩,
   ⟨(some t39), oBytesStr (.t t38), none, none⟩,
   ⟨(some t4), oMov (.t t39), none, none⟩])
 xRet))
 xSkip))
 (xSeq (xOps [⟨(some t40), oMov (.t t7), none, none⟩,
   ⟨(some t41), oBin (int2 addO) (.v (.int .i64 1)) (.t t40), none, none⟩,
   ⟨(some t42), oSliceA 24 1 (.t t5) (some (.v (.int .i64 1))) (some (.t t41)), none, none⟩,
   ⟨(some t43), oBytesStr (.t t42), none, none⟩,
   ⟨(some t4), oMov (.t t43), none, none⟩])
 xRet))))))))
 xSkip))
 (xSeq (xOps [⟨(some t45), oMov (.t t0), none, none⟩,
   ⟨(some t46), oConv .u64 (.t t45), none, none⟩,
   ⟨(some t47), oMov (.t t1), none, none⟩,
   ⟨(some t48), oMov (.t t0), none, none⟩,
   ⟨(some t49), oBin (int2 (cmpO ltI)) (.t t48) (.v (.int .i64 0)), none, none⟩,
   ⟨(some t50), oCall 82 [(.v (.slice none 0 0)), (.t t46), (.t t47), (.t t49), (.v (.bool false))], none, none⟩,
   ⟨(some t44), oMov (.t t50), none, none⟩,
   ⟨(some t51), oExtract (.t t44) 0, none, none⟩,
   ⟨(some t52), oExtract (.t t44) 1, none, none⟩,
   ⟨(some t8), oMov (.t t51), none, none⟩,
   ⟨(some t9), oMov (.t t52), none, none⟩])
 (xSeq (xOps [⟨(some t53), oMov (.t t9), none, none⟩,
   ⟨(some t4), oMov (.t t53), none, none⟩])
 xRet))))⟩
theorem ok72 : cFunc Tryd.prog gl ex Tryd.f72 = some c72 := by kernel_rfl
/-- slices.insertionSortCmpFunc[*publican/dues.one] -/
def c73 : AFunc := ⟨53, [],
 (xSeq (xOps [⟨(some t10), oMov (.t t1), none, none⟩,
   ⟨(some t11), oBin (int2 addO) (.t t10) (.v (.int .i64 1)), none, none⟩,
   ⟨(some t8), oMov (.t t11), none, none⟩])
 (xBlock 0 (xLoop (xSeq (xSeq (xOps [⟨(some t12), oMov (.t t8), none, none⟩,
   ⟨(some t13), oMov (.t t2), none, none⟩,
   ⟨(some t14), oBin (int2 (cmpO ltI)) (.t t12) (.t t13), none, none⟩])
 (xCond (.t t14)
 xSkip
 (xExit 0)))
 (xSeq (xBlock 1 (xSeq (xOps [⟨(some t17), oMov (.t t8), none, none⟩,
   ⟨(some t9), oMov (.t t17), none, none⟩])
 (xBlock 2 (xLoop (xSeq (xSeq (xReg [⟨(some t18), oMov (.t t9), none, none⟩,
   ⟨(some t19), oMov (.t t1), none, none⟩,
   ⟨(some t20), oBin (int2 (cmpO gtI)) (.t t18) (.t t19), none, none⟩,
   ⟨(some t21), oMov (.t t20), none, none⟩,
   ⟨(some t22), oMov (.t t3), (some (t21, true)), none⟩,
   ⟨(some t23), oMov (.t t0), (some (t21, true)), none⟩,
   ⟨(some t24), oMov (.t t9), (some (t21, true)), none⟩,
   ⟨(some t25), oIdxAddrL 1 (.t t23) (.t t24), (some (t21, true)), none⟩,
   ⟨(some t26), oLoad1 (.t t25), (some (t21, true)), (some (.t t25))⟩,
   ⟨(some t27), oMov (.t t0), (some (t21, true)), none⟩,
   ⟨(some t28), oMov (.t t9), (some (t21, true)), none⟩,
   ⟨(some t29), oBin (int2 subO) (.t t28) (.v (.int .i64 1)), (some (t21, true)), none⟩,
   ⟨(some t30), oIdxAddrL 1 (.t t27) (.t t29), (some (t21, true)), none⟩,
   ⟨(some t31), oLoad1 (.t t30), (some (t21, true)), (some (.t t30))⟩,
   ⟨(some t32), oCallV (.t t22) [(.t t26), (.t t31)], (some (t21, true)), none⟩,
   ⟨(some t33), oBin (int2 (cmpO ltI)) (.t t32) (.v (.int .i64 0)), (some (t21, true)), none⟩,
   ⟨(some t34), oPick (.t t21) (.t t33) (.v (.bool false)), none, none⟩] [(0, 1), (4, 5), (4, 6), (5, 6), (4, 7), (4, 8), (4, 9), (5, 9), (6, 9), (7, 9), (8, 9), (4, 10), (5, 10), (6, 10), (7, 10), (8, 10), (9, 10), (4, 11), (5, 11), (6, 11), (7, 11), (8, 11), (9, 11), (4, 12), (5, 12), (6, 12), (7, 12), (8, 12), (4, 13), (5, 13), (6, 13), (7, 13), (8, 13)])
 (xCond (.t t34)
 xSkip
 (xExit 2)))
 (xSeq (xBlock 3 (xReg [⟨(some t37), oMov (.t t0), none, none⟩,
   ⟨(some t38), oMov (.t t9), none, none⟩,
   ⟨(some t39), oMov (.t t0), none, none⟩,
   ⟨(some t40), oMov (.t t9), none, none⟩,
   ⟨(some t41), oBin (int2 subO) (.t t40) (.v (.int .i64 1)), none, none⟩,
   ⟨(some t42), oMov (.t t0), none, none⟩,
   ⟨(some t43), oMov (.t t9), none, none⟩,
   ⟨(some t44), oBin (int2 subO) (.t t43) (.v (.int .i64 1)), none, none⟩,
   ⟨(some t45), oIdxAddrL 1 (.t t42) (.t t44), none, none⟩,
   ⟨(some t46), oLoad1 (.t t45), none, (some (.t t45))⟩,
   ⟨(some t47), oMov (.t t0), none, none⟩,
   ⟨(some t48), oMov (.t t9), none, none⟩,
   ⟨(some t49), oIdxAddrL 1 (.t t47) (.t t48), none, none⟩,
   ⟨(some t50), oLoad1 (.t t49), none, (some (.t t49))⟩,
   ⟨(some t51), oIdxAddrL 1 (.t t37) (.t t38), none, none⟩,
   ⟨none, oStore 1 (.t t51) (.t t46), none, none⟩,
   ⟨(some t52), oIdxAddrL 1 (.t t39) (.t t41), none, none⟩,
   ⟨none, oStore 1 (.t t52) (.t t50), none, none⟩] [(0, 1), (0, 2), (1, 2), (0, 3), (1, 3), (2, 3), (0, 4), (1, 4), (2, 4), (0, 5), (1, 5), (2, 5), (3, 5), (4, 5), (0, 6), (1, 6), (2, 6), (3, 6), (4, 6), (5, 6), (0, 7), (1, 7), (2, 7), (3, 7), (4, 7), (5, 7), (0, 8), (1, 8), (2, 8), (3, 8), (4, 8), (0, 9), (1, 9), (2, 9), (3, 9), (4, 9), (0, 10), (1, 10), (2, 10), (3, 10), (4, 10), (5, 10), (6, 10), (7, 10), (8, 10), (9, 10), (0, 11), (1, 11), (2, 11), (3, 11), (4, 11), (5, 11), (6, 11), (7, 11), (8, 11), (9, 11), (10, 11), (0, 12), (1, 12), (2, 12), (3, 12), (4, 12), (5, 12), (6, 12), (7, 12), (8, 12), (9, 12), (0, 13), (1, 13), (2, 13), (3, 13), (4, 13), (5, 13), (6, 13), (7, 13), (8, 13), (9, 13), (2, 14), (3, 14), (4, 14), (2, 15), (3, 15), (4, 15)]))
 (xOps [⟨(some t35), oMov (.t t9), none, none⟩,
   ⟨(some t36), oBin (int2 subO) (.t t35) (.v (.int .i64 1)), none, none⟩,
   ⟨(some t9), oMov (.t t36), none, none⟩])))))))
 (xOps [⟨(some t15), oMov (.t t8), none, none⟩,
   ⟨(some t16), oBin (int2 addO) (.t t15) (.v (.int .i64 1)), none, none⟩,
   ⟨(some t8), oMov (.t t16), none, none⟩]))))))⟩
theorem ok73 : cFunc Tryd.prog gl ex Tryd.f73 = some c73 := by kernel_rfl
/-- slices.symMergeCmpFunc[*publican/dues.one] -/
def c74 : AFunc := ⟨220, [],
 (xSeq (xSeq (xOps [⟨(some t25), oMov (.t t2), none, none⟩,
   ⟨(some t26), oMov (.t t1), none, none⟩,
   ⟨(some t27), oBin (int2 subO) (.t t25) (.t t26), none, none⟩,
   ⟨(some t28), oBin (int2 (cmpO eqI)) (.t t27) (.v (.int .i64 1)), none, none⟩])
 (xCond (.t t28)
 (xSeq (xOps [⟨(some t29), oMov (.t t2), none, none⟩,
   ⟨(some t10), oMov (.t t29), none, none⟩])
 (xSeq (xOps [⟨(some t30), oMov (.t t3), none, none⟩,
   ⟨(some t11), oMov (.t t30), none, none⟩])
 (xSeq (xBlock 0 (xLoop (xSeq (xSeq (xOps [⟨(some t31), oMov (.t t10), none, none⟩,
   ⟨(some t32), oMov (.t t11), none, none⟩,
   ⟨(some t33), oBin (int2 (cmpO ltI)) (.t t31) (.t t32), none, none⟩])
 (xCond (.t t33)
 xSkip
 (xExit 0)))
 (xBlock 1 (xSeq (xOps [⟨(some t34), oMov (.t t10), none, none⟩,
   ⟨(some t35), oMov (.t t11), none, none⟩,
   ⟨(some t36), oBin (int2 addO) (.t t34) (.t t35), none, none⟩,
   ⟨(some t37), oConv .u64 (.t t36), none, none⟩,
   ⟨(some t38), oBin (sh2 shrO) (.t t37) (.v (.int .u64 1)), none, none⟩,
   ⟨(some t39), oConv .i64 (.t t38), none, none⟩,
   ⟨(some t12), oMov (.t t39), none, none⟩])
 (xSeq (xReg [⟨(some t40), oMov (.t t4), none, none⟩,
   ⟨(some t41), oMov (.t t0), none, none⟩,
   ⟨(some t42), oMov (.t t12), none, none⟩,
   ⟨(some t43), oIdxAddrL 1 (.t t41) (.t t42), none, none⟩,
   ⟨(some t44), oLoad1 (.t t43), none, (some (.t t43))⟩,
   ⟨(some t45), oMov (.t t0), none, none⟩,
   ⟨(some t46), oMov (.t t1), none, none⟩,
   ⟨(some t47), oIdxAddrL 1 (.t t45) (.t t46), none, none⟩,
   ⟨(some t48), oLoad1 (.t t47), none, (some (.t t47))⟩,
   ⟨(some t49), oCallV (.t t40) [(.t t44), (.t t48)], none, none⟩,
   ⟨(some t50), oBin (int2 (cmpO ltI)) (.t t49) (.v (.int .i64 0)), none, none⟩] [(0, 1), (0, 2), (1, 2), (0, 3), (0, 4), (0, 5), (1, 5), (2, 5), (3, 5), (4, 5), (0, 6), (1, 6), (2, 6), (3, 6), (4, 6), (5, 6), (0, 7), (1, 7), (2, 7), (3, 7), (4, 7), (0, 8), (1, 8), (2, 8), (3, 8), (4, 8)])
 (xCond (.t t50)
 (xOps [⟨(some t51), oMov (.t t12), none, none⟩,
   ⟨(some t52), oBin (int2 addO) (.t t51) (.v (.int .i64 1)), none, none⟩,
   ⟨(some t10), oMov (.t t52), none, none⟩])
 (xOps [⟨(some t53), oMov (.t t12), none, none⟩,
   ⟨(some t11), oMov (.t t53), none, none⟩]))))))))
 (xSeq (xSeq (xOps [⟨(some t54), oMov (.t t1), none, none⟩,
   ⟨(some t13), oMov (.t t54), none, none⟩])
 (xBlock 2 (xLoop (xSeq (xSeq (xOps [⟨(some t55), oMov (.t t13), none, none⟩,
   ⟨(some t56), oMov (.t t10), none, none⟩,
   ⟨(some t57), oBin (int2 subO) (.t t56) (.v (.int .i64 1)), none, none⟩,
   ⟨(some t58), oBin (int2 (cmpO ltI)) (.t t55) (.t t57), none, none⟩])
 (xCond (.t t58)
 xSkip
 (xExit 2)))
 (xSeq (xBlock 3 (xReg [⟨(some t61), oMov (.t t0), none, none⟩,
   ⟨(some t62), oMov (.t t13), none, none⟩,
   ⟨(some t63), oMov (.t t0), none, none⟩,
   ⟨(some t64), oMov (.t t13), none, none⟩,
   ⟨(some t65), oBin (int2 addO) (.t t64) (.v (.int .i64 1)), none, none⟩,
   ⟨(some t66), oMov (.t t0), none, none⟩,
   ⟨(some t67), oMov (.t t13), none, none⟩,
   ⟨(some t68), oBin (int2 addO) (.t t67) (.v (.int .i64 1)), none, none⟩,
   ⟨(some t69), oIdxAddrL 1 (.t t66) (.t t68), none, none⟩,
   ⟨(some t70), oLoad1 (.t t69), none, (some (.t t69))⟩,
   ⟨(some t71), oMov (.t t0), none, none⟩,
   ⟨(some t72), oMov (.t t13), none, none⟩,
   ⟨(some t73), oIdxAddrL 1 (.t t71) (.t t72), none, none⟩,
   ⟨(some t74), oLoad1 (.t t73), none, (some (.t t73))⟩,
   ⟨(some t75), oIdxAddrL 1 (.t t61) (.t t62), none, none⟩,
   ⟨none, oStore 1 (.t t75) (.t t70), none, none⟩,
   ⟨(some t76), oIdxAddrL 1 (.t t63) (.t t65), none, none⟩,
   ⟨none, oStore 1 (.t t76) (.t t74), none, none⟩] [(0, 1), (0, 2), (1, 2), (0, 3), (1, 3), (2, 3), (0, 4), (1, 4), (2, 4), (0, 5), (1, 5), (2, 5), (3, 5), (4, 5), (0, 6), (1, 6), (2, 6), (3, 6), (4, 6), (5, 6), (0, 7), (1, 7), (2, 7), (3, 7), (4, 7), (5, 7), (0, 8), (1, 8), (2, 8), (3, 8), (4, 8), (0, 9), (1, 9), (2, 9), (3, 9), (4, 9), (0, 10), (1, 10), (2, 10), (3, 10), (4, 10), (5, 10), (6, 10), (7, 10), (8, 10), (9, 10), (0, 11), (1, 11), (2, 11), (3, 11), (4, 11), (5, 11), (6, 11), (7, 11), (8, 11), (9, 11), (10, 11), (0, 12), (1, 12), (2, 12), (3, 12), (4, 12), (5, 12), (6, 12), (7, 12), (8, 12), (9, 12), (0, 13), (1, 13), (2, 13), (3, 13), (4, 13), (5, 13), (6, 13), (7, 13), (8, 13), (9, 13), (2, 14), (3, 14), (4, 14), (2, 15), (3, 15), (4, 15)]))
 (xOps [⟨(some t59), oMov (.t t13), none, none⟩,
   ⟨(some t60), oBin (int2 addO) (.t t59) (.v (.int .i64 1)), none, none⟩,
   ⟨(some t13), oMov (.t t60), none, none⟩]))))))
 xRet))))
 xSkip))
 (xSeq (xSeq (xOps [⟨(some t77), oMov (.t t3), none, none⟩,
   ⟨(some t78), oMov (.t t2), none, none⟩,
   ⟨(some t79), oBin (int2 subO) (.t t77) (.t t78), none, none⟩,
   ⟨(some t80), oBin (int2 (cmpO eqI)) (.t t79) (.v (.int .i64 1)), none, none⟩])
 (xCond (.t t80)
 (xSeq (xOps [⟨(some t81), oMov (.t t1), none, none⟩,
   ⟨(some t14), oMov (.t t81), none, none⟩])
 (xSeq (xOps [⟨(some t82), oMov (.t t2), none, none⟩,
   ⟨(some t15), oMov (.t t82), none, none⟩])
 (xSeq (xBlock 4 (xLoop (xSeq (xSeq (xOps [⟨(some t83), oMov (.t t14), none, none⟩,
   ⟨(some t84), oMov (.t t15), none, none⟩,
   ⟨(some t85), oBin (int2 (cmpO ltI)) (.t t83) (.t t84), none, none⟩])
 (xCond (.t t85)
 xSkip
 (xExit 4)))
 (xBlock 5 (xSeq (xOps [⟨(some t86), oMov (.t t14), none, none⟩,
   ⟨(some t87), oMov (.t t15), none, none⟩,
   ⟨(some t88), oBin (int2 addO) (.t t86) (.t t87), none, none⟩,
   ⟨(some t89), oConv .u64 (.t t88), none, none⟩,
   ⟨(some t90), oBin (sh2 shrO) (.t t89) (.v (.int .u64 1)), none, none⟩,
   ⟨(some t91), oConv .i64 (.t t90), none, none⟩,
   ⟨(some t16), oMov (.t t91), none, none⟩])
 (xSeq (xReg [⟨(some t92), oMov (.t t4), none, none⟩,
   ⟨(some t93), oMov (.t t0), none, none⟩,
   ⟨(some t94), oMov (.t t2), none, none⟩,
   ⟨(some t95), oIdxAddrL 1 (.t t93) (.t t94), none, none⟩,
   ⟨(some t96), oLoad1 (.t t95), none, (some (.t t95))⟩,
   ⟨(some t97), oMov (.t t0), none, none⟩,
   ⟨(some t98), oMov (.t t16), none, none⟩,
   ⟨(some t99), oIdxAddrL 1 (.t t97) (.t t98), none, none⟩,
   ⟨(some t100), oLoad1 (.t t99), none, (some (.t t99))⟩,
   ⟨(some t101), oCallV (.t t92) [(.t t96), (.t t100)], none, none⟩,
   ⟨(some t102), oBin (int2 (cmpO ltI)) (.t t101) (.v (.int .i64 0)), none, none⟩,
   ⟨(some t103), oNot (.t t102), none, none⟩] [(0, 1), (0, 2), (1, 2), (0, 3), (0, 4), (0, 5), (1, 5), (2, 5), (3, 5), (4, 5), (0, 6), (1, 6), (2, 6), (3, 6), (4, 6), (5, 6), (0, 7), (1, 7), (2, 7), (3, 7), (4, 7), (0, 8), (1, 8), (2, 8), (3, 8), (4, 8)])
 (xCond (.t t103)
 (xOps [⟨(some t104), oMov (.t t16), none, none⟩,
   ⟨(some t105), oBin (int2 addO) (.t t104) (.v (.int .i64 1)), none, none⟩,
   ⟨(some t14), oMov (.t t105), none, none⟩])
 (xOps [⟨(some t106), oMov (.t t16), none, none⟩,
   ⟨(some t15), oMov (.t t106), none, none⟩]))))))))
 (xSeq (xSeq (xOps [⟨(some t107), oMov (.t t2), none, none⟩,
   ⟨(some t17), oMov (.t t107), none, none⟩])
 (xBlock 6 (xLoop (xSeq (xSeq (xOps [⟨(some t108), oMov (.t t17), none, none⟩,
   ⟨(some t109), oMov (.t t14), none, none⟩,
   ⟨(some t110), oBin (int2 (cmpO gtI)) (.t t108) (.t t109), none, none⟩])
 (xCond (.t t110)
 xSkip
 (xExit 6)))
 (xSeq (xBlock 7 (xReg [⟨(some t113), oMov (.t t0), none, none⟩,
   ⟨(some t114), oMov (.t t17), none, none⟩,
   ⟨(some t115), oMov (.t t0), none, none⟩,
   ⟨(some t116), oMov (.t t17), none, none⟩,
   ⟨(some t117), oBin (int2 subO) (.t t116) (.v (.int .i64 1)), none, none⟩,
   ⟨(some t118), oMov (.t t0), none, none⟩,
   ⟨(some t119), oMov (.t t17), none, none⟩,
   ⟨(some t120), oBin (int2 subO) (.t t119) (.v (.int .i64 1)), none, none⟩,
   ⟨(some t121), oIdxAddrL 1 (.t t118) (.t t120), none, none⟩,
   ⟨(some t122), oLoad1 (.t t121), none, (some (.t t121))⟩,
   ⟨(some t123), oMov (.t t0), none, none⟩,
   ⟨(some t124), oMov (.t t17), none, none⟩,
   ⟨(some t125), oIdxAddrL 1 (.t t123) (.t t124), none, none⟩,
   ⟨(some t126), oLoad1 (.t t125), none, (some (.t t125))⟩,
   ⟨(some t127), oIdxAddrL 1 (.t t113) (.t t114), none, none⟩,
   ⟨none, oStore 1 (.t t127) (.t t122), none, none⟩,
   ⟨(some t128), oIdxAddrL 1 (.t t115) (.t t117), none, none⟩,
   ⟨none, oStore 1 (.t t128) (.t t126), none, none⟩] [(0, 1), (0, 2), (1, 2), (0, 3), (1, 3), (2, 3), (0, 4), (1, 4), (2, 4), (0, 5), (1, 5), (2, 5), (3, 5), (4, 5), (0, 6), (1, 6), (2, 6), (3, 6), (4, 6), (5, 6), (0, 7), (1, 7), (2, 7), (3, 7), (4, 7), (5, 7), (0, 8), (1, 8), (2, 8), (3, 8), (4, 8), (0, 9), (1, 9), (2, 9), (3, 9), (4, 9), (0, 10), (1, 10), (2, 10), (3, 10), (4, 10), (5, 10), (6, 10), (7, 10), (8, 10), (9, 10), (0, 11), (1, 11), (2, 11), (3, 11), (4, 11), (5, 11), (6, 11), (7, 11), (8, 11), (9, 11), (10, 11), (0, 12), (1, 12), (2, 12), (3, 12), (4, 12), (5, 12), (6, 12), (7, 12), (8, 12), (9, 12), (0, 13), (1, 13), (2, 13), (3, 13), (4, 13), (5, 13), (6, 13), (7, 13), (8, 13), (9, 13), (2, 14), (3, 14), (4, 14), (2, 15), (3, 15), (4, 15)]))
 (xOps [⟨(some t111), oMov (.t t17), none, none⟩,
   ⟨(some t112), oBin (int2 subO) (.t t111) (.v (.int .i64 1)), none, none⟩,
   ⟨(some t17), oMov (.t t112), none, none⟩]))))))
 xRet))))
 xSkip))
 (xSeq (xOps [⟨(some t129), oMov (.t t1), none, none⟩,
   ⟨(some t130), oMov (.t t3), none, none⟩,
   ⟨(some t131), oBin (int2 addO) (.t t129) (.t t130), none, none⟩,
   ⟨(some t132), oConv .u64 (.t t131), none, none⟩,
   ⟨(some t133), oBin (sh2 shrO) (.t t132) (.v (.int .u64 1)), none, none⟩,
   ⟨(some t134), oConv .i64 (.t t133), none, none⟩,
   ⟨(some t18), oMov (.t t134), none, none⟩])
 (xSeq (xOps [⟨(some t135), oMov (.t t18), none, none⟩,
   ⟨(some t136), oMov (.t t2), none, none⟩,
   ⟨(some t137), oBin (int2 addO) (.t t135) (.t t136), none, none⟩,
   ⟨(some t19), oMov (.t t137), none, none⟩])
 (xSeq (xOps [⟨(some t20), oMov (.v (.int .i64 0)), none, none⟩,
   ⟨(some t21), oMov (.v (.int .i64 0)), none, none⟩])
 (xSeq (xSeq (xOps [⟨(some t138), oMov (.t t2), none, none⟩,
   ⟨(some t139), oMov (.t t18), none, none⟩,
   ⟨(some t140), oBin (int2 (cmpO gtI)) (.t t138) (.t t139), none, none⟩])
 (xCond (.t t140)
 (xSeq (xOps [⟨(some t141), oMov (.t t19), none, none⟩,
   ⟨(some t142), oMov (.t t3), none, none⟩,
   ⟨(some t143), oBin (int2 subO) (.t t141) (.t t142), none, none⟩,
   ⟨(some t20), oMov (.t t143), none, none⟩])
 (xOps [⟨(some t144), oMov (.t t18), none, none⟩,
   ⟨(some t21), oMov (.t t144), none, none⟩]))
 (xSeq (xOps [⟨(some t145), oMov (.t t1), none, none⟩,
   ⟨(some t20), oMov (.t t145), none, none⟩])
 (xOps [⟨(some t146), oMov (.t t2), none, none⟩,
   ⟨(some t21), oMov (.t t146), none, none⟩]))))
 (xSeq (xOps [⟨(some t147), oMov (.t t19), none, none⟩,
   ⟨(some t148), oBin (int2 subO) (.t t147) (.v (.int .i64 1)), none, none⟩,
   ⟨(some t22), oMov (.t t148), none, none⟩])
 (xSeq (xBlock 8 (xLoop (xSeq (xSeq (xOps [⟨(some t149), oMov (.t t20), none, none⟩,
   ⟨(some t150), oMov (.t t21), none, none⟩,
   ⟨(some t151), oBin (int2 (cmpO ltI)) (.t t149) (.t t150), none, none⟩])
 (xCond (.t t151)
 xSkip
 (xExit 8)))
 (xBlock 9 (xSeq (xOps [⟨(some t152), oMov (.t t20), none, none⟩,
   ⟨(some t153), oMov (.t t21), none, none⟩,
   ⟨(some t154), oBin (int2 addO) (.t t152) (.t t153), none, none⟩,
   ⟨(some t155), oConv .u64 (.t t154), none, none⟩,
   ⟨(some t156), oBin (sh2 shrO) (.t t155) (.v (.int .u64 1)), none, none⟩,
   ⟨(some t157), oConv .i64 (.t t156), none, none⟩,
   ⟨(some t23), oMov (.t t157), none, none⟩])
 (xSeq (xReg [⟨(some t158), oMov (.t t4), none, none⟩,
   ⟨(some t159), oMov (.t t0), none, none⟩,
   ⟨(some t160), oMov (.t t22), none, none⟩,
   ⟨(some t161), oMov (.t t23), none, none⟩,
   ⟨(some t162), oBin (int2 subO) (.t t160) (.t t161), none, none⟩,
   ⟨(some t163), oIdxAddrL 1 (.t t159) (.t t162), none, none⟩,
   ⟨(some t164), oLoad1 (.t t163), none, (some (.t t163))⟩,
   ⟨(some t165), oMov (.t t0), none, none⟩,
   ⟨(some t166), oMov (.t t23), none, none⟩,
   ⟨(some t167), oIdxAddrL 1 (.t t165) (.t t166), none, none⟩,
   ⟨(some t168), oLoad1 (.t t167), none, (some (.t t167))⟩,
   ⟨(some t169), oCallV (.t t158) [(.t t164), (.t t168)], none, none⟩,
   ⟨(some t170), oBin (int2 (cmpO ltI)) (.t t169) (.v (.int .i64 0)), none, none⟩,
   ⟨(some t171), oNot (.t t170), none, none⟩] [(0, 1), (0, 2), (1, 2), (0, 3), (1, 3), (2, 3), (0, 4), (1, 4), (0, 5), (0, 6), (0, 7), (1, 7), (2, 7), (3, 7), (4, 7), (5, 7), (6, 7), (0, 8), (1, 8), (2, 8), (3, 8), (4, 8), (5, 8), (6, 8), (7, 8), (0, 9), (1, 9), (2, 9), (3, 9), (4, 9), (5, 9), (6, 9), (0, 10), (1, 10), (2, 10), (3, 10), (4, 10), (5, 10), (6, 10)])
 (xCond (.t t171)
 (xOps [⟨(some t172), oMov (.t t23), none, none⟩,
   ⟨(some t173), oBin (int2 addO) (.t t172) (.v (.int .i64 1)), none, none⟩,
   ⟨(some t20), oMov (.t t173), none, none⟩])
 (xOps [⟨(some t174), oMov (.t t23), none, none⟩,
   ⟨(some t21), oMov (.t t174), none, none⟩]))))))))
 (xSeq (xOps [⟨(some t175), oMov (.t t19), none, none⟩,
   ⟨(some t176), oMov (.t t20), none, none⟩,
   ⟨(some t177), oBin (int2 subO) (.t t175) (.t t176), none, none⟩,
   ⟨(some t24), oMov (.t t177), none, none⟩])
 (xSeq (xSeq (xOps [⟨(some t178), oMov (.t t20), none, none⟩,
   ⟨(some t179), oMov (.t t2), none, none⟩,
   ⟨(some t180), oBin (int2 (cmpO ltI)) (.t t178) (.t t179), none, none⟩,
   ⟨(some t181), oMov (.t t180), none, none⟩,
   ⟨(some t182), oMov (.t t2), (some (t181, true)), none⟩,
   ⟨(some t183), oMov (.t t24), (some (t181, true)), none⟩,
   ⟨(some t184), oBin (int2 (cmpO ltI)) (.t t182) (.t t183), (some (t181, true)), none⟩,
   ⟨(some t185), oPick (.t t181) (.t t184) (.v (.bool false)), none, none⟩])
 (xCond (.t t185)
 (xOps [⟨(some t186), oMov (.t t0), none, none⟩,
   ⟨(some t187), oMov (.t t20), none, none⟩,
   ⟨(some t188), oMov (.t t2), none, none⟩,
   ⟨(some t189), oMov (.t t24), none, none⟩,
   ⟨(some t190), oMov (.t t4), none, none⟩,
   ⟨(some t191), oCall 83 [(.t t186), (.t t187), (.t t188), (.t t189), (.t t190)], none, none⟩])
 xSkip))
 (xSeq (xSeq (xOps [⟨(some t192), oMov (.t t1), none, none⟩,
   ⟨(some t193), oMov (.t t20), none, none⟩,
   ⟨(some t194), oBin (int2 (cmpO ltI)) (.t t192) (.t t193), none, none⟩,
   ⟨(some t195), oMov (.t t194), none, none⟩,
   ⟨(some t196), oMov (.t t20), (some (t195, true)), none⟩,
   ⟨(some t197), oMov (.t t18), (some (t195, true)), none⟩,
   ⟨(some t198), oBin (int2 (cmpO ltI)) (.t t196) (.t t197), (some (t195, true)), none⟩,
   ⟨(some t199), oPick (.t t195) (.t t198) (.v (.bool false)), none, none⟩])
 (xCond (.t t199)
 (xOps [⟨(some t200), oMov (.t t0), none, none⟩,
   ⟨(some t201), oMov (.t t1), none, none⟩,
   ⟨(some t202), oMov (.t t20), none, none⟩,
   ⟨(some t203), oMov (.t t18), none, none⟩,
   ⟨(some t204), oMov (.t t4), none, none⟩,
   ⟨(some t205), oCall 74 [(.t t200), (.t t201), (.t t202), (.t t203), (.t t204)], none, none⟩])
 xSkip))
 (xSeq (xOps [⟨(some t206), oMov (.t t18), none, none⟩,
   ⟨(some t207), oMov (.t t24), none, none⟩,
   ⟨(some t208), oBin (int2 (cmpO ltI)) (.t t206) (.t t207), none, none⟩,
   ⟨(some t209), oMov (.t t208), none, none⟩,
   ⟨(some t210), oMov (.t t24), (some (t209, true)), none⟩,
   ⟨(some t211), oMov (.t t3), (some (t209, true)), none⟩,
   ⟨(some t212), oBin (int2 (cmpO ltI)) (.t t210) (.t t211), (some (t209, true)), none⟩,
   ⟨(some t213), oPick (.t t209) (.t t212) (.v (.bool false)), none, none⟩])
 (xCond (.t t213)
 (xOps [⟨(some t214), oMov (.t t0), none, none⟩,
   ⟨(some t215), oMov (.t t18), none, none⟩,
   ⟨(some t216), oMov (.t t24), none, none⟩,
   ⟨(some t217), oMov (.t t3), none, none⟩,
   ⟨(some t218), oMov (.t t4), none, none⟩,
   ⟨(some t219), oCall 74 [(.t t214), (.t t215), (.t t216), (.t t217), (.t t218)], none, none⟩])
 xSkip)))))))))))))⟩
theorem ok74 : cFunc Tryd.prog gl ex Tryd.f74 = some c74 := by kernel_rfl
/-- publican/num.product -/
def c75 : AFunc := ⟨31, [.cell t4 (some 2)],
 (xSeq (xOps [⟨(some t4), oNew [(.int .i64 0), (.int .u64 0)], none, none⟩])
 (xSeq (xOps [⟨(some t9), oMov (.t t0), none, none⟩,
   ⟨(some t10), oConv .u64 (.t t9), none, none⟩,
   ⟨(some t11), oMov (.t t1), none, none⟩,
   ⟨(some t12), oConv .u64 (.t t11), none, none⟩,
   ⟨(some t13), oCall 84 [(.t t10), (.t t12)], none, none⟩,
   ⟨(some t8), oMov (.t t13), none, none⟩,
   ⟨(some t14), oExtract (.t t8) 0, none, none⟩,
   ⟨(some t15), oExtract (.t t8) 1, none, none⟩,
   ⟨(some t5), oMov (.t t14), none, none⟩,
   ⟨(some t6), oMov (.t t15), none, none⟩])
 (xSeq (xOps [⟨(some t16), oMov (.t t5), none, none⟩,
   ⟨(some t17), oConv .i64 (.t t16), none, none⟩,
   ⟨(some t7), oMov (.t t17), none, none⟩])
 (xSeq (xSeq (xOps [⟨(some t18), oMov (.t t0), none, none⟩,
   ⟨(some t19), oBin (int2 (cmpO ltI)) (.t t18) (.v (.int .i64 0)), none, none⟩])
 (xCond (.t t19)
 (xOps [⟨(some t20), oMov (.t t7), none, none⟩,
   ⟨(some t21), oMov (.t t1), none, none⟩,
   ⟨(some t22), oBin (int2 subO) (.t t20) (.t t21), none, none⟩,
   ⟨(some t7), oMov (.t t22), none, none⟩])
 xSkip))
 (xSeq (xSeq (xOps [⟨(some t23), oMov (.t t1), none, none⟩,
   ⟨(some t24), oBin (int2 (cmpO ltI)) (.t t23) (.v (.int .i64 0)), none, none⟩])
 (xCond (.t t24)
 (xOps [⟨(some t25), oMov (.t t7), none, none⟩,
   ⟨(some t26), oMov (.t t0), none, none⟩,
   ⟨(some t27), oBin (int2 subO) (.t t25) (.t t26), none, none⟩,
   ⟨(some t7), oMov (.t t27), none, none⟩])
 xSkip))
 (xSeq (xOps [⟨(some t28), oMov (.t t7), none, none⟩,
   ⟨(some t29), oMov (.t t6), none, none⟩,
   ⟨(some t30), oBuild [(.int .i64 0), (.int .u64 0)] [(0, 1, (.t t28)), (1, 1, (.t t29))], none, none⟩,
   ⟨none, oStore 2 (.t t4) (.t t30), none, none⟩])
 xRet))))))⟩
theorem ok75 : cFunc Tryd.prog gl ex Tryd.f75 = some c75 := by kernel_rfl
/-- math/bits.LeadingZeros64 -/
def c77 : AFunc := ⟨6, [.tmp t2],
 (xSeq (xOps [⟨(some t2), oMov (.v (.int .i64 0)), none, none⟩])
 (xSeq (xOps [⟨(some t3), oMov (.t t0), none, none⟩,
   ⟨(some t4), oCall 85 [(.t t3)], none, none⟩,
   ⟨(some t5), oBin (int2 subO) (.v (.int .i64 64)) (.t t4), none, none⟩,
   ⟨(some t2), oMov (.t t5), none, none⟩])
 xRet))⟩
theorem ok77 : cFunc Tryd.prog gl ex Tryd.f77 = some c77 := by kernel_rfl
/-- internal/strconv.small -/
def c79 : AFunc := ⟨15, [.tmp t2],
 (xSeq (xOps [⟨(some t2), oMov (.v (.string ⟨⟨[]⟩⟩)), none, none⟩])
 (xSeq (xSeq (xOps [⟨(some t3), oMov (.t t0), none, none⟩,
   ⟨(some t4), oBin (int2 (cmpO ltI)) (.t t3) (.v (.int .i64 10)), none, none⟩])
 (xCond (.t t4)
 (xSeq (xOps [⟨(some t5), oMov (.t t0), none, none⟩,
   ⟨(some t6), oMov (.t t0), none, none⟩,
   ⟨(some t7), oBin (int2 addO) (.t t6) (.v (.int .i64 1)), none, none⟩,
   ⟨(some t8), oSliceS (.v (.string ⟨⟨[48, 49, 50, 51, 52, 53, 54, 55, 56, 57, 97, 98, 99, 100, 101, 102, 103, 104, 105, 106, 107, 108, 109, 110, 111, 112, 113, 114, 115, 116, 117, 118, 119, 120, 121, 122]⟩⟩)) (some (.t t5)) (some (.t t7)), none, none⟩,
   ⟨(some t2), oMov (.t t8), none, none⟩])
 xRet)
 xSkip))
 (xSeq (xOps [⟨(some t9), oMov (.t t0), none, none⟩,
   ⟨(some t10), oBin (int2 mulO) (.t t9) (.v (.int .i64 2)), none, none⟩,
   ⟨(some t11), oMov (.t t0), none, none⟩,
   ⟨(some t12), oBin (int2 mulO) (.t t11) (.v (.int .i64 2)), none, none⟩,
   ⟨(some t13), oBin (int2 addO) (.t t12) (.v (.int .i64 2)), none, none⟩,
   ⟨(some t14), oSliceS (.v (.string ⟨⟨[48, 48, 48, 49, 48, 50, 48, 51, 48, 52, 48, 53, 48, 54, 48, 55, 48, 56, 48, 57, 49, 48, 49, 49, 49, 50, 49, 51, 49, 52, 49, 53, 49, 54, 49, 55, 49, 56, 49, 57, 50, 48, 50, 49, 50, 50, 50, 51, 50, 52, 50, 53, 50, 54, 50, 55, 50, 56, 50, 57, 51, 48, 51, 49, 51, 50, 51, 51, 51, 52, 51, 53, 51, 54, 51, 55, 51, 56, 51, 57, 52, 48, 52, 49, 52, 50, 52, 51, 52, 52, 52, 53, 52, 54, 52, 55, 52, 56, 52, 57, 53, 48, 53, 49, 53, 50, 53, 51, 53, 52, 53, 53, 53, 54, 53, 55, 53, 56, 53, 57, 54, 48, 54, 49, 54, 50, 54, 51, 54, 52, 54, 53, 54, 54, 54, 55, 54, 56, 54, 57, 55, 48, 55, 49, 55, 50, 55, 51, 55, 52, 55, 53, 55, 54, 55, 55, 55, 56, 55, 57, 56, 48, 56, 49, 56, 50, 56, 51, 56, 52, 56, 53, 56, 54, 56, 55, 56, 56, 56, 57, 57, 48, 57, 49, 57, 50, 57, 51, 57, 52, 57, 53, 57, 54, 57, 55, 57, 56, 57, 57]⟩⟩)) (some (.t t10)) (some (.t t13)), none, none⟩,
   ⟨(some t2), oMov (.t t14), none, none⟩])
 xRet)))⟩
theorem ok79 : cFunc Tryd.prog gl ex Tryd.f79 = some c79 := by kernel_rfl
/-- internal/strconv.numDigits -/
def c80 : AFunc := ⟨15, [.tmp t2],
 (xSeq (xOps [⟨(some t2), oMov (.v (.int .i64 0)), none, none⟩])
 (xSeq (xOps [⟨(some t4), oMov (.t t0), none, none⟩,
   ⟨(some t5), oCall 85 [(.t t4)], none, none⟩,
   ⟨(some t6), oCall 86 [(.t t5)], none, none⟩,
   ⟨(some t3), oMov (.t t6), none, none⟩])
 (xSeq (xOps [⟨(some t7), oMov (.t t3), none, none⟩,
   ⟨(some t8), oMov (.t t0), none, none⟩,
   ⟨(some t9), oMov (.t t3), none, none⟩,
   ⟨(some t10), oIdxAddrA 20 1 (.v (.pointer (some ⟨2, 0, none⟩))) (.t t9), none, none⟩,
   ⟨(some t11), oLoad1 (.t t10), none, (some (.t t10))⟩,
   ⟨(some t12), oBin (int2 (cmpO geI)) (.t t8) (.t t11), none, none⟩,
   ⟨(some t13), oCall 87 [(.t t12)], none, none⟩,
   ⟨(some t14), oBin (int2 addO) (.t t7) (.t t13), none, none⟩,
   ⟨(some t2), oMov (.t t14), none, none⟩])
 xRet)))⟩
theorem ok80 : cFunc Tryd.prog gl ex Tryd.f80 = some c80 := by kernel_rfl
/-- internal/strconv.formatBase10 -/
def c81 : AFunc := ⟨167, [],
 (xSeq (xOps [⟨(some t17), oMov (.t t0), none, none⟩,
   ⟨(some t18), oLenL (.t t17), none, none⟩,
   ⟨(some t4), oMov (.t t18), none, none⟩])
 (xSeq (xBlock 0 (xLoop (xSeq (xSeq (xOps [⟨(some t19), oMov (.t t4), none, none⟩,
   ⟨(some t20), oBin (int2 (cmpO geI)) (.t t19) (.v (.int .i64 8)), none, none⟩])
 (xCond (.t t20)
 xSkip
 (xExit 0)))
 (xBlock 1 (xSeq (xOps [⟨(some t21), oMov (.t t1), none, none⟩,
   ⟨(some t22), oBin (int2 remO) (.t t21) (.v (.int .u64 100000000)), none, none⟩,
   ⟨(some t23), oConv .u32 (.t t22), none, none⟩,
   ⟨(some t5), oMov (.t t23), none, none⟩])
 (xSeq (xOps [⟨(some t24), oMov (.t t1), none, none⟩,
   ⟨(some t25), oBin (int2 quoO) (.t t24) (.v (.int .u64 100000000)), none, none⟩,
   ⟨(some t1), oMov (.t t25), none, none⟩])
 (xSeq (xOps [⟨(some t26), oMov (.t t5), none, none⟩,
   ⟨(some t27), oBin (int2 quoO) (.t t26) (.v (.int .u32 10000)), none, none⟩,
   ⟨(some t28), oMov (.t t5), none, none⟩,
   ⟨(some t29), oBin (int2 remO) (.t t28) (.v (.int .u32 10000)), none, none⟩,
   ⟨(some t6), oMov (.t t27), none, none⟩,
   ⟨(some t7), oMov (.t t29), none, none⟩])
 (xSeq (xOps [⟨(some t30), oMov (.t t7), none, none⟩,
   ⟨(some t31), oBin (int2 quoO) (.t t30) (.v (.int .u32 100)), none, none⟩,
   ⟨(some t32), oBin (int2 mulO) (.t t31) (.v (.int .u32 2)), none, none⟩,
   ⟨(some t33), oMov (.t t7), none, none⟩,
   ⟨(some t34), oBin (int2 remO) (.t t33) (.v (.int .u32 100)), none, none⟩,
   ⟨(some t35), oBin (int2 mulO) (.t t34) (.v (.int .u32 2)), none, none⟩,
   ⟨(some t8), oMov (.t t32), none, none⟩,
   ⟨(some t9), oMov (.t t35), none, none⟩])
 (xSeq (xOps [⟨(some t36), oMov (.t t6), none, none⟩,
   ⟨(some t37), oBin (int2 quoO) (.t t36) (.v (.int .u32 100)), none, none⟩,
   ⟨(some t38), oBin (int2 mulO) (.t t37) (.v (.int .u32 2)), none, none⟩,
   ⟨(some t39), oMov (.t t6), none, none⟩,
   ⟨(some t40), oBin (int2 remO) (.t t39) (.v (.int .u32 100)), none, none⟩,
   ⟨(some t41), oBin (int2 mulO) (.t t40) (.v (.int .u32 2)), none, none⟩,
   ⟨(some t10), oMov (.t t38), none, none⟩,
   ⟨(some t11), oMov (.t t41), none, none⟩])
 (xSeq (xReg [⟨(some t42), oMov (.t t0), none, none⟩,
   ⟨(some t43), oMov (.t t4), none, none⟩,
   ⟨(some t44), oBin (int2 subO) (.t t43) (.v (.int .i64 1)), none, none⟩,
   ⟨(some t45), oMov (.t t0), none, none⟩,
   ⟨(some t46), oMov (.t t4), none, none⟩,
   ⟨(some t47), oBin (int2 subO) (.t t46) (.v (.int .i64 2)), none, none⟩,
   ⟨(some t48), oMov (.t t9), none, none⟩,
   ⟨(some t49), oBin (int2 addO) (.t t48) (.v (.int .u32 1)), none, none⟩,
   ⟨(some t50), oIdxS (.v (.string ⟨⟨[48, 48, 48, 49, 48, 50, 48, 51, 48, 52, 48, 53, 48, 54, 48, 55, 48, 56, 48, 57, 49, 48, 49, 49, 49, 50, 49, 51, 49, 52, 49, 53, 49, 54, 49, 55, 49, 56, 49, 57, 50, 48, 50, 49, 50, 50, 50, 51, 50, 52, 50, 53, 50, 54, 50, 55, 50, 56, 50, 57, 51, 48, 51, 49, 51, 50, 51, 51, 51, 52, 51, 53, 51, 54, 51, 55, 51, 56, 51, 57, 52, 48, 52, 49, 52, 50, 52, 51, 52, 52, 52, 53, 52, 54, 52, 55, 52, 56, 52, 57, 53, 48, 53, 49, 53, 50, 53, 51, 53, 52, 53, 53, 53, 54, 53, 55, 53, 56, 53, 57, 54, 48, 54, 49, 54, 50, 54, 51, 54, 52, 54, 53, 54, 54, 54, 55, 54, 56, 54, 57, 55, 48, 55, 49, 55, 50, 55, 51, 55, 52, 55, 53, 55, 54, 55, 55, 55, 56, 55, 57, 56, 48, 56, 49, 56, 50, 56, 51, 56, 52, 56, 53, 56, 54, 56, 55, 56, 56, 56, 57, 57, 48, 57, 49, 57, 50, 57, 51, 57, 52, 57, 53, 57, 54, 57, 55, 57, 56, 57, 57]⟩⟩)) (.t t49), none, none⟩,
   ⟨(some t51), oMov (.t t9), none, none⟩,
   ⟨(some t52), oIdxS (.v (.string ⟨⟨[48, 48, 48, 49, 48, 50, 48, 51, 48, 52, 48, 53, 48, 54, 48, 55, 48, 56, 48, 57, 49, 48, 49, 49, 49, 50, 49, 51, 49, 52, 49, 53, 49, 54, 49, 55, 49, 56, 49, 57, 50, 48, 50, 49, 50, 50, 50, 51, 50, 52, 50, 53, 50, 54, 50, 55, 50, 56, 50, 57, 51, 48, 51, 49, 51, 50, 51, 51, 51, 52, 51, 53, 51, 54, 51, 55, 51, 56, 51, 57, 52, 48, 52, 49, 52, 50, 52, 51, 52, 52, 52, 53, 52, 54, 52, 55, 52, 56, 52, 57, 53, 48, 53, 49, 53, 50, 53, 51, 53, 52, 53, 53, 53, 54, 53, 55, 53, 56, 53, 57, 54, 48, 54, 49, 54, 50, 54, 51, 54, 52, 54, 53, 54, 54, 54, 55, 54, 56, 54, 57, 55, 48, 55, 49, 55, 50, 55, 51, 55, 52, 55, 53, 55, 54, 55, 55, 55, 56, 55, 57, 56, 48, 56, 49, 56, 50, 56, 51, 56, 52, 56, 53, 56, 54, 56, 55, 56, 56, 56, 57, 57, 48, 57, 49, 57, 50, 57, 51, 57, 52, 57, 53, 57, 54, 57, 55, 57, 56, 57, 57]⟩⟩)) (.t t51), none, none⟩,
   ⟨(some t53), oIdxAddrL 1 (.t t42) (.t t44), none, none⟩,
   ⟨none, oStore 1 (.t t53) (.t t50), none, none⟩,
   ⟨(some t54), oIdxAddrL 1 (.t t45) (.t t47), none, none⟩,
   ⟨none, oStore 1 (.t t54) (.t t52), none, none⟩] [(0, 1), (0, 2), (0, 3), (1, 3), (2, 3), (0, 4), (1, 4), (2, 4), (3, 4), (0, 5), (1, 5), (2, 5), (3, 5), (0, 6), (1, 6), (2, 6), (3, 6), (4, 6), (5, 6), (0, 7), (1, 7), (2, 7), (3, 7), (4, 7), (5, 7), (0, 8), (1, 8), (2, 8), (3, 8), (4, 8), (5, 8), (0, 9), (1, 9), (2, 9), (3, 9), (4, 9), (5, 9), (6, 9), (7, 9), (8, 9), (0, 10), (1, 10), (2, 10), (3, 10), (4, 10), (5, 10), (6, 10), (7, 10), (8, 10), (3, 11), (4, 11), (5, 11), (9, 11), (10, 11), (3, 12), (4, 12), (5, 12), (9, 12), (10, 12)])
 (xSeq (xReg [⟨(some t55), oMov (.t t0), none, none⟩,
   ⟨(some t56), oMov (.t t4), none, none⟩,
   ⟨(some t57), oBin (int2 subO) (.t t56) (.v (.int .i64 3)), none, none⟩,
   ⟨(some t58), oMov (.t t0), none, none⟩,
   ⟨(some t59), oMov (.t t4), none, none⟩,
   ⟨(some t60), oBin (int2 subO) (.t t59) (.v (.int .i64 4)), none, none⟩,
   ⟨(some t61), oMov (.t t8), none, none⟩,
   ⟨(some t62), oBin (int2 addO) (.t t61) (.v (.int .u32 1)), none, none⟩,
   ⟨(some t63), oIdxS (.v (.string ⟨⟨[48, 48, 48, 49, 48, 50, 48, 51, 48, 52, 48, 53, 48, 54, 48, 55, 48, 56, 48, 57, 49, 48, 49, 49, 49, 50, 49, 51, 49, 52, 49, 53, 49, 54, 49, 55, 49, 56, 49, 57, 50, 48, 50, 49, 50, 50, 50, 51, 50, 52, 50, 53, 50, 54, 50, 55, 50, 56, 50, 57, 51, 48, 51, 49, 51, 50, 51, 51, 51, 52, 51, 53, 51, 54, 51, 55, 51, 56, 51, 57, 52, 48, 52, 49, 52, 50, 52, 51, 52, 52, 52, 53, 52, 54, 52, 55, 52, 56, 52, 57, 53, 48, 53, 49, 53, 50, 53, 51, 53, 52, 53, 53, 53, 54, 53, 55, 53, 56, 53, 57, 54, 48, 54, 49, 54, 50, 54, 51, 54, 52, 54, 53, 54, 54, 54, 55, 54, 56, 54, 57, 55, 48, 55, 49, 55, 50, 55, 51, 55, 52, 55, 53, 55, 54, 55, 55, 55, 56, 55, 57, 56, 48, 56, 49, 56, 50, 56, 51, 56, 52, 56, 53, 56, 54, 56, 55, 56, 56, 56, 57, 57, 48, 57, 49, 57, 50, 57, 51, 57, 52, 57, 53, 57, 54, 57, 55, 57, 56, 57, 57]⟩⟩)) (.t t62), none, none⟩,
   ⟨(some t64), oMov (.t t8), none, none⟩,
   ⟨(some t65), oIdxS (.v (.string ⟨⟨[48, 48, 48, 49, 48, 50, 48, 51, 48, 52, 48, 53, 48, 54, 48, 55, 48, 56, 48, 57, 49, 48, 49, 49, 49, 50, 49, 51, 49, 52, 49, 53, 49, 54, 49, 55, 49, 56, 49, 57, 50, 48, 50, 49, 50, 50, 50, 51, 50, 52, 50, 53, 50, 54, 50, 55, 50, 56, 50, 57, 51, 48, 51, 49, 51, 50, 51, 51, 51, 52, 51, 53, 51, 54, 51, 55, 51, 56, 51, 57, 52, 48, 52, 49, 52, 50, 52, 51, 52, 52, 52, 53, 52, 54, 52, 55, 52, 56, 52, 57, 53, 48, 53, 49, 53, 50, 53, 51, 53, 52, 53, 53, 53, 54, 53, 55, 53, 56, 53, 57, 54, 48, 54, 49, 54, 50, 54, 51, 54, 52, 54, 53, 54, 54, 54, 55, 54, 56, 54, 57, 55, 48, 55, 49, 55, 50, 55, 51, 55, 52, 55, 53, 55, 54, 55, 55, 55, 56, 55, 57, 56, 48, 56, 49, 56, 50, 56, 51, 56, 52, 56, 53, 56, 54, 56, 55, 56, 56, 56, 57, 57, 48, 57, 49, 57, 50, 57, 51, 57, 52, 57, 53, 57, 54, 57, 55, 57, 56, 57, 57]⟩⟩)) (.t t64), none, none⟩,
   ⟨(some t66), oIdxAddrL 1 (.t t55) (.t t57), none, none⟩,
   ⟨none, oStore 1 (.t t66) (.t t63), none, none⟩,
   ⟨(some t67), oIdxAddrL 1 (.t t58) (.t t60), none, none⟩,
   ⟨none, oStore 1 (.t t67) (.t t65), none, none⟩] [(0, 1), (0, 2), (0, 3), (1, 3), (2, 3), (0, 4), (1, 4), (2, 4), (3, 4), (0, 5), (1, 5), (2, 5), (3, 5), (0, 6), (1, 6), (2, 6), (3, 6), (4, 6), (5, 6), (0, 7), (1, 7), (2, 7), (3, 7), (4, 7), (5, 7), (0, 8), (1, 8), (2, 8), (3, 8), (4, 8), (5, 8), (0, 9), (1, 9), (2, 9), (3, 9), (4, 9), (5, 9), (6, 9), (7, 9), (8, 9), (0, 10), (1, 10), (2, 10), (3, 10), (4, 10), (5, 10), (6, 10), (7, 10), (8, 10), (3, 11), (4, 11), (5, 11), (9, 11), (10, 11), (3, 12), (4, 12), (5, 12), (9, 12), (10, 12)])
 (xSeq (xReg [⟨(some t68), oMov (.t t0), none, none⟩,
   ⟨(some t69), oMov (.t t4), none, none⟩,
   ⟨(some t70), oBin (int2 subO) (.t t69) (.v (.int .i64 5)), none, none⟩,
   ⟨(some t71), oMov (.t t0), none, none⟩,
   ⟨(some t72), oMov (.t t4), none, none⟩,
   ⟨(some t73), oBin (int2 subO) (.t t72) (.v (.int .i64 6)), none, none⟩,
   ⟨(some t74), oMov (.t t11), none, none⟩,
   ⟨(some t75), oBin (int2 addO) (.t t74) (.v (.int .u32 1)), none, none⟩,
   ⟨(some t76), oIdxS (.v (.string ⟨⟨[48, 48, 48, 49, 48, 50, 48, 51, 48, 52, 48, 53, 48, 54, 48, 55, 48, 56, 48, 57, 49, 48, 49, 49, 49, 50, 49, 51, 49, 52, 49, 53, 49, 54, 49, 55, 49, 56, 49, 57, 50, 48, 50, 49, 50, 50, 50, 51, 50, 52, 50, 53, 50, 54, 50, 55, 50, 56, 50, 57, 51, 48, 51, 49, 51, 50, 51, 51, 51, 52, 51, 53, 51, 54, 51, 55, 51, 56, 51, 57, 52, 48, 52, 49, 52, 50, 52, 51, 52, 52, 52, 53, 52, 54, 52, 55, 52, 56, 52, 57, 53, 48, 53, 49, 53, 50, 53, 51, 53, 52, 53, 53, 53, 54, 53, 55, 53, 56, 53, 57, 54, 48, 54, 49, 54, 50, 54, 51, 54, 52, 54, 53, 54, 54, 54, 55, 54, 56, 54, 57, 55, 48, 55, 49, 55, 50, 55, 51, 55, 52, 55, 53, 55, 54, 55, 55, 55, 56, 55, 57, 56, 48, 56, 49, 56, 50, 56, 51, 56, 52, 56, 53, 56, 54, 56, 55, 56, 56, 56, 57, 57, 48, 57, 49, 57, 50, 57, 51, 57, 52, 57, 53, 57, 54, 57, 55, 57, 56, 57, 57]⟩⟩)) (.t t75), none, none⟩,
   ⟨(some t77), oMov (.t t11), none, none⟩,
   ⟨(some t78), oIdxS (.v (.string ⟨⟨[48, 48, 48, 49, 48, 50, 48, 51, 48, 52, 48, 53, 48, 54, 48, 55, 48, 56, 48, 57, 49, 48, 49, 49, 49, 50, 49, 51, 49, 52, 49, 53, 49, 54, 49, 55, 49, 56, 49, 57, 50, 48, 50, 49, 50, 50, 50, 51, 50, 52, 50, 53, 50, 54, 50, 55, 50, 56, 50, 57, 51, 48, 51, 49, 51, 50, 51, 51, 51, 52, 51, 53, 51, 54, 51, 55, 51, 56, 51, 57, 52, 48, 52, 49, 52, 50, 52, 51, 52, 52, 52, 53, 52, 54, 52, 55, 52, 56, 52, 57, 53, 48, 53, 49, 53, 50, 53, 51, 53, 52, 53, 53, 53, 54, 53, 55, 53, 56, 53, 57, 54, 48, 54, 49, 54, 50, 54, 51, 54, 52, 54, 53, 54, 54, 54, 55, 54, 56, 54, 57, 55, 48, 55, 49, 55, 50, 55, 51, 55, 52, 55, 53, 55, 54, 55, 55, 55, 56, 55, 57, 56, 48, 56, 49, 56, 50, 56, 51, 56, 52, 56, 53, 56, 54, 56, 55, 56, 56, 56, 57, 57, 48, 57, 49, 57, 50, 57, 51, 57, 52, 57, 53, 57, 54, 57, 55, 57, 56, 57, 57]⟩⟩)) (.t t77), none, none⟩,
   ⟨(some t79), oIdxAddrL 1 (.t t68) (.t t70), none, none⟩,
   ⟨none, oStore 1 (.t t79) (.t t76), none, none⟩,
   ⟨(some t80), oIdxAddrL 1 (.t t71) (.t t73), none, none⟩,
   ⟨none, oStore 1 (.t t80) (.t t78), none, none⟩] [(0, 1), (0, 2), (0, 3), (1, 3), (2, 3), (0, 4), (1, 4), (2, 4), (3, 4), (0, 5), (1, 5), (2, 5), (3, 5), (0, 6), (1, 6), (2, 6), (3, 6), (4, 6), (5, 6), (0, 7), (1, 7), (2, 7), (3, 7), (4, 7), (5, 7), (0, 8), (1, 8), (2, 8), (3, 8), (4, 8), (5, 8), (0, 9), (1, 9), (2, 9), (3, 9), (4, 9), (5, 9), (6, 9), (7, 9), (8, 9), (0, 10), (1, 10), (2, 10), (3, 10), (4, 10), (5, 10), (6, 10), (7, 10), (8, 10), (3, 11), (4, 11), (5, 11), (9, 11), (10, 11), (3, 12), (4, 12), (5, 12), (9, 12), (10, 12)])
 (xSeq (xReg [⟨(some t81), oMov (.t t0), none, none⟩,
   ⟨(some t82), oMov (.t t4), none, none⟩,
   ⟨(some t83), oBin (int2 subO) (.t t82) (.v (.int .i64 7)), none, none⟩,
   ⟨(some t84), oMov (.t t0), none, none⟩,
   ⟨(some t85), oMov (.t t4), none, none⟩,
   ⟨(some t86), oBin (int2 subO) (.t t85) (.v (.int .i64 8)), none, none⟩,
   ⟨(some t87), oMov (.t t10), none, none⟩,
   ⟨(some t88), oBin (int2 addO) (.t t87) (.v (.int .u32 1)), none, none⟩,
   ⟨(some t89), oIdxS (.v (.string ⟨⟨[48, 48, 48, 49, 48, 50, 48, 51, 48, 52, 48, 53, 48, 54, 48, 55, 48, 56, 48, 57, 49, 48, 49, 49, 49, 50, 49, 51, 49, 52, 49, 53, 49, 54, 49, 55, 49, 56, 49, 57, 50, 48, 50, 49, 50, 50, 50, 51, 50, 52, 50, 53, 50, 54, 50, 55, 50, 56, 50, 57, 51, 48, 51, 49, 51, 50, 51, 51, 51, 52, 51, 53, 51, 54, 51, 55, 51, 56, 51, 57, 52, 48, 52, 49, 52, 50, 52, 51, 52, 52, 52, 53, 52, 54, 52, 55, 52, 56, 52, 57, 53, 48, 53, 49, 53, 50, 53, 51, 53, 52, 53, 53, 53, 54, 53, 55, 53, 56, 53, 57, 54, 48, 54, 49, 54, 50, 54, 51, 54, 52, 54, 53, 54, 54, 54, 55, 54, 56, 54, 57, 55, 48, 55, 49, 55, 50, 55, 51, 55, 52, 55, 53, 55, 54, 55, 55, 55, 56, 55, 57, 56, 48, 56, 49, 56, 50, 56, 51, 56, 52, 56, 53, 56, 54, 56, 55, 56, 56, 56, 57, 57, 48, 57, 49, 57, 50, 57, 51, 57, 52, 57, 53, 57, 54, 57, 55, 57, 56, 57, 57]⟩⟩)) (.t t88), none, none⟩,
   ⟨(some t90), oMov (.t t10), none, none⟩,
   ⟨(some t91), oIdxS (.v (.string ⟨⟨[48, 48, 48, 49, 48, 50, 48, 51, 48, 52, 48, 53, 48, 54, 48, 55, 48, 56, 48, 57, 49, 48, 49, 49, 49, 50, 49, 51, 49, 52, 49, 53, 49, 54, 49, 55, 49, 56, 49, 57, 50, 48, 50, 49, 50, 50, 50, 51, 50, 52, 50, 53, 50, 54, 50, 55, 50, 56, 50, 57, 51, 48, 51, 49, 51, 50, 51, 51, 51, 52, 51, 53, 51, 54, 51, 55, 51, 56, 51, 57, 52, 48, 52, 49, 52, 50, 52, 51, 52, 52, 52, 53, 52, 54, 52, 55, 52, 56, 52, 57, 53, 48, 53, 49, 53, 50, 53, 51, 53, 52, 53, 53, 53, 54, 53, 55, 53, 56, 53, 57, 54, 48, 54, 49, 54, 50, 54, 51, 54, 52, 54, 53, 54, 54, 54, 55, 54, 56, 54, 57, 55, 48, 55, 49, 55, 50, 55, 51, 55, 52, 55, 53, 55, 54, 55, 55, 55, 56, 55, 57, 56, 48, 56, 49, 56, 50, 56, 51, 56, 52, 56, 53, 56, 54, 56, 55, 56, 56, 56, 57, 57, 48, 57, 49, 57, 50, 57, 51, 57, 52, 57, 53, 57, 54, 57, 55, 57, 56, 57, 57]⟩⟩)) (.t t90), none, none⟩,
   ⟨(some t92), oIdxAddrL 1 (.t t81) (.t t83), none, none⟩,
   ⟨none, oStore 1 (.t t92) (.t t89), none, none⟩,
   ⟨(some t93), oIdxAddrL 1 (.t t84) (.t t86), none, none⟩,
   ⟨none, oStore 1 (.t t93) (.t t91), none, none⟩] [(0, 1), (0, 2), (0, 3), (1, 3), (2, 3), (0, 4), (1, 4), (2, 4), (3, 4), (0, 5), (1, 5), (2, 5), (3, 5), (0, 6), (1, 6), (2, 6), (3, 6), (4, 6), (5, 6), (0, 7), (1, 7), (2, 7), (3, 7), (4, 7), (5, 7), (0, 8), (1, 8), (2, 8), (3, 8), (4, 8), (5, 8), (0, 9), (1, 9), (2, 9), (3, 9), (4, 9), (5, 9), (6, 9), (7, 9), (8, 9), (0, 10), (1, 10), (2, 10), (3, 10), (4, 10), (5, 10), (6, 10), (7, 10), (8, 10), (3, 11), (4, 11), (5, 11), (9, 11), (10, 11), (3, 12), (4, 12), (5, 12), (9, 12), (10, 12)])
 (xOps [⟨(some t94), oMov (.t t4), none, none⟩,
   ⟨(some t95), oBin (int2 subO) (.t t94) (.v (.int .i64 8)), none, none⟩,
   ⟨(some t4), oMov (.t t95), none, none⟩]))))))))))))))
 (xSeq (xOps [⟨(some t96), oMov (.t t1), none, none⟩,
   ⟨(some t97), oConv .u32 (.t t96), none, none⟩,
   ⟨(some t12), oMov (.t t97), none, none⟩])
 (xSeq (xSeq (xOps [⟨(some t98), oMov (.t t4), none, none⟩,
   ⟨(some t99), oBin (int2 (cmpO geI)) (.t t98) (.v (.int .i64 4)), none, none⟩])
 (xCond (.t t99)
 (xSeq (xOps [⟨(some t100), oMov (.t t12), none, none⟩,
   ⟨(some t101), oBin (int2 remO) (.t t100) (.v (.int .u32 10000)), none, none⟩,
   ⟨(some t13), oMov (.t t101), none, none⟩])
 (xSeq (xOps [⟨(some t102), oMov (.t t12), none, none⟩,
   ⟨(some t103), oBin (int2 quoO) (.t t102) (.v (.int .u32 10000)), none, none⟩,
   ⟨(some t12), oMov (.t t103), none, none⟩])
 (xSeq (xOps [⟨(some t104), oMov (.t t13), none, none⟩,
   ⟨(some t105), oBin (int2 quoO) (.t t104) (.v (.int .u32 100)), none, none⟩,
   ⟨(some t106), oBin (int2 mulO) (.t t105) (.v (.int .u32 2)), none, none⟩,
   ⟨(some t107), oMov (.t t13), none, none⟩,
   ⟨(some t108), oBin (int2 remO) (.t t107) (.v (.int .u32 100)), none, none⟩,
   ⟨(some t109), oBin (int2 mulO) (.t t108) (.v (.int .u32 2)), none, none⟩,
   ⟨(some t14), oMov (.t t106), none, none⟩,
   ⟨(some t15), oMov (.t t109), none, none⟩])
 (xSeq (xReg [⟨(some t110), oMov (.t t0), none, none⟩,
   ⟨(some t111), oMov (.t t4), none, none⟩,
   ⟨(some t112), oBin (int2 subO) (.t t111) (.v (.int .i64 1)), none, none⟩,
   ⟨(some t113), oMov (.t t0), none, none⟩,
   ⟨(some t114), oMov (.t t4), none, none⟩,
   ⟨(some t115), oBin (int2 subO) (.t t114) (.v (.int .i64 2)), none, none⟩,
   ⟨(some t116), oMov (.t t15), none, none⟩,
   ⟨(some t117), oBin (int2 addO) (.t t116) (.v (.int .u32 1)), none, none⟩,
   ⟨(some t118), oIdxS (.v (.string ⟨⟨[48, 48, 48, 49, 48, 50, 48, 51, 48, 52, 48, 53, 48, 54, 48, 55, 48, 56, 48, 57, 49, 48, 49, 49, 49, 50, 49, 51, 49, 52, 49, 53, 49, 54, 49, 55, 49, 56, 49, 57, 50, 48, 50, 49, 50, 50, 50, 51, 50, 52, 50, 53, 50, 54, 50, 55, 50, 56, 50, 57, 51, 48, 51, 49, 51, 50, 51, 51, 51, 52, 51, 53, 51, 54, 51, 55, 51, 56, 51, 57, 52, 48, 52, 49, 52, 50, 52, 51, 52, 52, 52, 53, 52, 54, 52, 55, 52, 56, 52, 57, 53, 48, 53, 49, 53, 50, 53, 51, 53, 52, 53, 53, 53, 54, 53, 55, 53, 56, 53, 57, 54, 48, 54, 49, 54, 50, 54, 51, 54, 52, 54, 53, 54, 54, 54, 55, 54, 56, 54, 57, 55, 48, 55, 49, 55, 50, 55, 51, 55, 52, 55, 53, 55, 54, 55, 55, 55, 56, 55, 57, 56, 48, 56, 49, 56, 50, 56, 51, 56, 52, 56, 53, 56, 54, 56, 55, 56, 56, 56, 57, 57, 48, 57, 49, 57, 50, 57, 51, 57, 52, 57, 53, 57, 54, 57, 55, 57, 56, 57, 57]⟩⟩)) (.t t117), none, none⟩,
   ⟨(some t119), oMov (.t t15), none, none⟩,
   ⟨(some t120), oIdxS (.v (.string ⟨⟨[48, 48, 48, 49, 48, 50, 48, 51, 48, 52, 48, 53, 48, 54, 48, 55, 48, 56, 48, 57, 49, 48, 49, 49, 49, 50, 49, 51, 49, 52, 49, 53, 49, 54, 49, 55, 49, 56, 49, 57, 50, 48, 50, 49, 50, 50, 50, 51, 50, 52, 50, 53, 50, 54, 50, 55, 50, 56, 50, 57, 51, 48, 51, 49, 51, 50, 51, 51, 51, 52, 51, 53, 51, 54, 51, 55, 51, 56, 51, 57, 52, 48, 52, 49, 52, 50, 52, 51, 52, 52, 52, 53, 52, 54, 52, 55, 52, 56, 52, 57, 53, 48, 53, 49, 53, 50, 53, 51, 53, 52, 53, 53, 53, 54, 53, 55, 53, 56, 53, 57, 54, 48, 54, 49, 54, 50, 54, 51, 54, 52, 54, 53, 54, 54, 54, 55, 54, 56, 54, 57, 55, 48, 55, 49, 55, 50, 55, 51, 55, 52, 55, 53, 55, 54, 55, 55, 55, 56, 55, 57, 56, 48, 56, 49, 56, 50, 56, 51, 56, 52, 56, 53, 56, 54, 56, 55, 56, 56, 56, 57, 57, 48, 57, 49, 57, 50, 57, 51, 57, 52, 57, 53, 57, 54, 57, 55, 57, 56, 57, 57]⟩⟩)) (.t t119), none, none⟩,
   ⟨(some t121), oIdxAddrL 1 (.t t110) (.t t112), none, none⟩,
   ⟨none, oStore 1 (.t t121) (.t t118), none, none⟩,
   ⟨(some t122), oIdxAddrL 1 (.t t113) (.t t115), none, none⟩,
   ⟨none, oStore 1 (.t t122) (.t t120), none, none⟩] [(0, 1), (0, 2), (0, 3), (1, 3), (2, 3), (0, 4), (1, 4), (2, 4), (3, 4), (0, 5), (1, 5), (2, 5), (3, 5), (0, 6), (1, 6), (2, 6), (3, 6), (4, 6), (5, 6), (0, 7), (1, 7), (2, 7), (3, 7), (4, 7), (5, 7), (0, 8), (1, 8), (2, 8), (3, 8), (4, 8), (5, 8), (0, 9), (1, 9), (2, 9), (3, 9), (4, 9), (5, 9), (6, 9), (7, 9), (8, 9), (0, 10), (1, 10), (2, 10), (3, 10), (4, 10), (5, 10), (6, 10), (7, 10), (8, 10), (3, 11), (4, 11), (5, 11), (9, 11), (10, 11), (3, 12), (4, 12), (5, 12), (9, 12), (10, 12)])
 (xSeq (xReg [⟨(some t123), oMov (.t t0), none, none⟩,
   ⟨(some t124), oMov (.t t4), none, none⟩,
   ⟨(some t125), oBin (int2 subO) (.t t124) (.v (.int .i64 3)), none, none⟩,
   ⟨(some t126), oMov (.t t0), none, none⟩,
   ⟨(some t127), oMov (.t t4), none, none⟩,
   ⟨(some t128), oBin (int2 subO) (.t t127) (.v (.int .i64 4)), none, none⟩,
   ⟨(some t129), oMov (.t t14), none, none⟩,
   ⟨(some t130), oBin (int2 addO) (.t t129) (.v (.int .u32 1)), none, none⟩,
   ⟨(some t131), oIdxS (.v (.string ⟨⟨[48, 48, 48, 49, 48, 50, 48, 51, 48, 52, 48, 53, 48, 54, 48, 55, 48, 56, 48, 57, 49, 48, 49, 49, 49, 50, 49, 51, 49, 52, 49, 53, 49, 54, 49, 55, 49, 56, 49, 57, 50, 48, 50, 49, 50, 50, 50, 51, 50, 52, 50, 53, 50, 54, 50, 55, 50, 56, 50, 57, 51, 48, 51, 49, 51, 50, 51, 51, 51, 52, 51, 53, 51, 54, 51, 55, 51, 56, 51, 57, 52, 48, 52, 49, 52, 50, 52, 51, 52, 52, 52, 53, 52, 54, 52, 55, 52, 56, 52, 57, 53, 48, 53, 49, 53, 50, 53, 51, 53, 52, 53, 53, 53, 54, 53, 55, 53, 56, 53, 57, 54, 48, 54, 49, 54, 50, 54, 51, 54, 52, 54, 53, 54, 54, 54, 55, 54, 56, 54, 57, 55, 48, 55, 49, 55, 50, 55, 51, 55, 52, 55, 53, 55, 54, 55, 55, 55, 56, 55, 57, 56, 48, 56, 49, 56, 50, 56, 51, 56, 52, 56, 53, 56, 54, 56, 55, 56, 56, 56, 57, 57, 48, 57, 49, 57, 50, 57, 51, 57, 52, 57, 53, 57, 54, 57, 55, 57, 56, 57, 57]⟩⟩)) (.t t130), none, none⟩,
   ⟨(some t132), oMov (.t t14), none, none⟩,
   ⟨(some t133), oIdxS (.v (.string ⟨⟨[48, 48, 48, 49, 48, 50, 48, 51, 48, 52, 48, 53, 48, 54, 48, 55, 48, 56, 48, 57, 49, 48, 49, 49, 49, 50, 49, 51, 49, 52, 49, 53, 49, 54, 49, 55, 49, 56, 49, 57, 50, 48, 50, 49, 50, 50, 50, 51, 50, 52, 50, 53, 50, 54, 50, 55, 50, 56, 50, 57, 51, 48, 51, 49, 51, 50, 51, 51, 51, 52, 51, 53, 51, 54, 51, 55, 51, 56, 51, 57, 52, 48, 52, 49, 52, 50, 52, 51, 52, 52, 52, 53, 52, 54, 52, 55, 52, 56, 52, 57, 53, 48, 53, 49, 53, 50, 53, 51, 53, 52, 53, 53, 53, 54, 53, 55, 53, 56, 53, 57, 54, 48, 54, 49, 54, 50, 54, 51, 54, 52, 54, 53, 54, 54, 54, 55, 54, 56, 54, 57, 55, 48, 55, 49, 55, 50, 55, 51, 55, 52, 55, 53, 55, 54, 55, 55, 55, 56, 55, 57, 56, 48, 56, 49, 56, 50, 56, 51, 56, 52, 56, 53, 56, 54, 56, 55, 56, 56, 56, 57, 57, 48, 57, 49, 57, 50, 57, 51, 57, 52, 57, 53, 57, 54, 57, 55, 57, 56, 57, 57]⟩⟩)) (.t t132), none, none⟩,
   ⟨(some t134), oIdxAddrL 1 (.t t123) (.t t125), none, none⟩,
   ⟨none, oStore 1 (.t t134) (.t t131), none, none⟩,
   ⟨(some t135), oIdxAddrL 1 (.t t126) (.t t128), none, none⟩,
   ⟨none, oStore 1 (.t t135) (.t t133), none, none⟩] [(0, 1), (0, 2), (0, 3), (1, 3), (2, 3), (0, 4), (1, 4), (2, 4), (3, 4), (0, 5), (1, 5), (2, 5), (3, 5), (0, 6), (1, 6), (2, 6), (3, 6), (4, 6), (5, 6), (0, 7), (1, 7), (2, 7), (3, 7), (4, 7), (5, 7), (0, 8), (1, 8), (2, 8), (3, 8), (4, 8), (5, 8), (0, 9), (1, 9), (2, 9), (3, 9), (4, 9), (5, 9), (6, 9), (7, 9), (8, 9), (0, 10), (1, 10), (2, 10), (3, 10), (4, 10), (5, 10), (6, 10), (7, 10), (8, 10), (3, 11), (4, 11), (5, 11), (9, 11), (10, 11), (3, 12), (4, 12), (5, 12), (9, 12), (10, 12)])
 (xOps [⟨(some t136), oMov (.t t4), none, none⟩,
   ⟨(some t137), oBin (int2 subO) (.t t136) (.v (.int .i64 4)), none, none⟩,
   ⟨(some t4), oMov (.t t137), none, none⟩]))))))
 xSkip))
 (xSeq (xSeq (xOps [⟨(some t138), oMov (.t t4), none, none⟩,
   ⟨(some t139), oBin (int2 (cmpO geI)) (.t t138) (.v (.int .i64 2)), none, none⟩])
 (xCond (.t t139)
 (xSeq (xOps [⟨(some t140), oMov (.t t12), none, none⟩,
   ⟨(some t141), oBin (int2 remO) (.t t140) (.v (.int .u32 100)), none, none⟩,
   ⟨(some t142), oBin (int2 mulO) (.t t141) (.v (.int .u32 2)), none, none⟩,
   ⟨(some t16), oMov (.t t142), none, none⟩])
 (xSeq (xOps [⟨(some t143), oMov (.t t12), none, none⟩,
   ⟨(some t144), oBin (int2 quoO) (.t t143) (.v (.int .u32 100)), none, none⟩,
   ⟨(some t12), oMov (.t t144), none, none⟩])
 (xSeq (xReg [⟨(some t145), oMov (.t t0), none, none⟩,
   ⟨(some t146), oMov (.t t4), none, none⟩,
   ⟨(some t147), oBin (int2 subO) (.t t146) (.v (.int .i64 1)), none, none⟩,
   ⟨(some t148), oMov (.t t0), none, none⟩,
   ⟨(some t149), oMov (.t t4), none, none⟩,
   ⟨(some t150), oBin (int2 subO) (.t t149) (.v (.int .i64 2)), none, none⟩,
   ⟨(some t151), oMov (.t t16), none, none⟩,
   ⟨(some t152), oBin (int2 addO) (.t t151) (.v (.int .u32 1)), none, none⟩,
   ⟨(some t153), oIdxS (.v (.string ⟨⟨[48, 48, 48, 49, 48, 50, 48, 51, 48, 52, 48, 53, 48, 54, 48, 55, 48, 56, 48, 57, 49, 48, 49, 49, 49, 50, 49, 51, 49, 52, 49, 53, 49, 54, 49, 55, 49, 56, 49, 57, 50, 48, 50, 49, 50, 50, 50, 51, 50, 52, 50, 53, 50, 54, 50, 55, 50, 56, 50, 57, 51, 48, 51, 49, 51, 50, 51, 51, 51, 52, 51, 53, 51, 54, 51, 55, 51, 56, 51, 57, 52, 48, 52, 49, 52, 50, 52, 51, 52, 52, 52, 53, 52, 54, 52, 55, 52, 56, 52, 57, 53, 48, 53, 49, 53, 50, 53, 51, 53, 52, 53, 53, 53, 54, 53, 55, 53, 56, 53, 57, 54, 48, 54, 49, 54, 50, 54, 51, 54, 52, 54, 53, 54, 54, 54, 55, 54, 56, 54, 57, 55, 48, 55, 49, 55, 50, 55, 51, 55, 52, 55, 53, 55, 54, 55, 55, 55, 56, 55, 57, 56, 48, 56, 49, 56, 50, 56, 51, 56, 52, 56, 53, 56, 54, 56, 55, 56, 56, 56, 57, 57, 48, 57, 49, 57, 50, 57, 51, 57, 52, 57, 53, 57, 54, 57, 55, 57, 56, 57, 57]⟩⟩)) (.t t152), none, none⟩,
   ⟨(some t154), oMov (.t t16), none, none⟩,
   ⟨(some t155), oIdxS (.v (.string ⟨⟨[48, 48, 48, 49, 48, 50, 48, 51, 48, 52, 48, 53, 48, 54, 48, 55, 48, 56, 48, 57, 49, 48, 49, 49, 49, 50, 49, 51, 49, 52, 49, 53, 49, 54, 49, 55, 49, 56, 49, 57, 50, 48, 50, 49, 50, 50, 50, 51, 50, 52, 50, 53, 50, 54, 50, 55, 50, 56, 50, 57, 51, 48, 51, 49, 51, 50, 51, 51, 51, 52, 51, 53, 51, 54, 51, 55, 51, 56, 51, 57, 52, 48, 52, 49, 52, 50, 52, 51, 52, 52, 52, 53, 52, 54, 52, 55, 52, 56, 52, 57, 53, 48, 53, 49, 53, 50, 53, 51, 53, 52, 53, 53, 53, 54, 53, 55, 53, 56, 53, 57, 54, 48, 54, 49, 54, 50, 54, 51, 54, 52, 54, 53, 54, 54, 54, 55, 54, 56, 54, 57, 55, 48, 55, 49, 55, 50, 55, 51, 55, 52, 55, 53, 55, 54, 55, 55, 55, 56, 55, 57, 56, 48, 56, 49, 56, 50, 56, 51, 56, 52, 56, 53, 56, 54, 56, 55, 56, 56, 56, 57, 57, 48, 57, 49, 57, 50, 57, 51, 57, 52, 57, 53, 57, 54, 57, 55, 57, 56, 57, 57]⟩⟩)) (.t t154), none, none⟩,
   ⟨(some t156), oIdxAddrL 1 (.t t145) (.t t147), none, none⟩,
   ⟨none, oStore 1 (.t t156) (.t t153), none, none⟩,
   ⟨(some t157), oIdxAddrL 1 (.t t148) (.t t150), none, none⟩,
   ⟨none, oStore 1 (.t t157) (.t t155), none, none⟩] [(0, 1), (0, 2), (0, 3), (1, 3), (2, 3), (0, 4), (1, 4), (2, 4), (3, 4), (0, 5), (1, 5), (2, 5), (3, 5), (0, 6), (1, 6), (2, 6), (3, 6), (4, 6), (5, 6), (0, 7), (1, 7), (2, 7), (3, 7), (4, 7), (5, 7), (0, 8), (1, 8), (2, 8), (3, 8), (4, 8), (5, 8), (0, 9), (1, 9), (2, 9), (3, 9), (4, 9), (5, 9), (6, 9), (7, 9), (8, 9), (0, 10), (1, 10), (2, 10), (3, 10), (4, 10), (5, 10), (6, 10), (7, 10), (8, 10), (3, 11), (4, 11), (5, 11), (9, 11), (10, 11), (3, 12), (4, 12), (5, 12), (9, 12), (10, 12)])
 (xOps [⟨(some t158), oMov (.t t4), none, none⟩,
   ⟨(some t159), oBin (int2 subO) (.t t158) (.v (.int .i64 2)), none, none⟩,
   ⟨(some t4), oMov (.t t159), none, none⟩]))))
 xSkip))
 (xSeq (xOps [⟨(some t160), oMov (.t t4), none, none⟩,
   ⟨(some t161), oBin (int2 (cmpO gtI)) (.t t160) (.v (.int .i64 0)), none, none⟩])
 (xCond (.t t161)
 (xOps [⟨(some t162), oMov (.t t0), none, none⟩,
   ⟨(some t163), oMov (.t t12), none, none⟩,
   ⟨(some t164), oBin (int2 addO) (.v (.int .u32 48)) (.t t163), none, none⟩,
   ⟨(some t165), oConv .u8 (.t t164), none, none⟩,
   ⟨(some t166), oIdxAddrL 1 (.t t162) (.v (.int .i64 0)), none, none⟩,
   ⟨none, oStore 1 (.t t166) (.t t165), none, none⟩])
 xSkip)))))))⟩
theorem ok81 : cFunc Tryd.prog gl ex Tryd.f81 = some c81 := by kernel_rfl
end
end Go.Proofs.YtgbmkpbackdknaaDoor.AbsDueK
