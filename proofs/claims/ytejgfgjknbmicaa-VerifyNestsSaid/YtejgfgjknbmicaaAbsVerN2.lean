import Derived.Test.YtejgfgjknbmicaaRows
import Derived.Test.YtejgfgjknbmicaaAbsVerNT
import Derived.KernelRfl
namespace Go.Proofs.Ytejgfgjknbmicaa.AbsVerN
open Go Go.Abs Go.Proofs
set_option maxRecDepth 100000
set_option linter.unusedVariables false
noncomputable section
/-- slices.ContainsFunc[[]publican/verify.loop,publican/verify.loop] -/
def c47 : AFunc := ⟨9, [.tmp t4],
 (xSeq (xOps [⟨(some t4), oMov (.v (.bool false)), none⟩])
 (xSeq (xOps [⟨(some t5), oMov (.t t0), none⟩,
   ⟨(some t6), oMov (.t t1), none⟩,
   ⟨(some t7), oCall 52 [(.t t5), (.t t6)], none⟩,
   ⟨(some t8), oBin (int2 (cmpO geI)) (.t t7) (.v (.int .i64 0)), none⟩,
   ⟨(some t4), oMov (.t t8), none⟩])
 xRet))⟩
theorem ok47 : cFunc Try.prog noGl ex Try.f47 = some c47 := by kernel_rfl
/-- (*publican/verify.checker).inLoop$1 -/
def c48 : AFunc := ⟨7, [.tmp t3],
 (xSeq (xOps [⟨(some t2), oBox (.t t0), none⟩,
   ⟨(some t3), oMov (.v (.bool false)), none⟩])
 (xSeq (xOps [⟨(some t4), oLoadN 2 (.t t2), none⟩,
   ⟨(some t5), oLoad1 (.t t1), none⟩,
   ⟨(some t6), oCall 29 [(.t t4), (.t t5)], none⟩,
   ⟨(some t3), oMov (.t t6), none⟩])
 xRet))⟩
theorem ok48 : cFunc Try.prog noGl ex Try.f48 = some c48 := by kernel_rfl
/-- slices.IndexFunc[[]int64,int64] -/
def c49 : AFunc := ⟨19, [.tmp t4],
 (xSeq (xOps [⟨(some t4), oMov (.v (.int .i64 0)), none⟩])
 (xSeq (xSeq (xOps [⟨(some t6), oMov (.t t0), none⟩,
   ⟨(some t7), oLenL (.t t6), none⟩,
   ⟨(some t8), oMov (.v (.int .i64 0)), none⟩])
 (xBlock 0 (xLoop (xSeq (xOps [⟨(some t9), oBin (int2 (cmpO ltI)) (.t t8) (.t t7), none⟩])
 (xSeq (xCond (.t t9)
 xSkip
 (xExit 0))
 (xSeq (xBlock 1 (xSeq (xOps [⟨(some t10), oMov (.t t8), none⟩,
   ⟨(some t5), oMov (.t t10), none⟩])
 (xSeq (xOps [⟨(some t11), oMov (.t t1), none⟩,
   ⟨(some t12), oMov (.t t0), none⟩,
   ⟨(some t13), oMov (.t t5), none⟩,
   ⟨(some t14), oIdxAddrL 1 (.t t12) (.t t13), none⟩,
   ⟨(some t15), oLoad1 (.t t14), none⟩,
   ⟨(some t16), oCallV (.t t11) [(.t t15)], none⟩])
 (xCond (.t t16)
 (xSeq (xOps [⟨(some t17), oMov (.t t5), none⟩,
   ⟨(some t4), oMov (.t t17), none⟩])
 xRet)
 xSkip))))
 (xOps [⟨(some t18), oBin (int2 addO) (.t t8) (.v (.int .i64 1)), none⟩,
   ⟨(some t8), oMov (.t t18), none⟩])))))))
 (xSeq (xOps [⟨(some t4), oMov (.v (.int .i64 (-1))), none⟩])
 xRet)))⟩
theorem ok49 : cFunc Try.prog noGl ex Try.f49 = some c49 := by kernel_rfl
/-- slices.IndexFunc[[]publican/api.Kind,publican/api.Kind] -/
def c50 : AFunc := ⟨19, [.tmp t4],
 (xSeq (xOps [⟨(some t4), oMov (.v (.int .i64 0)), none⟩])
 (xSeq (xSeq (xOps [⟨(some t6), oMov (.t t0), none⟩,
   ⟨(some t7), oLenL (.t t6), none⟩,
   ⟨(some t8), oMov (.v (.int .i64 0)), none⟩])
 (xBlock 0 (xLoop (xSeq (xOps [⟨(some t9), oBin (int2 (cmpO ltI)) (.t t8) (.t t7), none⟩])
 (xSeq (xCond (.t t9)
 xSkip
 (xExit 0))
 (xSeq (xBlock 1 (xSeq (xOps [⟨(some t10), oMov (.t t8), none⟩,
   ⟨(some t5), oMov (.t t10), none⟩])
 (xSeq (xOps [⟨(some t11), oMov (.t t1), none⟩,
   ⟨(some t12), oMov (.t t0), none⟩,
   ⟨(some t13), oMov (.t t5), none⟩,
   ⟨(some t14), oIdxAddrL 1 (.t t12) (.t t13), none⟩,
   ⟨(some t15), oLoad1 (.t t14), none⟩,
   ⟨(some t16), oCallV (.t t11) [(.t t15)], none⟩])
 (xCond (.t t16)
 (xSeq (xOps [⟨(some t17), oMov (.t t5), none⟩,
   ⟨(some t4), oMov (.t t17), none⟩])
 xRet)
 xSkip))))
 (xOps [⟨(some t18), oBin (int2 addO) (.t t8) (.v (.int .i64 1)), none⟩,
   ⟨(some t8), oMov (.t t18), none⟩])))))))
 (xSeq (xOps [⟨(some t4), oMov (.v (.int .i64 (-1))), none⟩])
 xRet)))⟩
theorem ok50 : cFunc Try.prog noGl ex Try.f50 = some c50 := by kernel_rfl
/-- publican/verify.two -/
def c51 : AFunc := ⟨87, [.tmp t8],
 (xSeq (xOps [⟨(some t8), oMov (.v (.bool false)), none⟩])
 (xSeq (xOps [⟨(some t10), oMov (.t t2), none⟩,
   ⟨(some t11), oMov (.t t1), none⟩,
   ⟨(some t12), oBin (int2 (cmpO eqI)) (.t t10) (.t t11), none⟩,
   ⟨(some t13), oMov (.t t12), none⟩,
   ⟨(some t14), oMov (.t t3), (some (t13, true))⟩,
   ⟨(some t15), oBin (int2 (cmpO eqI)) (.t t14) (.v (.int .i64 2)), (some (t13, true))⟩,
   ⟨(some t16), oPick (.t t13) (.t t15) (.v (.bool false)), none⟩,
   ⟨(some t9), oMov (.t t16), none⟩])
 (xSeq (xSeq (xOps [⟨(some t17), oMov (.t t0), none⟩])
 (xBlock 0 (xSeq (xSeq (xOps [⟨(some t19), oBin (int2 (cmpO eqI)) (.t t17) (.v (.int .i64 4)), none⟩,
   ⟨(some t18), oMov (.t t19), none⟩])
 (xCond (.t t18)
 xSkip
 (xOps [⟨(some t20), oBin (int2 (cmpO eqI)) (.t t17) (.v (.int .i64 5)), none⟩,
   ⟨(some t18), oMov (.t t20), none⟩])))
 (xCond (.t t18)
 (xSeq (xSeq (xOps [⟨(some t21), oMov (.t t1), none⟩,
   ⟨(some t22), oBin (int2 (cmpO eqI)) (.t t21) (.v (.int .i64 5)), none⟩])
 (xCond (.t t22)
 (xSeq (xOps [⟨(some t23), oMov (.t t9), none⟩,
   ⟨(some t8), oMov (.t t23), none⟩])
 xRet)
 xSkip))
 (xSeq (xOps [⟨(some t24), oMov (.t t2), none⟩,
   ⟨(some t25), oMov (.t t1), none⟩,
   ⟨(some t26), oBin (int2 (cmpO eqI)) (.t t24) (.t t25), none⟩,
   ⟨(some t27), oMov (.t t26), none⟩,
   ⟨(some t28), oMov (.t t3), (some (t27, true))⟩,
   ⟨(some t29), oMov (.t t1), (some (t27, true))⟩,
   ⟨(some t30), oBin (int2 (cmpO eqI)) (.t t28) (.t t29), (some (t27, true))⟩,
   ⟨(some t31), oPick (.t t27) (.t t30) (.v (.bool false)), none⟩,
   ⟨(some t32), oMov (.t t31), none⟩,
   ⟨(some t33), oMov (.t t0), (some (t32, false))⟩,
   ⟨(some t34), oBin (int2 (cmpO eqI)) (.t t33) (.v (.int .i64 5)), (some (t32, false))⟩,
   ⟨(some t35), oMov (.t t34), (some (t32, false))⟩,
   ⟨(some t36), oMov (.t t1), (some (t35, true))⟩,
   ⟨(some t37), oBin (int2 (cmpO eqI)) (.t t36) (.v (.int .i64 2)), (some (t35, true))⟩,
   ⟨(some t38), oPick (.t t35) (.t t37) (.v (.bool false)), (some (t32, false))⟩,
   ⟨(some t39), oMov (.t t38), (some (t32, false))⟩,
   ⟨(some t40), oMov (.t t2), (some (t39, true))⟩,
   ⟨(some t41), oBin (int2 (cmpO eqI)) (.t t40) (.v (.int .i64 5)), (some (t39, true))⟩,
   ⟨(some t42), oPick (.t t39) (.t t41) (.v (.bool false)), (some (t32, false))⟩,
   ⟨(some t43), oMov (.t t42), (some (t32, false))⟩,
   ⟨(some t44), oMov (.t t3), (some (t43, true))⟩,
   ⟨(some t45), oBin (int2 (cmpO eqI)) (.t t44) (.v (.int .i64 5)), (some (t43, true))⟩,
   ⟨(some t46), oPick (.t t43) (.t t45) (.v (.bool false)), (some (t32, false))⟩,
   ⟨(some t47), oPick (.t t32) (.v (.bool true)) (.t t46), none⟩,
   ⟨(some t8), oMov (.t t47), none⟩])
 xRet))
 (xSeq (xOps [⟨(some t49), oBin (int2 (cmpO eqI)) (.t t17) (.v (.int .i64 6)), none⟩,
   ⟨(some t48), oMov (.t t49), none⟩])
 (xCond (.t t48)
 (xSeq (xSeq (xOps [⟨(some t50), oMov (.t t9), none⟩,
   ⟨(some t51), oMov (.t t50), none⟩,
   ⟨(some t52), oMov (.t t2), (some (t51, false))⟩,
   ⟨(some t53), oBin (int2 (cmpO eqI)) (.t t52) (.v (.int .i64 2)), (some (t51, false))⟩,
   ⟨(some t54), oMov (.t t53), (some (t51, false))⟩,
   ⟨(some t55), oMov (.t t3), (some (t54, true))⟩,
   ⟨(some t56), oMov (.t t1), (some (t54, true))⟩,
   ⟨(some t57), oBin (int2 (cmpO eqI)) (.t t55) (.t t56), (some (t54, true))⟩,
   ⟨(some t58), oPick (.t t54) (.t t57) (.v (.bool false)), (some (t51, false))⟩,
   ⟨(some t59), oPick (.t t51) (.v (.bool true)) (.t t58), none⟩])
 (xCond (.t t59)
 (xSeq (xOps [⟨(some t8), oMov (.v (.bool true)), none⟩])
 xRet)
 xSkip))
 (xSeq (xOps [⟨(some t60), oMov (.t t1), none⟩,
   ⟨(some t61), oBin (int2 (cmpO eqI)) (.t t60) (.v (.int .i64 3)), none⟩,
   ⟨(some t62), oMov (.t t61), none⟩,
   ⟨(some t63), oMov (.t t2), (some (t62, true))⟩,
   ⟨(some t64), oBin (int2 (cmpO eqI)) (.t t63) (.v (.int .i64 3)), (some (t62, true))⟩,
   ⟨(some t65), oMov (.t t64), (some (t62, true))⟩,
   ⟨(some t66), oMov (.t t3), (some (t65, true))⟩,
   ⟨(some t67), oBin (int2 (cmpO eqI)) (.t t66) (.v (.int .i64 4)), (some (t65, true))⟩,
   ⟨(some t68), oPick (.t t65) (.t t67) (.v (.bool false)), (some (t62, true))⟩,
   ⟨(some t69), oMov (.t t68), (some (t62, true))⟩,
   ⟨(some t70), oMov (.t t2), (some (t69, false))⟩,
   ⟨(some t71), oBin (int2 (cmpO eqI)) (.t t70) (.v (.int .i64 4)), (some (t69, false))⟩,
   ⟨(some t72), oMov (.t t71), (some (t69, false))⟩,
   ⟨(some t73), oMov (.t t3), (some (t72, true))⟩,
   ⟨(some t74), oBin (int2 (cmpO eqI)) (.t t73) (.v (.int .i64 3)), (some (t72, true))⟩,
   ⟨(some t75), oPick (.t t72) (.t t74) (.v (.bool false)), (some (t69, false))⟩,
   ⟨(some t76), oPick (.t t69) (.v (.bool true)) (.t t75), (some (t62, true))⟩,
   ⟨(some t77), oPick (.t t62) (.t t76) (.v (.bool false)), none⟩,
   ⟨(some t8), oMov (.t t77), none⟩])
 xRet))
 xSkip))))))
 (xSeq (xSeq (xOps [⟨(some t78), oMov (.t t1), none⟩,
   ⟨(some t79), oBin (int2 (cmpO eqI)) (.t t78) (.v (.int .i64 4)), none⟩])
 (xCond (.t t79)
 (xSeq (xOps [⟨(some t80), oMov (.t t2), none⟩,
   ⟨(some t81), oBin (int2 (cmpO eqI)) (.t t80) (.v (.int .i64 3)), none⟩,
   ⟨(some t82), oMov (.t t81), none⟩,
   ⟨(some t83), oMov (.t t3), (some (t82, true))⟩,
   ⟨(some t84), oBin (int2 (cmpO eqI)) (.t t83) (.v (.int .i64 3)), (some (t82, true))⟩,
   ⟨(some t85), oPick (.t t82) (.t t84) (.v (.bool false)), none⟩,
   ⟨(some t8), oMov (.t t85), none⟩])
 xRet)
 xSkip))
 (xSeq (xOps [⟨(some t86), oMov (.t t9), none⟩,
   ⟨(some t8), oMov (.t t86), none⟩])
 xRet)))))⟩
theorem ok51 : cFunc Try.prog noGl ex Try.f51 = some c51 := by kernel_rfl
/-- slices.IndexFunc[[]publican/verify.loop,publican/verify.loop] -/
def c52 : AFunc := ⟨19, [.tmp t4],
 (xSeq (xOps [⟨(some t4), oMov (.v (.int .i64 0)), none⟩])
 (xSeq (xSeq (xOps [⟨(some t6), oMov (.t t0), none⟩,
   ⟨(some t7), oLenL (.t t6), none⟩,
   ⟨(some t8), oMov (.v (.int .i64 0)), none⟩])
 (xBlock 0 (xLoop (xSeq (xOps [⟨(some t9), oBin (int2 (cmpO ltI)) (.t t8) (.t t7), none⟩])
 (xSeq (xCond (.t t9)
 xSkip
 (xExit 0))
 (xSeq (xBlock 1 (xSeq (xOps [⟨(some t10), oMov (.t t8), none⟩,
   ⟨(some t5), oMov (.t t10), none⟩])
 (xSeq (xOps [⟨(some t11), oMov (.t t1), none⟩,
   ⟨(some t12), oMov (.t t0), none⟩,
   ⟨(some t13), oMov (.t t5), none⟩,
   ⟨(some t14), oIdxAddrL 2 (.t t12) (.t t13), none⟩,
   ⟨(some t15), oLoadN 2 (.t t14), none⟩,
   ⟨(some t16), oCallV (.t t11) [(.t t15)], none⟩])
 (xCond (.t t16)
 (xSeq (xOps [⟨(some t17), oMov (.t t5), none⟩,
   ⟨(some t4), oMov (.t t17), none⟩])
 xRet)
 xSkip))))
 (xOps [⟨(some t18), oBin (int2 addO) (.t t8) (.v (.int .i64 1)), none⟩,
   ⟨(some t8), oMov (.t t18), none⟩])))))))
 (xSeq (xOps [⟨(some t4), oMov (.v (.int .i64 (-1))), none⟩])
 xRet)))⟩
theorem ok52 : cFunc Try.prog noGl ex Try.f52 = some c52 := by kernel_rfl
end
end Go.Proofs.Ytejgfgjknbmicaa.AbsVerN
