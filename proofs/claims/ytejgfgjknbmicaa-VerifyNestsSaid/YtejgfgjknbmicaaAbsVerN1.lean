import Derived.Test.YtejgfgjknbmicaaRows
import Derived.Test.YtejgfgjknbmicaaAbsVerNT
import Derived.KernelRfl
namespace Go.Proofs.Ytejgfgjknbmicaa.AbsVerN
open Go Go.Abs Go.Proofs
set_option maxRecDepth 100000
set_option linter.unusedVariables false
noncomputable section
/-- (*publican/verify.checker).steps -/
def c15 : AFunc := ⟨105, [.tmp t6],
 (xSeq (xOps [⟨(some t4), oBox (.t t1), none⟩,
   ⟨(some t5), oBox (.t t2), none⟩,
   ⟨(some t6), oMov (.v (.int .i64 0)), none⟩])
 (xSeq (xOps [⟨(some t16), oLoad1 (.t t5), none⟩,
   ⟨(some t17), oLoad1 (.t t4), none⟩,
   ⟨(some t18), oBin (int2 subO) (.t t16) (.t t17), none⟩,
   ⟨(some t19), oBin (int2 addO) (.t t18) (.v (.int .i64 1)), none⟩,
   ⟨(some t20), oMakeSlice 1 8 [(.int .i64 0)] (.t t19) (.t t19), none⟩,
   ⟨(some t7), oNew [(.slice none 0 0)], none⟩,
   ⟨none, oStore 1 (.t t7) (.t t20), none⟩])
 (xSeq (xOps [⟨(some t21), oFunc (.func 36) [] [(.t t4), (.t t5), (.t t7)], none⟩,
   ⟨(some t8), oMov (.t t21), none⟩])
 (xSeq (xOps [⟨(some t22), oLoad1 (.t t7), none⟩,
   ⟨(some t23), oLoad1 (.t t5), none⟩,
   ⟨(some t24), oLoad1 (.t t4), none⟩,
   ⟨(some t25), oBin (int2 subO) (.t t23) (.t t24), none⟩,
   ⟨(some t26), oIdxAddrL 1 (.t t22) (.t t25), none⟩,
   ⟨none, oStore 1 (.t t26) (.v (.int .i64 1)), none⟩])
 (xSeq (xSeq (xOps [⟨(some t27), oLoad1 (.t t5), none⟩,
   ⟨(some t28), oBin (int2 subO) (.t t27) (.v (.int .i64 1)), none⟩,
   ⟨(some t9), oMov (.t t28), none⟩])
 (xBlock 0 (xLoop (xSeq (xSeq (xOps [⟨(some t29), oMov (.t t9), none⟩,
   ⟨(some t30), oLoad1 (.t t4), none⟩,
   ⟨(some t31), oBin (int2 (cmpO geI)) (.t t29) (.t t30), none⟩])
 (xCond (.t t31)
 xSkip
 (xExit 0)))
 (xSeq (xBlock 1 (xSeq (xSeq (xOps [⟨(some t34), oMov (.t t0), none⟩,
   ⟨(some t35), oNilCheck (.t t34), none⟩,
   ⟨(some t36), oFieldAddr 0 (.t t35), none⟩,
   ⟨(some t37), oFieldAddr 6 (.t t36), none⟩,
   ⟨(some t38), oLoad1 (.t t37), none⟩,
   ⟨(some t39), oMov (.t t9), none⟩,
   ⟨(some t40), oIdxAddrL 4 (.t t38) (.t t39), none⟩,
   ⟨(some t41), oLoadN 4 (.t t40), none⟩,
   ⟨(some t10), oNew [(.int .i64 0), (.int .i64 0), (.int .i64 0), (.int .i64 0)], none⟩,
   ⟨none, oStore 4 (.t t10) (.t t41), none⟩])
 (xSeq (xOps [⟨(some t42), oFieldAddr 0 (.t t10), none⟩,
   ⟨(some t43), oLoad1 (.t t42), none⟩,
   ⟨(some t44), oBin (int2 (cmpO eqI)) (.t t43) (.v (.int .i64 20)), none⟩])
 (xCond (.t t44)
 (xOps [⟨(some t45), oFieldAddr 3 (.t t10), none⟩,
   ⟨(some t46), oLoad1 (.t t45), none⟩,
   ⟨(some t47), oBin (int2 subO) (.t t46) (.v (.int .i64 1)), none⟩,
   ⟨(some t9), oMov (.t t47), none⟩])
 xSkip)))
 (xSeq (xOps [⟨(some t48), oMov (.t t0), none⟩,
   ⟨(some t49), oNilCheck (.t t48), none⟩,
   ⟨(some t50), oFieldAddr 0 (.t t49), none⟩,
   ⟨(some t51), oFieldAddr 6 (.t t50), none⟩,
   ⟨(some t52), oLoad1 (.t t51), none⟩,
   ⟨(some t53), oMov (.t t9), none⟩,
   ⟨(some t54), oIdxAddrL 4 (.t t52) (.t t53), none⟩,
   ⟨(some t55), oLoadN 4 (.t t54), none⟩,
   ⟨(some t11), oNew [(.int .i64 0), (.int .i64 0), (.int .i64 0), (.int .i64 0)], none⟩,
   ⟨none, oStore 4 (.t t11) (.t t55), none⟩])
 (xSeq (xOps [⟨(some t12), oMov (.v (.int .i64 0)), none⟩,
   ⟨(some t13), oMov (.v (.int .i64 0)), none⟩])
 (xSeq (xSeq (xOps [⟨(some t56), oMov (.t t9), none⟩,
   ⟨(some t57), oLoadN 4 (.t t11), none⟩,
   ⟨(some t58), oCall 33 [(.t t56), (.t t57)], none⟩,
   ⟨(some t59), oLenL (.t t58), none⟩,
   ⟨(some t60), oMov (.v (.int .i64 0)), none⟩])
 (xBlock 2 (xLoop (xSeq (xOps [⟨(some t61), oBin (int2 (cmpO ltI)) (.t t60) (.t t59), none⟩])
 (xSeq (xCond (.t t61)
 xSkip
 (xExit 2))
 (xSeq (xBlock 3 (xSeq (xOps [⟨(some t62), oIdxAddrL 1 (.t t58) (.t t60), none⟩,
   ⟨(some t63), oLoad1 (.t t62), none⟩,
   ⟨(some t15), oMov (.t t63), none⟩])
 (xSeq (xOps [⟨(some t64), oFieldAddr 0 (.t t11), none⟩,
   ⟨(some t65), oLoad1 (.t t64), none⟩,
   ⟨(some t66), oBin (int2 (cmpO neI)) (.t t65) (.v (.int .i64 19)), none⟩,
   ⟨(some t67), oMov (.t t66), none⟩,
   ⟨(some t68), oMov (.t t15), (some (t67, false))⟩,
   ⟨(some t69), oFieldAddr 3 (.t t11), (some (t67, false))⟩,
   ⟨(some t70), oLoad1 (.t t69), (some (t67, false))⟩,
   ⟨(some t71), oBin (int2 (cmpO eqI)) (.t t68) (.t t70), (some (t67, false))⟩,
   ⟨(some t72), oPick (.t t67) (.v (.bool true)) (.t t71), none⟩])
 (xCond (.t t72)
 (xOps [⟨(some t73), oMov (.t t12), none⟩,
   ⟨(some t74), oMov (.t t8), none⟩,
   ⟨(some t75), oMov (.t t15), none⟩,
   ⟨(some t76), oCallV (.t t74) [(.t t75)], none⟩,
   ⟨(some t77), oMM true (.t t73) [(.t t76)], none⟩,
   ⟨(some t12), oMov (.t t77), none⟩])
 xSkip))))
 (xOps [⟨(some t78), oBin (int2 addO) (.t t60) (.v (.int .i64 1)), none⟩,
   ⟨(some t60), oMov (.t t78), none⟩])))))))
 (xSeq (xSeq (xOps [⟨(some t79), oMov (.t t12), none⟩,
   ⟨(some t80), oBin (int2 (cmpO eqI)) (.t t79) (.v (.int .i64 0)), none⟩])
 (xCond (.t t80)
 (xExit 1)
 xSkip))
 (xSeq (xSeq (xOps [⟨(some t81), oFieldAddr 0 (.t t11), none⟩,
   ⟨(some t82), oLoad1 (.t t81), none⟩,
   ⟨(some t83), oBin (int2 (cmpO eqI)) (.t t82) (.v (.int .i64 19)), none⟩])
 (xCond (.t t83)
 (xOps [⟨(some t84), oMov (.t t0), none⟩,
   ⟨(some t85), oMov (.t t9), none⟩,
   ⟨(some t86), oBin (int2 addO) (.t t85) (.v (.int .i64 1)), none⟩,
   ⟨(some t87), oFieldAddr 3 (.t t11), none⟩,
   ⟨(some t88), oLoad1 (.t t87), none⟩,
   ⟨(some t89), oBin (int2 subO) (.t t88) (.v (.int .i64 1)), none⟩,
   ⟨(some t90), oCall 15 [(.t t84), (.t t86), (.t t89)], none⟩,
   ⟨(some t13), oMov (.t t90), none⟩])
 xSkip))
 (xOps [⟨(some t91), oLoad1 (.t t7), none⟩,
   ⟨(some t92), oMov (.t t9), none⟩,
   ⟨(some t93), oLoad1 (.t t4), none⟩,
   ⟨(some t94), oBin (int2 subO) (.t t92) (.t t93), none⟩,
   ⟨(some t95), oMov (.t t13), none⟩,
   ⟨(some t96), oBin (int2 mulO) (.v (.int .i64 16)) (.t t95), none⟩,
   ⟨(some t97), oBin (int2 addO) (.v (.int .i64 1)) (.t t96), none⟩,
   ⟨(some t98), oMov (.t t12), none⟩,
   ⟨(some t99), oBin (int2 addO) (.t t97) (.t t98), none⟩,
   ⟨(some t100), oMM false (.t t99) [(.v (.int .i64 1099511627777))], none⟩,
   ⟨(some t101), oIdxAddrL 1 (.t t91) (.t t94), none⟩,
   ⟨none, oStore 1 (.t t101) (.t t100), none⟩]))))))))
 (xOps [⟨(some t32), oMov (.t t9), none⟩,
   ⟨(some t33), oBin (int2 subO) (.t t32) (.v (.int .i64 1)), none⟩,
   ⟨(some t9), oMov (.t t33), none⟩]))))))
 (xSeq (xOps [⟨(some t102), oLoad1 (.t t7), none⟩,
   ⟨(some t103), oIdxAddrL 1 (.t t102) (.v (.int .i64 0)), none⟩,
   ⟨(some t104), oLoad1 (.t t103), none⟩,
   ⟨(some t6), oMov (.t t104), none⟩])
 xRet))))))⟩
theorem ok15 : cFunc Try.prog noGl ex Try.f15 = some c15 := by kernel_rfl
/-- publican/verify.parts$1 -/
def c16 : AFunc := ⟨14, [.tmp t2],
 (xSeq (xOps [⟨(some t1), oBox (.t t0), none⟩,
   ⟨(some t2), oMov (.v (.bool false)), none⟩])
 (xSeq (xOps [⟨(some t3), oFieldAddr 0 (.t t1), none⟩,
   ⟨(some t4), oLoad1 (.t t3), none⟩,
   ⟨(some t5), oCall 17 [(.t t4), (.v (.int .i64 1)), (.v (.int .i64 5))], none⟩,
   ⟨(some t6), oNot (.t t5), none⟩,
   ⟨(some t7), oMov (.t t6), none⟩,
   ⟨(some t8), oFieldAddr 0 (.t t1), (some (t7, false))⟩,
   ⟨(some t9), oLoad1 (.t t8), (some (t7, false))⟩,
   ⟨(some t10), oLoadN 3 (.t t1), (some (t7, false))⟩,
   ⟨(some t11), oCall 18 [(.t t9), (.t t10)], (some (t7, false))⟩,
   ⟨(some t12), oNot (.t t11), (some (t7, false))⟩,
   ⟨(some t13), oPick (.t t7) (.v (.bool true)) (.t t12), none⟩,
   ⟨(some t2), oMov (.t t13), none⟩])
 xRet))⟩
theorem ok16 : cFunc Try.prog noGl ex Try.f16 = some c16 := by kernel_rfl
/-- publican/verify.kindIs -/
def c17 : AFunc := ⟨15, [.tmp t6],
 (xSeq (xOps [⟨(some t6), oMov (.v (.bool false)), none⟩])
 (xSeq (xOps [⟨(some t7), oMov (.t t0), none⟩,
   ⟨(some t8), oMov (.t t1), none⟩,
   ⟨(some t9), oBin (int2 (cmpO geI)) (.t t7) (.t t8), none⟩,
   ⟨(some t10), oMov (.t t9), none⟩,
   ⟨(some t11), oMov (.t t0), (some (t10, true))⟩,
   ⟨(some t12), oMov (.t t2), (some (t10, true))⟩,
   ⟨(some t13), oBin (int2 (cmpO leI)) (.t t11) (.t t12), (some (t10, true))⟩,
   ⟨(some t14), oPick (.t t10) (.t t13) (.v (.bool false)), none⟩,
   ⟨(some t6), oMov (.t t14), none⟩])
 xRet))⟩
theorem ok17 : cFunc Try.prog noGl ex Try.f17 = some c17 := by kernel_rfl
/-- publican/mean.FitsKind -/
def c18 : AFunc := ⟨38, [.tmp t4],
 (xSeq (xOps [⟨(some t3), oBox (.t t1), none⟩,
   ⟨(some t4), oMov (.v (.bool false)), none⟩])
 (xSeq (xSeq (xOps [⟨(some t6), oFieldAddr 0 (.t t3), none⟩,
   ⟨(some t7), oLoad1 (.t t6), none⟩,
   ⟨(some t8), oMov (.t t0), none⟩,
   ⟨(some t9), oBin (int2 (cmpO neI)) (.t t7) (.t t8), none⟩])
 (xCond (.t t9)
 (xSeq (xOps [⟨(some t4), oMov (.v (.bool false)), none⟩])
 xRet)
 xSkip))
 (xSeq (xSeq (xOps [⟨(some t10), oMov (.t t0), none⟩,
   ⟨(some t11), oBin (int2 (cmpO neI)) (.t t10) (.v (.int .i64 6)), none⟩])
 (xCond (.t t11)
 (xSeq (xOps [⟨(some t12), oMov (.t t0), none⟩,
   ⟨(some t13), oFieldAddr 1 (.t t3), none⟩,
   ⟨(some t14), oLoad1 (.t t13), none⟩,
   ⟨(some t15), oCall 37 [(.t t12), (.t t14)], none⟩,
   ⟨(some t16), oMov (.t t15), none⟩,
   ⟨(some t17), oFieldAddr 2 (.t t3), (some (t16, true))⟩,
   ⟨(some t18), oLoad1 (.t t17), (some (t16, true))⟩,
   ⟨(some t19), oLenL (.t t18), (some (t16, true))⟩,
   ⟨(some t20), oBin (int2 (cmpO eqI)) (.t t19) (.v (.int .i64 0)), (some (t16, true))⟩,
   ⟨(some t21), oPick (.t t16) (.t t20) (.v (.bool false)), none⟩,
   ⟨(some t4), oMov (.t t21), none⟩])
 xRet)
 xSkip))
 (xSeq (xOps [⟨(some t5), oMov (.v (.func (.func 38) #[] #[])), none⟩])
 (xSeq (xOps [⟨(some t22), oFieldAddr 1 (.t t3), none⟩,
   ⟨(some t23), oLoad1 (.t t22), none⟩,
   ⟨(some t24), oBin (int2 (cmpO eqI)) (.t t23) (.v (.int .i64 0)), none⟩,
   ⟨(some t25), oMov (.t t24), none⟩,
   ⟨(some t26), oFieldAddr 2 (.t t3), (some (t25, true))⟩,
   ⟨(some t27), oLoad1 (.t t26), (some (t25, true))⟩,
   ⟨(some t28), oLenL (.t t27), (some (t25, true))⟩,
   ⟨(some t29), oBin (int2 (cmpO leI)) (.t t28) (.v (.int .i64 16)), (some (t25, true))⟩,
   ⟨(some t30), oPick (.t t25) (.t t29) (.v (.bool false)), none⟩,
   ⟨(some t31), oMov (.t t30), none⟩,
   ⟨(some t32), oFieldAddr 2 (.t t3), (some (t31, true))⟩,
   ⟨(some t33), oLoad1 (.t t32), (some (t31, true))⟩,
   ⟨(some t34), oMov (.t t5), (some (t31, true))⟩,
   ⟨(some t35), oCall 39 [(.t t33), (.t t34)], (some (t31, true))⟩,
   ⟨(some t36), oNot (.t t35), (some (t31, true))⟩,
   ⟨(some t37), oPick (.t t31) (.t t36) (.v (.bool false)), none⟩,
   ⟨(some t4), oMov (.t t37), none⟩])
 xRet)))))⟩
theorem ok18 : cFunc Try.prog noGl ex Try.f18 = some c18 := by kernel_rfl
/-- publican/verify.allKinds -/
def c19 : AFunc := ⟨9, [.tmp t4],
 (xSeq (xOps [⟨(some t3), oBox (.t t1), none⟩,
   ⟨(some t4), oMov (.v (.bool false)), none⟩])
 (xSeq (xOps [⟨(some t5), oMov (.t t0), none⟩,
   ⟨(some t6), oFunc (.func 41) [] [(.t t3)], none⟩,
   ⟨(some t7), oCall 40 [(.t t5), (.t t6)], none⟩,
   ⟨(some t8), oNot (.t t7), none⟩,
   ⟨(some t4), oMov (.t t8), none⟩])
 xRet))⟩
theorem ok19 : cFunc Try.prog noGl ex Try.f19 = some c19 := by kernel_rfl
/-- slices.ContainsFunc[[]publican/api.Value,publican/api.Value] -/
def c20 : AFunc := ⟨9, [.tmp t4],
 (xSeq (xOps [⟨(some t4), oMov (.v (.bool false)), none⟩])
 (xSeq (xOps [⟨(some t5), oMov (.t t0), none⟩,
   ⟨(some t6), oMov (.t t1), none⟩,
   ⟨(some t7), oCall 42 [(.t t5), (.t t6)], none⟩,
   ⟨(some t8), oBin (int2 (cmpO geI)) (.t t7) (.v (.int .i64 0)), none⟩,
   ⟨(some t4), oMov (.t t8), none⟩])
 xRet))⟩
theorem ok20 : cFunc Try.prog noGl ex Try.f20 = some c20 := by kernel_rfl
/-- slices.ContainsFunc[[]publican/code.Table,publican/code.Table] -/
def c21 : AFunc := ⟨9, [.tmp t4],
 (xSeq (xOps [⟨(some t4), oMov (.v (.bool false)), none⟩])
 (xSeq (xOps [⟨(some t5), oMov (.t t0), none⟩,
   ⟨(some t6), oMov (.t t1), none⟩,
   ⟨(some t7), oCall 43 [(.t t5), (.t t6)], none⟩,
   ⟨(some t8), oBin (int2 (cmpO geI)) (.t t7) (.v (.int .i64 0)), none⟩,
   ⟨(some t4), oMov (.t t8), none⟩])
 xRet))⟩
theorem ok21 : cFunc Try.prog noGl ex Try.f21 = some c21 := by kernel_rfl
/-- publican/verify.parts$2 -/
def c22 : AFunc := ⟨6, [.tmp t2],
 (xSeq (xOps [⟨(some t1), oBox (.t t0), none⟩,
   ⟨(some t2), oMov (.v (.bool false)), none⟩])
 (xSeq (xOps [⟨(some t3), oLoadN 4 (.t t1), none⟩,
   ⟨(some t4), oCall 23 [(.t t3)], none⟩,
   ⟨(some t5), oNot (.t t4), none⟩,
   ⟨(some t2), oMov (.t t5), none⟩])
 xRet))⟩
theorem ok22 : cFunc Try.prog noGl ex Try.f22 = some c22 := by kernel_rfl
/-- publican/verify.table -/
def c23 : AFunc := ⟨73, [.tmp t2],
 (xSeq (xOps [⟨(some t1), oBox (.t t0), none⟩,
   ⟨(some t2), oMov (.v (.bool false)), none⟩])
 (xSeq (xSeq (xOps [⟨(some t5), oFieldAddr 0 (.t t1), none⟩,
   ⟨(some t6), oLoad1 (.t t5), none⟩,
   ⟨(some t7), oBin (int2 (cmpO neI)) (.t t6) (.v (.int .i64 2)), none⟩,
   ⟨(some t8), oMov (.t t7), none⟩,
   ⟨(some t9), oFieldAddr 0 (.t t1), (some (t8, true))⟩,
   ⟨(some t10), oLoad1 (.t t9), (some (t8, true))⟩,
   ⟨(some t11), oBin (int2 (cmpO neI)) (.t t10) (.v (.int .i64 3)), (some (t8, true))⟩,
   ⟨(some t12), oPick (.t t8) (.t t11) (.v (.bool false)), none⟩,
   ⟨(some t13), oMov (.t t12), none⟩,
   ⟨(some t14), oFieldAddr 0 (.t t1), (some (t13, true))⟩,
   ⟨(some t15), oLoad1 (.t t14), (some (t13, true))⟩,
   ⟨(some t16), oBin (int2 (cmpO neI)) (.t t15) (.v (.int .i64 5)), (some (t13, true))⟩,
   ⟨(some t17), oPick (.t t13) (.t t16) (.v (.bool false)), none⟩,
   ⟨(some t18), oMov (.t t17), none⟩,
   ⟨(some t19), oFieldAddr 1 (.t t1), (some (t18, false))⟩,
   ⟨(some t20), oLoad1 (.t t19), (some (t18, false))⟩,
   ⟨(some t21), oCall 17 [(.t t20), (.v (.int .i64 1)), (.v (.int .i64 5))], (some (t18, false))⟩,
   ⟨(some t22), oNot (.t t21), (some (t18, false))⟩,
   ⟨(some t23), oPick (.t t18) (.v (.bool true)) (.t t22), none⟩,
   ⟨(some t24), oMov (.t t23), none⟩,
   ⟨(some t25), oFieldAddr 2 (.t t1), (some (t24, false))⟩,
   ⟨(some t26), oLoad1 (.t t25), (some (t24, false))⟩,
   ⟨(some t27), oLenL (.t t26), (some (t24, false))⟩,
   ⟨(some t28), oBin (int2 (cmpO gtI)) (.t t27) (.v (.int .i64 31)), (some (t24, false))⟩,
   ⟨(some t29), oPick (.t t24) (.v (.bool true)) (.t t28), none⟩,
   ⟨(some t30), oMov (.t t29), none⟩,
   ⟨(some t31), oFieldAddr 3 (.t t1), (some (t30, false))⟩,
   ⟨(some t32), oLoad1 (.t t31), (some (t30, false))⟩,
   ⟨(some t33), oLenL (.t t32), (some (t30, false))⟩,
   ⟨(some t34), oFieldAddr 2 (.t t1), (some (t30, false))⟩,
   ⟨(some t35), oLoad1 (.t t34), (some (t30, false))⟩,
   ⟨(some t36), oLenL (.t t35), (some (t30, false))⟩,
   ⟨(some t37), oBin (int2 addO) (.t t36) (.v (.int .i64 1)), (some (t30, false))⟩,
   ⟨(some t38), oBin (int2 (cmpO neI)) (.t t33) (.t t37), (some (t30, false))⟩,
   ⟨(some t39), oPick (.t t30) (.v (.bool true)) (.t t38), none⟩])
 (xCond (.t t39)
 (xSeq (xOps [⟨(some t2), oMov (.v (.bool false)), none⟩])
 xRet)
 xSkip))
 (xSeq (xSeq (xOps [⟨(some t40), oFieldAddr 2 (.t t1), none⟩,
   ⟨(some t41), oLoad1 (.t t40), none⟩,
   ⟨(some t42), oLenL (.t t41), none⟩,
   ⟨(some t43), oMov (.v (.int .i64 0)), none⟩])
 (xBlock 0 (xLoop (xSeq (xOps [⟨(some t44), oBin (int2 (cmpO ltI)) (.t t43) (.t t42), none⟩])
 (xSeq (xCond (.t t44)
 xSkip
 (xExit 0))
 (xSeq (xBlock 1 (xSeq (xOps [⟨(some t45), oMov (.t t43), none⟩,
   ⟨(some t46), oIdxAddrL 1 (.t t41) (.t t43), none⟩,
   ⟨(some t47), oLoad1 (.t t46), none⟩,
   ⟨(some t3), oMov (.t t45), none⟩,
   ⟨(some t4), oMov (.t t47), none⟩])
 (xSeq (xOps [⟨(some t48), oFieldAddr 0 (.t t1), none⟩,
   ⟨(some t49), oLoad1 (.t t48), none⟩,
   ⟨(some t50), oMov (.t t4), none⟩,
   ⟨(some t51), oCall 37 [(.t t49), (.t t50)], none⟩,
   ⟨(some t52), oNot (.t t51), none⟩,
   ⟨(some t53), oMov (.t t52), none⟩,
   ⟨(some t54), oMov (.t t3), (some (t53, false))⟩,
   ⟨(some t55), oBin (int2 (cmpO gtI)) (.t t54) (.v (.int .i64 0)), (some (t53, false))⟩,
   ⟨(some t56), oMov (.t t55), (some (t53, false))⟩,
   ⟨(some t57), oMov (.t t4), (some (t56, true))⟩,
   ⟨(some t58), oFieldAddr 2 (.t t1), (some (t56, true))⟩,
   ⟨(some t59), oLoad1 (.t t58), (some (t56, true))⟩,
   ⟨(some t60), oMov (.t t3), (some (t56, true))⟩,
   ⟨(some t61), oBin (int2 subO) (.t t60) (.v (.int .i64 1)), (some (t56, true))⟩,
   ⟨(some t62), oIdxAddrL 1 (.t t59) (.t t61), (some (t56, true))⟩,
   ⟨(some t63), oLoad1 (.t t62), (some (t56, true))⟩,
   ⟨(some t64), oBin (int2 (cmpO leI)) (.t t57) (.t t63), (some (t56, true))⟩,
   ⟨(some t65), oPick (.t t56) (.t t64) (.v (.bool false)), (some (t53, false))⟩,
   ⟨(some t66), oPick (.t t53) (.v (.bool true)) (.t t65), none⟩])
 (xCond (.t t66)
 (xSeq (xOps [⟨(some t2), oMov (.v (.bool false)), none⟩])
 xRet)
 xSkip))))
 (xOps [⟨(some t67), oBin (int2 addO) (.t t43) (.v (.int .i64 1)), none⟩,
   ⟨(some t43), oMov (.t t67), none⟩])))))))
 (xSeq (xOps [⟨(some t68), oFieldAddr 3 (.t t1), none⟩,
   ⟨(some t69), oLoad1 (.t t68), none⟩,
   ⟨(some t70), oFunc (.func 44) [] [(.t t1)], none⟩,
   ⟨(some t71), oCall 39 [(.t t69), (.t t70)], none⟩,
   ⟨(some t72), oNot (.t t71), none⟩,
   ⟨(some t2), oMov (.t t72), none⟩])
 xRet))))⟩
theorem ok23 : cFunc Try.prog noGl ex Try.f23 = some c23 := by kernel_rfl
/-- (*publican/verify.checker).list -/
def c24 : AFunc := ⟨27, [.tmp t4, .tmp t5],
 (xSeq (xOps [⟨(some t4), oMov (.v (.bool false)), none⟩,
   ⟨(some t5), oMov (.v (.bool false)), none⟩])
 (xSeq (xSeq (xOps [⟨(some t6), oMov (.t t1), none⟩,
   ⟨(some t7), oBin (int2 (cmpO ltI)) (.t t6) (.v (.int .i64 0)), none⟩,
   ⟨(some t8), oMov (.t t7), none⟩,
   ⟨(some t9), oMov (.t t1), (some (t8, false))⟩,
   ⟨(some t10), oMov (.t t0), (some (t8, false))⟩,
   ⟨(some t11), oNilCheck (.t t10), (some (t8, false))⟩,
   ⟨(some t12), oFieldAddr 0 (.t t11), (some (t8, false))⟩,
   ⟨(some t13), oFieldAddr 2 (.t t12), (some (t8, false))⟩,
   ⟨(some t14), oLoad1 (.t t13), (some (t8, false))⟩,
   ⟨(some t15), oLenL (.t t14), (some (t8, false))⟩,
   ⟨(some t16), oBin (int2 (cmpO geI)) (.t t9) (.t t15), (some (t8, false))⟩,
   ⟨(some t17), oPick (.t t8) (.v (.bool true)) (.t t16), none⟩])
 (xCond (.t t17)
 (xSeq (xOps [⟨(some t4), oMov (.v (.bool false)), none⟩,
   ⟨(some t5), oMov (.v (.bool false)), none⟩])
 xRet)
 xSkip))
 (xSeq (xOps [⟨(some t18), oMov (.t t0), none⟩,
   ⟨(some t19), oNilCheck (.t t18), none⟩,
   ⟨(some t20), oFieldAddr 0 (.t t19), none⟩,
   ⟨(some t21), oFieldAddr 2 (.t t20), none⟩,
   ⟨(some t22), oLoad1 (.t t21), none⟩,
   ⟨(some t23), oMov (.t t1), none⟩,
   ⟨(some t24), oIdxAddrL 1 (.t t22) (.t t23), none⟩,
   ⟨(some t25), oLoad1 (.t t24), none⟩,
   ⟨(some t26), oBin (int2 (cmpO eqI)) (.t t25) (.v (.int .i64 6)), none⟩,
   ⟨(some t4), oMov (.t t26), none⟩,
   ⟨(some t5), oMov (.v (.bool true)), none⟩])
 xRet)))⟩
theorem ok24 : cFunc Try.prog noGl ex Try.f24 = some c24 := by kernel_rfl
/-- (*publican/verify.checker).slot -/
def c25 : AFunc := ⟨25, [.tmp t4],
 (xSeq (xOps [⟨(some t4), oMov (.v (.int .i64 0)), none⟩])
 (xSeq (xSeq (xOps [⟨(some t5), oMov (.t t1), none⟩,
   ⟨(some t6), oBin (int2 (cmpO ltI)) (.t t5) (.v (.int .i64 0)), none⟩,
   ⟨(some t7), oMov (.t t6), none⟩,
   ⟨(some t8), oMov (.t t1), (some (t7, false))⟩,
   ⟨(some t9), oMov (.t t0), (some (t7, false))⟩,
   ⟨(some t10), oNilCheck (.t t9), (some (t7, false))⟩,
   ⟨(some t11), oFieldAddr 0 (.t t10), (some (t7, false))⟩,
   ⟨(some t12), oFieldAddr 4 (.t t11), (some (t7, false))⟩,
   ⟨(some t13), oLoad1 (.t t12), (some (t7, false))⟩,
   ⟨(some t14), oLenL (.t t13), (some (t7, false))⟩,
   ⟨(some t15), oBin (int2 (cmpO geI)) (.t t8) (.t t14), (some (t7, false))⟩,
   ⟨(some t16), oPick (.t t7) (.v (.bool true)) (.t t15), none⟩])
 (xCond (.t t16)
 (xSeq (xOps [⟨(some t4), oMov (.v (.int .i64 0)), none⟩])
 xRet)
 xSkip))
 (xSeq (xOps [⟨(some t17), oMov (.t t0), none⟩,
   ⟨(some t18), oNilCheck (.t t17), none⟩,
   ⟨(some t19), oFieldAddr 0 (.t t18), none⟩,
   ⟨(some t20), oFieldAddr 4 (.t t19), none⟩,
   ⟨(some t21), oLoad1 (.t t20), none⟩,
   ⟨(some t22), oMov (.t t1), none⟩,
   ⟨(some t23), oIdxAddrL 1 (.t t21) (.t t22), none⟩,
   ⟨(some t24), oLoad1 (.t t23), none⟩,
   ⟨(some t4), oMov (.t t24), none⟩])
 xRet)))⟩
theorem ok25 : cFunc Try.prog noGl ex Try.f25 = some c25 := by kernel_rfl
/-- (*publican/verify.checker).out -/
def c26 : AFunc := ⟨25, [.tmp t4],
 (xSeq (xOps [⟨(some t4), oMov (.v (.int .i64 0)), none⟩])
 (xSeq (xSeq (xOps [⟨(some t5), oMov (.t t1), none⟩,
   ⟨(some t6), oBin (int2 (cmpO ltI)) (.t t5) (.v (.int .i64 0)), none⟩,
   ⟨(some t7), oMov (.t t6), none⟩,
   ⟨(some t8), oMov (.t t1), (some (t7, false))⟩,
   ⟨(some t9), oMov (.t t0), (some (t7, false))⟩,
   ⟨(some t10), oNilCheck (.t t9), (some (t7, false))⟩,
   ⟨(some t11), oFieldAddr 0 (.t t10), (some (t7, false))⟩,
   ⟨(some t12), oFieldAddr 3 (.t t11), (some (t7, false))⟩,
   ⟨(some t13), oLoad1 (.t t12), (some (t7, false))⟩,
   ⟨(some t14), oLenL (.t t13), (some (t7, false))⟩,
   ⟨(some t15), oBin (int2 (cmpO geI)) (.t t8) (.t t14), (some (t7, false))⟩,
   ⟨(some t16), oPick (.t t7) (.v (.bool true)) (.t t15), none⟩])
 (xCond (.t t16)
 (xSeq (xOps [⟨(some t4), oMov (.v (.int .i64 0)), none⟩])
 xRet)
 xSkip))
 (xSeq (xOps [⟨(some t17), oMov (.t t0), none⟩,
   ⟨(some t18), oNilCheck (.t t17), none⟩,
   ⟨(some t19), oFieldAddr 0 (.t t18), none⟩,
   ⟨(some t20), oFieldAddr 3 (.t t19), none⟩,
   ⟨(some t21), oLoad1 (.t t20), none⟩,
   ⟨(some t22), oMov (.t t1), none⟩,
   ⟨(some t23), oIdxAddrL 1 (.t t21) (.t t22), none⟩,
   ⟨(some t24), oLoad1 (.t t23), none⟩,
   ⟨(some t4), oMov (.t t24), none⟩])
 xRet)))⟩
theorem ok26 : cFunc Try.prog noGl ex Try.f26 = some c26 := by kernel_rfl
/-- (*publican/verify.checker).paired -/
def c27 : AFunc := ⟨82, [.tmp t6],
 (xSeq (xOps [⟨(some t6), oMov (.v (.bool false)), none⟩])
 (xSeq (xSeq (xOps [⟨(some t9), oMov (.t t1), none⟩,
   ⟨(some t10), oBin (int2 (cmpO ltI)) (.t t9) (.v (.int .i64 0)), none⟩,
   ⟨(some t11), oMov (.t t10), none⟩,
   ⟨(some t12), oMov (.t t2), (some (t11, false))⟩,
   ⟨(some t13), oBin (int2 (cmpO ltI)) (.t t12) (.v (.int .i64 0)), (some (t11, false))⟩,
   ⟨(some t14), oPick (.t t11) (.v (.bool true)) (.t t13), none⟩,
   ⟨(some t15), oMov (.t t14), none⟩,
   ⟨(some t16), oMov (.t t1), (some (t15, false))⟩,
   ⟨(some t17), oMov (.t t2), (some (t15, false))⟩,
   ⟨(some t18), oBin (int2 (cmpO geI)) (.t t16) (.t t17), (some (t15, false))⟩,
   ⟨(some t19), oPick (.t t15) (.v (.bool true)) (.t t18), none⟩,
   ⟨(some t20), oMov (.t t19), none⟩,
   ⟨(some t21), oMov (.t t2), (some (t20, false))⟩,
   ⟨(some t22), oMov (.t t0), (some (t20, false))⟩,
   ⟨(some t23), oNilCheck (.t t22), (some (t20, false))⟩,
   ⟨(some t24), oFieldAddr 0 (.t t23), (some (t20, false))⟩,
   ⟨(some t25), oFieldAddr 6 (.t t24), (some (t20, false))⟩,
   ⟨(some t26), oLoad1 (.t t25), (some (t20, false))⟩,
   ⟨(some t27), oLenL (.t t26), (some (t20, false))⟩,
   ⟨(some t28), oBin (int2 (cmpO geI)) (.t t21) (.t t27), (some (t20, false))⟩,
   ⟨(some t29), oPick (.t t20) (.v (.bool true)) (.t t28), none⟩])
 (xCond (.t t29)
 (xSeq (xOps [⟨(some t6), oMov (.v (.bool false)), none⟩])
 xRet)
 xSkip))
 (xSeq (xReg [⟨(some t30), oMov (.t t0), none⟩,
   ⟨(some t31), oNilCheck (.t t30), none⟩,
   ⟨(some t32), oFieldAddr 0 (.t t31), none⟩,
   ⟨(some t33), oFieldAddr 6 (.t t32), none⟩,
   ⟨(some t34), oLoad1 (.t t33), none⟩,
   ⟨(some t35), oMov (.t t1), none⟩,
   ⟨(some t36), oIdxAddrL 4 (.t t34) (.t t35), none⟩,
   ⟨(some t37), oLoadN 4 (.t t36), none⟩,
   ⟨(some t38), oMov (.t t0), none⟩,
   ⟨(some t39), oNilCheck (.t t38), none⟩,
   ⟨(some t40), oFieldAddr 0 (.t t39), none⟩,
   ⟨(some t41), oFieldAddr 6 (.t t40), none⟩,
   ⟨(some t42), oLoad1 (.t t41), none⟩,
   ⟨(some t43), oMov (.t t2), none⟩,
   ⟨(some t44), oIdxAddrL 4 (.t t42) (.t t43), none⟩,
   ⟨(some t45), oLoadN 4 (.t t44), none⟩,
   ⟨(some t7), oNew [(.int .i64 0), (.int .i64 0), (.int .i64 0), (.int .i64 0)], none⟩,
   ⟨(some t8), oNew [(.int .i64 0), (.int .i64 0), (.int .i64 0), (.int .i64 0)], none⟩,
   ⟨none, oStore 4 (.t t7) (.t t37), none⟩,
   ⟨none, oStore 4 (.t t8) (.t t45), none⟩] [(0, 5), (1, 5), (2, 5), (3, 5), (4, 5), (0, 8), (1, 8), (2, 8), (3, 8), (4, 8), (5, 8), (6, 8), (7, 8), (0, 9), (1, 9), (2, 9), (3, 9), (4, 9), (5, 9), (6, 9), (7, 9), (0, 10), (1, 10), (2, 10), (3, 10), (4, 10), (5, 10), (6, 10), (7, 10), (0, 11), (1, 11), (2, 11), (3, 11), (4, 11), (5, 11), (6, 11), (7, 11), (0, 12), (1, 12), (2, 12), (3, 12), (4, 12), (5, 12), (6, 12), (7, 12), (0, 13), (1, 13), (2, 13), (3, 13), (4, 13), (5, 13), (6, 13), (7, 13), (8, 13), (9, 13), (10, 13), (11, 13), (12, 13), (0, 14), (1, 14), (2, 14), (3, 14), (4, 14), (5, 14), (6, 14), (7, 14), (0, 15), (1, 15), (2, 15), (3, 15), (4, 15), (5, 15), (6, 15), (7, 15), (0, 16), (1, 16), (2, 16), (3, 16), (4, 16), (5, 16), (6, 16), (7, 16), (8, 16), (9, 16), (10, 16), (11, 16), (12, 16), (13, 16), (14, 16), (15, 16), (0, 17), (1, 17), (2, 17), (3, 17), (4, 17), (5, 17), (6, 17), (7, 17), (8, 17), (9, 17), (10, 17), (11, 17), (12, 17), (13, 17), (14, 17), (15, 17), (16, 17), (8, 18), (9, 18), (10, 18), (11, 18), (12, 18), (13, 18), (14, 18), (15, 18)])
 (xSeq (xOps [⟨(some t46), oFieldAddr 0 (.t t7), none⟩,
   ⟨(some t47), oLoad1 (.t t46), none⟩,
   ⟨(some t48), oBin (int2 (cmpO eqI)) (.t t47) (.v (.int .i64 19)), none⟩,
   ⟨(some t49), oMov (.t t48), none⟩,
   ⟨(some t50), oFieldAddr 0 (.t t8), (some (t49, true))⟩,
   ⟨(some t51), oLoad1 (.t t50), (some (t49, true))⟩,
   ⟨(some t52), oBin (int2 (cmpO eqI)) (.t t51) (.v (.int .i64 20)), (some (t49, true))⟩,
   ⟨(some t53), oPick (.t t49) (.t t52) (.v (.bool false)), none⟩,
   ⟨(some t54), oMov (.t t53), none⟩,
   ⟨(some t55), oFieldAddr 1 (.t t7), (some (t54, true))⟩,
   ⟨(some t56), oLoad1 (.t t55), (some (t54, true))⟩,
   ⟨(some t57), oFieldAddr 1 (.t t8), (some (t54, true))⟩,
   ⟨(some t58), oLoad1 (.t t57), (some (t54, true))⟩,
   ⟨(some t59), oBin (int2 (cmpO eqI)) (.t t56) (.t t58), (some (t54, true))⟩,
   ⟨(some t60), oPick (.t t54) (.t t59) (.v (.bool false)), none⟩,
   ⟨(some t61), oMov (.t t60), none⟩,
   ⟨(some t62), oFieldAddr 2 (.t t7), (some (t61, true))⟩,
   ⟨(some t63), oLoad1 (.t t62), (some (t61, true))⟩,
   ⟨(some t64), oFieldAddr 2 (.t t8), (some (t61, true))⟩,
   ⟨(some t65), oLoad1 (.t t64), (some (t61, true))⟩,
   ⟨(some t66), oBin (int2 (cmpO eqI)) (.t t63) (.t t65), (some (t61, true))⟩,
   ⟨(some t67), oPick (.t t61) (.t t66) (.v (.bool false)), none⟩,
   ⟨(some t68), oMov (.t t67), none⟩,
   ⟨(some t69), oFieldAddr 3 (.t t7), (some (t68, true))⟩,
   ⟨(some t70), oLoad1 (.t t69), (some (t68, true))⟩,
   ⟨(some t71), oBin (int2 subO) (.t t70) (.v (.int .i64 1)), (some (t68, true))⟩,
   ⟨(some t72), oMov (.t t2), (some (t68, true))⟩,
   ⟨(some t73), oBin (int2 (cmpO eqI)) (.t t71) (.t t72), (some (t68, true))⟩,
   ⟨(some t74), oPick (.t t68) (.t t73) (.v (.bool false)), none⟩,
   ⟨(some t75), oMov (.t t74), none⟩,
   ⟨(some t76), oFieldAddr 3 (.t t8), (some (t75, true))⟩,
   ⟨(some t77), oLoad1 (.t t76), (some (t75, true))⟩,
   ⟨(some t78), oBin (int2 subO) (.t t77) (.v (.int .i64 1)), (some (t75, true))⟩,
   ⟨(some t79), oMov (.t t1), (some (t75, true))⟩,
   ⟨(some t80), oBin (int2 (cmpO eqI)) (.t t78) (.t t79), (some (t75, true))⟩,
   ⟨(some t81), oPick (.t t75) (.t t80) (.v (.bool false)), none⟩,
   ⟨(some t6), oMov (.t t81), none⟩])
 xRet))))⟩
theorem ok27 : cFunc Try.prog noGl ex Try.f27 = some c27 := by kernel_rfl
/-- publican/verify.target -/
def c28 : AFunc := ⟨15, [.tmp t2, .tmp t3],
 (xSeq (xOps [⟨(some t1), oBox (.t t0), none⟩,
   ⟨(some t2), oMov (.v (.int .i64 0)), none⟩,
   ⟨(some t3), oMov (.v (.bool false)), none⟩])
 (xSeq (xSeq (xOps [⟨(some t4), oFieldAddr 0 (.t t1), none⟩,
   ⟨(some t5), oLoad1 (.t t4), none⟩])
 (xBlock 0 (xSeq (xSeq (xOps [⟨(some t7), oBin (int2 (cmpO eqI)) (.t t5) (.v (.int .i64 17)), none⟩,
   ⟨(some t6), oMov (.t t7), none⟩])
 (xCond (.t t6)
 xSkip
 (xOps [⟨(some t8), oBin (int2 (cmpO eqI)) (.t t5) (.v (.int .i64 18)), none⟩,
   ⟨(some t6), oMov (.t t8), none⟩])))
 (xCond (.t t6)
 (xSeq (xOps [⟨(some t9), oFieldAddr 1 (.t t1), none⟩,
   ⟨(some t10), oLoad1 (.t t9), none⟩,
   ⟨(some t2), oMov (.t t10), none⟩,
   ⟨(some t3), oMov (.v (.bool true)), none⟩])
 xRet)
 (xSeq (xOps [⟨(some t12), oBin (int2 (cmpO eqI)) (.t t5) (.v (.int .i64 19)), none⟩,
   ⟨(some t11), oMov (.t t12), none⟩])
 (xCond (.t t11)
 (xSeq (xOps [⟨(some t13), oFieldAddr 3 (.t t1), none⟩,
   ⟨(some t14), oLoad1 (.t t13), none⟩,
   ⟨(some t2), oMov (.t t14), none⟩,
   ⟨(some t3), oMov (.v (.bool true)), none⟩])
 xRet)
 xSkip))))))
 (xSeq (xOps [⟨(some t2), oMov (.v (.int .i64 0)), none⟩,
   ⟨(some t3), oMov (.v (.bool false)), none⟩])
 xRet)))⟩
theorem ok28 : cFunc Try.prog noGl ex Try.f28 = some c28 := by kernel_rfl
/-- (publican/verify.loop).in -/
def c29 : AFunc := ⟨15, [.tmp t4],
 (xSeq (xOps [⟨(some t2), oBox (.t t0), none⟩,
   ⟨(some t4), oMov (.v (.bool false)), none⟩])
 (xSeq (xOps [⟨(some t5), oMov (.t t1), none⟩,
   ⟨(some t6), oFieldAddr 0 (.t t2), none⟩,
   ⟨(some t7), oLoad1 (.t t6), none⟩,
   ⟨(some t8), oBin (int2 (cmpO gtI)) (.t t5) (.t t7), none⟩,
   ⟨(some t9), oMov (.t t8), none⟩,
   ⟨(some t10), oMov (.t t1), (some (t9, true))⟩,
   ⟨(some t11), oFieldAddr 1 (.t t2), (some (t9, true))⟩,
   ⟨(some t12), oLoad1 (.t t11), (some (t9, true))⟩,
   ⟨(some t13), oBin (int2 (cmpO leI)) (.t t10) (.t t12), (some (t9, true))⟩,
   ⟨(some t14), oPick (.t t9) (.t t13) (.v (.bool false)), none⟩,
   ⟨(some t4), oMov (.t t14), none⟩])
 xRet))⟩
theorem ok29 : cFunc Try.prog noGl ex Try.f29 = some c29 := by kernel_rfl
/-- (*publican/verify.checker).takes -/
def c30 : AFunc := ⟨207, [.tmp t6, .tmp t7],
 (xSeq (xOps [⟨(some t4), oBox (.t t1), none⟩,
   ⟨(some t6), oMov (.v (.slice none 0 0)), none⟩,
   ⟨(some t7), oMov (.v (.bool false)), none⟩])
 (xSeq (xOps [⟨(some t20), oFieldAddr 1 (.t t4), none⟩,
   ⟨(some t21), oLoad1 (.t t20), none⟩,
   ⟨(some t8), oMov (.t t21), none⟩])
 (xSeq (xSeq (xOps [⟨(some t22), oFieldAddr 0 (.t t4), none⟩,
   ⟨(some t23), oLoad1 (.t t22), none⟩])
 (xBlock 0 (xSeq (xOps [⟨(some t25), oBin (int2 (cmpO eqI)) (.t t23) (.v (.int .i64 0)), none⟩,
   ⟨(some t24), oMov (.t t25), none⟩])
 (xCond (.t t24)
 (xSeq (xReg [⟨(some t26), oMov (.t t2), none⟩,
   ⟨(some t27), oMov (.t t0), none⟩,
   ⟨(some t28), oNilCheck (.t t27), none⟩,
   ⟨(some t29), oFieldAddr 0 (.t t28), none⟩,
   ⟨(some t30), oFieldAddr 0 (.t t29), none⟩,
   ⟨(some t31), oLoad1 (.t t30), none⟩,
   ⟨(some t32), oFieldAddr 1 (.t t4), none⟩,
   ⟨(some t33), oLoad1 (.t t32), none⟩,
   ⟨(some t34), oIdxAddrL 3 (.t t31) (.t t33), none⟩,
   ⟨(some t35), oFieldAddr 0 (.t t34), none⟩,
   ⟨(some t36), oLoad1 (.t t35), none⟩,
   ⟨(some t37), oBuildSlice 1 [(.int .i64 0)] [(0, 1, (.t t36))], none⟩,
   ⟨(some t38), oAppend 1 8 (.t t26) (.t t37), none⟩,
   ⟨(some t6), oMov (.t t38), none⟩,
   ⟨(some t7), oMov (.v (.bool true)), none⟩] [(0, 1), (0, 2), (0, 3), (0, 4), (0, 5), (0, 6), (1, 6), (2, 6), (3, 6), (4, 6), (5, 6), (0, 7), (1, 7), (2, 7), (3, 7), (4, 7), (5, 7), (0, 8), (0, 9), (0, 10), (0, 11)])
 xRet)
 (xSeq (xOps [⟨(some t40), oBin (int2 (cmpO eqI)) (.t t23) (.v (.int .i64 1)), none⟩,
   ⟨(some t39), oMov (.t t40), none⟩])
 (xCond (.t t39)
 (xSeq (xReg [⟨(some t41), oMov (.t t2), none⟩,
   ⟨(some t42), oMov (.t t0), none⟩,
   ⟨(some t43), oNilCheck (.t t42), none⟩,
   ⟨(some t44), oFieldAddr 0 (.t t43), none⟩,
   ⟨(some t45), oFieldAddr 2 (.t t44), none⟩,
   ⟨(some t46), oLoad1 (.t t45), none⟩,
   ⟨(some t47), oFieldAddr 1 (.t t4), none⟩,
   ⟨(some t48), oLoad1 (.t t47), none⟩,
   ⟨(some t49), oIdxAddrL 1 (.t t46) (.t t48), none⟩,
   ⟨(some t50), oLoad1 (.t t49), none⟩,
   ⟨(some t51), oBuildSlice 1 [(.int .i64 0)] [(0, 1, (.t t50))], none⟩,
   ⟨(some t52), oAppend 1 8 (.t t41) (.t t51), none⟩,
   ⟨(some t6), oMov (.t t52), none⟩,
   ⟨(some t7), oMov (.v (.bool true)), none⟩] [(0, 1), (0, 2), (0, 3), (0, 4), (0, 5), (0, 6), (1, 6), (2, 6), (3, 6), (4, 6), (5, 6), (0, 7), (1, 7), (2, 7), (3, 7), (4, 7), (5, 7), (0, 8), (0, 9), (0, 10)])
 xRet)
 (xSeq (xOps [⟨(some t54), oBin (int2 (cmpO eqI)) (.t t23) (.v (.int .i64 2)), none⟩,
   ⟨(some t53), oMov (.t t54), none⟩])
 (xCond (.t t53)
 (xSeq (xReg [⟨(some t55), oMov (.t t2), none⟩,
   ⟨(some t56), oMov (.t t0), none⟩,
   ⟨(some t57), oNilCheck (.t t56), none⟩,
   ⟨(some t58), oFieldAddr 0 (.t t57), none⟩,
   ⟨(some t59), oFieldAddr 4 (.t t58), none⟩,
   ⟨(some t60), oLoad1 (.t t59), none⟩,
   ⟨(some t61), oFieldAddr 1 (.t t4), none⟩,
   ⟨(some t62), oLoad1 (.t t61), none⟩,
   ⟨(some t63), oIdxAddrL 1 (.t t60) (.t t62), none⟩,
   ⟨(some t64), oLoad1 (.t t63), none⟩,
   ⟨(some t65), oBuildSlice 1 [(.int .i64 0)] [(0, 1, (.t t64))], none⟩,
   ⟨(some t66), oAppend 1 8 (.t t55) (.t t65), none⟩,
   ⟨(some t6), oMov (.t t66), none⟩,
   ⟨(some t7), oMov (.v (.bool true)), none⟩] [(0, 1), (0, 2), (0, 3), (0, 4), (0, 5), (0, 6), (1, 6), (2, 6), (3, 6), (4, 6), (5, 6), (0, 7), (1, 7), (2, 7), (3, 7), (4, 7), (5, 7), (0, 8), (0, 9), (0, 10)])
 xRet)
 (xSeq (xOps [⟨(some t68), oBin (int2 (cmpO eqI)) (.t t23) (.v (.int .i64 15)), none⟩,
   ⟨(some t67), oMov (.t t68), none⟩])
 (xCond (.t t67)
 (xSeq (xOps [⟨(some t69), oMov (.t t2), none⟩,
   ⟨(some t70), oBuildSlice 1 [(.int .i64 0)] [(0, 1, (.v (.int .i64 2)))], none⟩,
   ⟨(some t71), oAppend 1 8 (.t t69) (.t t70), none⟩,
   ⟨(some t6), oMov (.t t71), none⟩,
   ⟨(some t7), oMov (.v (.bool true)), none⟩])
 xRet)
 (xSeq (xOps [⟨(some t73), oBin (int2 (cmpO eqI)) (.t t23) (.v (.int .i64 3)), none⟩,
   ⟨(some t72), oMov (.t t73), none⟩])
 (xCond (.t t72)
 (xSeq (xReg [⟨(some t74), oMov (.t t2), none⟩,
   ⟨(some t75), oMov (.t t0), none⟩,
   ⟨(some t76), oNilCheck (.t t75), none⟩,
   ⟨(some t77), oFieldAddr 0 (.t t76), none⟩,
   ⟨(some t78), oFieldAddr 4 (.t t77), none⟩,
   ⟨(some t79), oLoad1 (.t t78), none⟩,
   ⟨(some t80), oFieldAddr 1 (.t t4), none⟩,
   ⟨(some t81), oLoad1 (.t t80), none⟩,
   ⟨(some t82), oIdxAddrL 1 (.t t79) (.t t81), none⟩,
   ⟨(some t83), oLoad1 (.t t82), none⟩,
   ⟨(some t84), oBuildSlice 1 [(.int .i64 0)] [(0, 1, (.t t83))], none⟩,
   ⟨(some t85), oCall 45 [(.t t74), (.t t84)], none⟩,
   ⟨(some t86), oExtract (.t t85) 0, none⟩,
   ⟨(some t87), oExtract (.t t85) 1, none⟩,
   ⟨(some t6), oMov (.t t86), none⟩,
   ⟨(some t7), oMov (.t t87), none⟩] [(0, 1), (0, 2), (0, 3), (0, 4), (0, 5), (0, 6), (1, 6), (2, 6), (3, 6), (4, 6), (5, 6), (0, 7), (1, 7), (2, 7), (3, 7), (4, 7), (5, 7), (0, 8), (0, 9), (0, 10), (12, 13)])
 xRet)
 (xSeq (xOps [⟨(some t89), oBin (int2 (cmpO eqI)) (.t t23) (.v (.int .i64 22)), none⟩,
   ⟨(some t88), oMov (.t t89), none⟩])
 (xCond (.t t88)
 (xSeq (xReg [⟨(some t90), oMov (.t t2), none⟩,
   ⟨(some t91), oMov (.t t0), none⟩,
   ⟨(some t92), oNilCheck (.t t91), none⟩,
   ⟨(some t93), oFieldAddr 0 (.t t92), none⟩,
   ⟨(some t94), oFieldAddr 3 (.t t93), none⟩,
   ⟨(some t95), oLoad1 (.t t94), none⟩,
   ⟨(some t96), oFieldAddr 1 (.t t4), none⟩,
   ⟨(some t97), oLoad1 (.t t96), none⟩,
   ⟨(some t98), oIdxAddrL 1 (.t t95) (.t t97), none⟩,
   ⟨(some t99), oLoad1 (.t t98), none⟩,
   ⟨(some t100), oBuildSlice 1 [(.int .i64 0)] [(0, 1, (.t t99))], none⟩,
   ⟨(some t101), oCall 45 [(.t t90), (.t t100)], none⟩,
   ⟨(some t102), oExtract (.t t101) 0, none⟩,
   ⟨(some t103), oExtract (.t t101) 1, none⟩,
   ⟨(some t6), oMov (.t t102), none⟩,
   ⟨(some t7), oMov (.t t103), none⟩] [(0, 1), (0, 2), (0, 3), (0, 4), (0, 5), (0, 6), (1, 6), (2, 6), (3, 6), (4, 6), (5, 6), (0, 7), (1, 7), (2, 7), (3, 7), (4, 7), (5, 7), (0, 8), (0, 9), (0, 10), (12, 13)])
 xRet)
 (xSeq (xOps [⟨(some t105), oBin (int2 (cmpO eqI)) (.t t23) (.v (.int .i64 18)), none⟩,
   ⟨(some t104), oMov (.t t105), none⟩])
 (xCond (.t t104)
 (xSeq (xOps [⟨(some t106), oMov (.t t2), none⟩,
   ⟨(some t107), oBuildSlice 1 [(.int .i64 0)] [(0, 1, (.v (.int .i64 1)))], none⟩,
   ⟨(some t108), oCall 45 [(.t t106), (.t t107)], none⟩,
   ⟨(some t109), oExtract (.t t108) 0, none⟩,
   ⟨(some t110), oExtract (.t t108) 1, none⟩,
   ⟨(some t6), oMov (.t t109), none⟩,
   ⟨(some t7), oMov (.t t110), none⟩])
 xRet)
 (xSeq (xOps [⟨(some t112), oBin (int2 (cmpO eqI)) (.t t23) (.v (.int .i64 9)), none⟩,
   ⟨(some t111), oMov (.t t112), none⟩])
 (xCond (.t t111)
 (xSeq (xOps [⟨(some t114), oMov (.t t2), none⟩,
   ⟨(some t115), oBuildSlice 1 [(.int .i64 0)] [(0, 1, (.v (.int .i64 1)))], none⟩,
   ⟨(some t116), oCall 45 [(.t t114), (.t t115)], none⟩,
   ⟨(some t113), oMov (.t t116), none⟩,
   ⟨(some t117), oExtract (.t t113) 0, none⟩,
   ⟨(some t118), oExtract (.t t113) 1, none⟩,
   ⟨(some t9), oMov (.t t117), none⟩,
   ⟨(some t10), oMov (.t t118), none⟩])
 (xSeq (xOps [⟨(some t119), oMov (.t t9), none⟩,
   ⟨(some t120), oBuildSlice 1 [(.int .i64 0)] [(0, 1, (.v (.int .i64 1)))], none⟩,
   ⟨(some t121), oAppend 1 8 (.t t119) (.t t120), none⟩,
   ⟨(some t122), oMov (.t t10), none⟩,
   ⟨(some t6), oMov (.t t121), none⟩,
   ⟨(some t7), oMov (.t t122), none⟩])
 xRet))
 (xSeq (xOps [⟨(some t124), oBin (int2 (cmpO eqI)) (.t t23) (.v (.int .i64 8)), none⟩,
   ⟨(some t123), oMov (.t t124), none⟩])
 (xCond (.t t123)
 (xSeq (xOps [⟨(some t126), oMov (.t t2), none⟩,
   ⟨(some t127), oMov (.t t8), none⟩,
   ⟨(some t128), oBuildSlice 1 [(.int .i64 0)] [(0, 1, (.t t127))], none⟩,
   ⟨(some t129), oCall 45 [(.t t126), (.t t128)], none⟩,
   ⟨(some t125), oMov (.t t129), none⟩,
   ⟨(some t130), oExtract (.t t125) 0, none⟩,
   ⟨(some t131), oExtract (.t t125) 1, none⟩,
   ⟨(some t11), oMov (.t t130), none⟩,
   ⟨(some t12), oMov (.t t131), none⟩])
 (xSeq (xOps [⟨(some t132), oMov (.t t11), none⟩,
   ⟨(some t133), oMov (.t t8), none⟩,
   ⟨(some t134), oBuildSlice 1 [(.int .i64 0)] [(0, 1, (.t t133))], none⟩,
   ⟨(some t135), oAppend 1 8 (.t t132) (.t t134), none⟩,
   ⟨(some t136), oMov (.t t12), none⟩,
   ⟨(some t6), oMov (.t t135), none⟩,
   ⟨(some t7), oMov (.t t136), none⟩])
 xRet))
 (xSeq (xOps [⟨(some t138), oBin (int2 (cmpO eqI)) (.t t23) (.v (.int .i64 16)), none⟩,
   ⟨(some t137), oMov (.t t138), none⟩])
 (xCond (.t t137)
 (xSeq (xReg [⟨(some t139), oMov (.t t0), none⟩,
   ⟨(some t140), oNilCheck (.t t139), none⟩,
   ⟨(some t141), oFieldAddr 0 (.t t140), none⟩,
   ⟨(some t142), oFieldAddr 1 (.t t141), none⟩,
   ⟨(some t143), oLoad1 (.t t142), none⟩,
   ⟨(some t144), oFieldAddr 1 (.t t4), none⟩,
   ⟨(some t145), oLoad1 (.t t144), none⟩,
   ⟨(some t146), oIdxAddrL 4 (.t t143) (.t t145), none⟩,
   ⟨(some t147), oLoadN 4 (.t t146), none⟩,
   ⟨(some t13), oNew [(.int .i64 0), (.int .i64 0), (.slice none 0 0), (.slice none 0 0)], none⟩,
   ⟨none, oStore 4 (.t t13) (.t t147), none⟩] [(0, 5), (1, 5), (2, 5), (3, 5), (4, 5), (0, 6), (1, 6), (2, 6), (3, 6), (4, 6), (0, 9), (1, 9), (2, 9), (3, 9), (4, 9), (5, 9), (6, 9), (7, 9), (8, 9)])
 (xSeq (xOps [⟨(some t149), oMov (.t t2), none⟩,
   ⟨(some t150), oFieldAddr 0 (.t t13), none⟩,
   ⟨(some t151), oLoad1 (.t t150), none⟩,
   ⟨(some t152), oBuildSlice 1 [(.int .i64 0)] [(0, 1, (.t t151))], none⟩,
   ⟨(some t153), oCall 45 [(.t t149), (.t t152)], none⟩,
   ⟨(some t148), oMov (.t t153), none⟩,
   ⟨(some t154), oExtract (.t t148) 0, none⟩,
   ⟨(some t155), oExtract (.t t148) 1, none⟩,
   ⟨(some t14), oMov (.t t154), none⟩,
   ⟨(some t15), oMov (.t t155), none⟩])
 (xSeq (xOps [⟨(some t156), oMov (.t t14), none⟩,
   ⟨(some t157), oFieldAddr 1 (.t t13), none⟩,
   ⟨(some t158), oLoad1 (.t t157), none⟩,
   ⟨(some t159), oBuildSlice 1 [(.int .i64 0)] [(0, 1, (.t t158))], none⟩,
   ⟨(some t160), oAppend 1 8 (.t t156) (.t t159), none⟩,
   ⟨(some t161), oMov (.t t15), none⟩,
   ⟨(some t6), oMov (.t t160), none⟩,
   ⟨(some t7), oMov (.t t161), none⟩])
 xRet)))
 (xSeq (xSeq (xOps [⟨(some t163), oBin (int2 (cmpO eqI)) (.t t23) (.v (.int .i64 10)), none⟩,
   ⟨(some t162), oMov (.t t163), none⟩])
 (xCond (.t t162)
 xSkip
 (xSeq (xOps [⟨(some t164), oBin (int2 (cmpO eqI)) (.t t23) (.v (.int .i64 11)), none⟩,
   ⟨(some t162), oMov (.t t164), none⟩])
 (xCond (.t t162)
 xSkip
 (xOps [⟨(some t165), oBin (int2 (cmpO eqI)) (.t t23) (.v (.int .i64 12)), none⟩,
   ⟨(some t162), oMov (.t t165), none⟩])))))
 (xCond (.t t162)
 (xSeq (xOps [⟨(some t167), oMov (.t t2), none⟩,
   ⟨(some t168), oMov (.t t8), none⟩,
   ⟨(some t169), oMov (.t t8), none⟩,
   ⟨(some t170), oBuildSlice 2 [(.int .i64 0), (.int .i64 0)] [(0, 1, (.t t168)), (1, 1, (.t t169))], none⟩,
   ⟨(some t171), oCall 45 [(.t t167), (.t t170)], none⟩,
   ⟨(some t166), oMov (.t t171), none⟩,
   ⟨(some t172), oExtract (.t t166) 0, none⟩,
   ⟨(some t173), oExtract (.t t166) 1, none⟩,
   ⟨(some t16), oMov (.t t172), none⟩,
   ⟨(some t17), oMov (.t t173), none⟩])
 (xSeq (xOps [⟨(some t174), oMov (.t t16), none⟩,
   ⟨(some t175), oBuildSlice 1 [(.int .i64 0)] [(0, 1, (.v (.int .i64 1)))], none⟩,
   ⟨(some t176), oAppend 1 8 (.t t174) (.t t175), none⟩,
   ⟨(some t177), oMov (.t t17), none⟩,
   ⟨(some t6), oMov (.t t176), none⟩,
   ⟨(some t7), oMov (.t t177), none⟩])
 xRet))
 (xSeq (xSeq (xOps [⟨(some t179), oBin (int2 (cmpO eqI)) (.t t23) (.v (.int .i64 13)), none⟩,
   ⟨(some t178), oMov (.t t179), none⟩])
 (xCond (.t t178)
 xSkip
 (xOps [⟨(some t180), oBin (int2 (cmpO eqI)) (.t t23) (.v (.int .i64 14)), none⟩,
   ⟨(some t178), oMov (.t t180), none⟩])))
 (xCond (.t t178)
 (xSeq (xOps [⟨(some t182), oMov (.t t2), none⟩,
   ⟨(some t183), oMov (.t t8), none⟩,
   ⟨(some t184), oMov (.t t8), none⟩,
   ⟨(some t185), oBuildSlice 2 [(.int .i64 0), (.int .i64 0)] [(0, 1, (.t t183)), (1, 1, (.t t184))], none⟩,
   ⟨(some t186), oCall 45 [(.t t182), (.t t185)], none⟩,
   ⟨(some t181), oMov (.t t186), none⟩,
   ⟨(some t187), oExtract (.t t181) 0, none⟩,
   ⟨(some t188), oExtract (.t t181) 1, none⟩,
   ⟨(some t18), oMov (.t t187), none⟩,
   ⟨(some t19), oMov (.t t188), none⟩])
 (xSeq (xOps [⟨(some t189), oMov (.t t18), none⟩,
   ⟨(some t190), oMov (.t t8), none⟩,
   ⟨(some t191), oBuildSlice 1 [(.int .i64 0)] [(0, 1, (.t t190))], none⟩,
   ⟨(some t192), oAppend 1 8 (.t t189) (.t t191), none⟩,
   ⟨(some t193), oMov (.t t19), none⟩,
   ⟨(some t6), oMov (.t t192), none⟩,
   ⟨(some t7), oMov (.t t193), none⟩])
 xRet))
 (xSeq (xSeq (xOps [⟨(some t195), oBin (int2 (cmpO eqI)) (.t t23) (.v (.int .i64 4)), none⟩,
   ⟨(some t194), oMov (.t t195), none⟩])
 (xCond (.t t194)
 xSkip
 (xSeq (xOps [⟨(some t196), oBin (int2 (cmpO eqI)) (.t t23) (.v (.int .i64 5)), none⟩,
   ⟨(some t194), oMov (.t t196), none⟩])
 (xCond (.t t194)
 xSkip
 (xSeq (xOps [⟨(some t197), oBin (int2 (cmpO eqI)) (.t t23) (.v (.int .i64 6)), none⟩,
   ⟨(some t194), oMov (.t t197), none⟩])
 (xCond (.t t194)
 xSkip
 (xOps [⟨(some t198), oBin (int2 (cmpO eqI)) (.t t23) (.v (.int .i64 7)), none⟩,
   ⟨(some t194), oMov (.t t198), none⟩])))))))
 (xCond (.t t194)
 (xSeq (xOps [⟨(some t199), oFieldAddr 0 (.t t4), none⟩,
   ⟨(some t200), oLoad1 (.t t199), none⟩,
   ⟨(some t201), oMov (.t t8), none⟩,
   ⟨(some t202), oMov (.t t2), none⟩,
   ⟨(some t203), oCall 46 [(.t t200), (.t t201), (.t t202)], none⟩,
   ⟨(some t204), oExtract (.t t203) 0, none⟩,
   ⟨(some t205), oExtract (.t t203) 1, none⟩,
   ⟨(some t6), oMov (.t t204), none⟩,
   ⟨(some t7), oMov (.t t205), none⟩])
 xRet)
 xSkip))))))))))))))))))))))))))))
 (xSeq (xOps [⟨(some t206), oMov (.t t2), none⟩,
   ⟨(some t6), oMov (.t t206), none⟩,
   ⟨(some t7), oMov (.v (.bool true)), none⟩])
 xRet))))⟩
theorem ok30 : cFunc Try.prog noGl ex Try.f30 = some c30 := by kernel_rfl
/-- slices.Clip[[]publican/api.Kind,publican/api.Kind] -/
def c31 : AFunc := ⟨9, [.tmp t2],
 (xSeq (xOps [⟨(some t2), oMov (.v (.slice none 0 0)), none⟩])
 (xSeq (xOps [⟨(some t3), oMov (.t t0), none⟩,
   ⟨(some t4), oMov (.t t0), none⟩,
   ⟨(some t5), oLenL (.t t4), none⟩,
   ⟨(some t6), oMov (.t t0), none⟩,
   ⟨(some t7), oLenL (.t t6), none⟩,
   ⟨(some t8), oSliceL 1 (.t t3) none (some (.t t5)) (some (.t t7)), none⟩,
   ⟨(some t2), oMov (.t t8), none⟩])
 xRet))⟩
theorem ok31 : cFunc Try.prog noGl ex Try.f31 = some c31 := by kernel_rfl
/-- slices.Clone[[]publican/api.Kind,publican/api.Kind] -/
def c32 : AFunc := ⟨8, [.tmp t2],
 (xSeq (xOps [⟨(some t2), oMov (.v (.slice none 0 0)), none⟩])
 (xSeq (xSeq (xOps [⟨(some t3), oMov (.t t0), none⟩,
   ⟨(some t4), oEqv eqL false (.t t3) (.v (.slice none 0 0)), none⟩])
 (xCond (.t t4)
 (xSeq (xOps [⟨(some t2), oMov (.v (.slice none 0 0)), none⟩])
 xRet)
 xSkip))
 (xSeq (xOps [⟨(some t5), oBuildSlice 0 [] [], none⟩,
   ⟨(some t6), oMov (.t t0), none⟩,
   ⟨(some t7), oAppend 1 8 (.t t5) (.t t6), none⟩,
   ⟨(some t2), oMov (.t t7), none⟩])
 xRet)))⟩
theorem ok32 : cFunc Try.prog noGl ex Try.f32 = some c32 := by kernel_rfl
/-- publican/verify.nexts -/
def c33 : AFunc := ⟨32, [.tmp t4],
 (xSeq (xOps [⟨(some t3), oBox (.t t1), none⟩,
   ⟨(some t4), oMov (.v (.slice none 0 0)), none⟩])
 (xSeq (xSeq (xOps [⟨(some t5), oFieldAddr 0 (.t t3), none⟩,
   ⟨(some t6), oLoad1 (.t t5), none⟩])
 (xBlock 0 (xSeq (xOps [⟨(some t8), oBin (int2 (cmpO eqI)) (.t t6) (.v (.int .i64 17)), none⟩,
   ⟨(some t7), oMov (.t t8), none⟩])
 (xCond (.t t7)
 (xSeq (xOps [⟨(some t9), oFieldAddr 1 (.t t3), none⟩,
   ⟨(some t10), oLoad1 (.t t9), none⟩,
   ⟨(some t11), oBuildSlice 1 [(.int .i64 0)] [(0, 1, (.t t10))], none⟩,
   ⟨(some t4), oMov (.t t11), none⟩])
 xRet)
 (xSeq (xOps [⟨(some t13), oBin (int2 (cmpO eqI)) (.t t6) (.v (.int .i64 23)), none⟩,
   ⟨(some t12), oMov (.t t13), none⟩])
 (xCond (.t t12)
 (xSeq (xOps [⟨(some t4), oMov (.v (.slice none 0 0)), none⟩])
 xRet)
 (xSeq (xOps [⟨(some t15), oBin (int2 (cmpO eqI)) (.t t6) (.v (.int .i64 18)), none⟩,
   ⟨(some t14), oMov (.t t15), none⟩])
 (xCond (.t t14)
 (xSeq (xOps [⟨(some t16), oMov (.t t0), none⟩,
   ⟨(some t17), oBin (int2 addO) (.t t16) (.v (.int .i64 1)), none⟩,
   ⟨(some t18), oFieldAddr 1 (.t t3), none⟩,
   ⟨(some t19), oLoad1 (.t t18), none⟩,
   ⟨(some t20), oBuildSlice 2 [(.int .i64 0), (.int .i64 0)] [(0, 1, (.t t17)), (1, 1, (.t t19))], none⟩,
   ⟨(some t4), oMov (.t t20), none⟩])
 xRet)
 (xSeq (xSeq (xOps [⟨(some t22), oBin (int2 (cmpO eqI)) (.t t6) (.v (.int .i64 19)), none⟩,
   ⟨(some t21), oMov (.t t22), none⟩])
 (xCond (.t t21)
 xSkip
 (xOps [⟨(some t23), oBin (int2 (cmpO eqI)) (.t t6) (.v (.int .i64 20)), none⟩,
   ⟨(some t21), oMov (.t t23), none⟩])))
 (xCond (.t t21)
 (xSeq (xOps [⟨(some t24), oMov (.t t0), none⟩,
   ⟨(some t25), oBin (int2 addO) (.t t24) (.v (.int .i64 1)), none⟩,
   ⟨(some t26), oFieldAddr 3 (.t t3), none⟩,
   ⟨(some t27), oLoad1 (.t t26), none⟩,
   ⟨(some t28), oBuildSlice 2 [(.int .i64 0), (.int .i64 0)] [(0, 1, (.t t25)), (1, 1, (.t t27))], none⟩,
   ⟨(some t4), oMov (.t t28), none⟩])
 xRet)
 xSkip))))))))))
 (xSeq (xOps [⟨(some t29), oMov (.t t0), none⟩,
   ⟨(some t30), oBin (int2 addO) (.t t29) (.v (.int .i64 1)), none⟩,
   ⟨(some t31), oBuildSlice 1 [(.int .i64 0)] [(0, 1, (.t t30))], none⟩,
   ⟨(some t4), oMov (.t t31), none⟩])
 xRet)))⟩
theorem ok33 : cFunc Try.prog noGl ex Try.f33 = some c33 := by kernel_rfl
/-- slices.Equal[[]publican/api.Kind,publican/api.Kind] -/
def c34 : AFunc := ⟨26, [.tmp t4],
 (xSeq (xOps [⟨(some t4), oMov (.v (.bool false)), none⟩])
 (xSeq (xSeq (xOps [⟨(some t6), oMov (.t t0), none⟩,
   ⟨(some t7), oLenL (.t t6), none⟩,
   ⟨(some t8), oMov (.t t1), none⟩,
   ⟨(some t9), oLenL (.t t8), none⟩,
   ⟨(some t10), oBin (int2 (cmpO neI)) (.t t7) (.t t9), none⟩])
 (xCond (.t t10)
 (xSeq (xOps [⟨(some t4), oMov (.v (.bool false)), none⟩])
 xRet)
 xSkip))
 (xSeq (xSeq (xOps [⟨(some t11), oMov (.t t0), none⟩,
   ⟨(some t12), oLenL (.t t11), none⟩,
   ⟨(some t13), oMov (.v (.int .i64 0)), none⟩])
 (xBlock 0 (xLoop (xSeq (xOps [⟨(some t14), oBin (int2 (cmpO ltI)) (.t t13) (.t t12), none⟩])
 (xSeq (xCond (.t t14)
 xSkip
 (xExit 0))
 (xSeq (xBlock 1 (xSeq (xOps [⟨(some t15), oMov (.t t13), none⟩,
   ⟨(some t5), oMov (.t t15), none⟩])
 (xSeq (xReg [⟨(some t16), oMov (.t t0), none⟩,
   ⟨(some t17), oMov (.t t5), none⟩,
   ⟨(some t18), oIdxAddrL 1 (.t t16) (.t t17), none⟩,
   ⟨(some t19), oLoad1 (.t t18), none⟩,
   ⟨(some t20), oMov (.t t1), none⟩,
   ⟨(some t21), oMov (.t t5), none⟩,
   ⟨(some t22), oIdxAddrL 1 (.t t20) (.t t21), none⟩,
   ⟨(some t23), oLoad1 (.t t22), none⟩,
   ⟨(some t24), oBin (int2 (cmpO neI)) (.t t19) (.t t23), none⟩] [(0, 1), (0, 4), (1, 4), (2, 4), (3, 4), (0, 5), (1, 5), (2, 5), (3, 5), (4, 5), (0, 6), (1, 6), (2, 6), (3, 6), (0, 7), (1, 7), (2, 7), (3, 7)])
 (xCond (.t t24)
 (xSeq (xOps [⟨(some t4), oMov (.v (.bool false)), none⟩])
 xRet)
 xSkip))))
 (xOps [⟨(some t25), oBin (int2 addO) (.t t13) (.v (.int .i64 1)), none⟩,
   ⟨(some t13), oMov (.t t25), none⟩])))))))
 (xSeq (xOps [⟨(some t4), oMov (.v (.bool true)), none⟩])
 xRet))))⟩
theorem ok34 : cFunc Try.prog noGl ex Try.f34 = some c34 := by kernel_rfl
/-- (*publican/verify.checker).inLoop -/
def c35 : AFunc := ⟨11, [.tmp t4],
 (xSeq (xOps [⟨(some t3), oBox (.t t1), none⟩,
   ⟨(some t4), oMov (.v (.bool false)), none⟩])
 (xSeq (xOps [⟨(some t5), oMov (.t t0), none⟩,
   ⟨(some t6), oNilCheck (.t t5), none⟩,
   ⟨(some t7), oFieldAddr 7 (.t t6), none⟩,
   ⟨(some t8), oLoad1 (.t t7), none⟩,
   ⟨(some t9), oFunc (.func 48) [] [(.t t3)], none⟩,
   ⟨(some t10), oCall 47 [(.t t8), (.t t9)], none⟩,
   ⟨(some t4), oMov (.t t10), none⟩])
 xRet))⟩
theorem ok35 : cFunc Try.prog noGl ex Try.f35 = some c35 := by kernel_rfl
/-- (*publican/verify.checker).steps$1 -/
def c36 : AFunc := ⟨20, [.tmp t5],
 (xSeq (xOps [⟨(some t5), oMov (.v (.int .i64 0)), none⟩])
 (xSeq (xSeq (xOps [⟨(some t6), oMov (.t t0), none⟩,
   ⟨(some t7), oLoad1 (.t t1), none⟩,
   ⟨(some t8), oBin (int2 (cmpO ltI)) (.t t6) (.t t7), none⟩,
   ⟨(some t9), oMov (.t t8), none⟩,
   ⟨(some t10), oMov (.t t0), (some (t9, false))⟩,
   ⟨(some t11), oLoad1 (.t t2), (some (t9, false))⟩,
   ⟨(some t12), oBin (int2 (cmpO gtI)) (.t t10) (.t t11), (some (t9, false))⟩,
   ⟨(some t13), oPick (.t t9) (.v (.bool true)) (.t t12), none⟩])
 (xCond (.t t13)
 (xSeq (xOps [⟨(some t5), oMov (.v (.int .i64 0)), none⟩])
 xRet)
 xSkip))
 (xSeq (xOps [⟨(some t14), oLoad1 (.t t3), none⟩,
   ⟨(some t15), oMov (.t t0), none⟩,
   ⟨(some t16), oLoad1 (.t t1), none⟩,
   ⟨(some t17), oBin (int2 subO) (.t t15) (.t t16), none⟩,
   ⟨(some t18), oIdxAddrL 1 (.t t14) (.t t17), none⟩,
   ⟨(some t19), oLoad1 (.t t18), none⟩,
   ⟨(some t5), oMov (.t t19), none⟩])
 xRet)))⟩
theorem ok36 : cFunc Try.prog noGl ex Try.f36 = some c36 := by kernel_rfl
/-- publican/mean.Fit -/
def c37 : AFunc := ⟨39, [.tmp t4],
 (xSeq (xOps [⟨(some t4), oMov (.v (.bool false)), none⟩])
 (xSeq (xSeq (xOps [⟨(some t5), oMov (.t t0), none⟩])
 (xBlock 0 (xSeq (xOps [⟨(some t7), oBin (int2 (cmpO eqI)) (.t t5) (.v (.int .i64 1)), none⟩,
   ⟨(some t6), oMov (.t t7), none⟩])
 (xCond (.t t6)
 (xSeq (xOps [⟨(some t8), oMov (.t t1), none⟩,
   ⟨(some t9), oBin (int2 (cmpO eqI)) (.t t8) (.v (.int .i64 0)), none⟩,
   ⟨(some t10), oMov (.t t9), none⟩,
   ⟨(some t11), oMov (.t t1), (some (t10, false))⟩,
   ⟨(some t12), oBin (int2 (cmpO eqI)) (.t t11) (.v (.int .i64 1)), (some (t10, false))⟩,
   ⟨(some t13), oPick (.t t10) (.v (.bool true)) (.t t12), none⟩,
   ⟨(some t4), oMov (.t t13), none⟩])
 xRet)
 (xSeq (xSeq (xOps [⟨(some t15), oBin (int2 (cmpO eqI)) (.t t5) (.v (.int .i64 2)), none⟩,
   ⟨(some t14), oMov (.t t15), none⟩])
 (xCond (.t t14)
 xSkip
 (xOps [⟨(some t16), oBin (int2 (cmpO eqI)) (.t t5) (.v (.int .i64 3)), none⟩,
   ⟨(some t14), oMov (.t t16), none⟩])))
 (xCond (.t t14)
 (xSeq (xOps [⟨(some t17), oMov (.t t1), none⟩,
   ⟨(some t18), oBin (int2 (cmpO geI)) (.t t17) (.v (.int .i64 (-4503599627370496))), none⟩,
   ⟨(some t19), oMov (.t t18), none⟩,
   ⟨(some t20), oMov (.t t1), (some (t19, true))⟩,
   ⟨(some t21), oBin (int2 (cmpO leI)) (.t t20) (.v (.int .i64 4503599627370496)), (some (t19, true))⟩,
   ⟨(some t22), oPick (.t t19) (.t t21) (.v (.bool false)), none⟩,
   ⟨(some t4), oMov (.t t22), none⟩])
 xRet)
 (xSeq (xOps [⟨(some t24), oBin (int2 (cmpO eqI)) (.t t5) (.v (.int .i64 4)), none⟩,
   ⟨(some t23), oMov (.t t24), none⟩])
 (xCond (.t t23)
 (xSeq (xOps [⟨(some t25), oMov (.t t1), none⟩,
   ⟨(some t26), oBin (int2 (cmpO geI)) (.t t25) (.v (.int .i64 (-1000000000000))), none⟩,
   ⟨(some t27), oMov (.t t26), none⟩,
   ⟨(some t28), oMov (.t t1), (some (t27, true))⟩,
   ⟨(some t29), oBin (int2 (cmpO leI)) (.t t28) (.v (.int .i64 1000000000000)), (some (t27, true))⟩,
   ⟨(some t30), oPick (.t t27) (.t t29) (.v (.bool false)), none⟩,
   ⟨(some t4), oMov (.t t30), none⟩])
 xRet)
 (xSeq (xOps [⟨(some t32), oBin (int2 (cmpO eqI)) (.t t5) (.v (.int .i64 5)), none⟩,
   ⟨(some t31), oMov (.t t32), none⟩])
 (xCond (.t t31)
 (xSeq (xOps [⟨(some t33), oMov (.t t1), none⟩,
   ⟨(some t34), oBin (int2 (cmpO geI)) (.t t33) (.v (.int .i64 0)), none⟩,
   ⟨(some t35), oMov (.t t34), none⟩,
   ⟨(some t36), oMov (.t t1), (some (t35, true))⟩,
   ⟨(some t37), oBin (int2 (cmpO leI)) (.t t36) (.v (.int .i64 109572)), (some (t35, true))⟩,
   ⟨(some t38), oPick (.t t35) (.t t37) (.v (.bool false)), none⟩,
   ⟨(some t4), oMov (.t t38), none⟩])
 xRet)
 xSkip))))))))))
 (xSeq (xOps [⟨(some t4), oMov (.v (.bool false)), none⟩])
 xRet)))⟩
theorem ok37 : cFunc Try.prog noGl ex Try.f37 = some c37 := by kernel_rfl
/-- publican/mean.FitsKind$1 -/
def c38 : AFunc := ⟨6, [.tmp t2],
 (xSeq (xOps [⟨(some t2), oMov (.v (.bool false)), none⟩])
 (xSeq (xOps [⟨(some t3), oMov (.t t0), none⟩,
   ⟨(some t4), oCall 37 [(.v (.int .i64 3)), (.t t3)], none⟩,
   ⟨(some t5), oNot (.t t4), none⟩,
   ⟨(some t2), oMov (.t t5), none⟩])
 xRet))⟩
theorem ok38 : cFunc Try.prog noGl ex Try.f38 = some c38 := by kernel_rfl
/-- slices.ContainsFunc[[]int64,int64] -/
def c39 : AFunc := ⟨9, [.tmp t4],
 (xSeq (xOps [⟨(some t4), oMov (.v (.bool false)), none⟩])
 (xSeq (xOps [⟨(some t5), oMov (.t t0), none⟩,
   ⟨(some t6), oMov (.t t1), none⟩,
   ⟨(some t7), oCall 49 [(.t t5), (.t t6)], none⟩,
   ⟨(some t8), oBin (int2 (cmpO geI)) (.t t7) (.v (.int .i64 0)), none⟩,
   ⟨(some t4), oMov (.t t8), none⟩])
 xRet))⟩
theorem ok39 : cFunc Try.prog noGl ex Try.f39 = some c39 := by kernel_rfl
/-- slices.ContainsFunc[[]publican/api.Kind,publican/api.Kind] -/
def c40 : AFunc := ⟨9, [.tmp t4],
 (xSeq (xOps [⟨(some t4), oMov (.v (.bool false)), none⟩])
 (xSeq (xOps [⟨(some t5), oMov (.t t0), none⟩,
   ⟨(some t6), oMov (.t t1), none⟩,
   ⟨(some t7), oCall 50 [(.t t5), (.t t6)], none⟩,
   ⟨(some t8), oBin (int2 (cmpO geI)) (.t t7) (.v (.int .i64 0)), none⟩,
   ⟨(some t4), oMov (.t t8), none⟩])
 xRet))⟩
theorem ok40 : cFunc Try.prog noGl ex Try.f40 = some c40 := by kernel_rfl
/-- publican/verify.allKinds$1 -/
def c41 : AFunc := ⟨8, [.tmp t3],
 (xSeq (xOps [⟨(some t3), oMov (.v (.bool false)), none⟩])
 (xSeq (xOps [⟨(some t4), oMov (.t t0), none⟩,
   ⟨(some t5), oLoad1 (.t t1), none⟩,
   ⟨(some t6), oCall 17 [(.t t4), (.v (.int .i64 1)), (.t t5)], none⟩,
   ⟨(some t7), oNot (.t t6), none⟩,
   ⟨(some t3), oMov (.t t7), none⟩])
 xRet))⟩
theorem ok41 : cFunc Try.prog noGl ex Try.f41 = some c41 := by kernel_rfl
/-- slices.IndexFunc[[]publican/api.Value,publican/api.Value] -/
def c42 : AFunc := ⟨19, [.tmp t4],
 (xSeq (xOps [⟨(some t4), oMov (.v (.int .i64 0)), none⟩])
 (xSeq (xSeq (xOps [⟨(some t6), oMov (.t t0), none⟩,
   ⟨(some t7), oLenL (.t t6), none⟩,
   ⟨(some t8), oMov (.v (.int .i64 0)), none⟩])
 (xBlock 0 (xLoop (xSeq (xOps [⟨(some t9), oBin (int2 (cmpO ltI)) (.t t8) (.t t7), none⟩])
 (xSeq (xCond (.t t9)
 xSkip
 (xExit 0))
 (xSeq (xBlock 1 (xSeq (xOps [⟨(some t10), oMov (.t t8), none⟩,
   ⟨(some t5), oMov (.t t10), none⟩])
 (xSeq (xOps [⟨(some t11), oMov (.t t1), none⟩,
   ⟨(some t12), oMov (.t t0), none⟩,
   ⟨(some t13), oMov (.t t5), none⟩,
   ⟨(some t14), oIdxAddrL 3 (.t t12) (.t t13), none⟩,
   ⟨(some t15), oLoadN 3 (.t t14), none⟩,
   ⟨(some t16), oCallV (.t t11) [(.t t15)], none⟩])
 (xCond (.t t16)
 (xSeq (xOps [⟨(some t17), oMov (.t t5), none⟩,
   ⟨(some t4), oMov (.t t17), none⟩])
 xRet)
 xSkip))))
 (xOps [⟨(some t18), oBin (int2 addO) (.t t8) (.v (.int .i64 1)), none⟩,
   ⟨(some t8), oMov (.t t18), none⟩])))))))
 (xSeq (xOps [⟨(some t4), oMov (.v (.int .i64 (-1))), none⟩])
 xRet)))⟩
theorem ok42 : cFunc Try.prog noGl ex Try.f42 = some c42 := by kernel_rfl
/-- slices.IndexFunc[[]publican/code.Table,publican/code.Table] -/
def c43 : AFunc := ⟨19, [.tmp t4],
 (xSeq (xOps [⟨(some t4), oMov (.v (.int .i64 0)), none⟩])
 (xSeq (xSeq (xOps [⟨(some t6), oMov (.t t0), none⟩,
   ⟨(some t7), oLenL (.t t6), none⟩,
   ⟨(some t8), oMov (.v (.int .i64 0)), none⟩])
 (xBlock 0 (xLoop (xSeq (xOps [⟨(some t9), oBin (int2 (cmpO ltI)) (.t t8) (.t t7), none⟩])
 (xSeq (xCond (.t t9)
 xSkip
 (xExit 0))
 (xSeq (xBlock 1 (xSeq (xOps [⟨(some t10), oMov (.t t8), none⟩,
   ⟨(some t5), oMov (.t t10), none⟩])
 (xSeq (xOps [⟨(some t11), oMov (.t t1), none⟩,
   ⟨(some t12), oMov (.t t0), none⟩,
   ⟨(some t13), oMov (.t t5), none⟩,
   ⟨(some t14), oIdxAddrL 4 (.t t12) (.t t13), none⟩,
   ⟨(some t15), oLoadN 4 (.t t14), none⟩,
   ⟨(some t16), oCallV (.t t11) [(.t t15)], none⟩])
 (xCond (.t t16)
 (xSeq (xOps [⟨(some t17), oMov (.t t5), none⟩,
   ⟨(some t4), oMov (.t t17), none⟩])
 xRet)
 xSkip))))
 (xOps [⟨(some t18), oBin (int2 addO) (.t t8) (.v (.int .i64 1)), none⟩,
   ⟨(some t8), oMov (.t t18), none⟩])))))))
 (xSeq (xOps [⟨(some t4), oMov (.v (.int .i64 (-1))), none⟩])
 xRet)))⟩
theorem ok43 : cFunc Try.prog noGl ex Try.f43 = some c43 := by kernel_rfl
/-- publican/verify.table$1 -/
def c44 : AFunc := ⟨9, [.tmp t3],
 (xSeq (xOps [⟨(some t3), oMov (.v (.bool false)), none⟩])
 (xSeq (xOps [⟨(some t4), oFieldAddr 1 (.t t1), none⟩,
   ⟨(some t5), oLoad1 (.t t4), none⟩,
   ⟨(some t6), oMov (.t t0), none⟩,
   ⟨(some t7), oCall 37 [(.t t5), (.t t6)], none⟩,
   ⟨(some t8), oNot (.t t7), none⟩,
   ⟨(some t3), oMov (.t t8), none⟩])
 xRet))⟩
theorem ok44 : cFunc Try.prog noGl ex Try.f44 = some c44 := by kernel_rfl
/-- publican/verify.pop -/
def c45 : AFunc := ⟨26, [.tmp t4, .tmp t5],
 (xSeq (xOps [⟨(some t4), oMov (.v (.slice none 0 0)), none⟩,
   ⟨(some t5), oMov (.v (.bool false)), none⟩])
 (xSeq (xOps [⟨(some t7), oMov (.t t0), none⟩,
   ⟨(some t8), oLenL (.t t7), none⟩,
   ⟨(some t9), oMov (.t t1), none⟩,
   ⟨(some t10), oLenL (.t t9), none⟩,
   ⟨(some t11), oBin (int2 subO) (.t t8) (.t t10), none⟩,
   ⟨(some t6), oMov (.t t11), none⟩])
 (xSeq (xSeq (xOps [⟨(some t12), oMov (.t t6), none⟩,
   ⟨(some t13), oBin (int2 (cmpO ltI)) (.t t12) (.v (.int .i64 0)), none⟩,
   ⟨(some t14), oMov (.t t13), none⟩,
   ⟨(some t15), oMov (.t t0), (some (t14, false))⟩,
   ⟨(some t16), oMov (.t t6), (some (t14, false))⟩,
   ⟨(some t17), oSliceL 1 (.t t15) (some (.t t16)) none none, (some (t14, false))⟩,
   ⟨(some t18), oMov (.t t1), (some (t14, false))⟩,
   ⟨(some t19), oCall 34 [(.t t17), (.t t18)], (some (t14, false))⟩,
   ⟨(some t20), oNot (.t t19), (some (t14, false))⟩,
   ⟨(some t21), oPick (.t t14) (.v (.bool true)) (.t t20), none⟩])
 (xCond (.t t21)
 (xSeq (xOps [⟨(some t4), oMov (.v (.slice none 0 0)), none⟩,
   ⟨(some t5), oMov (.v (.bool false)), none⟩])
 xRet)
 xSkip))
 (xSeq (xOps [⟨(some t22), oMov (.t t0), none⟩,
   ⟨(some t23), oMov (.t t6), none⟩,
   ⟨(some t24), oMov (.t t6), none⟩,
   ⟨(some t25), oSliceL 1 (.t t22) none (some (.t t23)) (some (.t t24)), none⟩,
   ⟨(some t4), oMov (.t t25), none⟩,
   ⟨(some t5), oMov (.v (.bool true)), none⟩])
 xRet))))⟩
theorem ok45 : cFunc Try.prog noGl ex Try.f45 = some c45 := by kernel_rfl
/-- publican/verify.reckons -/
def c46 : AFunc := ⟨42, [.tmp t6, .tmp t7],
 (xSeq (xOps [⟨(some t6), oMov (.v (.slice none 0 0)), none⟩,
   ⟨(some t7), oMov (.v (.bool false)), none⟩])
 (xSeq (xSeq (xOps [⟨(some t11), oMov (.t t2), none⟩,
   ⟨(some t12), oLenL (.t t11), none⟩,
   ⟨(some t13), oBin (int2 (cmpO ltI)) (.t t12) (.v (.int .i64 2)), none⟩])
 (xCond (.t t13)
 (xSeq (xOps [⟨(some t6), oMov (.v (.slice none 0 0)), none⟩,
   ⟨(some t7), oMov (.v (.bool false)), none⟩])
 xRet)
 xSkip))
 (xSeq (xReg [⟨(some t14), oMov (.t t2), none⟩,
   ⟨(some t15), oMov (.t t2), none⟩,
   ⟨(some t16), oLenL (.t t15), none⟩,
   ⟨(some t17), oBin (int2 subO) (.t t16) (.v (.int .i64 2)), none⟩,
   ⟨(some t18), oIdxAddrL 1 (.t t14) (.t t17), none⟩,
   ⟨(some t19), oLoad1 (.t t18), none⟩,
   ⟨(some t20), oMov (.t t2), none⟩,
   ⟨(some t21), oMov (.t t2), none⟩,
   ⟨(some t22), oLenL (.t t21), none⟩,
   ⟨(some t23), oBin (int2 subO) (.t t22) (.v (.int .i64 1)), none⟩,
   ⟨(some t24), oIdxAddrL 1 (.t t20) (.t t23), none⟩,
   ⟨(some t25), oLoad1 (.t t24), none⟩,
   ⟨(some t8), oMov (.t t19), none⟩,
   ⟨(some t9), oMov (.t t25), none⟩] [(0, 1), (0, 2), (0, 3), (0, 6), (1, 6), (2, 6), (3, 6), (4, 6), (5, 6), (0, 7), (1, 7), (2, 7), (3, 7), (4, 7), (5, 7), (6, 7), (0, 8), (1, 8), (2, 8), (3, 8), (4, 8), (5, 8), (6, 8), (0, 9), (1, 9), (2, 9), (3, 9), (4, 9), (5, 9), (6, 9), (0, 10), (1, 10), (2, 10), (3, 10), (4, 10), (5, 10), (0, 11), (1, 11), (2, 11), (3, 11), (4, 11), (5, 11), (6, 12), (7, 12), (8, 12), (9, 12), (10, 12), (11, 12)])
 (xSeq (xSeq (xOps [⟨(some t26), oMov (.t t0), none⟩,
   ⟨(some t27), oMov (.t t1), none⟩,
   ⟨(some t28), oMov (.t t8), none⟩,
   ⟨(some t29), oMov (.t t9), none⟩,
   ⟨(some t30), oCall 51 [(.t t26), (.t t27), (.t t28), (.t t29)], none⟩,
   ⟨(some t31), oNot (.t t30), none⟩])
 (xCond (.t t31)
 (xSeq (xOps [⟨(some t6), oMov (.v (.slice none 0 0)), none⟩,
   ⟨(some t7), oMov (.v (.bool false)), none⟩])
 xRet)
 xSkip))
 (xSeq (xOps [⟨(some t32), oMov (.t t2), none⟩,
   ⟨(some t33), oLenL (.t t32), none⟩,
   ⟨(some t34), oBin (int2 subO) (.t t33) (.v (.int .i64 2)), none⟩,
   ⟨(some t10), oMov (.t t34), none⟩])
 (xSeq (xOps [⟨(some t35), oMov (.t t2), none⟩,
   ⟨(some t36), oMov (.t t10), none⟩,
   ⟨(some t37), oMov (.t t10), none⟩,
   ⟨(some t38), oSliceL 1 (.t t35) none (some (.t t36)) (some (.t t37)), none⟩,
   ⟨(some t39), oMov (.t t1), none⟩,
   ⟨(some t40), oBuildSlice 1 [(.int .i64 0)] [(0, 1, (.t t39))], none⟩,
   ⟨(some t41), oAppend 1 8 (.t t38) (.t t40), none⟩,
   ⟨(some t6), oMov (.t t41), none⟩,
   ⟨(some t7), oMov (.v (.bool true)), none⟩])
 xRet))))))⟩
theorem ok46 : cFunc Try.prog noGl ex Try.f46 = some c46 := by kernel_rfl
end
end Go.Proofs.Ytejgfgjknbmicaa.AbsVerN
