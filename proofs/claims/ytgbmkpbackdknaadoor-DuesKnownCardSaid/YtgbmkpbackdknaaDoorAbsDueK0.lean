import Derived.Test.YtgbmkpbackdknaaDoorRows
import Derived.Test.YtgbmkpbackdknaaDoorAbsDueKT
import Derived.KernelRfl
namespace Go.Proofs.YtgbmkpbackdknaaDoor.AbsDueK
open Go Go.Abs Go.Proofs
set_option maxRecDepth 100000
set_option linter.unusedVariables false
noncomputable section
/-- publican/publicanlaw22.DuesKnown -/
def c3 : AFunc := ⟨93, [.tmp t0],
 (xSeq (xOps [⟨(some t0), oMov (.v (.bool false)), none, none⟩])
 (xSeq (xSeq (xOps [⟨(some t12), oCall 6 [], none, none⟩,
   ⟨(some t13), oNot (.t t12), none, none⟩])
 (xCond (.t t13)
 (xSeq (xOps [⟨(some t0), oMov (.v (.bool false)), none, none⟩])
 xRet)
 xSkip))
 (xSeq (xOps [⟨(some t14), oCall 7 [], none, none⟩,
   ⟨(some t1), oMov (.t t14), none, none⟩])
 (xSeq (xOps [⟨(some t16), oCall 8 [(.v (.string ⟨⟨[]⟩⟩))], none, none⟩,
   ⟨(some t15), oMov (.t t16), none, none⟩,
   ⟨(some t17), oExtract (.t t15) 0, none, none⟩,
   ⟨(some t18), oExtract (.t t15) 1, none, none⟩,
   ⟨(some t2), oMov (.t t17), none, none⟩,
   ⟨(some t3), oMov (.t t18), none, none⟩])
 (xSeq (xOps [⟨(some t20), oCall 8 [(.v (.string ⟨⟨[97]⟩⟩))], none, none⟩,
   ⟨(some t19), oMov (.t t20), none, none⟩,
   ⟨(some t21), oExtract (.t t19) 0, none, none⟩,
   ⟨(some t22), oExtract (.t t19) 1, none, none⟩,
   ⟨(some t4), oMov (.t t21), none, none⟩,
   ⟨(some t5), oMov (.t t22), none, none⟩])
 (xSeq (xOps [⟨(some t24), oMov (.t t4), none, none⟩,
   ⟨(some t25), oMov (.t t1), none, none⟩,
   ⟨(some t26), oCall 9 [(.t t24), (.t t25), (.v (.int .i64 5)), (.v (.int .i64 4)), (.v (.int .i64 0)), (.v (.int .i64 1))], none, none⟩,
   ⟨(some t23), oMov (.t t26), none, none⟩,
   ⟨(some t27), oExtract (.t t23) 0, none, none⟩,
   ⟨(some t28), oExtract (.t t23) 1, none, none⟩,
   ⟨(some t6), oMov (.t t27), none, none⟩,
   ⟨(some t7), oMov (.t t28), none, none⟩])
 (xSeq (xOps [⟨(some t30), oMov (.t t4), none, none⟩,
   ⟨(some t31), oMov (.t t1), none, none⟩,
   ⟨(some t32), oCall 9 [(.t t30), (.t t31), (.v (.int .i64 5)), (.v (.int .i64 1)), (.v (.int .i64 (-1))), (.v (.int .i64 1))], none, none⟩,
   ⟨(some t29), oMov (.t t32), none, none⟩,
   ⟨(some t33), oExtract (.t t29) 0, none, none⟩,
   ⟨(some t34), oExtract (.t t29) 1, none, none⟩,
   ⟨(some t8), oMov (.t t33), none, none⟩,
   ⟨(some t9), oMov (.t t34), none, none⟩])
 (xSeq (xOps [⟨(some t36), oMov (.t t4), none, none⟩,
   ⟨(some t37), oMov (.t t1), none, none⟩,
   ⟨(some t38), oCall 9 [(.t t36), (.t t37), (.v (.int .i64 5)), (.v (.int .i64 1)), (.v (.int .i64 0)), (.v (.int .i64 0))], none, none⟩,
   ⟨(some t35), oMov (.t t38), none, none⟩,
   ⟨(some t39), oExtract (.t t35) 0, none, none⟩,
   ⟨(some t40), oExtract (.t t35) 1, none, none⟩,
   ⟨(some t10), oMov (.t t39), none, none⟩,
   ⟨(some t11), oMov (.t t40), none, none⟩])
 (xSeq (xOps [⟨(some t41), oMov (.t t4), none, none⟩,
   ⟨(some t42), oMov (.t t1), none, none⟩,
   ⟨(some t43), oCall 9 [(.t t41), (.t t42), (.v (.int .i64 5)), (.v (.int .i64 1)), (.v (.int .i64 9)), (.v (.int .i64 10))], none, none⟩])
 (xSeq (xOps [⟨(some t44), oMov (.t t3), none, none⟩,
   ⟨(some t45), oBin (int2 (cmpO eqI)) (.t t44) (.v (.int .i64 1)), none, none⟩,
   ⟨(some t46), oMov (.t t45), none, none⟩,
   ⟨(some t47), oMov (.t t7), (some (t46, true)), none⟩,
   ⟨(some t48), oBin (int2 (cmpO eqI)) (.t t47) (.v (.int .i64 1)), (some (t46, true)), none⟩,
   ⟨(some t49), oPick (.t t46) (.t t48) (.v (.bool false)), none, none⟩,
   ⟨(some t50), oMov (.t t49), none, none⟩,
   ⟨(some t51), oMov (.t t9), (some (t50, true)), none⟩,
   ⟨(some t52), oBin (int2 (cmpO eqI)) (.t t51) (.v (.int .i64 12)), (some (t50, true)), none⟩,
   ⟨(some t53), oPick (.t t50) (.t t52) (.v (.bool false)), none, none⟩,
   ⟨(some t54), oMov (.t t53), none, none⟩,
   ⟨(some t55), oMov (.t t11), (some (t54, true)), none⟩,
   ⟨(some t56), oBin (int2 (cmpO eqI)) (.t t55) (.v (.int .i64 1)), (some (t54, true)), none⟩,
   ⟨(some t57), oPick (.t t54) (.t t56) (.v (.bool false)), none, none⟩,
   ⟨(some t58), oMov (.t t57), none, none⟩,
   ⟨(some t59), oMov (.t t4), (some (t58, true)), none⟩,
   ⟨(some t60), oMov (.t t1), (some (t58, true)), none⟩,
   ⟨(some t61), oCall 10 [(.t t59), (.t t60), (.v (.int .i64 4)), (.v (.int .i64 1))], (some (t58, true)), none⟩,
   ⟨(some t62), oBin (int2 (cmpO eqI)) (.t t61) (.v (.int .i64 14)), (some (t58, true)), none⟩,
   ⟨(some t63), oPick (.t t58) (.t t62) (.v (.bool false)), none, none⟩,
   ⟨(some t64), oMov (.t t63), none, none⟩,
   ⟨(some t65), oMov (.t t4), (some (t64, true)), none⟩,
   ⟨(some t66), oMov (.t t1), (some (t64, true)), none⟩,
   ⟨(some t67), oCall 10 [(.t t65), (.t t66), (.v (.int .i64 (-1))), (.v (.int .i64 1))], (some (t64, true)), none⟩,
   ⟨(some t68), oBin (int2 (cmpO eqI)) (.t t67) (.v (.int .i64 12)), (some (t64, true)), none⟩,
   ⟨(some t69), oPick (.t t64) (.t t68) (.v (.bool false)), none, none⟩,
   ⟨(some t70), oMov (.t t69), none, none⟩,
   ⟨(some t71), oMov (.t t4), (some (t70, true)), none⟩,
   ⟨(some t72), oCall 11 [(.t t71), (.v (.int .i64 5)), (.v (.int .i64 1))], (some (t70, true)), none⟩,
   ⟨(some t73), oBin (int2 (cmpO eqI)) (.t t72) (.v (.int .i64 15)), (some (t70, true)), none⟩,
   ⟨(some t74), oPick (.t t70) (.t t73) (.v (.bool false)), none, none⟩,
   ⟨(some t75), oMov (.t t74), none, none⟩,
   ⟨(some t76), oMov (.t t4), (some (t75, true)), none⟩,
   ⟨(some t77), oMov (.t t1), (some (t75, true)), none⟩,
   ⟨(some t78), oCall 12 [(.t t76), (.t t77), (.v (.int .i64 5)), (.v (.int .i64 2)), (.v (.int .i64 1))], (some (t75, true)), none⟩,
   ⟨(some t79), oBin (int2 (cmpO eqI)) (.t t78) (.v (.int .i64 5)), (some (t75, true)), none⟩,
   ⟨(some t80), oPick (.t t75) (.t t79) (.v (.bool false)), none, none⟩,
   ⟨(some t81), oMov (.t t80), none, none⟩,
   ⟨(some t82), oMov (.t t4), (some (t81, true)), none⟩,
   ⟨(some t83), oMov (.t t1), (some (t81, true)), none⟩,
   ⟨(some t84), oCall 12 [(.t t82), (.t t83), (.v (.int .i64 5)), (.v (.int .i64 1)), (.v (.int .i64 11))], (some (t81, true)), none⟩,
   ⟨(some t85), oBin (int2 (cmpO eqI)) (.t t84) (.v (.int .i64 15)), (some (t81, true)), none⟩,
   ⟨(some t86), oPick (.t t81) (.t t85) (.v (.bool false)), none, none⟩,
   ⟨(some t87), oMov (.t t86), none, none⟩,
   ⟨(some t88), oMov (.t t4), (some (t87, true)), none⟩,
   ⟨(some t89), oMov (.t t1), (some (t87, true)), none⟩,
   ⟨(some t90), oCall 10 [(.t t88), (.t t89), (.v (.int .i64 5)), (.v (.int .i64 4503599627370497))], (some (t87, true)), none⟩,
   ⟨(some t91), oBin (int2 (cmpO eqI)) (.t t90) (.v (.int .i64 1)), (some (t87, true)), none⟩,
   ⟨(some t92), oPick (.t t87) (.t t91) (.v (.bool false)), none, none⟩,
   ⟨(some t0), oMov (.t t92), none, none⟩])
 xRet))))))))))⟩
theorem ok3 : cFunc Tryd.prog gl ex Tryd.f3 = some c3 := by kernel_rfl
/-- publican/publicanlaw22.awake -/
def c6 : AFunc := ⟨143, [.tmp t0],
 (xSeq (xOps [⟨(some t0), oMov (.v (.bool false)), none, none⟩])
 (xSeq (xOps [⟨(some t17), oCall 7 [], none, none⟩,
   ⟨(some t1), oMov (.t t17), none, none⟩])
 (xSeq (xOps [⟨(some t19), oCall 8 [(.v (.string ⟨⟨[97, 110, 110]⟩⟩))], none, none⟩,
   ⟨(some t18), oMov (.t t19), none, none⟩,
   ⟨(some t20), oExtract (.t t18) 0, none, none⟩,
   ⟨(some t21), oExtract (.t t18) 1, none, none⟩,
   ⟨(some t2), oMov (.t t20), none, none⟩,
   ⟨(some t3), oMov (.t t21), none, none⟩])
 (xSeq (xSeq (xOps [⟨(some t22), oMov (.t t3), none, none⟩,
   ⟨(some t23), oBin (int2 (cmpO neI)) (.t t22) (.v (.int .i64 0)), none, none⟩,
   ⟨(some t24), oMov (.t t23), none, none⟩,
   ⟨(some t25), oMov (.t t2), (some (t24, false)), none⟩,
   ⟨(some t26), oEqv eqP false (.t t25) (.v (.pointer none)), (some (t24, false)), none⟩,
   ⟨(some t27), oPick (.t t24) (.v (.bool true)) (.t t26), none, none⟩])
 (xCond (.t t27)
 (xSeq (xOps [⟨(some t0), oMov (.v (.bool false)), none, none⟩])
 xRet)
 xSkip))
 (xSeq (xOps [⟨(some t29), oMov (.t t2), none, none⟩,
   ⟨(some t30), oMov (.t t1), none, none⟩,
   ⟨(some t31), oCall 9 [(.t t29), (.t t30), (.v (.int .i64 0)), (.v (.int .i64 1)), (.v (.int .i64 0)), (.v (.int .i64 100))], none, none⟩,
   ⟨(some t28), oMov (.t t31), none, none⟩,
   ⟨(some t32), oExtract (.t t28) 0, none, none⟩,
   ⟨(some t33), oExtract (.t t28) 1, none, none⟩,
   ⟨(some t4), oMov (.t t32), none, none⟩,
   ⟨(some t5), oMov (.t t33), none, none⟩])
 (xSeq (xOps [⟨(some t34), oMov (.t t2), none, none⟩,
   ⟨(some t35), oMov (.t t1), none, none⟩,
   ⟨(some t36), oCall 10 [(.t t34), (.t t35), (.v (.int .i64 0)), (.v (.int .i64 30))], none, none⟩,
   ⟨(some t6), oMov (.t t36), none, none⟩])
 (xSeq (xOps [⟨(some t37), oMov (.t t2), none, none⟩,
   ⟨(some t38), oCall 13 [(.t t37)], none, none⟩,
   ⟨(some t7), oMov (.t t38), none, none⟩])
 (xSeq (xOps [⟨(some t39), oMov (.t t2), none, none⟩,
   ⟨(some t40), oMov (.t t1), none, none⟩,
   ⟨(some t41), oCall 10 [(.t t39), (.t t40), (.v (.int .i64 0)), (.v (.int .i64 100))], none, none⟩,
   ⟨(some t8), oMov (.t t41), none, none⟩])
 (xSeq (xOps [⟨(some t42), oMov (.t t2), none, none⟩,
   ⟨(some t43), oCall 11 [(.t t42), (.v (.int .i64 0)), (.v (.int .i64 10))], none, none⟩,
   ⟨(some t9), oMov (.t t43), none, none⟩])
 (xSeq (xOps [⟨(some t44), oMov (.t t2), none, none⟩,
   ⟨(some t45), oCall 18 [(.t t44), (.v (.int .i64 0)), (.v (.int .i64 5))], none, none⟩,
   ⟨(some t10), oMov (.t t45), none, none⟩])
 (xSeq (xOps [⟨(some t47), oMov (.t t2), none, none⟩,
   ⟨(some t48), oMov (.t t1), none, none⟩,
   ⟨(some t49), oCall 19 [(.t t47), (.t t48), (.v (.int .i64 0))], none, none⟩,
   ⟨(some t46), oMov (.t t49), none, none⟩,
   ⟨(some t50), oExtract (.t t46) 0, none, none⟩,
   ⟨(some t51), oExtract (.t t46) 1, none, none⟩,
   ⟨(some t11), oMov (.t t50), none, none⟩,
   ⟨(some t12), oMov (.t t51), none, none⟩])
 (xSeq (xOps [⟨(some t53), oMov (.t t2), none, none⟩,
   ⟨(some t54), oMov (.t t1), none, none⟩,
   ⟨(some t55), oCall 20 [(.t t53), (.t t54), (.v (.int .i64 3))], none, none⟩,
   ⟨(some t52), oMov (.t t55), none, none⟩,
   ⟨(some t56), oExtract (.t t52) 0, none, none⟩,
   ⟨(some t57), oExtract (.t t52) 1, none, none⟩,
   ⟨(some t13), oMov (.t t56), none, none⟩,
   ⟨(some t14), oMov (.t t57), none, none⟩])
 (xSeq (xOps [⟨(some t58), oMov (.t t2), none, none⟩,
   ⟨(some t59), oCall 21 [(.t t58)], none, none⟩,
   ⟨(some t15), oMov (.t t59), none, none⟩])
 (xSeq (xOps [⟨(some t60), oMov (.t t15), none, none⟩,
   ⟨(some t61), oMov (.t t1), none, none⟩,
   ⟨(some t62), oCall 12 [(.t t60), (.t t61), (.v (.int .i64 3)), (.v (.int .i64 1)), (.v (.int .i64 20))], none, none⟩,
   ⟨(some t16), oMov (.t t62), none, none⟩])
 (xSeq (xOps [⟨(some t63), oMov (.t t5), none, none⟩,
   ⟨(some t64), oBin (int2 (cmpO eqI)) (.t t63) (.v (.int .i64 0)), none, none⟩,
   ⟨(some t65), oMov (.t t64), none, none⟩,
   ⟨(some t66), oMov (.t t4), (some (t65, true)), none⟩,
   ⟨(some t67), oBin (int2 (cmpO eqI)) (.t t66) (.v (.int .i64 1)), (some (t65, true)), none⟩,
   ⟨(some t68), oPick (.t t65) (.t t67) (.v (.bool false)), none, none⟩,
   ⟨(some t69), oMov (.t t68), none, none⟩,
   ⟨(some t70), oMov (.t t6), (some (t69, true)), none⟩,
   ⟨(some t71), oBin (int2 (cmpO eqI)) (.t t70) (.v (.int .i64 0)), (some (t69, true)), none⟩,
   ⟨(some t72), oPick (.t t69) (.t t71) (.v (.bool false)), none, none⟩,
   ⟨(some t73), oMov (.t t72), none, none⟩,
   ⟨(some t74), oMov (.t t7), (some (t73, true)), none⟩,
   ⟨(some t75), oLenL (.t t74), (some (t73, true)), none⟩,
   ⟨(some t76), oBin (int2 (cmpO eqI)) (.t t75) (.v (.int .i64 1)), (some (t73, true)), none⟩,
   ⟨(some t77), oPick (.t t73) (.t t76) (.v (.bool false)), none, none⟩,
   ⟨(some t78), oMov (.t t77), none, none⟩,
   ⟨(some t79), oMov (.t t7), (some (t78, true)), none⟩,
   ⟨(some t80), oIdxAddrL 6 (.t t79) (.v (.int .i64 0)), (some (t78, true)), none⟩,
   ⟨(some t81), oLoadN 6 (.t t80), (some (t78, true)), none⟩,
   ⟨(some t82), oBuild (rep 6 [(.int .i64 0)]) [(0, 1, (.v (.int .i64 1))), (1, 1, (.v (.int .i64 1))), (3, 1, (.v (.int .i64 100))), (4, 1, (.v (.int .i64 70)))], (some (t78, true)), none⟩,
   ⟨(some t83), oEqs false [(0, eqN), (1, eqN), (2, eqN), (3, eqN), (4, eqN), (5, eqN)] (.t t81) (.t t82), (some (t78, true)), none⟩,
   ⟨(some t84), oPick (.t t78) (.t t83) (.v (.bool false)), none, none⟩,
   ⟨(some t85), oMov (.t t84), none, none⟩,
   ⟨(some t86), oMov (.t t8), (some (t85, true)), none⟩,
   ⟨(some t87), oBin (int2 (cmpO eqI)) (.t t86) (.v (.int .i64 0)), (some (t85, true)), none⟩,
   ⟨(some t88), oPick (.t t85) (.t t87) (.v (.bool false)), none, none⟩,
   ⟨(some t89), oMov (.t t88), none, none⟩,
   ⟨(some t90), oMov (.t t9), (some (t89, true)), none⟩,
   ⟨(some t91), oBin (int2 (cmpO eqI)) (.t t90) (.v (.int .i64 0)), (some (t89, true)), none⟩,
   ⟨(some t92), oPick (.t t89) (.t t91) (.v (.bool false)), none, none⟩,
   ⟨(some t93), oMov (.t t92), none, none⟩,
   ⟨(some t94), oMov (.t t10), (some (t93, true)), none⟩,
   ⟨(some t95), oBin (int2 (cmpO eqI)) (.t t94) (.v (.int .i64 0)), (some (t93, true)), none⟩,
   ⟨(some t96), oPick (.t t93) (.t t95) (.v (.bool false)), none, none⟩,
   ⟨(some t97), oMov (.t t96), none, none⟩,
   ⟨(some t98), oMov (.t t12), (some (t97, true)), none⟩,
   ⟨(some t99), oBin (int2 (cmpO eqI)) (.t t98) (.v (.int .i64 0)), (some (t97, true)), none⟩,
   ⟨(some t100), oPick (.t t97) (.t t99) (.v (.bool false)), none, none⟩,
   ⟨(some t101), oMov (.t t100), none, none⟩,
   ⟨(some t102), oMov (.t t11), (some (t101, true)), none⟩,
   ⟨(some t103), oBin (int2 (cmpO eqI)) (.t t102) (.v (.int .i64 (-15))), (some (t101, true)), none⟩,
   ⟨(some t104), oPick (.t t101) (.t t103) (.v (.bool false)), none, none⟩,
   ⟨(some t105), oMov (.t t104), none, none⟩,
   ⟨(some t106), oMov (.t t2), (some (t105, true)), none⟩,
   ⟨(some t107), oCall 14 [(.t t106)], (some (t105, true)), none⟩,
   ⟨(some t108), oBin (int2 (cmpO eqI)) (.t t107) (.v (.int .i64 15)), (some (t105, true)), none⟩,
   ⟨(some t109), oPick (.t t105) (.t t108) (.v (.bool false)), none, none⟩,
   ⟨(some t110), oMov (.t t109), none, none⟩,
   ⟨(some t111), oMov (.t t14), (some (t110, true)), none⟩,
   ⟨(some t112), oBin (int2 (cmpO eqI)) (.t t111) (.v (.int .i64 0)), (some (t110, true)), none⟩,
   ⟨(some t113), oPick (.t t110) (.t t112) (.v (.bool false)), none, none⟩,
   ⟨(some t114), oMov (.t t113), none, none⟩,
   ⟨(some t115), oMov (.t t13), (some (t114, true)), none⟩,
   ⟨(some t116), oBin (int2 (cmpO eqI)) (.t t115) (.v (.int .i64 0)), (some (t114, true)), none⟩,
   ⟨(some t117), oPick (.t t114) (.t t116) (.v (.bool false)), none, none⟩,
   ⟨(some t118), oMov (.t t117), none, none⟩,
   ⟨(some t119), oMov (.t t2), (some (t118, true)), none⟩,
   ⟨(some t120), oCall 15 [(.t t119)], (some (t118, true)), none⟩,
   ⟨(some t121), oBin (int2 (cmpO eqI)) (.t t120) (.v (.int .i64 3)), (some (t118, true)), none⟩,
   ⟨(some t122), oPick (.t t118) (.t t121) (.v (.bool false)), none, none⟩,
   ⟨(some t123), oMov (.t t122), none, none⟩,
   ⟨(some t124), oMov (.t t16), (some (t123, true)), none⟩,
   ⟨(some t125), oBin (int2 (cmpO eqI)) (.t t124) (.v (.int .i64 0)), (some (t123, true)), none⟩,
   ⟨(some t126), oPick (.t t123) (.t t125) (.v (.bool false)), none, none⟩,
   ⟨(some t127), oMov (.t t126), none, none⟩,
   ⟨(some t128), oMov (.t t15), (some (t127, true)), none⟩,
   ⟨(some t129), oCall 14 [(.t t128)], (some (t127, true)), none⟩,
   ⟨(some t130), oBin (int2 (cmpO eqI)) (.t t129) (.v (.int .i64 35)), (some (t127, true)), none⟩,
   ⟨(some t131), oPick (.t t127) (.t t130) (.v (.bool false)), none, none⟩,
   ⟨(some t132), oMov (.t t131), none, none⟩,
   ⟨(some t133), oMov (.t t2), (some (t132, true)), none⟩,
   ⟨(some t134), oCall 16 [(.t t133)], (some (t132, true)), none⟩,
   ⟨(some t135), oEqv eqP true (.t t134) (.v (.pointer none)), (some (t132, true)), none⟩,
   ⟨(some t136), oPick (.t t132) (.t t135) (.v (.bool false)), none, none⟩,
   ⟨(some t137), oMov (.t t136), none, none⟩,
   ⟨(some t138), oMov (.t t2), (some (t137, true)), none⟩,
   ⟨(some t139), oCall 16 [(.t t138)], (some (t137, true)), none⟩,
   ⟨(some t140), oCall 17 [(.t t139), (.v (.string ⟨⟨[64, 97, 110, 110]⟩⟩))], (some (t137, true)), none⟩,
   ⟨(some t141), oBin (int2 (cmpO eqI)) (.t t140) (.v (.int .i64 (-15))), (some (t137, true)), none⟩,
   ⟨(some t142), oPick (.t t137) (.t t141) (.v (.bool false)), none, none⟩,
   ⟨(some t0), oMov (.t t142), none, none⟩])
 xRet)))))))))))))))⟩
theorem ok6 : cFunc Tryd.prog gl ex Tryd.f6 = some c6 := by kernel_rfl
/-- publican/rate.New -/
def c7 : AFunc := ⟨3, [.tmp t0],
 (xSeq (xOps [⟨(some t0), oMov (.v (.pointer none)), none, none⟩])
 (xSeq (xOps [⟨(some t1), oBuild [(.slice none 0 0)] [], none, none⟩,
   ⟨(some t2), oBox (.t t1), none, none⟩,
   ⟨(some t0), oMov (.t t2), none, none⟩])
 xRet))⟩
theorem ok7 : cFunc Tryd.prog gl ex Tryd.f7 = some c7 := by kernel_rfl
/-- publican/dues.New -/
def c8 : AFunc := ⟨17, [.tmp t2, .tmp t3],
 (xSeq (xOps [⟨(some t2), oMov (.v (.pointer none)), none, none⟩,
   ⟨(some t3), oMov (.v (.int .i64 0)), none, none⟩])
 (xSeq (xSeq (xOps [⟨(some t4), oMov (.t t0), none, none⟩,
   ⟨(some t5), oLenS (.t t4), none, none⟩,
   ⟨(some t6), oBin (int2 (cmpO ltI)) (.t t5) (.v (.int .i64 1)), none, none⟩,
   ⟨(some t7), oMov (.t t6), none, none⟩,
   ⟨(some t8), oMov (.t t0), (some (t7, false)), none⟩,
   ⟨(some t9), oLenS (.t t8), (some (t7, false)), none⟩,
   ⟨(some t10), oBin (int2 (cmpO gtI)) (.t t9) (.v (.int .i64 20)), (some (t7, false)), none⟩,
   ⟨(some t11), oPick (.t t7) (.v (.bool true)) (.t t10), none, none⟩])
 (xCond (.t t11)
 (xSeq (xOps [⟨(some t2), oMov (.v (.pointer none)), none, none⟩,
   ⟨(some t3), oMov (.v (.int .i64 1)), none, none⟩])
 xRet)
 xSkip))
 (xSeq (xOps [⟨(some t12), oMov (.t t0), none, none⟩,
   ⟨(some t13), oCall 22 [], none, none⟩,
   ⟨(some t14), oBuild [(.int .i64 0), (.slice none 0 0), (.int .i64 0), (.pointer none)] [(3, 1, (.t t13))], none, none⟩,
   ⟨(some t15), oBuild [(.string ⟨⟨[]⟩⟩), (.int .i64 0), (.slice none 0 0), (.int .i64 0), (.pointer none)] [(0, 1, (.t t12)), (1, 4, (.t t14))], none, none⟩,
   ⟨(some t16), oBox (.t t15), none, none⟩,
   ⟨(some t2), oMov (.t t16), none, none⟩,
   ⟨(some t3), oMov (.v (.int .i64 0)), none, none⟩])
 xRet)))⟩
theorem ok8 : cFunc Tryd.prog gl ex Tryd.f8 = some c8 := by kernel_rfl
/-- (*publican/dues.Account).Charge -/
def c9 : AFunc := ⟨89, [.tmp t12, .tmp t13],
 (xSeq (xOps [⟨(some t7), oBox (.t t1), none, none⟩,
   ⟨(some t8), oBox (.t t2), none, none⟩,
   ⟨(some t9), oBox (.t t3), none, none⟩,
   ⟨(some t10), oBox (.t t4), none, none⟩,
   ⟨(some t11), oBox (.t t5), none, none⟩,
   ⟨(some t12), oMov (.v (.int .i64 0)), none, none⟩,
   ⟨(some t13), oMov (.v (.int .i64 0)), none, none⟩])
 (xSeq (xSeq (xReg [⟨(some t20), oLoad1 (.t t11), none, (some (.t t11))⟩,
   ⟨(some t21), oCall 24 [(.t t20)], none, none⟩,
   ⟨(some t22), oMov (.t t0), none, none⟩,
   ⟨(some t23), oLoad1 (.t t8), none, (some (.t t8))⟩,
   ⟨(some t24), oCall 25 [(.t t22), (.t t23)], none, none⟩,
   ⟨(some t25), oBuildSlice 2 [(.int .i64 0), (.int .i64 0)] [(0, 1, (.t t21)), (1, 1, (.t t24))], none, none⟩,
   ⟨(some t26), oCall 23 [(.t t25)], none, none⟩,
   ⟨(some t14), oMov (.t t26), none, none⟩] [(0, 2), (1, 2), (0, 3), (1, 3), (2, 3)])
 (xSeq (xOps [⟨(some t27), oMov (.t t14), none, none⟩,
   ⟨(some t28), oBin (int2 (cmpO neI)) (.t t27) (.v (.int .i64 0)), none, none⟩])
 (xCond (.t t28)
 (xSeq (xOps [⟨(some t29), oMov (.t t14), none, none⟩,
   ⟨(some t12), oMov (.v (.int .i64 0)), none, none⟩,
   ⟨(some t13), oMov (.t t29), none, none⟩])
 xRet)
 xSkip)))
 (xSeq (xOps [⟨(some t30), oLoad1 (.t t11), none, (some (.t t11))⟩,
   ⟨(some t15), oMov (.t t30), none, none⟩])
 (xSeq (xSeq (xOps [⟨(some t31), oMov (.t t0), none, none⟩,
   ⟨(some t32), oNilCheck (.t t31), none, none⟩,
   ⟨(some t33), oFieldAddr 1 (.t t32), none, none⟩,
   ⟨(some t34), oFieldAddr 1 (.t t33), none, none⟩,
   ⟨(some t35), oLoad1 (.t t34), none, (some (.t t34))⟩,
   ⟨(some t36), oLenL (.t t35), none, none⟩,
   ⟨(some t37), oMov (.v (.int .i64 0)), none, none⟩])
 (xBlock 0 (xLoop (xSeq (xOps [⟨(some t38), oBin (int2 (cmpO ltI)) (.t t37) (.t t36), none, none⟩])
 (xSeq (xCond (.t t38)
 xSkip
 (xExit 0))
 (xSeq (xBlock 1 (xSeq (xOps [⟨(some t39), oIdxAddrL 1 (.t t35) (.t t37), none, none⟩,
   ⟨(some t40), oLoad1 (.t t39), none, (some (.t t39))⟩,
   ⟨(some t17), oMov (.t t40), none, none⟩])
 (xOps [⟨(some t41), oMov (.t t15), none, none⟩,
   ⟨(some t42), oMov (.t t17), none, none⟩,
   ⟨(some t43), oNilCheck (.t t42), none, none⟩,
   ⟨(some t44), oFieldAddr 0 (.t t43), none, none⟩,
   ⟨(some t45), oFieldAddr 3 (.t t44), none, none⟩,
   ⟨(some t46), oLoad1 (.t t45), none, (some (.t t45))⟩,
   ⟨(some t47), oBin (int2 addO) (.t t41) (.t t46), none, none⟩,
   ⟨(some t15), oMov (.t t47), none, none⟩])))
 (xOps [⟨(some t48), oBin (int2 addO) (.t t37) (.v (.int .i64 1)), none, none⟩,
   ⟨(some t37), oMov (.t t48), none, none⟩])))))))
 (xSeq (xBlock 2 (xSeq (xOps [⟨(some t50), oLoad1 (.t t9), none, (some (.t t9))⟩,
   ⟨(some t51), oBin (int2 (cmpO ltI)) (.t t50) (.v (.int .i64 1)), none, none⟩,
   ⟨(some t52), oMov (.t t51), none, none⟩,
   ⟨(some t53), oLoad1 (.t t9), (some (t52, false)), (some (.t t9))⟩,
   ⟨(some t54), oBin (int2 (cmpO gtI)) (.t t53) (.v (.int .i64 3)), (some (t52, false)), none⟩,
   ⟨(some t55), oPick (.t t52) (.v (.bool true)) (.t t54), none, none⟩,
   ⟨(some t49), oMov (.t t55), none, none⟩])
 (xCond (.t t49)
 (xSeq (xOps [⟨(some t12), oMov (.v (.int .i64 0)), none, none⟩,
   ⟨(some t13), oMov (.v (.int .i64 1)), none, none⟩])
 xRet)
 (xSeq (xOps [⟨(some t57), oLoad1 (.t t10), none, (some (.t t10))⟩,
   ⟨(some t58), oBin (int2 (cmpO ltI)) (.t t57) (.v (.int .i64 0)), none, none⟩,
   ⟨(some t59), oMov (.t t58), none, none⟩,
   ⟨(some t60), oLoad1 (.t t10), (some (t59, false)), (some (.t t10))⟩,
   ⟨(some t61), oBin (int2 (cmpO gtI)) (.t t60) (.v (.int .i64 109572)), (some (t59, false)), none⟩,
   ⟨(some t62), oPick (.t t59) (.v (.bool true)) (.t t61), none, none⟩,
   ⟨(some t56), oMov (.t t62), none, none⟩])
 (xCond (.t t56)
 (xSeq (xOps [⟨(some t12), oMov (.v (.int .i64 0)), none, none⟩,
   ⟨(some t13), oMov (.v (.int .i64 12)), none, none⟩])
 xRet)
 (xSeq (xOps [⟨(some t64), oMov (.t t0), none, none⟩,
   ⟨(some t65), oNilCheck (.t t64), none, none⟩,
   ⟨(some t66), oFieldAddr 1 (.t t65), none, none⟩,
   ⟨(some t67), oFieldAddr 1 (.t t66), none, none⟩,
   ⟨(some t68), oLoad1 (.t t67), none, (some (.t t67))⟩,
   ⟨(some t69), oLenL (.t t68), none, none⟩,
   ⟨(some t70), oBin (int2 (cmpO eqI)) (.t t69) (.v (.int .i64 64)), none, none⟩,
   ⟨(some t63), oMov (.t t70), none, none⟩])
 (xCond (.t t63)
 (xSeq (xOps [⟨(some t12), oMov (.v (.int .i64 0)), none, none⟩,
   ⟨(some t13), oMov (.v (.int .i64 2)), none, none⟩])
 xRet)
 (xSeq (xOps [⟨(some t72), oMov (.t t15), none, none⟩,
   ⟨(some t73), oBin (int2 (cmpO gtI)) (.t t72) (.v (.int .i64 4503599627370496)), none, none⟩,
   ⟨(some t71), oMov (.t t73), none, none⟩])
 (xCond (.t t71)
 (xSeq (xOps [⟨(some t12), oMov (.v (.int .i64 0)), none, none⟩,
   ⟨(some t13), oMov (.v (.int .i64 10)), none, none⟩])
 xRet)
 xSkip)))))))))
 (xSeq (xOps [⟨(some t74), oMov (.t t0), none, none⟩,
   ⟨(some t75), oNilCheck (.t t74), none, none⟩,
   ⟨(some t76), oFieldAddr 1 (.t t75), none, none⟩,
   ⟨(some t77), oFieldAddr 1 (.t t76), none, none⟩,
   ⟨(some t78), oLoad1 (.t t77), none, (some (.t t77))⟩,
   ⟨(some t79), oLenL (.t t78), none, none⟩,
   ⟨(some t80), oBin (int2 addO) (.t t79) (.v (.int .i64 1)), none, none⟩,
   ⟨(some t18), oNew [(.int .i64 0)], none, none⟩,
   ⟨none, oStore 1 (.t t18) (.t t80), none, none⟩])
 (xSeq (xOps [⟨(some t81), oMov (.t t0), none, none⟩,
   ⟨(some t82), oLoad1 (.t t8), none, (some (.t t8))⟩,
   ⟨(some t83), oFunc (.func 27) [] [(.t t10), (.t t8), (.t t11), (.t t18), (.t t9), (.t t7)], none, none⟩,
   ⟨(some t84), oCall 26 [(.t t81), (.t t82), (.t t83)], none, none⟩,
   ⟨(some t19), oMov (.t t84), none, none⟩])
 (xSeq (xSeq (xOps [⟨(some t85), oMov (.t t19), none, none⟩,
   ⟨(some t86), oBin (int2 (cmpO neI)) (.t t85) (.v (.int .i64 0)), none, none⟩])
 (xCond (.t t86)
 (xSeq (xOps [⟨(some t87), oMov (.t t19), none, none⟩,
   ⟨(some t12), oMov (.v (.int .i64 0)), none, none⟩,
   ⟨(some t13), oMov (.t t87), none, none⟩])
 xRet)
 xSkip))
 (xSeq (xOps [⟨(some t88), oLoad1 (.t t18), none, (some (.t t18))⟩,
   ⟨(some t12), oMov (.t t88), none, none⟩,
   ⟨(some t13), oMov (.v (.int .i64 0)), none, none⟩])
 xRet)))))))))⟩
theorem ok9 : cFunc Tryd.prog gl ex Tryd.f9 = some c9 := by kernel_rfl
/-- (*publican/dues.Account).Pay -/
def c10 : AFunc := ⟨24, [.tmp t8],
 (xSeq (xOps [⟨(some t5), oBox (.t t1), none, none⟩,
   ⟨(some t6), oBox (.t t2), none, none⟩,
   ⟨(some t7), oBox (.t t3), none, none⟩,
   ⟨(some t8), oMov (.v (.int .i64 0)), none, none⟩])
 (xSeq (xSeq (xReg [⟨(some t10), oLoad1 (.t t7), none, (some (.t t7))⟩,
   ⟨(some t11), oCall 24 [(.t t10)], none, none⟩,
   ⟨(some t12), oMov (.t t0), none, none⟩,
   ⟨(some t13), oLoad1 (.t t6), none, (some (.t t6))⟩,
   ⟨(some t14), oCall 25 [(.t t12), (.t t13)], none, none⟩,
   ⟨(some t15), oBuildSlice 2 [(.int .i64 0), (.int .i64 0)] [(0, 1, (.t t11)), (1, 1, (.t t14))], none, none⟩,
   ⟨(some t16), oCall 23 [(.t t15)], none, none⟩,
   ⟨(some t9), oMov (.t t16), none, none⟩] [(0, 2), (1, 2), (0, 3), (1, 3), (2, 3)])
 (xSeq (xOps [⟨(some t17), oMov (.t t9), none, none⟩,
   ⟨(some t18), oBin (int2 (cmpO neI)) (.t t17) (.v (.int .i64 0)), none, none⟩])
 (xCond (.t t18)
 (xSeq (xOps [⟨(some t19), oMov (.t t9), none, none⟩,
   ⟨(some t8), oMov (.t t19), none, none⟩])
 xRet)
 xSkip)))
 (xSeq (xOps [⟨(some t20), oMov (.t t0), none, none⟩,
   ⟨(some t21), oLoad1 (.t t6), none, (some (.t t6))⟩,
   ⟨(some t22), oFunc (.func 34) [] [(.t t5), (.t t6), (.t t7)], none, none⟩,
   ⟨(some t23), oCall 26 [(.t t20), (.t t21), (.t t22)], none, none⟩,
   ⟨(some t8), oMov (.t t23), none, none⟩])
 xRet)))⟩
theorem ok10 : cFunc Tryd.prog gl ex Tryd.f10 = some c10 := by kernel_rfl
/-- (*publican/dues.Account).Refund -/
def c11 : AFunc := ⟨11, [.tmp t6],
 (xSeq (xOps [⟨(some t6), oMov (.v (.int .i64 0)), none, none⟩])
 (xSeq (xOps [⟨(some t7), oMov (.t t0), none, none⟩,
   ⟨(some t8), oMov (.t t1), none, none⟩,
   ⟨(some t9), oMov (.t t2), none, none⟩,
   ⟨(some t10), oCall 37 [(.t t7), (.t t8), (.t t9), (.v (.string ⟨⟨[99, 97, 115, 104]⟩⟩)), (.v (.string ⟨⟨[114, 101, 102, 117, 110, 100]⟩⟩))], none, none⟩,
   ⟨(some t6), oMov (.t t10), none, none⟩])
 xRet))⟩
theorem ok11 : cFunc Tryd.prog gl ex Tryd.f11 = some c11 := by kernel_rfl
/-- (*publican/dues.Account).Less -/
def c12 : AFunc := ⟨53, [.tmp t10],
 (xSeq (xOps [⟨(some t6), oBox (.t t1), none, none⟩,
   ⟨(some t7), oBox (.t t2), none, none⟩,
   ⟨(some t8), oBox (.t t3), none, none⟩,
   ⟨(some t9), oBox (.t t4), none, none⟩,
   ⟨(some t10), oMov (.v (.int .i64 0)), none, none⟩])
 (xSeq (xSeq (xReg [⟨(some t12), oLoad1 (.t t8), none, (some (.t t8))⟩,
   ⟨(some t13), oBin (int2 (cmpO ltI)) (.t t12) (.v (.int .i64 1)), none, none⟩,
   ⟨(some t14), oMov (.t t13), none, none⟩,
   ⟨(some t15), oLoad1 (.t t8), (some (t14, false)), (some (.t t8))⟩,
   ⟨(some t16), oMov (.t t0), (some (t14, false)), none⟩,
   ⟨(some t17), oNilCheck (.t t16), (some (t14, false)), none⟩,
   ⟨(some t18), oFieldAddr 1 (.t t17), (some (t14, false)), none⟩,
   ⟨(some t19), oFieldAddr 1 (.t t18), (some (t14, false)), none⟩,
   ⟨(some t20), oLoad1 (.t t19), (some (t14, false)), (some (.t t19))⟩,
   ⟨(some t21), oLenL (.t t20), (some (t14, false)), none⟩,
   ⟨(some t22), oBin (int2 (cmpO gtI)) (.t t15) (.t t21), (some (t14, false)), none⟩,
   ⟨(some t23), oPick (.t t14) (.v (.bool true)) (.t t22), none, none⟩] [(3, 4), (3, 5), (3, 6), (3, 7), (3, 8), (3, 9)])
 (xCond (.t t23)
 (xSeq (xOps [⟨(some t10), oMov (.v (.int .i64 5)), none, none⟩])
 xRet)
 xSkip))
 (xSeq (xSeq (xReg [⟨(some t24), oLoad1 (.t t9), none, (some (.t t9))⟩,
   ⟨(some t25), oCall 24 [(.t t24)], none, none⟩,
   ⟨(some t26), oMov (.t t0), none, none⟩,
   ⟨(some t27), oLoad1 (.t t7), none, (some (.t t7))⟩,
   ⟨(some t28), oCall 25 [(.t t26), (.t t27)], none, none⟩,
   ⟨(some t29), oBuildSlice 2 [(.int .i64 0), (.int .i64 0)] [(0, 1, (.t t25)), (1, 1, (.t t28))], none, none⟩,
   ⟨(some t30), oCall 23 [(.t t29)], none, none⟩,
   ⟨(some t11), oMov (.t t30), none, none⟩] [(0, 2), (1, 2), (0, 3), (1, 3), (2, 3)])
 (xSeq (xOps [⟨(some t31), oMov (.t t11), none, none⟩,
   ⟨(some t32), oBin (int2 (cmpO neI)) (.t t31) (.v (.int .i64 0)), none, none⟩])
 (xCond (.t t32)
 (xSeq (xOps [⟨(some t33), oMov (.t t11), none, none⟩,
   ⟨(some t10), oMov (.t t33), none, none⟩])
 xRet)
 xSkip)))
 (xSeq (xSeq (xReg [⟨(some t34), oLoad1 (.t t9), none, (some (.t t9))⟩,
   ⟨(some t35), oMov (.t t0), none, none⟩,
   ⟨(some t36), oNilCheck (.t t35), none, none⟩,
   ⟨(some t37), oFieldAddr 1 (.t t36), none, none⟩,
   ⟨(some t38), oFieldAddr 1 (.t t37), none, none⟩,
   ⟨(some t39), oLoad1 (.t t38), none, (some (.t t38))⟩,
   ⟨(some t40), oLoad1 (.t t8), none, (some (.t t8))⟩,
   ⟨(some t41), oBin (int2 subO) (.t t40) (.v (.int .i64 1)), none, none⟩,
   ⟨(some t42), oIdxAddrL 1 (.t t39) (.t t41), none, none⟩,
   ⟨(some t43), oLoad1 (.t t42), none, (some (.t t42))⟩,
   ⟨(some t44), oNilCheck (.t t43), none, none⟩,
   ⟨(some t45), oFieldAddr 0 (.t t44), none, none⟩,
   ⟨(some t46), oFieldAddr 3 (.t t45), none, none⟩,
   ⟨(some t47), oLoad1 (.t t46), none, (some (.t t46))⟩,
   ⟨(some t48), oBin (int2 (cmpO gtI)) (.t t34) (.t t47), none, none⟩] [(0, 1), (0, 2), (0, 3), (0, 4), (0, 5), (0, 6), (1, 6), (2, 6), (3, 6), (4, 6), (5, 6), (0, 7), (1, 7), (2, 7), (3, 7), (4, 7), (5, 7), (0, 8), (0, 9), (0, 10), (0, 11), (0, 12), (0, 13)])
 (xCond (.t t48)
 (xSeq (xOps [⟨(some t10), oMov (.v (.int .i64 15)), none, none⟩])
 xRet)
 xSkip))
 (xSeq (xOps [⟨(some t49), oMov (.t t0), none, none⟩,
   ⟨(some t50), oLoad1 (.t t7), none, (some (.t t7))⟩,
   ⟨(some t51), oFunc (.func 38) [] [(.t t6), (.t t7), (.t t8), (.t t9)], none, none⟩,
   ⟨(some t52), oCall 26 [(.t t49), (.t t50), (.t t51)], none, none⟩,
   ⟨(some t10), oMov (.t t52), none, none⟩])
 xRet)))))⟩
theorem ok12 : cFunc Tryd.prog gl ex Tryd.f12 = some c12 := by kernel_rfl
/-- (*publican/dues.Account).Charges -/
def c13 : AFunc := ⟨25, [.tmp t2],
 (xSeq (xOps [⟨(some t2), oMov (.v (.slice none 0 0)), none, none⟩])
 (xSeq (xOps [⟨(some t3), oMov (.v (.slice none 0 0)), none, none⟩])
 (xSeq (xSeq (xOps [⟨(some t6), oMov (.t t0), none, none⟩,
   ⟨(some t7), oNilCheck (.t t6), none, none⟩,
   ⟨(some t8), oFieldAddr 1 (.t t7), none, none⟩,
   ⟨(some t9), oFieldAddr 1 (.t t8), none, none⟩,
   ⟨(some t10), oLoad1 (.t t9), none, (some (.t t9))⟩,
   ⟨(some t11), oLenL (.t t10), none, none⟩,
   ⟨(some t12), oMov (.v (.int .i64 0)), none, none⟩])
 (xBlock 0 (xLoop (xSeq (xOps [⟨(some t13), oBin (int2 (cmpO ltI)) (.t t12) (.t t11), none, none⟩])
 (xSeq (xCond (.t t13)
 xSkip
 (xExit 0))
 (xSeq (xBlock 1 (xSeq (xOps [⟨(some t14), oIdxAddrL 1 (.t t10) (.t t12), none, none⟩,
   ⟨(some t15), oLoad1 (.t t14), none, (some (.t t14))⟩,
   ⟨(some t5), oMov (.t t15), none, none⟩])
 (xOps [⟨(some t16), oMov (.t t3), none, none⟩,
   ⟨(some t17), oMov (.t t5), none, none⟩,
   ⟨(some t18), oNilCheck (.t t17), none, none⟩,
   ⟨(some t19), oFieldAddr 0 (.t t18), none, none⟩,
   ⟨(some t20), oLoadN 6 (.t t19), none, none⟩,
   ⟨(some t21), oBuildSlice 1 (rep 6 [(.int .i64 0)]) [(0, 6, (.t t20))], none, none⟩,
   ⟨(some t22), oAppend 6 48 (.t t16) (.t t21), none, none⟩,
   ⟨(some t3), oMov (.t t22), none, none⟩])))
 (xOps [⟨(some t23), oBin (int2 addO) (.t t12) (.v (.int .i64 1)), none, none⟩,
   ⟨(some t12), oMov (.t t23), none, none⟩])))))))
 (xSeq (xOps [⟨(some t24), oMov (.t t3), none, none⟩,
   ⟨(some t2), oMov (.t t24), none, none⟩])
 xRet))))⟩
theorem ok13 : cFunc Tryd.prog gl ex Tryd.f13 = some c13 := by kernel_rfl
/-- (*publican/dues.Account).Credit -/
def c14 : AFunc := ⟨8, [.tmp t2],
 (xSeq (xOps [⟨(some t2), oMov (.v (.int .i64 0)), none, none⟩])
 (xSeq (xOps [⟨(some t3), oMov (.t t0), none, none⟩,
   ⟨(some t4), oNilCheck (.t t3), none, none⟩,
   ⟨(some t5), oFieldAddr 1 (.t t4), none, none⟩,
   ⟨(some t6), oFieldAddr 2 (.t t5), none, none⟩,
   ⟨(some t7), oLoad1 (.t t6), none, (some (.t t6))⟩,
   ⟨(some t2), oMov (.t t7), none, none⟩])
 xRet))⟩
theorem ok14 : cFunc Tryd.prog gl ex Tryd.f14 = some c14 := by kernel_rfl
/-- (*publican/dues.Account).Day -/
def c15 : AFunc := ⟨8, [.tmp t2],
 (xSeq (xOps [⟨(some t2), oMov (.v (.int .i64 0)), none, none⟩])
 (xSeq (xOps [⟨(some t3), oMov (.t t0), none, none⟩,
   ⟨(some t4), oNilCheck (.t t3), none, none⟩,
   ⟨(some t5), oFieldAddr 1 (.t t4), none, none⟩,
   ⟨(some t6), oFieldAddr 0 (.t t5), none, none⟩,
   ⟨(some t7), oLoad1 (.t t6), none, (some (.t t6))⟩,
   ⟨(some t2), oMov (.t t7), none, none⟩])
 xRet))⟩
theorem ok15 : cFunc Tryd.prog gl ex Tryd.f15 = some c15 := by kernel_rfl
/-- (*publican/dues.Account).Books -/
def c16 : AFunc := ⟨9, [.tmp t2],
 (xSeq (xOps [⟨(some t2), oMov (.v (.pointer none)), none, none⟩])
 (xSeq (xOps [⟨(some t3), oMov (.t t0), none, none⟩,
   ⟨(some t4), oNilCheck (.t t3), none, none⟩,
   ⟨(some t5), oFieldAddr 1 (.t t4), none, none⟩,
   ⟨(some t6), oFieldAddr 3 (.t t5), none, none⟩,
   ⟨(some t7), oLoad1 (.t t6), none, (some (.t t6))⟩,
   ⟨(some t8), oCall 41 [(.t t7)], none, none⟩,
   ⟨(some t2), oMov (.t t8), none, none⟩])
 xRet))⟩
theorem ok16 : cFunc Tryd.prog gl ex Tryd.f16 = some c16 := by kernel_rfl
/-- (*publican/books.Books).Balance -/
def c17 : AFunc := ⟨11, [.tmp t4],
 (xSeq (xOps [⟨(some t4), oMov (.v (.int .i64 0)), none, none⟩])
 (xSeq (xOps [⟨(some t5), oMov (.t t0), none, none⟩,
   ⟨(some t6), oNilCheck (.t t5), none, none⟩,
   ⟨(some t7), oFieldAddr 1 (.t t6), none, none⟩,
   ⟨(some t8), oLoad1 (.t t7), none, (some (.t t7))⟩,
   ⟨(some t9), oMov (.t t1), none, none⟩,
   ⟨(some t10), oLookup none (.int .i64 0) false (.t t8) (.t t9), none, none⟩,
   ⟨(some t4), oMov (.t t10), none, none⟩])
 xRet))⟩
theorem ok17 : cFunc Tryd.prog gl ex Tryd.f17 = some c17 := by kernel_rfl
/-- (*publican/dues.Account).Take -/
def c18 : AFunc := ⟨11, [.tmp t6],
 (xSeq (xOps [⟨(some t6), oMov (.v (.int .i64 0)), none, none⟩])
 (xSeq (xOps [⟨(some t7), oMov (.t t0), none, none⟩,
   ⟨(some t8), oMov (.t t1), none, none⟩,
   ⟨(some t9), oMov (.t t2), none, none⟩,
   ⟨(some t10), oCall 37 [(.t t7), (.t t8), (.t t9), (.v (.string ⟨⟨[111, 102, 102, 115, 101, 116]⟩⟩)), (.v (.string ⟨⟨[111, 102, 102, 115, 101, 116]⟩⟩))], none, none⟩,
   ⟨(some t6), oMov (.t t10), none, none⟩])
 xRet))⟩
theorem ok18 : cFunc Tryd.prog gl ex Tryd.f18 = some c18 := by kernel_rfl
/-- (*publican/dues.Account).Balance -/
def c19 : AFunc := ⟨74, [.tmp t6, .tmp t7],
 (xSeq (xOps [⟨(some t6), oMov (.v (.int .i64 0)), none, none⟩,
   ⟨(some t7), oMov (.v (.int .i64 0)), none, none⟩])
 (xSeq (xSeq (xOps [⟨(some t14), oMov (.t t0), none, none⟩,
   ⟨(some t15), oMov (.t t2), none, none⟩,
   ⟨(some t16), oCall 25 [(.t t14), (.t t15)], none, none⟩,
   ⟨(some t8), oMov (.t t16), none, none⟩])
 (xSeq (xOps [⟨(some t17), oMov (.t t8), none, none⟩,
   ⟨(some t18), oBin (int2 (cmpO neI)) (.t t17) (.v (.int .i64 0)), none, none⟩])
 (xCond (.t t18)
 (xSeq (xOps [⟨(some t19), oMov (.t t8), none, none⟩,
   ⟨(some t6), oMov (.v (.int .i64 0)), none, none⟩,
   ⟨(some t7), oMov (.t t19), none, none⟩])
 xRet)
 xSkip)))
 (xSeq (xOps [⟨(some t20), oMov (.t t0), none, none⟩,
   ⟨(some t21), oNilCheck (.t t20), none, none⟩,
   ⟨(some t22), oFieldAddr 1 (.t t21), none, none⟩,
   ⟨(some t23), oFieldAddr 2 (.t t22), none, none⟩,
   ⟨(some t24), oLoad1 (.t t23), none, (some (.t t23))⟩,
   ⟨(some t25), oNeg (.t t24), none, none⟩,
   ⟨(some t9), oMov (.t t25), none, none⟩])
 (xSeq (xSeq (xOps [⟨(some t26), oMov (.t t0), none, none⟩,
   ⟨(some t27), oNilCheck (.t t26), none, none⟩,
   ⟨(some t28), oFieldAddr 1 (.t t27), none, none⟩,
   ⟨(some t29), oFieldAddr 1 (.t t28), none, none⟩,
   ⟨(some t30), oLoad1 (.t t29), none, (some (.t t29))⟩,
   ⟨(some t31), oLenL (.t t30), none, none⟩,
   ⟨(some t32), oMov (.v (.int .i64 0)), none, none⟩])
 (xBlock 0 (xLoop (xSeq (xOps [⟨(some t33), oBin (int2 (cmpO ltI)) (.t t32) (.t t31), none, none⟩])
 (xSeq (xCond (.t t33)
 xSkip
 (xExit 0))
 (xSeq (xBlock 1 (xSeq (xOps [⟨(some t34), oIdxAddrL 1 (.t t30) (.t t32), none, none⟩,
   ⟨(some t35), oLoad1 (.t t34), none, (some (.t t34))⟩,
   ⟨(some t11), oMov (.t t35), none, none⟩])
 (xSeq (xReg [⟨(some t36), oMov (.t t9), none, none⟩,
   ⟨(some t37), oMov (.t t11), none, none⟩,
   ⟨(some t38), oNilCheck (.t t37), none, none⟩,
   ⟨(some t39), oFieldAddr 0 (.t t38), none, none⟩,
   ⟨(some t40), oFieldAddr 4 (.t t39), none, none⟩,
   ⟨(some t41), oLoad1 (.t t40), none, (some (.t t40))⟩,
   ⟨(some t42), oMov (.t t11), none, none⟩,
   ⟨(some t43), oNilCheck (.t t42), none, none⟩,
   ⟨(some t44), oFieldAddr 0 (.t t43), none, none⟩,
   ⟨(some t45), oFieldAddr 5 (.t t44), none, none⟩,
   ⟨(some t46), oLoad1 (.t t45), none, (some (.t t45))⟩,
   ⟨(some t47), oBin (int2 addO) (.t t41) (.t t46), none, none⟩,
   ⟨(some t48), oBin (int2 addO) (.t t36) (.t t47), none, none⟩,
   ⟨(some t9), oMov (.t t48), none, none⟩] [(0, 1), (0, 2), (0, 3), (0, 4), (0, 5), (0, 6), (1, 6), (2, 6), (3, 6), (4, 6), (5, 6), (0, 7), (1, 7), (2, 7), (3, 7), (4, 7), (5, 7), (0, 8), (1, 8), (2, 8), (3, 8), (4, 8), (5, 8), (0, 9), (1, 9), (2, 9), (3, 9), (4, 9), (5, 9), (0, 10), (1, 10), (2, 10), (3, 10), (4, 10), (5, 10), (0, 11)])
 (xSeq (xSeq (xOps [⟨(some t49), oMov (.t t2), none, none⟩,
   ⟨(some t50), oMov (.t t11), none, none⟩,
   ⟨(some t51), oNilCheck (.t t50), none, none⟩,
   ⟨(some t52), oFieldAddr 6 (.t t51), none, none⟩,
   ⟨(some t53), oLoad1 (.t t52), none, (some (.t t52))⟩,
   ⟨(some t54), oCall 40 [(.t t53)], none, none⟩,
   ⟨(some t55), oBin (int2 (cmpO ltI)) (.t t49) (.t t54), none, none⟩])
 (xCond (.t t55)
 (xExit 1)
 xSkip))
 (xSeq (xOps [⟨(some t57), oMov (.t t11), none, none⟩,
   ⟨(some t58), oNilCheck (.t t57), none, none⟩,
   ⟨(some t59), oFieldAddr 6 (.t t58), none, none⟩,
   ⟨(some t60), oLoad1 (.t t59), none, (some (.t t59))⟩,
   ⟨(some t61), oMov (.t t1), none, none⟩,
   ⟨(some t62), oMov (.t t2), none, none⟩,
   ⟨(some t63), oCall 42 [(.t t60), (.t t61), (.t t62)], none, none⟩,
   ⟨(some t56), oMov (.t t63), none, none⟩,
   ⟨(some t64), oExtract (.t t56) 0, none, none⟩,
   ⟨(some t65), oExtract (.t t56) 1, none, none⟩,
   ⟨(some t12), oMov (.t t64), none, none⟩,
   ⟨(some t13), oMov (.t t65), none, none⟩])
 (xSeq (xSeq (xOps [⟨(some t66), oMov (.t t13), none, none⟩,
   ⟨(some t67), oBin (int2 (cmpO neI)) (.t t66) (.v (.int .i64 0)), none, none⟩])
 (xCond (.t t67)
 (xSeq (xOps [⟨(some t68), oMov (.t t13), none, none⟩,
   ⟨(some t6), oMov (.v (.int .i64 0)), none, none⟩,
   ⟨(some t7), oMov (.t t68), none, none⟩])
 xRet)
 xSkip))
 (xOps [⟨(some t69), oMov (.t t9), none, none⟩,
   ⟨(some t70), oMov (.t t12), none, none⟩,
   ⟨(some t71), oBin (int2 addO) (.t t69) (.t t70), none, none⟩,
   ⟨(some t9), oMov (.t t71), none, none⟩])))))))
 (xOps [⟨(some t72), oBin (int2 addO) (.t t32) (.v (.int .i64 1)), none, none⟩,
   ⟨(some t32), oMov (.t t72), none, none⟩])))))))
 (xSeq (xOps [⟨(some t73), oMov (.t t9), none, none⟩,
   ⟨(some t6), oMov (.t t73), none, none⟩,
   ⟨(some t7), oMov (.v (.int .i64 0)), none, none⟩])
 xRet)))))⟩
theorem ok19 : cFunc Tryd.prog gl ex Tryd.f19 = some c19 := by kernel_rfl
/-- (*publican/dues.Account).Post -/
def c20 : AFunc := ⟨25, [.tmp t6, .tmp t7],
 (xSeq (xOps [⟨(some t4), oBox (.t t1), none, none⟩,
   ⟨(some t5), oBox (.t t2), none, none⟩,
   ⟨(some t6), oMov (.v (.int .i64 0)), none, none⟩,
   ⟨(some t7), oMov (.v (.int .i64 0)), none, none⟩])
 (xSeq (xSeq (xOps [⟨(some t11), oMov (.t t0), none, none⟩,
   ⟨(some t12), oLoad1 (.t t5), none, (some (.t t5))⟩,
   ⟨(some t13), oCall 25 [(.t t11), (.t t12)], none, none⟩,
   ⟨(some t8), oMov (.t t13), none, none⟩])
 (xSeq (xOps [⟨(some t14), oMov (.t t8), none, none⟩,
   ⟨(some t15), oBin (int2 (cmpO neI)) (.t t14) (.v (.int .i64 0)), none, none⟩])
 (xCond (.t t15)
 (xSeq (xOps [⟨(some t16), oMov (.t t8), none, none⟩,
   ⟨(some t6), oMov (.v (.int .i64 0)), none, none⟩,
   ⟨(some t7), oMov (.t t16), none, none⟩])
 xRet)
 xSkip)))
 (xSeq (xOps [⟨(some t9), oNew [(.int .i64 0)], none, none⟩,
   ⟨none, oStore 1 (.t t9) (.v (.int .i64 0)), none, none⟩])
 (xSeq (xOps [⟨(some t17), oMov (.t t0), none, none⟩,
   ⟨(some t18), oLoad1 (.t t5), none, (some (.t t5))⟩,
   ⟨(some t19), oFunc (.func 43) [] [(.t t4), (.t t5), (.t t9)], none, none⟩,
   ⟨(some t20), oCall 26 [(.t t17), (.t t18), (.t t19)], none, none⟩,
   ⟨(some t10), oMov (.t t20), none, none⟩])
 (xSeq (xSeq (xOps [⟨(some t21), oMov (.t t10), none, none⟩,
   ⟨(some t22), oBin (int2 (cmpO neI)) (.t t21) (.v (.int .i64 0)), none, none⟩])
 (xCond (.t t22)
 (xSeq (xOps [⟨(some t23), oMov (.t t10), none, none⟩,
   ⟨(some t6), oMov (.v (.int .i64 0)), none, none⟩,
   ⟨(some t7), oMov (.t t23), none, none⟩])
 xRet)
 xSkip))
 (xSeq (xOps [⟨(some t24), oLoad1 (.t t9), none, (some (.t t9))⟩,
   ⟨(some t6), oMov (.t t24), none, none⟩,
   ⟨(some t7), oMov (.v (.int .i64 0)), none, none⟩])
 xRet))))))⟩
theorem ok20 : cFunc Tryd.prog gl ex Tryd.f20 = some c20 := by kernel_rfl
/-- (*publican/dues.Account).Copy -/
def c21 : AFunc := ⟨63, [.tmp t2],
 (xSeq (xOps [⟨(some t2), oMov (.v (.pointer none)), none, none⟩])
 (xSeq (xReg [⟨(some t6), oMov (.t t0), none, none⟩,
   ⟨(some t7), oNilCheck (.t t6), none, none⟩,
   ⟨(some t8), oFieldAddr 0 (.t t7), none, none⟩,
   ⟨(some t9), oLoad1 (.t t8), none, (some (.t t8))⟩,
   ⟨(some t10), oMov (.t t0), none, none⟩,
   ⟨(some t11), oNilCheck (.t t10), none, none⟩,
   ⟨(some t12), oFieldAddr 1 (.t t11), none, none⟩,
   ⟨(some t13), oFieldAddr 0 (.t t12), none, none⟩,
   ⟨(some t14), oLoad1 (.t t13), none, (some (.t t13))⟩,
   ⟨(some t15), oMov (.t t0), none, none⟩,
   ⟨(some t16), oNilCheck (.t t15), none, none⟩,
   ⟨(some t17), oFieldAddr 1 (.t t16), none, none⟩,
   ⟨(some t18), oFieldAddr 2 (.t t17), none, none⟩,
   ⟨(some t19), oLoad1 (.t t18), none, (some (.t t18))⟩,
   ⟨(some t20), oMov (.t t0), none, none⟩,
   ⟨(some t21), oNilCheck (.t t20), none, none⟩,
   ⟨(some t22), oFieldAddr 1 (.t t21), none, none⟩,
   ⟨(some t23), oFieldAddr 3 (.t t22), none, none⟩,
   ⟨(some t24), oLoad1 (.t t23), none, (some (.t t23))⟩,
   ⟨(some t25), oCall 41 [(.t t24)], none, none⟩,
   ⟨(some t26), oBuild [(.int .i64 0), (.slice none 0 0), (.int .i64 0), (.pointer none)] [(0, 1, (.t t14)), (2, 1, (.t t19)), (3, 1, (.t t25))], none, none⟩,
   ⟨(some t27), oBuild [(.string ⟨⟨[]⟩⟩), (.int .i64 0), (.slice none 0 0), (.int .i64 0), (.pointer none)] [(0, 1, (.t t9)), (1, 4, (.t t26))], none, none⟩,
   ⟨(some t28), oBox (.t t27), none, none⟩,
   ⟨(some t3), oMov (.t t28), none, none⟩] [(0, 4), (1, 4), (2, 4), (3, 4), (0, 5), (1, 5), (2, 5), (3, 5), (0, 6), (1, 6), (2, 6), (3, 6), (0, 7), (1, 7), (2, 7), (3, 7), (0, 8), (1, 8), (2, 8), (3, 8), (0, 9), (1, 9), (2, 9), (3, 9), (4, 9), (5, 9), (6, 9), (7, 9), (8, 9), (0, 10), (1, 10), (2, 10), (3, 10), (4, 10), (5, 10), (6, 10), (7, 10), (8, 10), (0, 11), (1, 11), (2, 11), (3, 11), (4, 11), (5, 11), (6, 11), (7, 11), (8, 11), (0, 12), (1, 12), (2, 12), (3, 12), (4, 12), (5, 12), (6, 12), (7, 12), (8, 12), (0, 13), (1, 13), (2, 13), (3, 13), (4, 13), (5, 13), (6, 13), (7, 13), (8, 13), (0, 14), (1, 14), (2, 14), (3, 14), (4, 14), (5, 14), (6, 14), (7, 14), (8, 14), (9, 14), (10, 14), (11, 14), (12, 14), (13, 14), (0, 15), (1, 15), (2, 15), (3, 15), (4, 15), (5, 15), (6, 15), (7, 15), (8, 15), (9, 15), (10, 15), (11, 15), (12, 15), (13, 15), (0, 16), (1, 16), (2, 16), (3, 16), (4, 16), (5, 16), (6, 16), (7, 16), (8, 16), (9, 16), (10, 16), (11, 16), (12, 16), (13, 16), (0, 17), (1, 17), (2, 17), (3, 17), (4, 17), (5, 17), (6, 17), (7, 17), (8, 17), (9, 17), (10, 17), (11, 17), (12, 17), (13, 17), (0, 18), (1, 18), (2, 18), (3, 18), (4, 18), (5, 18), (6, 18), (7, 18), (8, 18), (9, 18), (10, 18), (11, 18), (12, 18), (13, 18), (0, 19), (1, 19), (2, 19), (3, 19), (4, 19), (5, 19), (6, 19), (7, 19), (8, 19), (9, 19), (10, 19), (11, 19), (12, 19), (13, 19), (0, 20), (1, 20), (2, 20), (3, 20)])
 (xSeq (xSeq (xOps [⟨(some t29), oMov (.t t0), none, none⟩,
   ⟨(some t30), oNilCheck (.t t29), none, none⟩,
   ⟨(some t31), oFieldAddr 1 (.t t30), none, none⟩,
   ⟨(some t32), oFieldAddr 1 (.t t31), none, none⟩,
   ⟨(some t33), oLoad1 (.t t32), none, (some (.t t32))⟩,
   ⟨(some t34), oLenL (.t t33), none, none⟩,
   ⟨(some t35), oMov (.v (.int .i64 0)), none, none⟩])
 (xBlock 0 (xLoop (xSeq (xOps [⟨(some t36), oBin (int2 (cmpO ltI)) (.t t35) (.t t34), none, none⟩])
 (xSeq (xCond (.t t36)
 xSkip
 (xExit 0))
 (xSeq (xBlock 1 (xSeq (xOps [⟨(some t37), oIdxAddrL 1 (.t t33) (.t t35), none, none⟩,
   ⟨(some t38), oLoad1 (.t t37), none, (some (.t t37))⟩,
   ⟨(some t5), oMov (.t t38), none, none⟩])
 (xReg [⟨(some t39), oMov (.t t3), none, none⟩,
   ⟨(some t40), oMov (.t t3), none, none⟩,
   ⟨(some t41), oNilCheck (.t t40), none, none⟩,
   ⟨(some t42), oFieldAddr 1 (.t t41), none, none⟩,
   ⟨(some t43), oFieldAddr 1 (.t t42), none, none⟩,
   ⟨(some t44), oLoad1 (.t t43), none, (some (.t t43))⟩,
   ⟨(some t45), oMov (.t t5), none, none⟩,
   ⟨(some t46), oNilCheck (.t t45), none, none⟩,
   ⟨(some t47), oFieldAddr 0 (.t t46), none, none⟩,
   ⟨(some t48), oLoadN 6 (.t t47), none, none⟩,
   ⟨(some t49), oMov (.t t5), none, none⟩,
   ⟨(some t50), oNilCheck (.t t49), none, none⟩,
   ⟨(some t51), oFieldAddr 6 (.t t50), none, none⟩,
   ⟨(some t52), oLoad1 (.t t51), none, (some (.t t51))⟩,
   ⟨(some t53), oCall 44 [(.t t52)], none, none⟩,
   ⟨(some t54), oBuild [(.int .i64 0), (.int .i64 0), (.int .i64 0), (.int .i64 0), (.int .i64 0), (.int .i64 0), (.pointer none)] [(0, 6, (.t t48)), (6, 1, (.t t53))], none, none⟩,
   ⟨(some t55), oBox (.t t54), none, none⟩,
   ⟨(some t56), oBuildSlice 1 [(.pointer none)] [(0, 1, (.t t55))], none, none⟩,
   ⟨(some t57), oAppend 1 8 (.t t44) (.t t56), none, none⟩,
   ⟨(some t58), oNilCheck (.t t39), none, none⟩,
   ⟨(some t59), oFieldAddr 1 (.t t58), none, none⟩,
   ⟨(some t60), oFieldAddr 1 (.t t59), none, none⟩,
   ⟨none, oStore 1 (.t t60) (.t t57), none, none⟩] [(0, 1), (0, 2), (0, 3), (0, 4), (0, 5), (0, 6), (1, 6), (2, 6), (3, 6), (4, 6), (5, 6), (0, 7), (1, 7), (2, 7), (3, 7), (4, 7), (5, 7), (0, 8), (1, 8), (2, 8), (3, 8), (4, 8), (5, 8), (0, 9), (1, 9), (2, 9), (3, 9), (4, 9), (5, 9), (0, 10), (1, 10), (2, 10), (3, 10), (4, 10), (5, 10), (6, 10), (7, 10), (8, 10), (9, 10), (0, 11), (1, 11), (2, 11), (3, 11), (4, 11), (5, 11), (6, 11), (7, 11), (8, 11), (9, 11), (0, 12), (1, 12), (2, 12), (3, 12), (4, 12), (5, 12), (6, 12), (7, 12), (8, 12), (9, 12), (0, 13), (1, 13), (2, 13), (3, 13), (4, 13), (5, 13), (6, 13), (7, 13), (8, 13), (9, 13), (0, 14), (1, 14), (2, 14), (3, 14), (4, 14), (5, 14), (6, 14), (7, 14), (8, 14), (9, 14), (0, 15), (1, 15), (2, 15), (3, 15), (4, 15), (5, 15), (0, 16), (1, 16), (2, 16), (3, 16), (4, 16), (5, 16), (0, 17), (1, 17), (2, 17), (3, 17), (4, 17), (5, 17), (0, 18)])))
 (xOps [⟨(some t61), oBin (int2 addO) (.t t35) (.v (.int .i64 1)), none, none⟩,
   ⟨(some t35), oMov (.t t61), none, none⟩])))))))
 (xSeq (xOps [⟨(some t62), oMov (.t t3), none, none⟩,
   ⟨(some t2), oMov (.t t62), none, none⟩])
 xRet))))⟩
theorem ok21 : cFunc Tryd.prog gl ex Tryd.f21 = some c21 := by kernel_rfl
/-- publican/books.New -/
def c22 : AFunc := ⟨4, [.tmp t0],
 (xSeq (xOps [⟨(some t0), oMov (.v (.pointer none)), none, none⟩])
 (xSeq (xOps [⟨(some t1), oMakeMap, none, none⟩,
   ⟨(some t2), oBuild [(.slice none 0 0), (.map none)] [(1, 1, (.t t1))], none, none⟩,
   ⟨(some t3), oBox (.t t2), none, none⟩,
   ⟨(some t0), oMov (.t t3), none, none⟩])
 xRet))⟩
theorem ok22 : cFunc Tryd.prog gl ex Tryd.f22 = some c22 := by kernel_rfl
/-- publican/dues.first -/
def c23 : AFunc := ⟨15, [.tmp t2],
 (xSeq (xOps [⟨(some t2), oMov (.v (.int .i64 0)), none, none⟩])
 (xSeq (xSeq (xOps [⟨(some t5), oMov (.t t0), none, none⟩,
   ⟨(some t6), oLenL (.t t5), none, none⟩,
   ⟨(some t7), oMov (.v (.int .i64 0)), none, none⟩])
 (xBlock 0 (xLoop (xSeq (xOps [⟨(some t8), oBin (int2 (cmpO ltI)) (.t t7) (.t t6), none, none⟩])
 (xSeq (xCond (.t t8)
 xSkip
 (xExit 0))
 (xSeq (xBlock 1 (xSeq (xOps [⟨(some t9), oIdxAddrL 1 (.t t5) (.t t7), none, none⟩,
   ⟨(some t10), oLoad1 (.t t9), none, (some (.t t9))⟩,
   ⟨(some t4), oMov (.t t10), none, none⟩])
 (xSeq (xOps [⟨(some t11), oMov (.t t4), none, none⟩,
   ⟨(some t12), oBin (int2 (cmpO neI)) (.t t11) (.v (.int .i64 0)), none, none⟩])
 (xCond (.t t12)
 (xSeq (xOps [⟨(some t13), oMov (.t t4), none, none⟩,
   ⟨(some t2), oMov (.t t13), none, none⟩])
 xRet)
 xSkip))))
 (xOps [⟨(some t14), oBin (int2 addO) (.t t7) (.v (.int .i64 1)), none, none⟩,
   ⟨(some t7), oMov (.t t14), none, none⟩])))))))
 (xSeq (xOps [⟨(some t2), oMov (.v (.int .i64 0)), none, none⟩])
 xRet)))⟩
theorem ok23 : cFunc Tryd.prog gl ex Tryd.f23 = some c23 := by kernel_rfl
/-- publican/dues.amount -/
def c24 : AFunc := ⟨9, [.tmp t2],
 (xSeq (xOps [⟨(some t2), oMov (.v (.int .i64 0)), none, none⟩])
 (xSeq (xSeq (xOps [⟨(some t3), oMov (.t t0), none, none⟩,
   ⟨(some t4), oBin (int2 (cmpO ltI)) (.t t3) (.v (.int .i64 1)), none, none⟩,
   ⟨(some t5), oMov (.t t4), none, none⟩,
   ⟨(some t6), oMov (.t t0), (some (t5, false)), none⟩,
   ⟨(some t7), oBin (int2 (cmpO gtI)) (.t t6) (.v (.int .i64 4503599627370496)), (some (t5, false)), none⟩,
   ⟨(some t8), oPick (.t t5) (.v (.bool true)) (.t t7), none, none⟩])
 (xCond (.t t8)
 (xSeq (xOps [⟨(some t2), oMov (.v (.int .i64 1)), none, none⟩])
 xRet)
 xSkip))
 (xSeq (xOps [⟨(some t2), oMov (.v (.int .i64 0)), none, none⟩])
 xRet)))⟩
theorem ok24 : cFunc Tryd.prog gl ex Tryd.f24 = some c24 := by kernel_rfl
/-- (*publican/dues.Account).on -/
def c25 : AFunc := ⟨20, [.tmp t4],
 (xSeq (xOps [⟨(some t4), oMov (.v (.int .i64 0)), none, none⟩])
 (xSeq (xBlock 0 (xSeq (xOps [⟨(some t6), oMov (.t t1), none, none⟩,
   ⟨(some t7), oBin (int2 (cmpO ltI)) (.t t6) (.v (.int .i64 0)), none, none⟩,
   ⟨(some t8), oMov (.t t7), none, none⟩,
   ⟨(some t9), oMov (.t t1), (some (t8, false)), none⟩,
   ⟨(some t10), oBin (int2 (cmpO gtI)) (.t t9) (.v (.int .i64 109572)), (some (t8, false)), none⟩,
   ⟨(some t11), oPick (.t t8) (.v (.bool true)) (.t t10), none, none⟩,
   ⟨(some t5), oMov (.t t11), none, none⟩])
 (xCond (.t t5)
 (xSeq (xOps [⟨(some t4), oMov (.v (.int .i64 12)), none, none⟩])
 xRet)
 (xSeq (xOps [⟨(some t13), oMov (.t t1), none, none⟩,
   ⟨(some t14), oMov (.t t0), none, none⟩,
   ⟨(some t15), oNilCheck (.t t14), none, none⟩,
   ⟨(some t16), oFieldAddr 1 (.t t15), none, none⟩,
   ⟨(some t17), oFieldAddr 0 (.t t16), none, none⟩,
   ⟨(some t18), oLoad1 (.t t17), none, (some (.t t17))⟩,
   ⟨(some t19), oBin (int2 (cmpO ltI)) (.t t13) (.t t18), none, none⟩,
   ⟨(some t12), oMov (.t t19), none, none⟩])
 (xCond (.t t12)
 (xSeq (xOps [⟨(some t4), oMov (.v (.int .i64 14)), none, none⟩])
 xRet)
 xSkip)))))
 (xSeq (xOps [⟨(some t4), oMov (.v (.int .i64 0)), none, none⟩])
 xRet)))⟩
theorem ok25 : cFunc Tryd.prog gl ex Tryd.f25 = some c25 := by kernel_rfl
/-- (*publican/dues.Account).do -/
def c26 : AFunc := ⟨29, [.tmp t6],
 (xSeq (xOps [⟨(some t6), oMov (.v (.int .i64 0)), none, none⟩])
 (xSeq (xOps [⟨(some t9), oMov (.t t0), none, none⟩,
   ⟨(some t10), oCall 21 [(.t t9)], none, none⟩,
   ⟨(some t7), oMov (.t t10), none, none⟩])
 (xSeq (xSeq (xOps [⟨(some t11), oMov (.t t2), none, none⟩,
   ⟨(some t12), oMov (.t t7), none, none⟩,
   ⟨(some t13), oCallV (.t t11) [(.t t12)], none, none⟩,
   ⟨(some t8), oMov (.t t13), none, none⟩])
 (xSeq (xOps [⟨(some t14), oMov (.t t8), none, none⟩,
   ⟨(some t15), oBin (int2 (cmpO neI)) (.t t14) (.v (.int .i64 0)), none, none⟩])
 (xCond (.t t15)
 (xSeq (xOps [⟨(some t16), oMov (.t t8), none, none⟩,
   ⟨(some t6), oMov (.t t16), none, none⟩])
 xRet)
 xSkip)))
 (xSeq (xOps [⟨(some t17), oMov (.t t7), none, none⟩,
   ⟨(some t18), oMov (.t t1), none, none⟩,
   ⟨(some t19), oNilCheck (.t t17), none, none⟩,
   ⟨(some t20), oFieldAddr 1 (.t t19), none, none⟩,
   ⟨(some t21), oFieldAddr 0 (.t t20), none, none⟩,
   ⟨none, oStore 1 (.t t21) (.t t18), none, none⟩])
 (xSeq (xOps [⟨(some t22), oMov (.t t0), none, none⟩,
   ⟨(some t23), oMov (.t t7), none, none⟩,
   ⟨(some t24), oNilCheck (.t t23), none, none⟩,
   ⟨(some t25), oFieldAddr 1 (.t t24), none, none⟩,
   ⟨(some t26), oLoadN 4 (.t t25), none, none⟩,
   ⟨(some t27), oNilCheck (.t t22), none, none⟩,
   ⟨(some t28), oFieldAddr 1 (.t t27), none, none⟩,
   ⟨none, oStore 4 (.t t28) (.t t26), none, none⟩])
 (xSeq (xOps [⟨(some t6), oMov (.v (.int .i64 0)), none, none⟩])
 xRet))))))⟩
theorem ok26 : cFunc Tryd.prog gl ex Tryd.f26 = some c26 := by kernel_rfl
/-- (*publican/dues.Account).Charge$1 -/
def c27 : AFunc := ⟨62, [.tmp t8],
 (xSeq (xOps [⟨(some t8), oMov (.v (.int .i64 0)), none, none⟩])
 (xSeq (xOps [⟨(some t14), oLoad1 (.t t1), none, (some (.t t1))⟩,
   ⟨(some t15), oLoad1 (.t t2), none, (some (.t t2))⟩,
   ⟨(some t16), oMM true (.t t14) [(.t t15)], none, none⟩,
   ⟨(some t17), oLoad1 (.t t3), none, (some (.t t3))⟩,
   ⟨(some t18), oCall 28 [(.t t16), (.t t17)], none, none⟩,
   ⟨(some t13), oMov (.t t18), none, none⟩,
   ⟨(some t19), oExtract (.t t13) 0, none, none⟩,
   ⟨(some t20), oExtract (.t t13) 1, none, none⟩,
   ⟨(some t9), oMov (.t t19), none, none⟩,
   ⟨(some t10), oMov (.t t20), none, none⟩])
 (xSeq (xSeq (xOps [⟨(some t21), oMov (.t t10), none, none⟩,
   ⟨(some t22), oBin (int2 (cmpO neI)) (.t t21) (.v (.int .i64 0)), none, none⟩])
 (xCond (.t t22)
 (xSeq (xOps [⟨(some t23), oMov (.t t10), none, none⟩,
   ⟨(some t8), oMov (.t t23), none, none⟩])
 xRet)
 xSkip))
 (xSeq (xOps [⟨(some t24), oLoad1 (.t t4), none, (some (.t t4))⟩,
   ⟨(some t25), oLoad1 (.t t5), none, (some (.t t5))⟩,
   ⟨(some t26), oLoad1 (.t t1), none, (some (.t t1))⟩,
   ⟨(some t27), oLoad1 (.t t3), none, (some (.t t3))⟩,
   ⟨(some t28), oLoad1 (.t t3), none, (some (.t t3))⟩,
   ⟨(some t29), oBuild (rep 6 [(.int .i64 0)]) [(0, 1, (.t t24)), (1, 1, (.t t25)), (2, 1, (.t t26)), (3, 1, (.t t27)), (4, 1, (.t t28))], none, none⟩,
   ⟨(some t11), oNew (rep 6 [(.int .i64 0)]), none, none⟩,
   ⟨none, oStore 6 (.t t11) (.t t29), none, none⟩])
 (xSeq (xReg [⟨(some t30), oMov (.t t0), none, none⟩,
   ⟨(some t31), oMov (.t t0), none, none⟩,
   ⟨(some t32), oNilCheck (.t t31), none, none⟩,
   ⟨(some t33), oFieldAddr 1 (.t t32), none, none⟩,
   ⟨(some t34), oFieldAddr 1 (.t t33), none, none⟩,
   ⟨(some t35), oLoad1 (.t t34), none, (some (.t t34))⟩,
   ⟨(some t36), oLoadN 6 (.t t11), none, none⟩,
   ⟨(some t37), oMov (.t t9), none, none⟩,
   ⟨(some t38), oBuild [(.int .i64 0), (.int .i64 0), (.int .i64 0), (.int .i64 0), (.int .i64 0), (.int .i64 0), (.pointer none)] [(0, 6, (.t t36)), (6, 1, (.t t37))], none, none⟩,
   ⟨(some t39), oBox (.t t38), none, none⟩,
   ⟨(some t40), oBuildSlice 1 [(.pointer none)] [(0, 1, (.t t39))], none, none⟩,
   ⟨(some t41), oAppend 1 8 (.t t35) (.t t40), none, none⟩,
   ⟨(some t42), oNilCheck (.t t30), none, none⟩,
   ⟨(some t43), oFieldAddr 1 (.t t42), none, none⟩,
   ⟨(some t44), oFieldAddr 1 (.t t43), none, none⟩,
   ⟨none, oStore 1 (.t t44) (.t t41), none, none⟩] [(0, 1), (0, 2), (0, 3), (0, 4), (0, 5), (0, 6), (1, 6), (2, 6), (3, 6), (4, 6), (5, 6), (0, 7), (1, 7), (2, 7), (3, 7), (4, 7), (5, 7), (6, 7), (0, 8), (1, 8), (2, 8), (3, 8), (4, 8), (5, 8), (0, 9), (1, 9), (2, 9), (3, 9), (4, 9), (5, 9), (0, 10), (1, 10), (2, 10), (3, 10), (4, 10), (5, 10), (0, 11)])
 (xSeq (xSeq (xReg [⟨(some t45), oMov (.t t0), none, none⟩,
   ⟨(some t46), oLoad1 (.t t2), none, (some (.t t2))⟩,
   ⟨(some t47), oMov (.t t0), none, none⟩,
   ⟨(some t48), oCall 30 [(.t t47)], none, none⟩,
   ⟨(some t49), oLoadN 6 (.t t11), none, none⟩,
   ⟨(some t50), oCall 31 [(.t t49)], none, none⟩,
   ⟨(some t51), oLoad1 (.t t3), none, (some (.t t3))⟩,
   ⟨(some t52), oLoad1 (.t t4), none, (some (.t t4))⟩,
   ⟨(some t53), oCall 32 [(.v (.string ⟨⟨[99, 104, 97, 114, 103, 101]⟩⟩)), (.t t52)], none, none⟩,
   ⟨(some t54), oCall 29 [(.t t45), (.t t46), (.t t48), (.t t50), (.t t51), (.t t53)], none, none⟩,
   ⟨(some t12), oMov (.t t54), none, none⟩] [(0, 1), (0, 2), (1, 2), (0, 3), (1, 3), (0, 4), (1, 4), (2, 4), (3, 4), (0, 5), (1, 5), (0, 6), (1, 6), (2, 6), (3, 6), (4, 6), (5, 6), (0, 7), (1, 7), (2, 7), (3, 7), (4, 7), (5, 7), (6, 7), (0, 8), (1, 8), (6, 8)])
 (xSeq (xOps [⟨(some t55), oMov (.t t12), none, none⟩,
   ⟨(some t56), oBin (int2 (cmpO neI)) (.t t55) (.v (.int .i64 0)), none, none⟩])
 (xCond (.t t56)
 (xSeq (xOps [⟨(some t57), oMov (.t t12), none, none⟩,
   ⟨(some t8), oMov (.t t57), none, none⟩])
 xRet)
 xSkip)))
 (xSeq (xOps [⟨(some t58), oMov (.t t0), none, none⟩,
   ⟨(some t59), oLoad1 (.t t6), none, (some (.t t6))⟩,
   ⟨(some t60), oLoad1 (.t t2), none, (some (.t t2))⟩,
   ⟨(some t61), oCall 33 [(.t t58), (.t t59), (.t t60)], none, none⟩,
   ⟨(some t8), oMov (.t t61), none, none⟩])
 xRet)))))))⟩
theorem ok27 : cFunc Tryd.prog gl ex Tryd.f27 = some c27 := by kernel_rfl
/-- publican/accrue.New -/
def c28 : AFunc := ⟨24, [.tmp t4, .tmp t5],
 (xSeq (xOps [⟨(some t4), oMov (.v (.pointer none)), none, none⟩,
   ⟨(some t5), oMov (.v (.int .i64 0)), none, none⟩])
 (xSeq (xBlock 0 (xSeq (xOps [⟨(some t7), oMov (.t t0), none, none⟩,
   ⟨(some t8), oBin (int2 (cmpO ltI)) (.t t7) (.v (.int .i64 0)), none, none⟩,
   ⟨(some t9), oMov (.t t8), none, none⟩,
   ⟨(some t10), oMov (.t t0), (some (t9, false)), none⟩,
   ⟨(some t11), oBin (int2 (cmpO gtI)) (.t t10) (.v (.int .i64 109572)), (some (t9, false)), none⟩,
   ⟨(some t12), oPick (.t t9) (.v (.bool true)) (.t t11), none, none⟩,
   ⟨(some t6), oMov (.t t12), none, none⟩])
 (xCond (.t t6)
 (xSeq (xOps [⟨(some t4), oMov (.v (.pointer none)), none, none⟩,
   ⟨(some t5), oMov (.v (.int .i64 12)), none, none⟩])
 xRet)
 (xSeq (xOps [⟨(some t14), oMov (.t t1), none, none⟩,
   ⟨(some t15), oBin (int2 (cmpO ltI)) (.t t14) (.v (.int .i64 0)), none, none⟩,
   ⟨(some t16), oMov (.t t15), none, none⟩,
   ⟨(some t17), oMov (.t t1), (some (t16, false)), none⟩,
   ⟨(some t18), oBin (int2 (cmpO gtI)) (.t t17) (.v (.int .i64 4503599627370496)), (some (t16, false)), none⟩,
   ⟨(some t19), oPick (.t t16) (.v (.bool true)) (.t t18), none, none⟩,
   ⟨(some t13), oMov (.t t19), none, none⟩])
 (xCond (.t t13)
 (xSeq (xOps [⟨(some t4), oMov (.v (.pointer none)), none, none⟩,
   ⟨(some t5), oMov (.v (.int .i64 1)), none, none⟩])
 xRet)
 xSkip)))))
 (xSeq (xOps [⟨(some t20), oMov (.t t0), none, none⟩,
   ⟨(some t21), oMov (.t t1), none, none⟩,
   ⟨(some t22), oBuild [(.int .i64 0), (.int .i64 0), (.int .i64 0), (.int .i64 0), (.int .u64 0)] [(0, 1, (.t t20)), (1, 1, (.t t21))], none, none⟩,
   ⟨(some t23), oBox (.t t22), none, none⟩,
   ⟨(some t4), oMov (.t t23), none, none⟩,
   ⟨(some t5), oMov (.v (.int .i64 0)), none, none⟩])
 xRet)))⟩
theorem ok28 : cFunc Tryd.prog gl ex Tryd.f28 = some c28 := by kernel_rfl
/-- (*publican/dues.Account).entry -/
def c29 : AFunc := ⟨25, [.tmp t12],
 (xSeq (xOps [⟨(some t12), oMov (.v (.int .i64 0)), none, none⟩])
 (xSeq (xOps [⟨(some t13), oMov (.t t0), none, none⟩,
   ⟨(some t14), oNilCheck (.t t13), none, none⟩,
   ⟨(some t15), oFieldAddr 1 (.t t14), none, none⟩,
   ⟨(some t16), oFieldAddr 3 (.t t15), none, none⟩,
   ⟨(some t17), oLoad1 (.t t16), none, (some (.t t16))⟩,
   ⟨(some t18), oMov (.t t1), none, none⟩,
   ⟨(some t19), oMov (.t t2), none, none⟩,
   ⟨(some t20), oMov (.t t3), none, none⟩,
   ⟨(some t21), oMov (.t t4), none, none⟩,
   ⟨(some t22), oMov (.t t5), none, none⟩,
   ⟨(some t23), oBuild [(.int .i64 0), (.string ⟨⟨[]⟩⟩), (.string ⟨⟨[]⟩⟩), (.int .i64 0), (.string ⟨⟨[]⟩⟩)] [(0, 1, (.t t18)), (1, 1, (.t t19)), (2, 1, (.t t20)), (3, 1, (.t t21)), (4, 1, (.t t22))], none, none⟩,
   ⟨(some t24), oCall 45 [(.t t17), (.t t23)], none, none⟩,
   ⟨(some t12), oMov (.t t24), none, none⟩])
 xRet))⟩
theorem ok29 : cFunc Tryd.prog gl ex Tryd.f29 = some c29 := by kernel_rfl
/-- (*publican/dues.Account).owes -/
def c30 : AFunc := ⟨8, [.tmp t2],
 (xSeq (xOps [⟨(some t2), oMov (.v (.string ⟨⟨[]⟩⟩)), none, none⟩])
 (xSeq (xOps [⟨(some t3), oMov (.t t0), none, none⟩,
   ⟨(some t4), oNilCheck (.t t3), none, none⟩,
   ⟨(some t5), oFieldAddr 0 (.t t4), none, none⟩,
   ⟨(some t6), oLoad1 (.t t5), none, (some (.t t5))⟩,
   ⟨(some t7), oBin (str2 catO) (.v (.string ⟨⟨[64]⟩⟩)) (.t t6), none, none⟩,
   ⟨(some t2), oMov (.t t7), none, none⟩])
 xRet))⟩
theorem ok30 : cFunc Tryd.prog gl ex Tryd.f30 = some c30 := by kernel_rfl
/-- (publican/dues.Charge).against -/
def c31 : AFunc := ⟨6, [.tmp t2],
 (xSeq (xOps [⟨(some t1), oBox (.t t0), none, none⟩,
   ⟨(some t2), oMov (.v (.string ⟨⟨[]⟩⟩)), none, none⟩])
 (xSeq (xSeq (xOps [⟨(some t3), oFieldAddr 1 (.t t1), none, none⟩,
   ⟨(some t4), oLoad1 (.t t3), none, (some (.t t3))⟩,
   ⟨(some t5), oBin (int2 (cmpO eqI)) (.t t4) (.v (.int .i64 1)), none, none⟩])
 (xCond (.t t5)
 (xSeq (xOps [⟨(some t2), oMov (.v (.string ⟨⟨[116, 97, 120]⟩⟩)), none, none⟩])
 xRet)
 xSkip))
 (xSeq (xOps [⟨(some t2), oMov (.v (.string ⟨⟨[112, 101, 110, 97, 108, 116, 121]⟩⟩)), none, none⟩])
 xRet)))⟩
theorem ok31 : cFunc Tryd.prog gl ex Tryd.f31 = some c31 := by kernel_rfl
end
end Go.Proofs.YtgbmkpbackdknaaDoor.AbsDueK
