import Derived.Test.YtdnedangfnincaaRows
import Derived.Test.YtdnedangfnincaaAbsAccRT
import Derived.KernelRfl
namespace Go.Proofs.Ytdnedangfnincaa.AbsAccR
open Go Go.Abs Go.Proofs
set_option maxRecDepth 100000
set_option linter.unusedVariables false
noncomputable section
-- publican/publicanlaw20.AccrueReads
def c6_q0 : List AOper := [⟨(some t83), oCall 25 [(.t t81), (.t t82)], (some (t80, true)), none⟩,
   ⟨(some t84), oBin (int2 (cmpO geI)) (.t t83) (.v (.int .i64 0)), (some (t80, true)), none⟩,
   ⟨(some t85), oPick (.t t80) (.t t84) (.v (.bool false)), none, none⟩,
   ⟨(some t86), oMov (.t t85), none, none⟩,
   ⟨(some t87), oLoadN 2 (.t t11), (some (t86, true)), none⟩,
   ⟨(some t88), oCall 26 [], (some (t86, true)), none⟩,
   ⟨(some t89), oCall 25 [(.t t87), (.t t88)], (some (t86, true)), none⟩,
   ⟨(some t90), oBin (int2 (cmpO leI)) (.t t89) (.v (.int .i64 0)), (some (t86, true)), none⟩,
   ⟨(some t91), oPick (.t t86) (.t t90) (.v (.bool false)), none, none⟩,
   ⟨(some t12), oMov (.t t91), none, none⟩]
def c6_q1 : List AOper := (⟨(some t73), oMov (.t t8), (some (t72, true)), none⟩ ::
   ⟨(some t74), oBin (int2 (cmpO geI)) (.t t73) (.v (.int .i64 0)), (some (t72, true)), none⟩ ::
   ⟨(some t75), oPick (.t t72) (.t t74) (.v (.bool false)), none, none⟩ ::
   ⟨(some t76), oMov (.t t75), none, none⟩ ::
   ⟨(some t77), oMov (.t t8), (some (t76, true)), none⟩ ::
   ⟨(some t78), oBin (int2 (cmpO leI)) (.t t77) (.v (.int .i64 4503599627370496)), (some (t76, true)), none⟩ ::
   ⟨(some t79), oPick (.t t76) (.t t78) (.v (.bool false)), none, none⟩ ::
   ⟨(some t80), oMov (.t t79), none, none⟩ ::
   ⟨(some t81), oLoadN 2 (.t t11), (some (t80, true)), none⟩ ::
   ⟨(some t82), oCall 37 [(.v (.int .i64 0))], (some (t80, true)), none⟩ :: c6_q0)
def c6_q2 : List AOper := (⟨(some t63), oPick (.t t60) (.t t62) (.v (.bool false)), none, none⟩ ::
   ⟨(some t64), oMov (.t t63), none, none⟩ ::
   ⟨(some t65), oMov (.t t7), (some (t64, true)), none⟩ ::
   ⟨(some t66), oBin (int2 (cmpO geI)) (.t t65) (.v (.int .i64 0)), (some (t64, true)), none⟩ ::
   ⟨(some t67), oPick (.t t64) (.t t66) (.v (.bool false)), none, none⟩ ::
   ⟨(some t68), oMov (.t t67), none, none⟩ ::
   ⟨(some t69), oMov (.t t7), (some (t68, true)), none⟩ ::
   ⟨(some t70), oBin (int2 (cmpO leI)) (.t t69) (.v (.int .i64 4503599627370496)), (some (t68, true)), none⟩ ::
   ⟨(some t71), oPick (.t t68) (.t t70) (.v (.bool false)), none, none⟩ ::
   ⟨(some t72), oMov (.t t71), none, none⟩ :: c6_q1)
def c6_q3 : List AOper := (⟨(some t53), oLenL (.t t52), (some (t48, true)), none⟩ ::
   ⟨(some t54), oBin (int2 (cmpO eqI)) (.t t53) (.v (.int .i64 0)), (some (t48, true)), none⟩ ::
   ⟨(some t55), oPick (.t t48) (.t t54) (.v (.bool false)), none, none⟩ ::
   ⟨(some t56), oMov (.t t55), none, none⟩ ::
   ⟨(some t57), oMov (.t t6), (some (t56, true)), none⟩ ::
   ⟨(some t58), oBin (int2 (cmpO geI)) (.t t57) (.v (.int .i64 0)), (some (t56, true)), none⟩ ::
   ⟨(some t59), oPick (.t t56) (.t t58) (.v (.bool false)), none, none⟩ ::
   ⟨(some t60), oMov (.t t59), none, none⟩ ::
   ⟨(some t61), oMov (.t t6), (some (t60, true)), none⟩ ::
   ⟨(some t62), oBin (int2 (cmpO leI)) (.t t61) (.v (.int .i64 109572)), (some (t60, true)), none⟩ :: c6_q2)
def c6_q4 : List AOper := [⟨(some t110), oMov (.t t109), none, none⟩,
   ⟨(some t111), oMov (.t t3), (some (t110, true)), none⟩,
   ⟨(some t112), oCall 30 [(.t t111)], (some (t110, true)), none⟩,
   ⟨(some t113), oMov (.t t6), (some (t110, true)), none⟩,
   ⟨(some t114), oBin (int2 (cmpO eqI)) (.t t112) (.t t113), (some (t110, true)), none⟩,
   ⟨(some t115), oPick (.t t110) (.t t114) (.v (.bool false)), none, none⟩,
   ⟨(some t116), oMov (.t t115), none, none⟩,
   ⟨(some t117), oMov (.t t3), (some (t116, true)), none⟩,
   ⟨(some t118), oCall 31 [(.t t117)], (some (t116, true)), none⟩,
   ⟨(some t119), oMov (.t t7), (some (t116, true)), none⟩,
   ⟨(some t120), oBin (int2 (cmpO eqI)) (.t t118) (.t t119), (some (t116, true)), none⟩,
   ⟨(some t121), oPick (.t t116) (.t t120) (.v (.bool false)), none, none⟩,
   ⟨(some t2), oMov (.t t121), none, none⟩]
def c6_j0 : X := (xSeq (xSeq (xOps [⟨(some t92), oMov (.t t12), none, none⟩,
   ⟨(some t93), oNot (.t t92), none, none⟩])
 (xCond (.t t93)
 (xSeq (xOps [⟨(some t94), oMov (.t t4), none, none⟩,
   ⟨(some t95), oBin (int2 (cmpO eqI)) (.t t94) (.v (.int .i64 3)), none, none⟩,
   ⟨(some t96), oMov (.t t95), none, none⟩,
   ⟨(some t97), oMov (.t t3), (some (t96, true)), none⟩,
   ⟨(some t98), oEqv eqP false (.t t97) (.v (.pointer none)), (some (t96, true)), none⟩,
   ⟨(some t99), oPick (.t t96) (.t t98) (.v (.bool false)), none, none⟩,
   ⟨(some t2), oMov (.t t99), none, none⟩])
 xRet)
 xSkip))
 (xSeq (xReg (⟨(some t100), oMov (.t t4), none, none⟩ ::
   ⟨(some t101), oBin (int2 (cmpO eqI)) (.t t100) (.v (.int .i64 0)), none, none⟩ ::
   ⟨(some t102), oMov (.t t101), none, none⟩ ::
   ⟨(some t103), oMov (.t t3), (some (t102, true)), none⟩ ::
   ⟨(some t104), oCall 24 [(.t t103)], (some (t102, true)), none⟩ ::
   ⟨(some t105), oBytesStr (.t t104), (some (t102, true)), none⟩ ::
   ⟨(some t106), oMov (.t t0), (some (t102, true)), none⟩ ::
   ⟨(some t107), oBytesStr (.t t106), (some (t102, true)), none⟩ ::
   ⟨(some t108), oBin (str2 (cmpS eqBytes)) (.t t105) (.t t107), (some (t102, true)), none⟩ ::
   ⟨(some t109), oPick (.t t102) (.t t108) (.v (.bool false)), none, none⟩ :: c6_q4) [(3, 6), (4, 6), (5, 6), (3, 7), (4, 7), (5, 7), (11, 13), (12, 13), (17, 19), (18, 19)])
 xRet))
def c6 : AFunc := ⟨122, [.tmp t2],
 (xSeq (xOps [⟨(some t2), oMov (.v (.bool false)), none, none⟩])
 (xSeq (xSeq (xOps [⟨(some t13), oCall 9 [], none, none⟩,
   ⟨(some t14), oNot (.t t13), none, none⟩])
 (xCond (.t t14)
 (xSeq (xOps [⟨(some t2), oMov (.v (.bool false)), none, none⟩])
 xRet)
 xSkip))
 (xSeq (xSeq (xOps [⟨(some t15), oMov (.t t0), none, none⟩,
   ⟨(some t16), oLenL (.t t15), none, none⟩,
   ⟨(some t17), oBin (int2 (cmpO gtI)) (.t t16) (.v (.int .i64 100)), none, none⟩])
 (xCond (.t t17)
 (xSeq (xOps [⟨(some t2), oMov (.v (.bool true)), none, none⟩])
 xRet)
 xSkip))
 (xSeq (xOps [⟨(some t19), oBuildSlice 0 [] [], none, none⟩,
   ⟨(some t20), oMov (.t t0), none, none⟩,
   ⟨(some t21), oAppend 1 1 (.t t19) (.t t20), none, none⟩,
   ⟨(some t22), oCall 12 [(.t t21)], none, none⟩,
   ⟨(some t18), oMov (.t t22), none, none⟩,
   ⟨(some t23), oExtract (.t t18) 0, none, none⟩,
   ⟨(some t24), oExtract (.t t18) 1, none, none⟩,
   ⟨(some t3), oMov (.t t23), none, none⟩,
   ⟨(some t4), oMov (.t t24), none, none⟩])
 (xSeq (xOps [⟨(some t25), oBuildSlice 0 [] [], none, none⟩,
   ⟨(some t26), oMov (.t t0), none, none⟩,
   ⟨(some t27), oAppend 1 1 (.t t25) (.t t26), none, none⟩,
   ⟨(some t28), oBuild [(.slice none 0 0), (.bool false)] [(0, 1, (.t t27))], none, none⟩,
   ⟨(some t29), oBox (.t t28), none, none⟩,
   ⟨(some t5), oMov (.t t29), none, none⟩])
 (xSeq (xOps [⟨(some t30), oMov (.t t5), none, none⟩,
   ⟨(some t31), oCall 34 [(.t t30)], none, none⟩,
   ⟨(some t32), oMov (.t t5), none, none⟩,
   ⟨(some t33), oCall 34 [(.t t32)], none, none⟩,
   ⟨(some t34), oMov (.t t5), none, none⟩,
   ⟨(some t35), oCall 34 [(.t t34)], none, none⟩,
   ⟨(some t36), oMov (.t t5), none, none⟩,
   ⟨(some t37), oCall 34 [(.t t36)], none, none⟩,
   ⟨(some t6), oMov (.t t31), none, none⟩,
   ⟨(some t7), oMov (.t t33), none, none⟩,
   ⟨(some t8), oMov (.t t35), none, none⟩,
   ⟨(some t9), oMov (.t t37), none, none⟩])
 (xSeq (xOps [⟨(some t38), oMov (.t t5), none, none⟩,
   ⟨(some t39), oCall 35 [(.t t38)], none, none⟩,
   ⟨(some t10), oMov (.t t39), none, none⟩])
 (xSeq (xOps [⟨(some t40), oMov (.t t9), none, none⟩,
   ⟨(some t41), oMov (.t t10), none, none⟩,
   ⟨(some t42), oCall 36 [(.t t40), (.t t41)], none, none⟩,
   ⟨(some t11), oNew [(.bool false), (.slice none 0 0)], none, none⟩,
   ⟨none, oStore 2 (.t t11) (.t t42), none, none⟩])
 (xSeq (xReg (⟨(some t43), oMov (.t t5), none, none⟩ ::
   ⟨(some t44), oNilCheck (.t t43), none, none⟩ ::
   ⟨(some t45), oFieldAddr 1 (.t t44), none, none⟩ ::
   ⟨(some t46), oLoad1 (.t t45), none, (some (.t t45))⟩ ::
   ⟨(some t47), oNot (.t t46), none, none⟩ ::
   ⟨(some t48), oMov (.t t47), none, none⟩ ::
   ⟨(some t49), oMov (.t t5), (some (t48, true)), none⟩ ::
   ⟨(some t50), oNilCheck (.t t49), (some (t48, true)), none⟩ ::
   ⟨(some t51), oFieldAddr 0 (.t t50), (some (t48, true)), none⟩ ::
   ⟨(some t52), oLoad1 (.t t51), (some (t48, true)), (some (.t t51))⟩ :: c6_q3) [(38, 39), (44, 45)])
 c6_j0)))))))))⟩
theorem ok6 : cFunc Try.prog gl ex Try.f6 = some c6 := by kernel_rfl
-- publican/publicanlaw20.awake
def c9_q0 : List AOper := [⟨(some t126), oPick (.t t120) (.t t125) (.v (.bool false)), none, none⟩,
   ⟨(some t127), oMov (.t t126), none, none⟩,
   ⟨(some t128), oMov (.t t10), (some (t127, true)), none⟩,
   ⟨(some t129), oCall 33 [(.t t128)], (some (t127, true)), none⟩,
   ⟨(some t130), oField none 1 (.t t129), (some (t127, true)), none⟩,
   ⟨(some t131), oBin (int2 (cmpO gtI)) (.t t130) (.v (.int .u64 0)), (some (t127, true)), none⟩,
   ⟨(some t132), oPick (.t t127) (.t t131) (.v (.bool false)), none, none⟩,
   ⟨(some t0), oMov (.t t132), none, none⟩]
def c9_q1 : List AOper := (⟨(some t112), oCall 31 [(.t t111)], (some (t110, true)), none⟩ ::
   ⟨(some t113), oBin (int2 (cmpO eqI)) (.t t112) (.v (.int .i64 36100)), (some (t110, true)), none⟩ ::
   ⟨(some t114), oPick (.t t110) (.t t113) (.v (.bool false)), none, none⟩ ::
   ⟨(some t115), oMov (.t t114), none, none⟩ ::
   ⟨(some t116), oMov (.t t12), (some (t115, true)), none⟩ ::
   ⟨(some t117), oCall 30 [(.t t116)], (some (t115, true)), none⟩ ::
   ⟨(some t118), oBin (int2 (cmpO eqI)) (.t t117) (.v (.int .i64 3)), (some (t115, true)), none⟩ ::
   ⟨(some t119), oPick (.t t115) (.t t118) (.v (.bool false)), none, none⟩ ::
   ⟨(some t120), oMov (.t t119), none, none⟩ ::
   ⟨(some t121), oMov (.t t12), (some (t120, true)), none⟩ ::
   ⟨(some t122), oCall 33 [(.t t121)], (some (t120, true)), none⟩ ::
   ⟨(some t123), oMov (.t t10), (some (t120, true)), none⟩ ::
   ⟨(some t124), oCall 33 [(.t t123)], (some (t120, true)), none⟩ ::
   ⟨(some t125), oEqs false [(0, eqN), (1, eqN)] (.t t122) (.t t124), (some (t120, true)), none⟩ :: c9_q0)
def c9_q2 : List AOper := (⟨(some t98), oMov (.t t2), (some (t97, true)), none⟩ ::
   ⟨(some t99), oCall 30 [(.t t98)], (some (t97, true)), none⟩ ::
   ⟨(some t100), oBin (int2 (cmpO eqI)) (.t t99) (.v (.int .i64 9)), (some (t97, true)), none⟩ ::
   ⟨(some t101), oPick (.t t97) (.t t100) (.v (.bool false)), none, none⟩ ::
   ⟨(some t102), oMov (.t t101), none, none⟩ ::
   ⟨(some t103), oMov (.t t13), (some (t102, true)), none⟩ ::
   ⟨(some t104), oBin (int2 (cmpO eqI)) (.t t103) (.v (.int .i64 0)), (some (t102, true)), none⟩ ::
   ⟨(some t105), oPick (.t t102) (.t t104) (.v (.bool false)), none, none⟩ ::
   ⟨(some t106), oMov (.t t105), none, none⟩ ::
   ⟨(some t107), oMov (.t t12), (some (t106, true)), none⟩ ::
   ⟨(some t108), oEqv eqP true (.t t107) (.v (.pointer none)), (some (t106, true)), none⟩ ::
   ⟨(some t109), oPick (.t t106) (.t t108) (.v (.bool false)), none, none⟩ ::
   ⟨(some t110), oMov (.t t109), none, none⟩ ::
   ⟨(some t111), oMov (.t t12), (some (t110, true)), none⟩ :: c9_q1)
def c9_q3 : List AOper := (⟨(some t84), oCall 31 [(.t t83)], (some (t82, true)), none⟩ ::
   ⟨(some t85), oBin (int2 (cmpO eqI)) (.t t84) (.v (.int .i64 36100)), (some (t82, true)), none⟩ ::
   ⟨(some t86), oPick (.t t82) (.t t85) (.v (.bool false)), none, none⟩ ::
   ⟨(some t87), oMov (.t t86), none, none⟩ ::
   ⟨(some t88), oMov (.t t10), (some (t87, true)), none⟩ ::
   ⟨(some t89), oCall 30 [(.t t88)], (some (t87, true)), none⟩ ::
   ⟨(some t90), oBin (int2 (cmpO eqI)) (.t t89) (.v (.int .i64 3)), (some (t87, true)), none⟩ ::
   ⟨(some t91), oPick (.t t87) (.t t90) (.v (.bool false)), none, none⟩ ::
   ⟨(some t92), oMov (.t t91), none, none⟩ ::
   ⟨(some t93), oMov (.t t10), (some (t92, true)), none⟩ ::
   ⟨(some t94), oCall 32 [(.t t93)], (some (t92, true)), none⟩ ::
   ⟨(some t95), oBin (int2 (cmpO eqI)) (.t t94) (.v (.int .i64 100)), (some (t92, true)), none⟩ ::
   ⟨(some t96), oPick (.t t92) (.t t95) (.v (.bool false)), none, none⟩ ::
   ⟨(some t97), oMov (.t t96), none, none⟩ :: c9_q2)
def c9_q4 : List AOper := (⟨(some t70), oMov (.t t69), none, none⟩ ::
   ⟨(some t71), oMov (.t t8), (some (t70, true)), none⟩ ::
   ⟨(some t72), oBin (int2 (cmpO eqI)) (.t t71) (.v (.int .i64 0)), (some (t70, true)), none⟩ ::
   ⟨(some t73), oPick (.t t70) (.t t72) (.v (.bool false)), none, none⟩ ::
   ⟨(some t74), oMov (.t t73), none, none⟩ ::
   ⟨(some t75), oMov (.t t9), (some (t74, true)), none⟩ ::
   ⟨(some t76), oBin (int2 (cmpO eqI)) (.t t75) (.v (.int .i64 0)), (some (t74, true)), none⟩ ::
   ⟨(some t77), oPick (.t t74) (.t t76) (.v (.bool false)), none, none⟩ ::
   ⟨(some t78), oMov (.t t77), none, none⟩ ::
   ⟨(some t79), oMov (.t t11), (some (t78, true)), none⟩ ::
   ⟨(some t80), oBin (int2 (cmpO eqI)) (.t t79) (.v (.int .i64 0)), (some (t78, true)), none⟩ ::
   ⟨(some t81), oPick (.t t78) (.t t80) (.v (.bool false)), none, none⟩ ::
   ⟨(some t82), oMov (.t t81), none, none⟩ ::
   ⟨(some t83), oMov (.t t10), (some (t82, true)), none⟩ :: c9_q3)
def c9 : AFunc := ⟨133, [.tmp t0],
 (xSeq (xOps [⟨(some t0), oMov (.v (.bool false)), none, none⟩])
 (xSeq (xOps [⟨(some t14), oCall 10 [], none, none⟩,
   ⟨(some t1), oMov (.t t14), none, none⟩])
 (xSeq (xOps [⟨(some t15), oMov (.t t1), none, none⟩,
   ⟨(some t16), oCall 27 [(.t t15), (.v (.int .i64 0)), (.v (.int .i64 1000000))], none, none⟩])
 (xSeq (xOps [⟨(some t18), oCall 11 [(.v (.int .i64 0)), (.v (.int .i64 36500))], none, none⟩,
   ⟨(some t17), oMov (.t t18), none, none⟩,
   ⟨(some t19), oExtract (.t t17) 0, none, none⟩,
   ⟨(some t20), oExtract (.t t17) 1, none, none⟩,
   ⟨(some t2), oMov (.t t19), none, none⟩,
   ⟨(some t3), oMov (.t t20), none, none⟩])
 (xSeq (xSeq (xOps [⟨(some t21), oMov (.t t3), none, none⟩,
   ⟨(some t22), oBin (int2 (cmpO neI)) (.t t21) (.v (.int .i64 0)), none, none⟩,
   ⟨(some t23), oMov (.t t22), none, none⟩,
   ⟨(some t24), oMov (.t t2), (some (t23, false)), none⟩,
   ⟨(some t25), oEqv eqP false (.t t24) (.v (.pointer none)), (some (t23, false)), none⟩,
   ⟨(some t26), oPick (.t t23) (.v (.bool true)) (.t t25), none, none⟩])
 (xCond (.t t26)
 (xSeq (xOps [⟨(some t0), oMov (.v (.bool false)), none, none⟩])
 xRet)
 xSkip))
 (xSeq (xOps [⟨(some t28), oMov (.t t2), none, none⟩,
   ⟨(some t29), oMov (.t t1), none, none⟩,
   ⟨(some t30), oCall 22 [(.t t28), (.t t29), (.v (.int .i64 1))], none, none⟩,
   ⟨(some t27), oMov (.t t30), none, none⟩,
   ⟨(some t31), oExtract (.t t27) 0, none, none⟩,
   ⟨(some t32), oExtract (.t t27) 1, none, none⟩,
   ⟨(some t4), oMov (.t t31), none, none⟩,
   ⟨(some t5), oMov (.t t32), none, none⟩])
 (xSeq (xOps [⟨(some t34), oMov (.t t2), none, none⟩,
   ⟨(some t35), oMov (.t t1), none, none⟩,
   ⟨(some t36), oCall 20 [(.t t34), (.t t35), (.v (.int .i64 1))], none, none⟩,
   ⟨(some t33), oMov (.t t36), none, none⟩,
   ⟨(some t37), oExtract (.t t33) 0, none, none⟩,
   ⟨(some t38), oExtract (.t t33) 1, none, none⟩,
   ⟨(some t6), oMov (.t t37), none, none⟩,
   ⟨(some t7), oMov (.t t38), none, none⟩])
 (xSeq (xOps [⟨(some t39), oMov (.t t2), none, none⟩,
   ⟨(some t40), oMov (.t t1), none, none⟩,
   ⟨(some t41), oCall 14 [(.t t39), (.t t40), (.v (.int .i64 2)), (.v (.int .i64 500))], none, none⟩,
   ⟨(some t8), oMov (.t t41), none, none⟩])
 (xSeq (xOps [⟨(some t42), oMov (.t t2), none, none⟩,
   ⟨(some t43), oMov (.t t1), none, none⟩,
   ⟨(some t44), oCall 15 [(.t t42), (.t t43), (.v (.int .i64 3)), (.v (.int .i64 100))], none, none⟩,
   ⟨(some t9), oMov (.t t44), none, none⟩])
 (xSeq (xOps [⟨(some t45), oMov (.t t2), none, none⟩,
   ⟨(some t46), oCall 38 [(.t t45)], none, none⟩,
   ⟨(some t10), oMov (.t t46), none, none⟩])
 (xSeq (xOps [⟨(some t47), oMov (.t t2), none, none⟩,
   ⟨(some t48), oMov (.t t1), none, none⟩,
   ⟨(some t49), oCall 13 [(.t t47), (.t t48), (.v (.int .i64 9))], none, none⟩,
   ⟨(some t11), oMov (.t t49), none, none⟩])
 (xSeq (xOps [⟨(some t51), oMov (.t t10), none, none⟩,
   ⟨(some t52), oCall 24 [(.t t51)], none, none⟩,
   ⟨(some t53), oCall 12 [(.t t52)], none, none⟩,
   ⟨(some t50), oMov (.t t53), none, none⟩,
   ⟨(some t54), oExtract (.t t50) 0, none, none⟩,
   ⟨(some t55), oExtract (.t t50) 1, none, none⟩,
   ⟨(some t12), oMov (.t t54), none, none⟩,
   ⟨(some t13), oMov (.t t55), none, none⟩])
 (xSeq (xOps (⟨(some t56), oMov (.t t5), none, none⟩ ::
   ⟨(some t57), oBin (int2 (cmpO eqI)) (.t t56) (.v (.int .i64 0)), none, none⟩ ::
   ⟨(some t58), oMov (.t t57), none, none⟩ ::
   ⟨(some t59), oMov (.t t4), (some (t58, true)), none⟩ ::
   ⟨(some t60), oBin (int2 (cmpO eqI)) (.t t59) (.v (.int .i64 100)), (some (t58, true)), none⟩ ::
   ⟨(some t61), oPick (.t t58) (.t t60) (.v (.bool false)), none, none⟩ ::
   ⟨(some t62), oMov (.t t61), none, none⟩ ::
   ⟨(some t63), oMov (.t t7), (some (t62, true)), none⟩ ::
   ⟨(some t64), oBin (int2 (cmpO eqI)) (.t t63) (.v (.int .i64 0)), (some (t62, true)), none⟩ ::
   ⟨(some t65), oPick (.t t62) (.t t64) (.v (.bool false)), none, none⟩ ::
   ⟨(some t66), oMov (.t t65), none, none⟩ ::
   ⟨(some t67), oMov (.t t6), (some (t66, true)), none⟩ ::
   ⟨(some t68), oBin (int2 (cmpO eqI)) (.t t67) (.v (.int .i64 100)), (some (t66, true)), none⟩ ::
   ⟨(some t69), oPick (.t t66) (.t t68) (.v (.bool false)), none, none⟩ :: c9_q4))
 xRet)))))))))))))⟩
theorem ok9 : cFunc Try.prog gl ex Try.f9 = some c9 := by kernel_rfl
-- publican/rate.New
def c10 : AFunc := ⟨3, [.tmp t0],
 (xSeq (xOps [⟨(some t0), oMov (.v (.pointer none)), none, none⟩])
 (xSeq (xOps [⟨(some t1), oBuild [(.slice none 0 0)] [], none, none⟩,
   ⟨(some t2), oBox (.t t1), none, none⟩,
   ⟨(some t0), oMov (.t t2), none, none⟩])
 xRet))⟩
theorem ok10 : cFunc Try.prog gl ex Try.f10 = some c10 := by kernel_rfl
-- publican/accrue.New
def c11 : AFunc := ⟨24, [.tmp t4, .tmp t5],
 (xSeq (xOps [⟨(some t4), oMov (.v (.pointer none)), none, none⟩,
   ⟨(some t5), oMov (.v (.int .i64 0)), none, none⟩])
 (xSeq (xBlock 0 (xSeq (xOps [⟨(some t7), oMov (.t t0), none, none⟩,
   ⟨(some t8), oBin (int2 (cmpO ltI)) (.t t7) (.v (.int .i64 0)), none, none⟩,
   ⟨(some t9), oMov (.t t8), none, none⟩,
   ⟨(some t10), oMov (.t t0), (some (t9, false)), none⟩,
   ⟨(some t11), oBin (int2 (cmpO gtI)) (.t t10) (.v (.int .i64 109572)), (some (t9, false)), none⟩,
   ⟨(some t12), oPick (.t t9) (.v (.bool true)) (.t t11), none, none⟩,
   ⟨(some t6), oMov (.t t12), none, none⟩])
 (xCond (.t t6)
 (xSeq (xOps [⟨(some t4), oMov (.v (.pointer none)), none, none⟩,
   ⟨(some t5), oMov (.v (.int .i64 12)), none, none⟩])
 xRet)
 (xSeq (xOps [⟨(some t14), oMov (.t t1), none, none⟩,
   ⟨(some t15), oBin (int2 (cmpO ltI)) (.t t14) (.v (.int .i64 0)), none, none⟩,
   ⟨(some t16), oMov (.t t15), none, none⟩,
   ⟨(some t17), oMov (.t t1), (some (t16, false)), none⟩,
   ⟨(some t18), oBin (int2 (cmpO gtI)) (.t t17) (.v (.int .i64 4503599627370496)), (some (t16, false)), none⟩,
   ⟨(some t19), oPick (.t t16) (.v (.bool true)) (.t t18), none, none⟩,
   ⟨(some t13), oMov (.t t19), none, none⟩])
 (xCond (.t t13)
 (xSeq (xOps [⟨(some t4), oMov (.v (.pointer none)), none, none⟩,
   ⟨(some t5), oMov (.v (.int .i64 1)), none, none⟩])
 xRet)
 xSkip)))))
 (xSeq (xOps [⟨(some t20), oMov (.t t0), none, none⟩,
   ⟨(some t21), oMov (.t t1), none, none⟩,
   ⟨(some t22), oBuild [(.int .i64 0), (.int .i64 0), (.int .i64 0), (.int .i64 0), (.int .u64 0)] [(0, 1, (.t t20)), (1, 1, (.t t21))], none, none⟩,
   ⟨(some t23), oBox (.t t22), none, none⟩,
   ⟨(some t4), oMov (.t t23), none, none⟩,
   ⟨(some t5), oMov (.v (.int .i64 0)), none, none⟩])
 xRet)))⟩
theorem ok11 : cFunc Try.prog gl ex Try.f11 = some c11 := by kernel_rfl
-- publican/accrue.Decode
def c12_q0 : List AOper := [⟨(some t50), oMov (.t t7), (some (t49, false)), none⟩,
   ⟨(some t51), oBin (int2 (cmpO gtI)) (.t t50) (.v (.int .i64 4503599627370496)), (some (t49, false)), none⟩,
   ⟨(some t52), oPick (.t t49) (.v (.bool true)) (.t t51), none, none⟩,
   ⟨(some t53), oMov (.t t52), none, none⟩,
   ⟨(some t54), oFieldAddr 0 (.t t8), (some (t53, false)), none⟩,
   ⟨(some t55), oLoad1 (.t t54), (some (t53, false)), (some (.t t54))⟩,
   ⟨(some t56), oBin (int2 (cmpO ltI)) (.t t55) (.v (.int .i64 0)), (some (t53, false)), none⟩,
   ⟨(some t57), oPick (.t t53) (.v (.bool true)) (.t t56), none, none⟩,
   ⟨(some t58), oMov (.t t57), none, none⟩,
   ⟨(some t59), oLoadN 2 (.t t8), (some (t58, false)), none⟩,
   ⟨(some t60), oBuild [(.int .i64 0), (.int .u64 0)] [(0, 1, (.v (.int .i64 68719476736)))], (some (t58, false)), none⟩,
   ⟨(some t61), oCall 44 [(.t t59), (.t t60)], (some (t58, false)), none⟩,
   ⟨(some t62), oBin (int2 (cmpO gtI)) (.t t61) (.v (.int .i64 0)), (some (t58, false)), none⟩,
   ⟨(some t63), oPick (.t t58) (.v (.bool true)) (.t t62), none, none⟩]
def c12_q1 : List AOper := (⟨(some t36), oPick (.t t33) (.v (.bool true)) (.t t35), none, none⟩ ::
   ⟨(some t37), oMov (.t t36), none, none⟩ ::
   ⟨(some t38), oMov (.t t6), (some (t37, false)), none⟩ ::
   ⟨(some t39), oBin (int2 (cmpO ltI)) (.t t38) (.v (.int .i64 0)), (some (t37, false)), none⟩ ::
   ⟨(some t40), oPick (.t t37) (.v (.bool true)) (.t t39), none, none⟩ ::
   ⟨(some t41), oMov (.t t40), none, none⟩ ::
   ⟨(some t42), oMov (.t t6), (some (t41, false)), none⟩ ::
   ⟨(some t43), oBin (int2 (cmpO gtI)) (.t t42) (.v (.int .i64 4503599627370496)), (some (t41, false)), none⟩ ::
   ⟨(some t44), oPick (.t t41) (.v (.bool true)) (.t t43), none, none⟩ ::
   ⟨(some t45), oMov (.t t44), none, none⟩ ::
   ⟨(some t46), oMov (.t t7), (some (t45, false)), none⟩ ::
   ⟨(some t47), oBin (int2 (cmpO ltI)) (.t t46) (.v (.int .i64 0)), (some (t45, false)), none⟩ ::
   ⟨(some t48), oPick (.t t45) (.v (.bool true)) (.t t47), none, none⟩ ::
   ⟨(some t49), oMov (.t t48), none, none⟩ :: c12_q0)
def c12_j0 : X := (xCond (.t t63)
 (xSeq (xOps [⟨(some t2), oMov (.v (.pointer none)), none, none⟩,
   ⟨(some t3), oMov (.v (.int .i64 3)), none, none⟩])
 xRet)
 xSkip)
def c12_j1 : X := (xSeq (xOps [⟨(some t64), oMov (.t t5), none, none⟩,
   ⟨(some t65), oMov (.t t6), none, none⟩,
   ⟨(some t66), oMov (.t t7), none, none⟩,
   ⟨(some t67), oLoadN 2 (.t t8), none, none⟩,
   ⟨(some t68), oBuild [(.int .i64 0), (.int .i64 0), (.int .i64 0), (.int .i64 0), (.int .u64 0)] [(0, 1, (.t t64)), (1, 1, (.t t65)), (2, 1, (.t t66)), (3, 2, (.t t67))], none, none⟩,
   ⟨(some t69), oBox (.t t68), none, none⟩,
   ⟨(some t2), oMov (.t t69), none, none⟩,
   ⟨(some t3), oMov (.v (.int .i64 0)), none, none⟩])
 xRet)
def c12 : AFunc := ⟨70, [.tmp t2, .tmp t3],
 (xSeq (xOps [⟨(some t2), oMov (.v (.pointer none)), none, none⟩,
   ⟨(some t3), oMov (.v (.int .i64 0)), none, none⟩])
 (xSeq (xOps [⟨(some t9), oMov (.t t0), none, none⟩,
   ⟨(some t10), oCall 39 [(.t t9)], none, none⟩,
   ⟨(some t4), oMov (.t t10), none, none⟩])
 (xSeq (xOps [⟨(some t11), oMov (.t t4), none, none⟩,
   ⟨(some t12), oCall 40 [(.t t11)], none, none⟩,
   ⟨(some t13), oMov (.t t4), none, none⟩,
   ⟨(some t14), oCall 40 [(.t t13)], none, none⟩,
   ⟨(some t15), oMov (.t t4), none, none⟩,
   ⟨(some t16), oCall 40 [(.t t15)], none, none⟩,
   ⟨(some t5), oMov (.t t12), none, none⟩,
   ⟨(some t6), oMov (.t t14), none, none⟩,
   ⟨(some t7), oMov (.t t16), none, none⟩])
 (xSeq (xOps [⟨(some t17), oMov (.t t4), none, none⟩,
   ⟨(some t18), oCall 40 [(.t t17)], none, none⟩,
   ⟨(some t19), oMov (.t t4), none, none⟩,
   ⟨(some t20), oCall 41 [(.t t19)], none, none⟩,
   ⟨(some t21), oBuild [(.int .i64 0), (.int .u64 0)] [(0, 1, (.t t18)), (1, 1, (.t t20))], none, none⟩,
   ⟨(some t8), oNew [(.int .i64 0), (.int .u64 0)], none, none⟩,
   ⟨none, oStore 2 (.t t8) (.t t21), none, none⟩])
 (xSeq (xSeq (xOps (⟨(some t22), oMov (.t t4), none, none⟩ ::
   ⟨(some t23), oCall 42 [(.t t22)], none, none⟩ ::
   ⟨(some t24), oMov (.t t23), none, none⟩ ::
   ⟨(some t25), oMov (.t t4), (some (t24, false)), none⟩ ::
   ⟨(some t26), oCall 43 [(.t t25)], (some (t24, false)), none⟩ ::
   ⟨(some t27), oBin (int2 (cmpO gtI)) (.t t26) (.v (.int .i64 0)), (some (t24, false)), none⟩ ::
   ⟨(some t28), oPick (.t t24) (.v (.bool true)) (.t t27), none, none⟩ ::
   ⟨(some t29), oMov (.t t28), none, none⟩ ::
   ⟨(some t30), oMov (.t t5), (some (t29, false)), none⟩ ::
   ⟨(some t31), oBin (int2 (cmpO ltI)) (.t t30) (.v (.int .i64 0)), (some (t29, false)), none⟩ ::
   ⟨(some t32), oPick (.t t29) (.v (.bool true)) (.t t31), none, none⟩ ::
   ⟨(some t33), oMov (.t t32), none, none⟩ ::
   ⟨(some t34), oMov (.t t5), (some (t33, false)), none⟩ ::
   ⟨(some t35), oBin (int2 (cmpO gtI)) (.t t34) (.v (.int .i64 109572)), (some (t33, false)), none⟩ :: c12_q1))
 c12_j0)
 c12_j1)))))⟩
theorem ok12 : cFunc Try.prog gl ex Try.f12 = some c12 := by kernel_rfl
-- (*publican/accrue.Acc).Run
def c13 : AFunc := ⟨25, [.tmp t6],
 (xSeq (xOps [⟨(some t6), oMov (.v (.int .i64 0)), none, none⟩])
 (xSeq (xSeq (xOps [⟨(some t8), oMov (.t t0), none, none⟩,
   ⟨(some t9), oMov (.t t2), none, none⟩,
   ⟨(some t10), oCall 45 [(.t t8), (.t t9)], none, none⟩,
   ⟨(some t7), oMov (.t t10), none, none⟩])
 (xSeq (xOps [⟨(some t11), oMov (.t t7), none, none⟩,
   ⟨(some t12), oBin (int2 (cmpO neI)) (.t t11) (.v (.int .i64 0)), none, none⟩])
 (xCond (.t t12)
 (xSeq (xOps [⟨(some t13), oMov (.t t7), none, none⟩,
   ⟨(some t6), oMov (.t t13), none, none⟩])
 xRet)
 xSkip)))
 (xSeq (xOps [⟨(some t14), oMov (.t t0), none, none⟩,
   ⟨(some t15), oMov (.t t0), none, none⟩,
   ⟨(some t16), oMov (.t t1), none, none⟩,
   ⟨(some t17), oMov (.t t2), none, none⟩,
   ⟨(some t18), oCall 46 [(.t t15), (.t t16), (.t t17)], none, none⟩,
   ⟨(some t19), oNilCheck (.t t14), none, none⟩,
   ⟨(some t20), oFieldAddr 3 (.t t19), none, none⟩,
   ⟨none, oStore 2 (.t t20) (.t t18), none, none⟩])
 (xSeq (xOps [⟨(some t21), oMov (.t t0), none, none⟩,
   ⟨(some t22), oMov (.t t2), none, none⟩,
   ⟨(some t23), oNilCheck (.t t21), none, none⟩,
   ⟨(some t24), oFieldAddr 0 (.t t23), none, none⟩,
   ⟨none, oStore 1 (.t t24) (.t t22), none, none⟩])
 (xSeq (xOps [⟨(some t6), oMov (.v (.int .i64 0)), none, none⟩])
 xRet)))))⟩
theorem ok13 : cFunc Try.prog gl ex Try.f13 = some c13 := by kernel_rfl
-- (*publican/accrue.Acc).Pay
def c14 : AFunc := ⟨45, [.tmp t8],
 (xSeq (xOps [⟨(some t8), oMov (.v (.int .i64 0)), none, none⟩])
 (xSeq (xSeq (xOps [⟨(some t10), oMov (.t t0), none, none⟩,
   ⟨(some t11), oMov (.t t2), none, none⟩,
   ⟨(some t12), oCall 45 [(.t t10), (.t t11)], none, none⟩,
   ⟨(some t9), oMov (.t t12), none, none⟩])
 (xSeq (xOps [⟨(some t13), oMov (.t t9), none, none⟩,
   ⟨(some t14), oBin (int2 (cmpO neI)) (.t t13) (.v (.int .i64 0)), none, none⟩])
 (xCond (.t t14)
 (xSeq (xOps [⟨(some t15), oMov (.t t9), none, none⟩,
   ⟨(some t8), oMov (.t t15), none, none⟩])
 xRet)
 xSkip)))
 (xSeq (xSeq (xOps [⟨(some t16), oMov (.t t3), none, none⟩,
   ⟨(some t17), oBin (int2 (cmpO ltI)) (.t t16) (.v (.int .i64 0)), none, none⟩,
   ⟨(some t18), oMov (.t t17), none, none⟩,
   ⟨(some t19), oMov (.t t3), (some (t18, false)), none⟩,
   ⟨(some t20), oMov (.t t0), (some (t18, false)), none⟩,
   ⟨(some t21), oNilCheck (.t t20), (some (t18, false)), none⟩,
   ⟨(some t22), oFieldAddr 1 (.t t21), (some (t18, false)), none⟩,
   ⟨(some t23), oLoad1 (.t t22), (some (t18, false)), (some (.t t22))⟩,
   ⟨(some t24), oBin (int2 (cmpO gtI)) (.t t19) (.t t23), (some (t18, false)), none⟩,
   ⟨(some t25), oPick (.t t18) (.v (.bool true)) (.t t24), none, none⟩])
 (xCond (.t t25)
 (xSeq (xOps [⟨(some t8), oMov (.v (.int .i64 1)), none, none⟩])
 xRet)
 xSkip))
 (xSeq (xOps [⟨(some t26), oMov (.t t0), none, none⟩,
   ⟨(some t27), oMov (.t t0), none, none⟩,
   ⟨(some t28), oMov (.t t0), none, none⟩,
   ⟨(some t29), oMov (.t t1), none, none⟩,
   ⟨(some t30), oMov (.t t2), none, none⟩,
   ⟨(some t31), oCall 46 [(.t t28), (.t t29), (.t t30)], none, none⟩,
   ⟨(some t32), oMov (.t t2), none, none⟩,
   ⟨(some t33), oNilCheck (.t t26), none, none⟩,
   ⟨(some t34), oFieldAddr 3 (.t t33), none, none⟩,
   ⟨none, oStore 2 (.t t34) (.t t31), none, none⟩,
   ⟨(some t35), oNilCheck (.t t27), none, none⟩,
   ⟨(some t36), oFieldAddr 0 (.t t35), none, none⟩,
   ⟨none, oStore 1 (.t t36) (.t t32), none, none⟩])
 (xSeq (xOps [⟨(some t37), oMov (.t t0), none, none⟩,
   ⟨(some t38), oNilCheck (.t t37), none, none⟩,
   ⟨(some t39), oFieldAddr 1 (.t t38), none, none⟩,
   ⟨(some t40), oLoad1 (.t t39), none, (some (.t t39))⟩,
   ⟨(some t41), oMov (.t t3), none, none⟩,
   ⟨(some t42), oBin (int2 subO) (.t t40) (.t t41), none, none⟩,
   ⟨(some t43), oNilCheck (.t t37), none, none⟩,
   ⟨(some t44), oFieldAddr 1 (.t t43), none, none⟩,
   ⟨none, oStore 1 (.t t44) (.t t42), none, none⟩])
 (xSeq (xOps [⟨(some t8), oMov (.v (.int .i64 0)), none, none⟩])
 xRet))))))⟩
theorem ok14 : cFunc Try.prog gl ex Try.f14 = some c14 := by kernel_rfl
-- (*publican/accrue.Acc).Add
def c15 : AFunc := ⟨46, [.tmp t8],
 (xSeq (xOps [⟨(some t8), oMov (.v (.int .i64 0)), none, none⟩])
 (xSeq (xSeq (xOps [⟨(some t10), oMov (.t t0), none, none⟩,
   ⟨(some t11), oMov (.t t2), none, none⟩,
   ⟨(some t12), oCall 45 [(.t t10), (.t t11)], none, none⟩,
   ⟨(some t9), oMov (.t t12), none, none⟩])
 (xSeq (xOps [⟨(some t13), oMov (.t t9), none, none⟩,
   ⟨(some t14), oBin (int2 (cmpO neI)) (.t t13) (.v (.int .i64 0)), none, none⟩])
 (xCond (.t t14)
 (xSeq (xOps [⟨(some t15), oMov (.t t9), none, none⟩,
   ⟨(some t8), oMov (.t t15), none, none⟩])
 xRet)
 xSkip)))
 (xSeq (xSeq (xOps [⟨(some t16), oMov (.t t3), none, none⟩,
   ⟨(some t17), oBin (int2 (cmpO ltI)) (.t t16) (.v (.int .i64 0)), none, none⟩,
   ⟨(some t18), oMov (.t t17), none, none⟩,
   ⟨(some t19), oMov (.t t3), (some (t18, false)), none⟩,
   ⟨(some t20), oMov (.t t0), (some (t18, false)), none⟩,
   ⟨(some t21), oNilCheck (.t t20), (some (t18, false)), none⟩,
   ⟨(some t22), oFieldAddr 1 (.t t21), (some (t18, false)), none⟩,
   ⟨(some t23), oLoad1 (.t t22), (some (t18, false)), (some (.t t22))⟩,
   ⟨(some t24), oBin (int2 subO) (.v (.int .i64 4503599627370496)) (.t t23), (some (t18, false)), none⟩,
   ⟨(some t25), oBin (int2 (cmpO gtI)) (.t t19) (.t t24), (some (t18, false)), none⟩,
   ⟨(some t26), oPick (.t t18) (.v (.bool true)) (.t t25), none, none⟩])
 (xCond (.t t26)
 (xSeq (xOps [⟨(some t8), oMov (.v (.int .i64 1)), none, none⟩])
 xRet)
 xSkip))
 (xSeq (xOps [⟨(some t27), oMov (.t t0), none, none⟩,
   ⟨(some t28), oMov (.t t0), none, none⟩,
   ⟨(some t29), oMov (.t t0), none, none⟩,
   ⟨(some t30), oMov (.t t1), none, none⟩,
   ⟨(some t31), oMov (.t t2), none, none⟩,
   ⟨(some t32), oCall 46 [(.t t29), (.t t30), (.t t31)], none, none⟩,
   ⟨(some t33), oMov (.t t2), none, none⟩,
   ⟨(some t34), oNilCheck (.t t27), none, none⟩,
   ⟨(some t35), oFieldAddr 3 (.t t34), none, none⟩,
   ⟨none, oStore 2 (.t t35) (.t t32), none, none⟩,
   ⟨(some t36), oNilCheck (.t t28), none, none⟩,
   ⟨(some t37), oFieldAddr 0 (.t t36), none, none⟩,
   ⟨none, oStore 1 (.t t37) (.t t33), none, none⟩])
 (xSeq (xOps [⟨(some t38), oMov (.t t0), none, none⟩,
   ⟨(some t39), oNilCheck (.t t38), none, none⟩,
   ⟨(some t40), oFieldAddr 1 (.t t39), none, none⟩,
   ⟨(some t41), oLoad1 (.t t40), none, (some (.t t40))⟩,
   ⟨(some t42), oMov (.t t3), none, none⟩,
   ⟨(some t43), oBin (int2 addO) (.t t41) (.t t42), none, none⟩,
   ⟨(some t44), oNilCheck (.t t38), none, none⟩,
   ⟨(some t45), oFieldAddr 1 (.t t44), none, none⟩,
   ⟨none, oStore 1 (.t t45) (.t t43), none, none⟩])
 (xSeq (xOps [⟨(some t8), oMov (.v (.int .i64 0)), none, none⟩])
 xRet))))))⟩
theorem ok15 : cFunc Try.prog gl ex Try.f15 = some c15 := by kernel_rfl
-- (*publican/accrue.Acc).Post
def c20 : AFunc := ⟨37, [.tmp t6, .tmp t7],
 (xSeq (xOps [⟨(some t6), oMov (.v (.int .i64 0)), none, none⟩,
   ⟨(some t7), oMov (.v (.int .i64 0)), none, none⟩])
 (xSeq (xOps [⟨(some t12), oMov (.t t0), none, none⟩,
   ⟨(some t13), oMov (.t t1), none, none⟩,
   ⟨(some t14), oMov (.t t2), none, none⟩,
   ⟨(some t15), oCall 22 [(.t t12), (.t t13), (.t t14)], none, none⟩,
   ⟨(some t11), oMov (.t t15), none, none⟩,
   ⟨(some t16), oExtract (.t t11) 0, none, none⟩,
   ⟨(some t17), oExtract (.t t11) 1, none, none⟩,
   ⟨(some t8), oMov (.t t16), none, none⟩,
   ⟨(some t9), oMov (.t t17), none, none⟩])
 (xSeq (xSeq (xOps [⟨(some t18), oMov (.t t9), none, none⟩,
   ⟨(some t19), oBin (int2 (cmpO neI)) (.t t18) (.v (.int .i64 0)), none, none⟩])
 (xCond (.t t19)
 (xSeq (xOps [⟨(some t20), oMov (.t t9), none, none⟩,
   ⟨(some t6), oMov (.v (.int .i64 0)), none, none⟩,
   ⟨(some t7), oMov (.t t20), none, none⟩])
 xRet)
 xSkip))
 (xSeq (xSeq (xOps [⟨(some t21), oMov (.t t0), none, none⟩,
   ⟨(some t22), oMov (.t t1), none, none⟩,
   ⟨(some t23), oMov (.t t2), none, none⟩,
   ⟨(some t24), oCall 13 [(.t t21), (.t t22), (.t t23)], none, none⟩,
   ⟨(some t10), oMov (.t t24), none, none⟩])
 (xSeq (xOps [⟨(some t25), oMov (.t t10), none, none⟩,
   ⟨(some t26), oBin (int2 (cmpO neI)) (.t t25) (.v (.int .i64 0)), none, none⟩])
 (xCond (.t t26)
 (xSeq (xOps [⟨(some t27), oMov (.t t10), none, none⟩,
   ⟨(some t6), oMov (.v (.int .i64 0)), none, none⟩,
   ⟨(some t7), oMov (.t t27), none, none⟩])
 xRet)
 xSkip)))
 (xSeq (xOps [⟨(some t28), oMov (.t t0), none, none⟩,
   ⟨(some t29), oNilCheck (.t t28), none, none⟩,
   ⟨(some t30), oFieldAddr 2 (.t t29), none, none⟩,
   ⟨(some t31), oLoad1 (.t t30), none, (some (.t t30))⟩,
   ⟨(some t32), oMov (.t t8), none, none⟩,
   ⟨(some t33), oBin (int2 addO) (.t t31) (.t t32), none, none⟩,
   ⟨(some t34), oNilCheck (.t t28), none, none⟩,
   ⟨(some t35), oFieldAddr 2 (.t t34), none, none⟩,
   ⟨none, oStore 1 (.t t35) (.t t33), none, none⟩])
 (xSeq (xOps [⟨(some t36), oMov (.t t8), none, none⟩,
   ⟨(some t6), oMov (.t t36), none, none⟩,
   ⟨(some t7), oMov (.v (.int .i64 0)), none, none⟩])
 xRet))))))⟩
theorem ok20 : cFunc Try.prog gl ex Try.f20 = some c20 := by kernel_rfl
-- (*publican/accrue.Acc).Shown
def c22 : AFunc := ⟨37, [.tmp t6, .tmp t7],
 (xSeq (xOps [⟨(some t6), oMov (.v (.int .i64 0)), none, none⟩,
   ⟨(some t7), oMov (.v (.int .i64 0)), none, none⟩])
 (xSeq (xSeq (xOps [⟨(some t11), oMov (.t t0), none, none⟩,
   ⟨(some t12), oMov (.t t2), none, none⟩,
   ⟨(some t13), oCall 45 [(.t t11), (.t t12)], none, none⟩,
   ⟨(some t8), oMov (.t t13), none, none⟩])
 (xSeq (xOps [⟨(some t14), oMov (.t t8), none, none⟩,
   ⟨(some t15), oBin (int2 (cmpO neI)) (.t t14) (.v (.int .i64 0)), none, none⟩])
 (xCond (.t t15)
 (xSeq (xOps [⟨(some t16), oMov (.t t8), none, none⟩,
   ⟨(some t6), oMov (.v (.int .i64 0)), none, none⟩,
   ⟨(some t7), oMov (.t t16), none, none⟩])
 xRet)
 xSkip)))
 (xSeq (xOps [⟨(some t18), oMov (.t t0), none, none⟩,
   ⟨(some t19), oMov (.t t1), none, none⟩,
   ⟨(some t20), oMov (.t t2), none, none⟩,
   ⟨(some t21), oCall 46 [(.t t18), (.t t19), (.t t20)], none, none⟩,
   ⟨(some t22), oCall 48 [(.t t21), (.v (.int .i64 365000000))], none, none⟩,
   ⟨(some t17), oMov (.t t22), none, none⟩,
   ⟨(some t23), oExtract (.t t17) 0, none, none⟩,
   ⟨(some t24), oExtract (.t t17) 1, none, none⟩,
   ⟨(some t9), oMov (.t t23), none, none⟩,
   ⟨(some t10), oMov (.t t24), none, none⟩])
 (xSeq (xSeq (xOps [⟨(some t25), oMov (.t t10), none, none⟩,
   ⟨(some t26), oNot (.t t25), none, none⟩,
   ⟨(some t27), oMov (.t t26), none, none⟩,
   ⟨(some t28), oMov (.t t9), (some (t27, false)), none⟩,
   ⟨(some t29), oBin (int2 (cmpO gtI)) (.t t28) (.v (.int .i64 4503599627370496)), (some (t27, false)), none⟩,
   ⟨(some t30), oPick (.t t27) (.v (.bool true)) (.t t29), none, none⟩])
 (xCond (.t t30)
 (xSeq (xOps [⟨(some t6), oMov (.v (.int .i64 0)), none, none⟩,
   ⟨(some t7), oMov (.v (.int .i64 10)), none, none⟩])
 xRet)
 xSkip))
 (xSeq (xOps [⟨(some t31), oMov (.t t9), none, none⟩,
   ⟨(some t32), oMov (.t t0), none, none⟩,
   ⟨(some t33), oNilCheck (.t t32), none, none⟩,
   ⟨(some t34), oFieldAddr 2 (.t t33), none, none⟩,
   ⟨(some t35), oLoad1 (.t t34), none, (some (.t t34))⟩,
   ⟨(some t36), oBin (int2 subO) (.t t31) (.t t35), none, none⟩,
   ⟨(some t6), oMov (.t t36), none, none⟩,
   ⟨(some t7), oMov (.v (.int .i64 0)), none, none⟩])
 xRet)))))⟩
theorem ok22 : cFunc Try.prog gl ex Try.f22 = some c22 := by kernel_rfl
-- (*publican/accrue.Acc).Encode
def c24 : AFunc := ⟨32, [.tmp t2],
 (xSeq (xOps [⟨(some t2), oMov (.v (.slice none 0 0)), none, none⟩])
 (xSeq (xReg [⟨(some t4), oMov (.t t0), none, none⟩,
   ⟨(some t5), oNilCheck (.t t4), none, none⟩,
   ⟨(some t6), oFieldAddr 0 (.t t5), none, none⟩,
   ⟨(some t7), oLoad1 (.t t6), none, (some (.t t6))⟩,
   ⟨(some t8), oCall 51 [(.v (.slice none 0 0)), (.t t7)], none, none⟩,
   ⟨(some t9), oMov (.t t0), none, none⟩,
   ⟨(some t10), oNilCheck (.t t9), none, none⟩,
   ⟨(some t11), oFieldAddr 1 (.t t10), none, none⟩,
   ⟨(some t12), oLoad1 (.t t11), none, (some (.t t11))⟩,
   ⟨(some t13), oCall 51 [(.t t8), (.t t12)], none, none⟩,
   ⟨(some t14), oMov (.t t0), none, none⟩,
   ⟨(some t15), oNilCheck (.t t14), none, none⟩,
   ⟨(some t16), oFieldAddr 2 (.t t15), none, none⟩,
   ⟨(some t17), oLoad1 (.t t16), none, (some (.t t16))⟩,
   ⟨(some t18), oCall 51 [(.t t13), (.t t17)], none, none⟩,
   ⟨(some t3), oMov (.t t18), none, none⟩] [(0, 5), (1, 5), (2, 5), (3, 5), (4, 5), (0, 6), (1, 6), (2, 6), (3, 6), (4, 6), (0, 7), (1, 7), (2, 7), (3, 7), (4, 7), (0, 8), (1, 8), (2, 8), (3, 8), (4, 8), (0, 10), (1, 10), (2, 10), (3, 10), (4, 10), (5, 10), (6, 10), (7, 10), (8, 10), (9, 10), (0, 11), (1, 11), (2, 11), (3, 11), (4, 11), (5, 11), (6, 11), (7, 11), (8, 11), (9, 11), (0, 12), (1, 12), (2, 12), (3, 12), (4, 12), (5, 12), (6, 12), (7, 12), (8, 12), (9, 12), (0, 13), (1, 13), (2, 13), (3, 13), (4, 13), (5, 13), (6, 13), (7, 13), (8, 13), (9, 13)])
 (xSeq (xReg [⟨(some t19), oMov (.t t3), none, none⟩,
   ⟨(some t20), oMov (.t t0), none, none⟩,
   ⟨(some t21), oNilCheck (.t t20), none, none⟩,
   ⟨(some t22), oFieldAddr 3 (.t t21), none, none⟩,
   ⟨(some t23), oFieldAddr 0 (.t t22), none, none⟩,
   ⟨(some t24), oLoad1 (.t t23), none, (some (.t t23))⟩,
   ⟨(some t25), oCall 51 [(.t t19), (.t t24)], none, none⟩,
   ⟨(some t26), oMov (.t t0), none, none⟩,
   ⟨(some t27), oNilCheck (.t t26), none, none⟩,
   ⟨(some t28), oFieldAddr 3 (.t t27), none, none⟩,
   ⟨(some t29), oFieldAddr 1 (.t t28), none, none⟩,
   ⟨(some t30), oLoad1 (.t t29), none, (some (.t t29))⟩,
   ⟨(some t31), oCall 52 [(.t t25), (.t t30)], none, none⟩,
   ⟨(some t2), oMov (.t t31), none, none⟩] [(0, 1), (0, 2), (0, 3), (0, 4), (0, 5), (0, 7), (1, 7), (2, 7), (3, 7), (4, 7), (5, 7), (6, 7), (0, 8), (1, 8), (2, 8), (3, 8), (4, 8), (5, 8), (6, 8), (0, 9), (1, 9), (2, 9), (3, 9), (4, 9), (5, 9), (6, 9), (0, 10), (1, 10), (2, 10), (3, 10), (4, 10), (5, 10), (6, 10), (0, 11), (1, 11), (2, 11), (3, 11), (4, 11), (5, 11), (6, 11)])
 xRet)))⟩
theorem ok24 : cFunc Try.prog gl ex Try.f24 = some c24 := by kernel_rfl
-- publican/publicanref1.Cmp
def c25 : AFunc := ⟨16, [.tmp t4],
 (xSeq (xOps [⟨(some t2), oBox (.t t0), none, none⟩,
   ⟨(some t3), oBox (.t t1), none, none⟩,
   ⟨(some t4), oMov (.v (.int .i64 0)), none, none⟩])
 (xSeq (xReg [⟨(some t6), oLoadN 2 (.t t2), none, none⟩,
   ⟨(some t7), oLoadN 2 (.t t3), none, none⟩,
   ⟨(some t8), oCall 54 [(.t t7)], none, none⟩,
   ⟨(some t9), oCall 53 [(.t t6), (.t t8)], none, none⟩,
   ⟨(some t5), oNew [(.bool false), (.slice none 0 0)], none, none⟩,
   ⟨none, oStore 2 (.t t5) (.t t9), none, none⟩] [(0, 1), (0, 2), (0, 4), (1, 4), (2, 4), (3, 4)])
 (xSeq (xSeq (xOps [⟨(some t10), oFieldAddr 1 (.t t5), none, none⟩,
   ⟨(some t11), oLoad1 (.t t10), none, (some (.t t10))⟩,
   ⟨(some t12), oLenL (.t t11), none, none⟩,
   ⟨(some t13), oBin (int2 (cmpO eqI)) (.t t12) (.v (.int .i64 0)), none, none⟩])
 (xCond (.t t13)
 (xSeq (xOps [⟨(some t4), oMov (.v (.int .i64 0)), none, none⟩])
 xRet)
 xSkip))
 (xSeq (xSeq (xOps [⟨(some t14), oFieldAddr 0 (.t t5), none, none⟩,
   ⟨(some t15), oLoad1 (.t t14), none, (some (.t t14))⟩])
 (xCond (.t t15)
 (xSeq (xOps [⟨(some t4), oMov (.v (.int .i64 (-1))), none, none⟩])
 xRet)
 xSkip))
 (xSeq (xOps [⟨(some t4), oMov (.v (.int .i64 1)), none, none⟩])
 xRet)))))⟩
theorem ok25 : cFunc Try.prog gl ex Try.f25 = some c25 := by kernel_rfl
-- publican/publicanlaw20.hundred
def c26 : AFunc := ⟨4, [.cell t0 (some 2)],
 (xSeq (xOps [⟨(some t0), oNew [(.bool false), (.slice none 0 0)], none, none⟩])
 (xSeq (xOps [⟨(some t1), oCall 37 [(.v (.int .i64 1125899906842624))], none, none⟩,
   ⟨(some t2), oCall 37 [(.v (.int .i64 1125899906842624))], none, none⟩,
   ⟨(some t3), oCall 55 [(.t t1), (.t t2)], none, none⟩,
   ⟨none, oStore 2 (.t t0) (.t t3), none, none⟩])
 xRet))⟩
theorem ok26 : cFunc Try.prog gl ex Try.f26 = some c26 := by kernel_rfl
-- (*publican/rate.Table).Put
def c27 : AFunc := ⟨68, [.tmp t6],
 (xSeq (xOps [⟨(some t6), oMov (.v (.int .i64 0)), none, none⟩])
 (xSeq (xBlock 0 (xSeq (xOps [⟨(some t9), oMov (.t t1), none, none⟩,
   ⟨(some t10), oBin (int2 (cmpO ltI)) (.t t9) (.v (.int .i64 0)), none, none⟩,
   ⟨(some t11), oMov (.t t10), none, none⟩,
   ⟨(some t12), oMov (.t t1), (some (t11, false)), none⟩,
   ⟨(some t13), oBin (int2 (cmpO gtI)) (.t t12) (.v (.int .i64 109572)), (some (t11, false)), none⟩,
   ⟨(some t14), oPick (.t t11) (.v (.bool true)) (.t t13), none, none⟩,
   ⟨(some t8), oMov (.t t14), none, none⟩])
 (xCond (.t t8)
 (xSeq (xOps [⟨(some t6), oMov (.v (.int .i64 12)), none, none⟩])
 xRet)
 (xSeq (xOps [⟨(some t16), oMov (.t t2), none, none⟩,
   ⟨(some t17), oBin (int2 (cmpO ltI)) (.t t16) (.v (.int .i64 0)), none, none⟩,
   ⟨(some t18), oMov (.t t17), none, none⟩,
   ⟨(some t19), oMov (.t t2), (some (t18, false)), none⟩,
   ⟨(some t20), oBin (int2 (cmpO gtI)) (.t t19) (.v (.int .i64 1000000000)), (some (t18, false)), none⟩,
   ⟨(some t21), oPick (.t t18) (.v (.bool true)) (.t t20), none, none⟩,
   ⟨(some t15), oMov (.t t21), none, none⟩])
 (xCond (.t t15)
 (xSeq (xOps [⟨(some t6), oMov (.v (.int .i64 1)), none, none⟩])
 xRet)
 xSkip)))))
 (xSeq (xOps [⟨(some t22), oMov (.t t0), none, none⟩,
   ⟨(some t23), oMov (.t t1), none, none⟩,
   ⟨(some t24), oCall 56 [(.t t22), (.t t23)], none, none⟩,
   ⟨(some t7), oMov (.t t24), none, none⟩])
 (xSeq (xSeq (xOps [⟨(some t25), oMov (.t t7), none, none⟩,
   ⟨(some t26), oBin (int2 (cmpO gtI)) (.t t25) (.v (.int .i64 0)), none, none⟩,
   ⟨(some t27), oMov (.t t26), none, none⟩,
   ⟨(some t28), oMov (.t t0), (some (t27, true)), none⟩,
   ⟨(some t29), oNilCheck (.t t28), (some (t27, true)), none⟩,
   ⟨(some t30), oFieldAddr 0 (.t t29), (some (t27, true)), none⟩,
   ⟨(some t31), oLoad1 (.t t30), (some (t27, true)), (some (.t t30))⟩,
   ⟨(some t32), oMov (.t t7), (some (t27, true)), none⟩,
   ⟨(some t33), oBin (int2 subO) (.t t32) (.v (.int .i64 1)), (some (t27, true)), none⟩,
   ⟨(some t34), oIdxAddrL 2 (.t t31) (.t t33), (some (t27, true)), none⟩,
   ⟨(some t35), oFieldAddr 0 (.t t34), (some (t27, true)), none⟩,
   ⟨(some t36), oLoad1 (.t t35), (some (t27, true)), (some (.t t35))⟩,
   ⟨(some t37), oMov (.t t1), (some (t27, true)), none⟩,
   ⟨(some t38), oBin (int2 (cmpO eqI)) (.t t36) (.t t37), (some (t27, true)), none⟩,
   ⟨(some t39), oPick (.t t27) (.t t38) (.v (.bool false)), none, none⟩])
 (xCond (.t t39)
 (xSeq (xOps [⟨(some t40), oMov (.t t0), none, none⟩,
   ⟨(some t41), oNilCheck (.t t40), none, none⟩,
   ⟨(some t42), oFieldAddr 0 (.t t41), none, none⟩,
   ⟨(some t43), oLoad1 (.t t42), none, (some (.t t42))⟩,
   ⟨(some t44), oMov (.t t7), none, none⟩,
   ⟨(some t45), oBin (int2 subO) (.t t44) (.v (.int .i64 1)), none, none⟩,
   ⟨(some t46), oMov (.t t2), none, none⟩,
   ⟨(some t47), oIdxAddrL 2 (.t t43) (.t t45), none, none⟩,
   ⟨(some t48), oFieldAddr 1 (.t t47), none, none⟩,
   ⟨none, oStore 1 (.t t48) (.t t46), none, none⟩])
 (xSeq (xOps [⟨(some t6), oMov (.v (.int .i64 0)), none, none⟩])
 xRet))
 xSkip))
 (xSeq (xSeq (xOps [⟨(some t49), oMov (.t t0), none, none⟩,
   ⟨(some t50), oNilCheck (.t t49), none, none⟩,
   ⟨(some t51), oFieldAddr 0 (.t t50), none, none⟩,
   ⟨(some t52), oLoad1 (.t t51), none, (some (.t t51))⟩,
   ⟨(some t53), oLenL (.t t52), none, none⟩,
   ⟨(some t54), oBin (int2 (cmpO eqI)) (.t t53) (.v (.int .i64 256)), none, none⟩])
 (xCond (.t t54)
 (xSeq (xOps [⟨(some t6), oMov (.v (.int .i64 2)), none, none⟩])
 xRet)
 xSkip))
 (xSeq (xOps [⟨(some t55), oMov (.t t0), none, none⟩,
   ⟨(some t56), oMov (.t t0), none, none⟩,
   ⟨(some t57), oNilCheck (.t t56), none, none⟩,
   ⟨(some t58), oFieldAddr 0 (.t t57), none, none⟩,
   ⟨(some t59), oLoad1 (.t t58), none, (some (.t t58))⟩,
   ⟨(some t60), oMov (.t t7), none, none⟩,
   ⟨(some t61), oMov (.t t1), none, none⟩,
   ⟨(some t62), oMov (.t t2), none, none⟩,
   ⟨(some t63), oBuild [(.int .i64 0), (.int .i64 0)] [(0, 1, (.t t61)), (1, 1, (.t t62))], none, none⟩,
   ⟨(some t64), oBuildSlice 1 [(.int .i64 0), (.int .i64 0)] [(0, 2, (.t t63))], none, none⟩,
   ⟨(some t65), oCall 57 [(.t t59), (.t t60), (.t t64)], none, none⟩,
   ⟨(some t66), oNilCheck (.t t55), none, none⟩,
   ⟨(some t67), oFieldAddr 0 (.t t66), none, none⟩,
   ⟨none, oStore 1 (.t t67) (.t t65), none, none⟩])
 (xSeq (xOps [⟨(some t6), oMov (.v (.int .i64 0)), none, none⟩])
 xRet)))))))⟩
theorem ok27 : cFunc Try.prog gl ex Try.f27 = some c27 := by kernel_rfl
-- (*publican/accrue.Acc).Day
def c30 : AFunc := ⟨7, [.tmp t2],
 (xSeq (xOps [⟨(some t2), oMov (.v (.int .i64 0)), none, none⟩])
 (xSeq (xOps [⟨(some t3), oMov (.t t0), none, none⟩,
   ⟨(some t4), oNilCheck (.t t3), none, none⟩,
   ⟨(some t5), oFieldAddr 0 (.t t4), none, none⟩,
   ⟨(some t6), oLoad1 (.t t5), none, (some (.t t5))⟩,
   ⟨(some t2), oMov (.t t6), none, none⟩])
 xRet))⟩
theorem ok30 : cFunc Try.prog gl ex Try.f30 = some c30 := by kernel_rfl
-- (*publican/accrue.Acc).Principal
def c31 : AFunc := ⟨7, [.tmp t2],
 (xSeq (xOps [⟨(some t2), oMov (.v (.int .i64 0)), none, none⟩])
 (xSeq (xOps [⟨(some t3), oMov (.t t0), none, none⟩,
   ⟨(some t4), oNilCheck (.t t3), none, none⟩,
   ⟨(some t5), oFieldAddr 1 (.t t4), none, none⟩,
   ⟨(some t6), oLoad1 (.t t5), none, (some (.t t5))⟩,
   ⟨(some t2), oMov (.t t6), none, none⟩])
 xRet))⟩
theorem ok31 : cFunc Try.prog gl ex Try.f31 = some c31 := by kernel_rfl
-- (*publican/accrue.Acc).Posted
def c32 : AFunc := ⟨7, [.tmp t2],
 (xSeq (xOps [⟨(some t2), oMov (.v (.int .i64 0)), none, none⟩])
 (xSeq (xOps [⟨(some t3), oMov (.t t0), none, none⟩,
   ⟨(some t4), oNilCheck (.t t3), none, none⟩,
   ⟨(some t5), oFieldAddr 2 (.t t4), none, none⟩,
   ⟨(some t6), oLoad1 (.t t5), none, (some (.t t5))⟩,
   ⟨(some t2), oMov (.t t6), none, none⟩])
 xRet))⟩
theorem ok32 : cFunc Try.prog gl ex Try.f32 = some c32 := by kernel_rfl
-- (*publican/accrue.Acc).Sum
def c33 : AFunc := ⟨7, [.cell t2 (some 2)],
 (xSeq (xOps [⟨(some t2), oNew [(.int .i64 0), (.int .u64 0)], none, none⟩])
 (xSeq (xOps [⟨(some t3), oMov (.t t0), none, none⟩,
   ⟨(some t4), oNilCheck (.t t3), none, none⟩,
   ⟨(some t5), oFieldAddr 3 (.t t4), none, none⟩,
   ⟨(some t6), oLoadN 2 (.t t5), none, none⟩,
   ⟨none, oStore 2 (.t t2) (.t t6), none, none⟩])
 xRet))⟩
theorem ok33 : cFunc Try.prog gl ex Try.f33 = some c33 := by kernel_rfl
-- (*publican/publicanref1.Reader).I
def c34 : AFunc := ⟨17, [.tmp t2],
 (xSeq (xOps [⟨(some t2), oMov (.v (.int .i64 0)), none, none⟩])
 (xSeq (xOps [⟨(some t4), oMov (.t t0), none, none⟩,
   ⟨(some t5), oCall 35 [(.t t4)], none, none⟩,
   ⟨(some t3), oMov (.t t5), none, none⟩])
 (xSeq (xSeq (xOps [⟨(some t6), oMov (.t t3), none, none⟩,
   ⟨(some t7), oBin (int2 remO) (.t t6) (.v (.int .u64 2)), none, none⟩,
   ⟨(some t8), oBin (int2 (cmpO eqI)) (.t t7) (.v (.int .u64 0)), none, none⟩])
 (xCond (.t t8)
 (xSeq (xOps [⟨(some t9), oMov (.t t3), none, none⟩,
   ⟨(some t10), oBin (int2 quoO) (.t t9) (.v (.int .u64 2)), none, none⟩,
   ⟨(some t11), oConv .i64 (.t t10), none, none⟩,
   ⟨(some t2), oMov (.t t11), none, none⟩])
 xRet)
 xSkip))
 (xSeq (xOps [⟨(some t12), oMov (.t t3), none, none⟩,
   ⟨(some t13), oBin (int2 quoO) (.t t12) (.v (.int .u64 2)), none, none⟩,
   ⟨(some t14), oConv .i64 (.t t13), none, none⟩,
   ⟨(some t15), oNeg (.t t14), none, none⟩,
   ⟨(some t16), oBin (int2 subO) (.t t15) (.v (.int .i64 1)), none, none⟩,
   ⟨(some t2), oMov (.t t16), none, none⟩])
 xRet))))⟩
theorem ok34 : cFunc Try.prog gl ex Try.f34 = some c34 := by kernel_rfl
-- (*publican/publicanref1.Reader).U
def c35_l0 : X := (xSeq (xSeq (xOps [⟨(some t6), oMov (.t t4), none, none⟩,
   ⟨(some t7), oMov (.t t0), none, none⟩,
   ⟨(some t8), oNilCheck (.t t7), none, none⟩,
   ⟨(some t9), oFieldAddr 0 (.t t8), none, none⟩,
   ⟨(some t10), oLoad1 (.t t9), none, (some (.t t9))⟩,
   ⟨(some t11), oLenL (.t t10), none, none⟩,
   ⟨(some t12), oBin (int2 (cmpO ltI)) (.t t6) (.t t11), none, none⟩,
   ⟨(some t13), oMov (.t t12), none, none⟩,
   ⟨(some t14), oMov (.t t4), (some (t13, true)), none⟩,
   ⟨(some t15), oBin (int2 (cmpO ltI)) (.t t14) (.v (.int .i64 10)), (some (t13, true)), none⟩,
   ⟨(some t16), oPick (.t t13) (.t t15) (.v (.bool false)), none, none⟩])
 (xCond (.t t16)
 xSkip
 (xExit 0)))
 (xSeq (xBlock 1 (xSeq (xOps [⟨(some t19), oMov (.t t0), none, none⟩,
   ⟨(some t20), oNilCheck (.t t19), none, none⟩,
   ⟨(some t21), oFieldAddr 0 (.t t20), none, none⟩,
   ⟨(some t22), oLoad1 (.t t21), none, (some (.t t21))⟩,
   ⟨(some t23), oMov (.t t4), none, none⟩,
   ⟨(some t24), oIdxAddrL 1 (.t t22) (.t t23), none, none⟩,
   ⟨(some t25), oLoad1 (.t t24), none, (some (.t t24))⟩,
   ⟨(some t5), oMov (.t t25), none, none⟩])
 (xSeq (xSeq (xOps [⟨(some t26), oMov (.t t4), none, none⟩,
   ⟨(some t27), oBin (int2 (cmpO eqI)) (.t t26) (.v (.int .i64 9)), none, none⟩,
   ⟨(some t28), oMov (.t t27), none, none⟩,
   ⟨(some t29), oMov (.t t5), (some (t28, true)), none⟩,
   ⟨(some t30), oBin (int2 (cmpO gtI)) (.t t29) (.v (.int .u8 1)), (some (t28, true)), none⟩,
   ⟨(some t31), oPick (.t t28) (.t t30) (.v (.bool false)), none, none⟩])
 (xCond (.t t31)
 (xSeq (xOps [⟨(some t32), oMov (.t t0), none, none⟩,
   ⟨(some t33), oCall 59 [(.t t32)], none, none⟩,
   ⟨(some t2), oMov (.t t33), none, none⟩])
 xRet)
 xSkip))
 (xSeq (xOps [⟨(some t34), oMov (.t t3), none, none⟩,
   ⟨(some t35), oMov (.t t5), none, none⟩,
   ⟨(some t36), oBin (int2 andO) (.t t35) (.v (.int .u8 127)), none, none⟩,
   ⟨(some t37), oConv .u64 (.t t36), none, none⟩,
   ⟨(some t38), oMov (.t t4), none, none⟩,
   ⟨(some t39), oBin (int2 mulO) (.v (.int .i64 7)) (.t t38), none, none⟩,
   ⟨(some t40), oConv .u64 (.t t39), none, none⟩,
   ⟨(some t41), oBin (sh2 shlO) (.t t37) (.t t40), none, none⟩,
   ⟨(some t42), oBin (int2 orO) (.t t34) (.t t41), none, none⟩,
   ⟨(some t3), oMov (.t t42), none, none⟩])
 (xSeq (xOps [⟨(some t43), oMov (.t t5), none, none⟩,
   ⟨(some t44), oBin (int2 (cmpO ltI)) (.t t43) (.v (.int .u8 128)), none, none⟩])
 (xCond (.t t44)
 (xSeq (xSeq (xOps [⟨(some t45), oMov (.t t5), none, none⟩,
   ⟨(some t46), oBin (int2 (cmpO eqI)) (.t t45) (.v (.int .u8 0)), none, none⟩,
   ⟨(some t47), oMov (.t t46), none, none⟩,
   ⟨(some t48), oMov (.t t4), (some (t47, true)), none⟩,
   ⟨(some t49), oBin (int2 (cmpO gtI)) (.t t48) (.v (.int .i64 0)), (some (t47, true)), none⟩,
   ⟨(some t50), oPick (.t t47) (.t t49) (.v (.bool false)), none, none⟩])
 (xCond (.t t50)
 (xSeq (xOps [⟨(some t51), oMov (.t t0), none, none⟩,
   ⟨(some t52), oCall 59 [(.t t51)], none, none⟩,
   ⟨(some t2), oMov (.t t52), none, none⟩])
 xRet)
 xSkip))
 (xSeq (xOps [⟨(some t53), oMov (.t t0), none, none⟩,
   ⟨(some t54), oMov (.t t0), none, none⟩,
   ⟨(some t55), oNilCheck (.t t54), none, none⟩,
   ⟨(some t56), oFieldAddr 0 (.t t55), none, none⟩,
   ⟨(some t57), oLoad1 (.t t56), none, (some (.t t56))⟩,
   ⟨(some t58), oMov (.t t4), none, none⟩,
   ⟨(some t59), oBin (int2 addO) (.t t58) (.v (.int .i64 1)), none, none⟩,
   ⟨(some t60), oSliceL 1 (.t t57) (some (.t t59)) none none, none, none⟩,
   ⟨(some t61), oNilCheck (.t t53), none, none⟩,
   ⟨(some t62), oFieldAddr 0 (.t t61), none, none⟩,
   ⟨none, oStore 1 (.t t62) (.t t60), none, none⟩])
 (xSeq (xOps [⟨(some t63), oMov (.t t3), none, none⟩,
   ⟨(some t2), oMov (.t t63), none, none⟩])
 xRet)))
 xSkip))))))
 (xOps [⟨(some t17), oMov (.t t4), none, none⟩,
   ⟨(some t18), oBin (int2 addO) (.t t17) (.v (.int .i64 1)), none, none⟩,
   ⟨(some t4), oMov (.t t18), none, none⟩])))
def c35_r0 : X := (xSeq (xOps [⟨(some t64), oMov (.t t0), none, none⟩,
   ⟨(some t65), oCall 59 [(.t t64)], none, none⟩,
   ⟨(some t2), oMov (.t t65), none, none⟩])
 xRet)
def c35 : AFunc := ⟨66, [.tmp t2],
 (xSeq (xOps [⟨(some t2), oMov (.v (.int .u64 0)), none, none⟩])
 (xSeq (xOps [⟨(some t3), oMov (.v (.int .u64 0)), none, none⟩])
 (xSeq (xSeq (xOps [⟨(some t4), oMov (.v (.int .i64 0)), none, none⟩])
 (xBlock 0 (xLoop c35_l0)))
 c35_r0)))⟩
theorem ok35 : cFunc Try.prog gl ex Try.f35 = some c35 := by kernel_rfl
-- publican/publicanref1.Wide
def c36 : AFunc := ⟨18, [.cell t4 (some 2)],
 (xSeq (xOps [⟨(some t4), oNew [(.bool false), (.slice none 0 0)], none, none⟩])
 (xSeq (xOps [⟨(some t7), oMov (.t t0), none, none⟩,
   ⟨(some t8), oCall 37 [(.t t7)], none, none⟩,
   ⟨(some t5), oNew [(.bool false), (.slice none 0 0)], none, none⟩,
   ⟨none, oStore 2 (.t t5) (.t t8), none, none⟩])
 (xSeq (xReg [⟨(some t9), oLoadN 2 (.t t5), none, none⟩,
   ⟨(some t10), oCall 58 [(.v (.int .u64 4294967296)), (.v (.bool false))], none, none⟩,
   ⟨(some t11), oCall 55 [(.t t9), (.t t10)], none, none⟩,
   ⟨(some t12), oCall 58 [(.v (.int .u64 4294967296)), (.v (.bool false))], none, none⟩,
   ⟨(some t13), oCall 55 [(.t t11), (.t t12)], none, none⟩,
   ⟨(some t6), oNew [(.bool false), (.slice none 0 0)], none, none⟩,
   ⟨none, oStore 2 (.t t6) (.t t13), none, none⟩] [(0, 1), (0, 5), (1, 5), (2, 5), (3, 5), (4, 5)])
 (xSeq (xReg [⟨(some t14), oLoadN 2 (.t t6), none, none⟩,
   ⟨(some t15), oMov (.t t1), none, none⟩,
   ⟨(some t16), oCall 58 [(.t t15), (.v (.bool false))], none, none⟩,
   ⟨(some t17), oCall 53 [(.t t14), (.t t16)], none, none⟩,
   ⟨none, oStore 2 (.t t4) (.t t17), none, none⟩] [(0, 1), (0, 2)])
 xRet))))⟩
theorem ok36 : cFunc Try.prog gl ex Try.f36 = some c36 := by kernel_rfl
-- publican/publicanref1.Of
def c37 : AFunc := ⟨14, [.cell t2 (some 2)],
 (xSeq (xOps [⟨(some t2), oNew [(.bool false), (.slice none 0 0)], none, none⟩])
 (xSeq (xOps [⟨(some t4), oMov (.t t0), none, none⟩,
   ⟨(some t5), oConv .u64 (.t t4), none, none⟩,
   ⟨(some t3), oMov (.t t5), none, none⟩])
 (xSeq (xSeq (xOps [⟨(some t6), oMov (.t t0), none, none⟩,
   ⟨(some t7), oBin (int2 (cmpO ltI)) (.t t6) (.v (.int .i64 0)), none, none⟩])
 (xCond (.t t7)
 (xOps [⟨(some t8), oMov (.t t3), none, none⟩,
   ⟨(some t9), oNeg (.t t8), none, none⟩,
   ⟨(some t3), oMov (.t t9), none, none⟩])
 xSkip))
 (xSeq (xOps [⟨(some t10), oMov (.t t3), none, none⟩,
   ⟨(some t11), oMov (.t t0), none, none⟩,
   ⟨(some t12), oBin (int2 (cmpO ltI)) (.t t11) (.v (.int .i64 0)), none, none⟩,
   ⟨(some t13), oCall 58 [(.t t10), (.t t12)], none, none⟩,
   ⟨none, oStore 2 (.t t2) (.t t13), none, none⟩])
 xRet))))⟩
theorem ok37 : cFunc Try.prog gl ex Try.f37 = some c37 := by kernel_rfl
-- (*publican/accrue.Acc).Copy
def c38 : AFunc := ⟨7, [.tmp t2],
 (xSeq (xOps [⟨(some t2), oMov (.v (.pointer none)), none, none⟩])
 (xSeq (xOps [⟨(some t4), oMov (.t t0), none, none⟩,
   ⟨(some t5), oNilCheck (.t t4), none, none⟩,
   ⟨(some t6), oLoadN 5 (.t t5), none, none⟩,
   ⟨(some t3), oNew [(.int .i64 0), (.int .i64 0), (.int .i64 0), (.int .i64 0), (.int .u64 0)], none, none⟩,
   ⟨none, oStore 5 (.t t3) (.t t6), none, none⟩])
 (xSeq (xOps [⟨(some t2), oMov (.t t3), none, none⟩])
 xRet)))⟩
theorem ok38 : cFunc Try.prog gl ex Try.f38 = some c38 := by kernel_rfl
-- publican/pack.Read
def c39 : AFunc := ⟨7, [.tmp t2],
 (xSeq (xOps [⟨(some t2), oMov (.v (.pointer none)), none, none⟩])
 (xSeq (xOps [⟨(some t3), oMov (.t t0), none, none⟩,
   ⟨(some t4), oCall 60 [(.t t3)], none, none⟩,
   ⟨(some t5), oBuild [(.slice none 0 0), (.bool false)] [(0, 1, (.t t4))], none, none⟩,
   ⟨(some t6), oBox (.t t5), none, none⟩,
   ⟨(some t2), oMov (.t t6), none, none⟩])
 xRet))⟩
theorem ok39 : cFunc Try.prog gl ex Try.f39 = some c39 := by kernel_rfl
-- (*publican/pack.Reader).I
def c40 : AFunc := ⟨14, [.tmp t2],
 (xSeq (xOps [⟨(some t2), oMov (.v (.int .i64 0)), none, none⟩])
 (xSeq (xOps [⟨(some t4), oMov (.t t0), none, none⟩,
   ⟨(some t5), oCall 41 [(.t t4)], none, none⟩,
   ⟨(some t3), oMov (.t t5), none, none⟩])
 (xSeq (xOps [⟨(some t6), oMov (.t t3), none, none⟩,
   ⟨(some t7), oBin (sh2 shrO) (.t t6) (.v (.int .u64 1)), none, none⟩,
   ⟨(some t8), oConv .i64 (.t t7), none, none⟩,
   ⟨(some t9), oMov (.t t3), none, none⟩,
   ⟨(some t10), oBin (int2 andO) (.t t9) (.v (.int .u64 1)), none, none⟩,
   ⟨(some t11), oConv .i64 (.t t10), none, none⟩,
   ⟨(some t12), oNeg (.t t11), none, none⟩,
   ⟨(some t13), oBin (int2 xorO) (.t t8) (.t t12), none, none⟩,
   ⟨(some t2), oMov (.t t13), none, none⟩])
 xRet)))⟩
theorem ok40 : cFunc Try.prog gl ex Try.f40 = some c40 := by kernel_rfl
-- (*publican/pack.Reader).U
def c41_l0 : X := (xSeq (xOps [⟨(some t12), oBin (int2 (cmpO ltI)) (.t t11) (.t t10), none, none⟩])
 (xSeq (xCond (.t t12)
 xSkip
 (xExit 0))
 (xSeq (xBlock 1 (xSeq (xOps [⟨(some t13), oMov (.t t11), none, none⟩,
   ⟨(some t14), oIdxAddrL 1 (.t t9) (.t t11), none, none⟩,
   ⟨(some t15), oLoad1 (.t t14), none, (some (.t t14))⟩,
   ⟨(some t4), oMov (.t t13), none, none⟩,
   ⟨(some t5), oMov (.t t15), none, none⟩])
 (xSeq (xSeq (xOps [⟨(some t16), oMov (.t t4), none, none⟩,
   ⟨(some t17), oBin (int2 (cmpO eqI)) (.t t16) (.v (.int .i64 9)), none, none⟩,
   ⟨(some t18), oMov (.t t17), none, none⟩,
   ⟨(some t19), oMov (.t t5), (some (t18, true)), none⟩,
   ⟨(some t20), oBin (int2 (cmpO gtI)) (.t t19) (.v (.int .u8 1)), (some (t18, true)), none⟩,
   ⟨(some t21), oPick (.t t18) (.t t20) (.v (.bool false)), none, none⟩])
 (xCond (.t t21)
 (xExit 0)
 xSkip))
 (xSeq (xOps [⟨(some t22), oMov (.t t3), none, none⟩,
   ⟨(some t23), oMov (.t t5), none, none⟩,
   ⟨(some t24), oBin (int2 andO) (.t t23) (.v (.int .u8 127)), none, none⟩,
   ⟨(some t25), oConv .u64 (.t t24), none, none⟩,
   ⟨(some t26), oMov (.t t4), none, none⟩,
   ⟨(some t27), oConv .u64 (.t t26), none, none⟩,
   ⟨(some t28), oBin (int2 mulO) (.v (.int .u64 7)) (.t t27), none, none⟩,
   ⟨(some t29), oBin (sh2 shlO) (.t t25) (.t t28), none, none⟩,
   ⟨(some t30), oBin (int2 orO) (.t t22) (.t t29), none, none⟩,
   ⟨(some t3), oMov (.t t30), none, none⟩])
 (xSeq (xSeq (xOps [⟨(some t31), oMov (.t t5), none, none⟩,
   ⟨(some t32), oBin (int2 (cmpO geI)) (.t t31) (.v (.int .u8 128)), none, none⟩])
 (xCond (.t t32)
 (xExit 1)
 xSkip))
 (xSeq (xSeq (xOps [⟨(some t33), oMov (.t t5), none, none⟩,
   ⟨(some t34), oBin (int2 (cmpO eqI)) (.t t33) (.v (.int .u8 0)), none, none⟩,
   ⟨(some t35), oMov (.t t34), none, none⟩,
   ⟨(some t36), oMov (.t t4), (some (t35, true)), none⟩,
   ⟨(some t37), oBin (int2 (cmpO gtI)) (.t t36) (.v (.int .i64 0)), (some (t35, true)), none⟩,
   ⟨(some t38), oPick (.t t35) (.t t37) (.v (.bool false)), none, none⟩])
 (xCond (.t t38)
 (xExit 0)
 xSkip))
 (xSeq (xOps [⟨(some t39), oMov (.t t0), none, none⟩,
   ⟨(some t40), oMov (.t t0), none, none⟩,
   ⟨(some t41), oNilCheck (.t t40), none, none⟩,
   ⟨(some t42), oFieldAddr 0 (.t t41), none, none⟩,
   ⟨(some t43), oLoad1 (.t t42), none, (some (.t t42))⟩,
   ⟨(some t44), oMov (.t t4), none, none⟩,
   ⟨(some t45), oBin (int2 addO) (.t t44) (.v (.int .i64 1)), none, none⟩,
   ⟨(some t46), oSliceL 1 (.t t43) (some (.t t45)) none none, none, none⟩,
   ⟨(some t47), oNilCheck (.t t39), none, none⟩,
   ⟨(some t48), oFieldAddr 0 (.t t47), none, none⟩,
   ⟨none, oStore 1 (.t t48) (.t t46), none, none⟩])
 (xSeq (xOps [⟨(some t49), oMov (.t t3), none, none⟩,
   ⟨(some t2), oMov (.t t49), none, none⟩])
 xRet))))))))
 (xOps [⟨(some t50), oBin (int2 addO) (.t t11) (.v (.int .i64 1)), none, none⟩,
   ⟨(some t11), oMov (.t t50), none, none⟩]))))
def c41_r0 : X := (xSeq (xOps [⟨(some t51), oMov (.t t0), none, none⟩,
   ⟨(some t52), oCall 61 [(.t t51)], none, none⟩])
 (xSeq (xOps [⟨(some t2), oMov (.v (.int .u64 0)), none, none⟩])
 xRet))
def c41 : AFunc := ⟨53, [.tmp t2],
 (xSeq (xOps [⟨(some t2), oMov (.v (.int .u64 0)), none, none⟩])
 (xSeq (xOps [⟨(some t3), oMov (.v (.int .u64 0)), none, none⟩])
 (xSeq (xSeq (xOps [⟨(some t6), oMov (.t t0), none, none⟩,
   ⟨(some t7), oNilCheck (.t t6), none, none⟩,
   ⟨(some t8), oFieldAddr 0 (.t t7), none, none⟩,
   ⟨(some t9), oLoad1 (.t t8), none, (some (.t t8))⟩,
   ⟨(some t10), oLenL (.t t9), none, none⟩,
   ⟨(some t11), oMov (.v (.int .i64 0)), none, none⟩])
 (xBlock 0 (xLoop c41_l0)))
 c41_r0)))⟩
theorem ok41 : cFunc Try.prog gl ex Try.f41 = some c41 := by kernel_rfl
-- (*publican/pack.Reader).Bad
def c42 : AFunc := ⟨7, [.tmp t2],
 (xSeq (xOps [⟨(some t2), oMov (.v (.bool false)), none, none⟩])
 (xSeq (xOps [⟨(some t3), oMov (.t t0), none, none⟩,
   ⟨(some t4), oNilCheck (.t t3), none, none⟩,
   ⟨(some t5), oFieldAddr 1 (.t t4), none, none⟩,
   ⟨(some t6), oLoad1 (.t t5), none, (some (.t t5))⟩,
   ⟨(some t2), oMov (.t t6), none, none⟩])
 xRet))⟩
theorem ok42 : cFunc Try.prog gl ex Try.f42 = some c42 := by kernel_rfl
-- (*publican/pack.Reader).Left
def c43 : AFunc := ⟨8, [.tmp t2],
 (xSeq (xOps [⟨(some t2), oMov (.v (.int .i64 0)), none, none⟩])
 (xSeq (xOps [⟨(some t3), oMov (.t t0), none, none⟩,
   ⟨(some t4), oNilCheck (.t t3), none, none⟩,
   ⟨(some t5), oFieldAddr 0 (.t t4), none, none⟩,
   ⟨(some t6), oLoad1 (.t t5), none, (some (.t t5))⟩,
   ⟨(some t7), oLenL (.t t6), none, none⟩,
   ⟨(some t2), oMov (.t t7), none, none⟩])
 xRet))⟩
theorem ok43 : cFunc Try.prog gl ex Try.f43 = some c43 := by kernel_rfl
end
end Go.Proofs.Ytdnedangfnincaa.AbsAccR
