import Derived.Test.YtoabiapkdnibkaaGreatRows
import Derived.Test.YtoabiapkdnibkaaGreatAbsMachKT
import Derived.KernelRfl
namespace Go.Proofs.YtoabiapkdnibkaaGreat.AbsMachK
open Go Go.Abs Go.Proofs
set_option maxRecDepth 100000
set_option linter.unusedVariables false
noncomputable section
/-- publican/verify.target -/
def c116 : AFunc := ⟨15, [.tmp t2, .tmp t3],
 (xSeq (xOps [⟨(some t1), oBox (.t t0), none, none⟩,
   ⟨(some t2), oMov (.v (.int .i64 0)), none, none⟩,
   ⟨(some t3), oMov (.v (.bool false)), none, none⟩])
 (xSeq (xSeq (xOps [⟨(some t4), oFieldAddr 0 (.t t1), none, none⟩,
   ⟨(some t5), oLoad1 (.t t4), none, (some (.t t4))⟩])
 (xBlock 0 (xSeq (xSeq (xOps [⟨(some t7), oBin (int2 (cmpO eqI)) (.t t5) (.v (.int .i64 17)), none, none⟩,
   ⟨(some t6), oMov (.t t7), none, none⟩])
 (xCond (.t t6)
 xSkip
 (xOps [⟨(some t8), oBin (int2 (cmpO eqI)) (.t t5) (.v (.int .i64 18)), none, none⟩,
   ⟨(some t6), oMov (.t t8), none, none⟩])))
 (xCond (.t t6)
 (xSeq (xOps [⟨(some t9), oFieldAddr 1 (.t t1), none, none⟩,
   ⟨(some t10), oLoad1 (.t t9), none, (some (.t t9))⟩,
   ⟨(some t2), oMov (.t t10), none, none⟩,
   ⟨(some t3), oMov (.v (.bool true)), none, none⟩])
 xRet)
 (xSeq (xOps [⟨(some t12), oBin (int2 (cmpO eqI)) (.t t5) (.v (.int .i64 19)), none, none⟩,
   ⟨(some t11), oMov (.t t12), none, none⟩])
 (xCond (.t t11)
 (xSeq (xOps [⟨(some t13), oFieldAddr 3 (.t t1), none, none⟩,
   ⟨(some t14), oLoad1 (.t t13), none, (some (.t t13))⟩,
   ⟨(some t2), oMov (.t t14), none, none⟩,
   ⟨(some t3), oMov (.v (.bool true)), none, none⟩])
 xRet)
 xSkip))))))
 (xSeq (xOps [⟨(some t2), oMov (.v (.int .i64 0)), none, none⟩,
   ⟨(some t3), oMov (.v (.bool false)), none, none⟩])
 xRet)))⟩
theorem ok116 : cFunc Tryz.prog gl ex Tryz.f116 = some c116 := by kernel_rfl
/-- (publican/verify.loop).in -/
def c117 : AFunc := ⟨15, [.tmp t4],
 (xSeq (xOps [⟨(some t2), oBox (.t t0), none, none⟩,
   ⟨(some t4), oMov (.v (.bool false)), none, none⟩])
 (xSeq (xOps [⟨(some t5), oMov (.t t1), none, none⟩,
   ⟨(some t6), oFieldAddr 0 (.t t2), none, none⟩,
   ⟨(some t7), oLoad1 (.t t6), none, (some (.t t6))⟩,
   ⟨(some t8), oBin (int2 (cmpO gtI)) (.t t5) (.t t7), none, none⟩,
   ⟨(some t9), oMov (.t t8), none, none⟩,
   ⟨(some t10), oMov (.t t1), (some (t9, true)), none⟩,
   ⟨(some t11), oFieldAddr 1 (.t t2), (some (t9, true)), none⟩,
   ⟨(some t12), oLoad1 (.t t11), (some (t9, true)), (some (.t t11))⟩,
   ⟨(some t13), oBin (int2 (cmpO leI)) (.t t10) (.t t12), (some (t9, true)), none⟩,
   ⟨(some t14), oPick (.t t9) (.t t13) (.v (.bool false)), none, none⟩,
   ⟨(some t4), oMov (.t t14), none, none⟩])
 xRet))⟩
theorem ok117 : cFunc Tryz.prog gl ex Tryz.f117 = some c117 := by kernel_rfl
/-- (*publican/verify.checker).takes -/
def c118 : AFunc := ⟨207, [.tmp t6, .tmp t7],
 (xSeq (xOps [⟨(some t4), oBox (.t t1), none, none⟩,
   ⟨(some t6), oMov (.v (.slice none 0 0)), none, none⟩,
   ⟨(some t7), oMov (.v (.bool false)), none, none⟩])
 (xSeq (xOps [⟨(some t20), oFieldAddr 1 (.t t4), none, none⟩,
   ⟨(some t21), oLoad1 (.t t20), none, (some (.t t20))⟩,
   ⟨(some t8), oMov (.t t21), none, none⟩])
 (xSeq (xSeq (xOps [⟨(some t22), oFieldAddr 0 (.t t4), none, none⟩,
   ⟨(some t23), oLoad1 (.t t22), none, (some (.t t22))⟩])
 (xBlock 0 (xSeq (xOps [⟨(some t25), oBin (int2 (cmpO eqI)) (.t t23) (.v (.int .i64 0)), none, none⟩,
   ⟨(some t24), oMov (.t t25), none, none⟩])
 (xCond (.t t24)
 (xSeq (xReg [⟨(some t26), oMov (.t t2), none, none⟩,
   ⟨(some t27), oMov (.t t0), none, none⟩,
   ⟨(some t28), oNilCheck (.t t27), none, none⟩,
   ⟨(some t29), oFieldAddr 0 (.t t28), none, none⟩,
   ⟨(some t30), oFieldAddr 0 (.t t29), none, none⟩,
   ⟨(some t31), oLoad1 (.t t30), none, (some (.t t30))⟩,
   ⟨(some t32), oFieldAddr 1 (.t t4), none, none⟩,
   ⟨(some t33), oLoad1 (.t t32), none, (some (.t t32))⟩,
   ⟨(some t34), oIdxAddrL 3 (.t t31) (.t t33), none, none⟩,
   ⟨(some t35), oFieldAddr 0 (.t t34), none, none⟩,
   ⟨(some t36), oLoad1 (.t t35), none, (some (.t t35))⟩,
   ⟨(some t37), oBuildSlice 1 [(.int .i64 0)] [(0, 1, (.t t36))], none, none⟩,
   ⟨(some t38), oAppend 1 8 (.t t26) (.t t37), none, none⟩,
   ⟨(some t6), oMov (.t t38), none, none⟩,
   ⟨(some t7), oMov (.v (.bool true)), none, none⟩] [(0, 1), (0, 2), (0, 3), (0, 4), (0, 5), (0, 6), (1, 6), (2, 6), (3, 6), (4, 6), (5, 6), (0, 7), (1, 7), (2, 7), (3, 7), (4, 7), (5, 7), (0, 8), (0, 9), (0, 10), (0, 11)])
 xRet)
 (xSeq (xOps [⟨(some t40), oBin (int2 (cmpO eqI)) (.t t23) (.v (.int .i64 1)), none, none⟩,
   ⟨(some t39), oMov (.t t40), none, none⟩])
 (xCond (.t t39)
 (xSeq (xReg [⟨(some t41), oMov (.t t2), none, none⟩,
   ⟨(some t42), oMov (.t t0), none, none⟩,
   ⟨(some t43), oNilCheck (.t t42), none, none⟩,
   ⟨(some t44), oFieldAddr 0 (.t t43), none, none⟩,
   ⟨(some t45), oFieldAddr 2 (.t t44), none, none⟩,
   ⟨(some t46), oLoad1 (.t t45), none, (some (.t t45))⟩,
   ⟨(some t47), oFieldAddr 1 (.t t4), none, none⟩,
   ⟨(some t48), oLoad1 (.t t47), none, (some (.t t47))⟩,
   ⟨(some t49), oIdxAddrL 1 (.t t46) (.t t48), none, none⟩,
   ⟨(some t50), oLoad1 (.t t49), none, (some (.t t49))⟩,
   ⟨(some t51), oBuildSlice 1 [(.int .i64 0)] [(0, 1, (.t t50))], none, none⟩,
   ⟨(some t52), oAppend 1 8 (.t t41) (.t t51), none, none⟩,
   ⟨(some t6), oMov (.t t52), none, none⟩,
   ⟨(some t7), oMov (.v (.bool true)), none, none⟩] [(0, 1), (0, 2), (0, 3), (0, 4), (0, 5), (0, 6), (1, 6), (2, 6), (3, 6), (4, 6), (5, 6), (0, 7), (1, 7), (2, 7), (3, 7), (4, 7), (5, 7), (0, 8), (0, 9), (0, 10)])
 xRet)
 (xSeq (xOps [⟨(some t54), oBin (int2 (cmpO eqI)) (.t t23) (.v (.int .i64 2)), none, none⟩,
   ⟨(some t53), oMov (.t t54), none, none⟩])
 (xCond (.t t53)
 (xSeq (xReg [⟨(some t55), oMov (.t t2), none, none⟩,
   ⟨(some t56), oMov (.t t0), none, none⟩,
   ⟨(some t57), oNilCheck (.t t56), none, none⟩,
   ⟨(some t58), oFieldAddr 0 (.t t57), none, none⟩,
   ⟨(some t59), oFieldAddr 4 (.t t58), none, none⟩,
   ⟨(some t60), oLoad1 (.t t59), none, (some (.t t59))⟩,
   ⟨(some t61), oFieldAddr 1 (.t t4), none, none⟩,
   ⟨(some t62), oLoad1 (.t t61), none, (some (.t t61))⟩,
   ⟨(some t63), oIdxAddrL 1 (.t t60) (.t t62), none, none⟩,
   ⟨(some t64), oLoad1 (.t t63), none, (some (.t t63))⟩,
   ⟨(some t65), oBuildSlice 1 [(.int .i64 0)] [(0, 1, (.t t64))], none, none⟩,
   ⟨(some t66), oAppend 1 8 (.t t55) (.t t65), none, none⟩,
   ⟨(some t6), oMov (.t t66), none, none⟩,
   ⟨(some t7), oMov (.v (.bool true)), none, none⟩] [(0, 1), (0, 2), (0, 3), (0, 4), (0, 5), (0, 6), (1, 6), (2, 6), (3, 6), (4, 6), (5, 6), (0, 7), (1, 7), (2, 7), (3, 7), (4, 7), (5, 7), (0, 8), (0, 9), (0, 10)])
 xRet)
 (xSeq (xOps [⟨(some t68), oBin (int2 (cmpO eqI)) (.t t23) (.v (.int .i64 15)), none, none⟩,
   ⟨(some t67), oMov (.t t68), none, none⟩])
 (xCond (.t t67)
 (xSeq (xOps [⟨(some t69), oMov (.t t2), none, none⟩,
   ⟨(some t70), oBuildSlice 1 [(.int .i64 0)] [(0, 1, (.v (.int .i64 2)))], none, none⟩,
   ⟨(some t71), oAppend 1 8 (.t t69) (.t t70), none, none⟩,
   ⟨(some t6), oMov (.t t71), none, none⟩,
   ⟨(some t7), oMov (.v (.bool true)), none, none⟩])
 xRet)
 (xSeq (xOps [⟨(some t73), oBin (int2 (cmpO eqI)) (.t t23) (.v (.int .i64 3)), none, none⟩,
   ⟨(some t72), oMov (.t t73), none, none⟩])
 (xCond (.t t72)
 (xSeq (xReg [⟨(some t74), oMov (.t t2), none, none⟩,
   ⟨(some t75), oMov (.t t0), none, none⟩,
   ⟨(some t76), oNilCheck (.t t75), none, none⟩,
   ⟨(some t77), oFieldAddr 0 (.t t76), none, none⟩,
   ⟨(some t78), oFieldAddr 4 (.t t77), none, none⟩,
   ⟨(some t79), oLoad1 (.t t78), none, (some (.t t78))⟩,
   ⟨(some t80), oFieldAddr 1 (.t t4), none, none⟩,
   ⟨(some t81), oLoad1 (.t t80), none, (some (.t t80))⟩,
   ⟨(some t82), oIdxAddrL 1 (.t t79) (.t t81), none, none⟩,
   ⟨(some t83), oLoad1 (.t t82), none, (some (.t t82))⟩,
   ⟨(some t84), oBuildSlice 1 [(.int .i64 0)] [(0, 1, (.t t83))], none, none⟩,
   ⟨(some t85), oCall 143 [(.t t74), (.t t84)], none, none⟩,
   ⟨(some t86), oExtract (.t t85) 0, none, none⟩,
   ⟨(some t87), oExtract (.t t85) 1, none, none⟩,
   ⟨(some t6), oMov (.t t86), none, none⟩,
   ⟨(some t7), oMov (.t t87), none, none⟩] [(0, 1), (0, 2), (0, 3), (0, 4), (0, 5), (0, 6), (1, 6), (2, 6), (3, 6), (4, 6), (5, 6), (0, 7), (1, 7), (2, 7), (3, 7), (4, 7), (5, 7), (0, 8), (0, 9), (0, 10), (12, 13)])
 xRet)
 (xSeq (xOps [⟨(some t89), oBin (int2 (cmpO eqI)) (.t t23) (.v (.int .i64 22)), none, none⟩,
   ⟨(some t88), oMov (.t t89), none, none⟩])
 (xCond (.t t88)
 (xSeq (xReg [⟨(some t90), oMov (.t t2), none, none⟩,
   ⟨(some t91), oMov (.t t0), none, none⟩,
   ⟨(some t92), oNilCheck (.t t91), none, none⟩,
   ⟨(some t93), oFieldAddr 0 (.t t92), none, none⟩,
   ⟨(some t94), oFieldAddr 3 (.t t93), none, none⟩,
   ⟨(some t95), oLoad1 (.t t94), none, (some (.t t94))⟩,
   ⟨(some t96), oFieldAddr 1 (.t t4), none, none⟩,
   ⟨(some t97), oLoad1 (.t t96), none, (some (.t t96))⟩,
   ⟨(some t98), oIdxAddrL 1 (.t t95) (.t t97), none, none⟩,
   ⟨(some t99), oLoad1 (.t t98), none, (some (.t t98))⟩,
   ⟨(some t100), oBuildSlice 1 [(.int .i64 0)] [(0, 1, (.t t99))], none, none⟩,
   ⟨(some t101), oCall 143 [(.t t90), (.t t100)], none, none⟩,
   ⟨(some t102), oExtract (.t t101) 0, none, none⟩,
   ⟨(some t103), oExtract (.t t101) 1, none, none⟩,
   ⟨(some t6), oMov (.t t102), none, none⟩,
   ⟨(some t7), oMov (.t t103), none, none⟩] [(0, 1), (0, 2), (0, 3), (0, 4), (0, 5), (0, 6), (1, 6), (2, 6), (3, 6), (4, 6), (5, 6), (0, 7), (1, 7), (2, 7), (3, 7), (4, 7), (5, 7), (0, 8), (0, 9), (0, 10), (12, 13)])
 xRet)
 (xSeq (xOps [⟨(some t105), oBin (int2 (cmpO eqI)) (.t t23) (.v (.int .i64 18)), none, none⟩,
   ⟨(some t104), oMov (.t t105), none, none⟩])
 (xCond (.t t104)
 (xSeq (xOps [⟨(some t106), oMov (.t t2), none, none⟩,
   ⟨(some t107), oBuildSlice 1 [(.int .i64 0)] [(0, 1, (.v (.int .i64 1)))], none, none⟩,
   ⟨(some t108), oCall 143 [(.t t106), (.t t107)], none, none⟩,
   ⟨(some t109), oExtract (.t t108) 0, none, none⟩,
   ⟨(some t110), oExtract (.t t108) 1, none, none⟩,
   ⟨(some t6), oMov (.t t109), none, none⟩,
   ⟨(some t7), oMov (.t t110), none, none⟩])
 xRet)
 (xSeq (xOps [⟨(some t112), oBin (int2 (cmpO eqI)) (.t t23) (.v (.int .i64 9)), none, none⟩,
   ⟨(some t111), oMov (.t t112), none, none⟩])
 (xCond (.t t111)
 (xSeq (xOps [⟨(some t114), oMov (.t t2), none, none⟩,
   ⟨(some t115), oBuildSlice 1 [(.int .i64 0)] [(0, 1, (.v (.int .i64 1)))], none, none⟩,
   ⟨(some t116), oCall 143 [(.t t114), (.t t115)], none, none⟩,
   ⟨(some t113), oMov (.t t116), none, none⟩,
   ⟨(some t117), oExtract (.t t113) 0, none, none⟩,
   ⟨(some t118), oExtract (.t t113) 1, none, none⟩,
   ⟨(some t9), oMov (.t t117), none, none⟩,
   ⟨(some t10), oMov (.t t118), none, none⟩])
 (xSeq (xOps [⟨(some t119), oMov (.t t9), none, none⟩,
   ⟨(some t120), oBuildSlice 1 [(.int .i64 0)] [(0, 1, (.v (.int .i64 1)))], none, none⟩,
   ⟨(some t121), oAppend 1 8 (.t t119) (.t t120), none, none⟩,
   ⟨(some t122), oMov (.t t10), none, none⟩,
   ⟨(some t6), oMov (.t t121), none, none⟩,
   ⟨(some t7), oMov (.t t122), none, none⟩])
 xRet))
 (xSeq (xOps [⟨(some t124), oBin (int2 (cmpO eqI)) (.t t23) (.v (.int .i64 8)), none, none⟩,
   ⟨(some t123), oMov (.t t124), none, none⟩])
 (xCond (.t t123)
 (xSeq (xOps [⟨(some t126), oMov (.t t2), none, none⟩,
   ⟨(some t127), oMov (.t t8), none, none⟩,
   ⟨(some t128), oBuildSlice 1 [(.int .i64 0)] [(0, 1, (.t t127))], none, none⟩,
   ⟨(some t129), oCall 143 [(.t t126), (.t t128)], none, none⟩,
   ⟨(some t125), oMov (.t t129), none, none⟩,
   ⟨(some t130), oExtract (.t t125) 0, none, none⟩,
   ⟨(some t131), oExtract (.t t125) 1, none, none⟩,
   ⟨(some t11), oMov (.t t130), none, none⟩,
   ⟨(some t12), oMov (.t t131), none, none⟩])
 (xSeq (xOps [⟨(some t132), oMov (.t t11), none, none⟩,
   ⟨(some t133), oMov (.t t8), none, none⟩,
   ⟨(some t134), oBuildSlice 1 [(.int .i64 0)] [(0, 1, (.t t133))], none, none⟩,
   ⟨(some t135), oAppend 1 8 (.t t132) (.t t134), none, none⟩,
   ⟨(some t136), oMov (.t t12), none, none⟩,
   ⟨(some t6), oMov (.t t135), none, none⟩,
   ⟨(some t7), oMov (.t t136), none, none⟩])
 xRet))
 (xSeq (xOps [⟨(some t138), oBin (int2 (cmpO eqI)) (.t t23) (.v (.int .i64 16)), none, none⟩,
   ⟨(some t137), oMov (.t t138), none, none⟩])
 (xCond (.t t137)
 (xSeq (xReg [⟨(some t139), oMov (.t t0), none, none⟩,
   ⟨(some t140), oNilCheck (.t t139), none, none⟩,
   ⟨(some t141), oFieldAddr 0 (.t t140), none, none⟩,
   ⟨(some t142), oFieldAddr 1 (.t t141), none, none⟩,
   ⟨(some t143), oLoad1 (.t t142), none, (some (.t t142))⟩,
   ⟨(some t144), oFieldAddr 1 (.t t4), none, none⟩,
   ⟨(some t145), oLoad1 (.t t144), none, (some (.t t144))⟩,
   ⟨(some t146), oIdxAddrL 4 (.t t143) (.t t145), none, none⟩,
   ⟨(some t147), oLoadN 4 (.t t146), none, none⟩,
   ⟨(some t13), oNew [(.int .i64 0), (.int .i64 0), (.slice none 0 0), (.slice none 0 0)], none, none⟩,
   ⟨none, oStore 4 (.t t13) (.t t147), none, none⟩] [(0, 5), (1, 5), (2, 5), (3, 5), (4, 5), (0, 6), (1, 6), (2, 6), (3, 6), (4, 6), (0, 9), (1, 9), (2, 9), (3, 9), (4, 9), (5, 9), (6, 9), (7, 9), (8, 9)])
 (xSeq (xOps [⟨(some t149), oMov (.t t2), none, none⟩,
   ⟨(some t150), oFieldAddr 0 (.t t13), none, none⟩,
   ⟨(some t151), oLoad1 (.t t150), none, (some (.t t150))⟩,
   ⟨(some t152), oBuildSlice 1 [(.int .i64 0)] [(0, 1, (.t t151))], none, none⟩,
   ⟨(some t153), oCall 143 [(.t t149), (.t t152)], none, none⟩,
   ⟨(some t148), oMov (.t t153), none, none⟩,
   ⟨(some t154), oExtract (.t t148) 0, none, none⟩,
   ⟨(some t155), oExtract (.t t148) 1, none, none⟩,
   ⟨(some t14), oMov (.t t154), none, none⟩,
   ⟨(some t15), oMov (.t t155), none, none⟩])
 (xSeq (xOps [⟨(some t156), oMov (.t t14), none, none⟩,
   ⟨(some t157), oFieldAddr 1 (.t t13), none, none⟩,
   ⟨(some t158), oLoad1 (.t t157), none, (some (.t t157))⟩,
   ⟨(some t159), oBuildSlice 1 [(.int .i64 0)] [(0, 1, (.t t158))], none, none⟩,
   ⟨(some t160), oAppend 1 8 (.t t156) (.t t159), none, none⟩,
   ⟨(some t161), oMov (.t t15), none, none⟩,
   ⟨(some t6), oMov (.t t160), none, none⟩,
   ⟨(some t7), oMov (.t t161), none, none⟩])
 xRet)))
 (xSeq (xSeq (xOps [⟨(some t163), oBin (int2 (cmpO eqI)) (.t t23) (.v (.int .i64 10)), none, none⟩,
   ⟨(some t162), oMov (.t t163), none, none⟩])
 (xCond (.t t162)
 xSkip
 (xSeq (xOps [⟨(some t164), oBin (int2 (cmpO eqI)) (.t t23) (.v (.int .i64 11)), none, none⟩,
   ⟨(some t162), oMov (.t t164), none, none⟩])
 (xCond (.t t162)
 xSkip
 (xOps [⟨(some t165), oBin (int2 (cmpO eqI)) (.t t23) (.v (.int .i64 12)), none, none⟩,
   ⟨(some t162), oMov (.t t165), none, none⟩])))))
 (xCond (.t t162)
 (xSeq (xOps [⟨(some t167), oMov (.t t2), none, none⟩,
   ⟨(some t168), oMov (.t t8), none, none⟩,
   ⟨(some t169), oMov (.t t8), none, none⟩,
   ⟨(some t170), oBuildSlice 2 [(.int .i64 0), (.int .i64 0)] [(0, 1, (.t t168)), (1, 1, (.t t169))], none, none⟩,
   ⟨(some t171), oCall 143 [(.t t167), (.t t170)], none, none⟩,
   ⟨(some t166), oMov (.t t171), none, none⟩,
   ⟨(some t172), oExtract (.t t166) 0, none, none⟩,
   ⟨(some t173), oExtract (.t t166) 1, none, none⟩,
   ⟨(some t16), oMov (.t t172), none, none⟩,
   ⟨(some t17), oMov (.t t173), none, none⟩])
 (xSeq (xOps [⟨(some t174), oMov (.t t16), none, none⟩,
   ⟨(some t175), oBuildSlice 1 [(.int .i64 0)] [(0, 1, (.v (.int .i64 1)))], none, none⟩,
   ⟨(some t176), oAppend 1 8 (.t t174) (.t t175), none, none⟩,
   ⟨(some t177), oMov (.t t17), none, none⟩,
   ⟨(some t6), oMov (.t t176), none, none⟩,
   ⟨(some t7), oMov (.t t177), none, none⟩])
 xRet))
 (xSeq (xSeq (xOps [⟨(some t179), oBin (int2 (cmpO eqI)) (.t t23) (.v (.int .i64 13)), none, none⟩,
   ⟨(some t178), oMov (.t t179), none, none⟩])
 (xCond (.t t178)
 xSkip
 (xOps [⟨(some t180), oBin (int2 (cmpO eqI)) (.t t23) (.v (.int .i64 14)), none, none⟩,
   ⟨(some t178), oMov (.t t180), none, none⟩])))
 (xCond (.t t178)
 (xSeq (xOps [⟨(some t182), oMov (.t t2), none, none⟩,
   ⟨(some t183), oMov (.t t8), none, none⟩,
   ⟨(some t184), oMov (.t t8), none, none⟩,
   ⟨(some t185), oBuildSlice 2 [(.int .i64 0), (.int .i64 0)] [(0, 1, (.t t183)), (1, 1, (.t t184))], none, none⟩,
   ⟨(some t186), oCall 143 [(.t t182), (.t t185)], none, none⟩,
   ⟨(some t181), oMov (.t t186), none, none⟩,
   ⟨(some t187), oExtract (.t t181) 0, none, none⟩,
   ⟨(some t188), oExtract (.t t181) 1, none, none⟩,
   ⟨(some t18), oMov (.t t187), none, none⟩,
   ⟨(some t19), oMov (.t t188), none, none⟩])
 (xSeq (xOps [⟨(some t189), oMov (.t t18), none, none⟩,
   ⟨(some t190), oMov (.t t8), none, none⟩,
   ⟨(some t191), oBuildSlice 1 [(.int .i64 0)] [(0, 1, (.t t190))], none, none⟩,
   ⟨(some t192), oAppend 1 8 (.t t189) (.t t191), none, none⟩,
   ⟨(some t193), oMov (.t t19), none, none⟩,
   ⟨(some t6), oMov (.t t192), none, none⟩,
   ⟨(some t7), oMov (.t t193), none, none⟩])
 xRet))
 (xSeq (xSeq (xOps [⟨(some t195), oBin (int2 (cmpO eqI)) (.t t23) (.v (.int .i64 4)), none, none⟩,
   ⟨(some t194), oMov (.t t195), none, none⟩])
 (xCond (.t t194)
 xSkip
 (xSeq (xOps [⟨(some t196), oBin (int2 (cmpO eqI)) (.t t23) (.v (.int .i64 5)), none, none⟩,
   ⟨(some t194), oMov (.t t196), none, none⟩])
 (xCond (.t t194)
 xSkip
 (xSeq (xOps [⟨(some t197), oBin (int2 (cmpO eqI)) (.t t23) (.v (.int .i64 6)), none, none⟩,
   ⟨(some t194), oMov (.t t197), none, none⟩])
 (xCond (.t t194)
 xSkip
 (xOps [⟨(some t198), oBin (int2 (cmpO eqI)) (.t t23) (.v (.int .i64 7)), none, none⟩,
   ⟨(some t194), oMov (.t t198), none, none⟩])))))))
 (xCond (.t t194)
 (xSeq (xOps [⟨(some t199), oFieldAddr 0 (.t t4), none, none⟩,
   ⟨(some t200), oLoad1 (.t t199), none, (some (.t t199))⟩,
   ⟨(some t201), oMov (.t t8), none, none⟩,
   ⟨(some t202), oMov (.t t2), none, none⟩,
   ⟨(some t203), oCall 144 [(.t t200), (.t t201), (.t t202)], none, none⟩,
   ⟨(some t204), oExtract (.t t203) 0, none, none⟩,
   ⟨(some t205), oExtract (.t t203) 1, none, none⟩,
   ⟨(some t6), oMov (.t t204), none, none⟩,
   ⟨(some t7), oMov (.t t205), none, none⟩])
 xRet)
 xSkip))))))))))))))))))))))))))))
 (xSeq (xOps [⟨(some t206), oMov (.t t2), none, none⟩,
   ⟨(some t6), oMov (.t t206), none, none⟩,
   ⟨(some t7), oMov (.v (.bool true)), none, none⟩])
 xRet))))⟩
theorem ok118 : cFunc Tryz.prog gl ex Tryz.f118 = some c118 := by kernel_rfl
/-- slices.Clip[[]publican/api.Kind,publican/api.Kind] -/
def c119 : AFunc := ⟨9, [.tmp t2],
 (xSeq (xOps [⟨(some t2), oMov (.v (.slice none 0 0)), none, none⟩])
 (xSeq (xOps [⟨(some t3), oMov (.t t0), none, none⟩,
   ⟨(some t4), oMov (.t t0), none, none⟩,
   ⟨(some t5), oLenL (.t t4), none, none⟩,
   ⟨(some t6), oMov (.t t0), none, none⟩,
   ⟨(some t7), oLenL (.t t6), none, none⟩,
   ⟨(some t8), oSliceL 1 (.t t3) none (some (.t t5)) (some (.t t7)), none, none⟩,
   ⟨(some t2), oMov (.t t8), none, none⟩])
 xRet))⟩
theorem ok119 : cFunc Tryz.prog gl ex Tryz.f119 = some c119 := by kernel_rfl
/-- slices.Clone[[]publican/api.Kind,publican/api.Kind] -/
def c120 : AFunc := ⟨8, [.tmp t2],
 (xSeq (xOps [⟨(some t2), oMov (.v (.slice none 0 0)), none, none⟩])
 (xSeq (xSeq (xOps [⟨(some t3), oMov (.t t0), none, none⟩,
   ⟨(some t4), oEqv eqL false (.t t3) (.v (.slice none 0 0)), none, none⟩])
 (xCond (.t t4)
 (xSeq (xOps [⟨(some t2), oMov (.v (.slice none 0 0)), none, none⟩])
 xRet)
 xSkip))
 (xSeq (xOps [⟨(some t5), oBuildSlice 0 [] [], none, none⟩,
   ⟨(some t6), oMov (.t t0), none, none⟩,
   ⟨(some t7), oAppend 1 8 (.t t5) (.t t6), none, none⟩,
   ⟨(some t2), oMov (.t t7), none, none⟩])
 xRet)))⟩
theorem ok120 : cFunc Tryz.prog gl ex Tryz.f120 = some c120 := by kernel_rfl
/-- publican/verify.nexts -/
def c121 : AFunc := ⟨32, [.tmp t4],
 (xSeq (xOps [⟨(some t3), oBox (.t t1), none, none⟩,
   ⟨(some t4), oMov (.v (.slice none 0 0)), none, none⟩])
 (xSeq (xSeq (xOps [⟨(some t5), oFieldAddr 0 (.t t3), none, none⟩,
   ⟨(some t6), oLoad1 (.t t5), none, (some (.t t5))⟩])
 (xBlock 0 (xSeq (xOps [⟨(some t8), oBin (int2 (cmpO eqI)) (.t t6) (.v (.int .i64 17)), none, none⟩,
   ⟨(some t7), oMov (.t t8), none, none⟩])
 (xCond (.t t7)
 (xSeq (xOps [⟨(some t9), oFieldAddr 1 (.t t3), none, none⟩,
   ⟨(some t10), oLoad1 (.t t9), none, (some (.t t9))⟩,
   ⟨(some t11), oBuildSlice 1 [(.int .i64 0)] [(0, 1, (.t t10))], none, none⟩,
   ⟨(some t4), oMov (.t t11), none, none⟩])
 xRet)
 (xSeq (xOps [⟨(some t13), oBin (int2 (cmpO eqI)) (.t t6) (.v (.int .i64 23)), none, none⟩,
   ⟨(some t12), oMov (.t t13), none, none⟩])
 (xCond (.t t12)
 (xSeq (xOps [⟨(some t4), oMov (.v (.slice none 0 0)), none, none⟩])
 xRet)
 (xSeq (xOps [⟨(some t15), oBin (int2 (cmpO eqI)) (.t t6) (.v (.int .i64 18)), none, none⟩,
   ⟨(some t14), oMov (.t t15), none, none⟩])
 (xCond (.t t14)
 (xSeq (xOps [⟨(some t16), oMov (.t t0), none, none⟩,
   ⟨(some t17), oBin (int2 addO) (.t t16) (.v (.int .i64 1)), none, none⟩,
   ⟨(some t18), oFieldAddr 1 (.t t3), none, none⟩,
   ⟨(some t19), oLoad1 (.t t18), none, (some (.t t18))⟩,
   ⟨(some t20), oBuildSlice 2 [(.int .i64 0), (.int .i64 0)] [(0, 1, (.t t17)), (1, 1, (.t t19))], none, none⟩,
   ⟨(some t4), oMov (.t t20), none, none⟩])
 xRet)
 (xSeq (xSeq (xOps [⟨(some t22), oBin (int2 (cmpO eqI)) (.t t6) (.v (.int .i64 19)), none, none⟩,
   ⟨(some t21), oMov (.t t22), none, none⟩])
 (xCond (.t t21)
 xSkip
 (xOps [⟨(some t23), oBin (int2 (cmpO eqI)) (.t t6) (.v (.int .i64 20)), none, none⟩,
   ⟨(some t21), oMov (.t t23), none, none⟩])))
 (xCond (.t t21)
 (xSeq (xOps [⟨(some t24), oMov (.t t0), none, none⟩,
   ⟨(some t25), oBin (int2 addO) (.t t24) (.v (.int .i64 1)), none, none⟩,
   ⟨(some t26), oFieldAddr 3 (.t t3), none, none⟩,
   ⟨(some t27), oLoad1 (.t t26), none, (some (.t t26))⟩,
   ⟨(some t28), oBuildSlice 2 [(.int .i64 0), (.int .i64 0)] [(0, 1, (.t t25)), (1, 1, (.t t27))], none, none⟩,
   ⟨(some t4), oMov (.t t28), none, none⟩])
 xRet)
 xSkip))))))))))
 (xSeq (xOps [⟨(some t29), oMov (.t t0), none, none⟩,
   ⟨(some t30), oBin (int2 addO) (.t t29) (.v (.int .i64 1)), none, none⟩,
   ⟨(some t31), oBuildSlice 1 [(.int .i64 0)] [(0, 1, (.t t30))], none, none⟩,
   ⟨(some t4), oMov (.t t31), none, none⟩])
 xRet)))⟩
theorem ok121 : cFunc Tryz.prog gl ex Tryz.f121 = some c121 := by kernel_rfl
/-- slices.Equal[[]publican/api.Kind,publican/api.Kind] -/
def c122 : AFunc := ⟨26, [.tmp t4],
 (xSeq (xOps [⟨(some t4), oMov (.v (.bool false)), none, none⟩])
 (xSeq (xSeq (xOps [⟨(some t6), oMov (.t t0), none, none⟩,
   ⟨(some t7), oLenL (.t t6), none, none⟩,
   ⟨(some t8), oMov (.t t1), none, none⟩,
   ⟨(some t9), oLenL (.t t8), none, none⟩,
   ⟨(some t10), oBin (int2 (cmpO neI)) (.t t7) (.t t9), none, none⟩])
 (xCond (.t t10)
 (xSeq (xOps [⟨(some t4), oMov (.v (.bool false)), none, none⟩])
 xRet)
 xSkip))
 (xSeq (xSeq (xOps [⟨(some t11), oMov (.t t0), none, none⟩,
   ⟨(some t12), oLenL (.t t11), none, none⟩,
   ⟨(some t13), oMov (.v (.int .i64 0)), none, none⟩])
 (xBlock 0 (xLoop (xSeq (xOps [⟨(some t14), oBin (int2 (cmpO ltI)) (.t t13) (.t t12), none, none⟩])
 (xSeq (xCond (.t t14)
 xSkip
 (xExit 0))
 (xSeq (xBlock 1 (xSeq (xOps [⟨(some t15), oMov (.t t13), none, none⟩,
   ⟨(some t5), oMov (.t t15), none, none⟩])
 (xSeq (xReg [⟨(some t16), oMov (.t t0), none, none⟩,
   ⟨(some t17), oMov (.t t5), none, none⟩,
   ⟨(some t18), oIdxAddrL 1 (.t t16) (.t t17), none, none⟩,
   ⟨(some t19), oLoad1 (.t t18), none, (some (.t t18))⟩,
   ⟨(some t20), oMov (.t t1), none, none⟩,
   ⟨(some t21), oMov (.t t5), none, none⟩,
   ⟨(some t22), oIdxAddrL 1 (.t t20) (.t t21), none, none⟩,
   ⟨(some t23), oLoad1 (.t t22), none, (some (.t t22))⟩,
   ⟨(some t24), oBin (int2 (cmpO neI)) (.t t19) (.t t23), none, none⟩] [(0, 1), (0, 4), (1, 4), (2, 4), (3, 4), (0, 5), (1, 5), (2, 5), (3, 5), (4, 5), (0, 6), (1, 6), (2, 6), (3, 6), (0, 7), (1, 7), (2, 7), (3, 7)])
 (xCond (.t t24)
 (xSeq (xOps [⟨(some t4), oMov (.v (.bool false)), none, none⟩])
 xRet)
 xSkip))))
 (xOps [⟨(some t25), oBin (int2 addO) (.t t13) (.v (.int .i64 1)), none, none⟩,
   ⟨(some t13), oMov (.t t25), none, none⟩])))))))
 (xSeq (xOps [⟨(some t4), oMov (.v (.bool true)), none, none⟩])
 xRet))))⟩
theorem ok122 : cFunc Tryz.prog gl ex Tryz.f122 = some c122 := by kernel_rfl
/-- (*publican/verify.checker).inLoop -/
def c123 : AFunc := ⟨11, [.tmp t4],
 (xSeq (xOps [⟨(some t3), oBox (.t t1), none, none⟩,
   ⟨(some t4), oMov (.v (.bool false)), none, none⟩])
 (xSeq (xOps [⟨(some t5), oMov (.t t0), none, none⟩,
   ⟨(some t6), oNilCheck (.t t5), none, none⟩,
   ⟨(some t7), oFieldAddr 7 (.t t6), none, none⟩,
   ⟨(some t8), oLoad1 (.t t7), none, (some (.t t7))⟩,
   ⟨(some t9), oFunc (.func 146) [] [(.t t3)], none, none⟩,
   ⟨(some t10), oCall 145 [(.t t8), (.t t9)], none, none⟩,
   ⟨(some t4), oMov (.t t10), none, none⟩])
 xRet))⟩
theorem ok123 : cFunc Tryz.prog gl ex Tryz.f123 = some c123 := by kernel_rfl
/-- (*publican/verify.checker).steps$1 -/
def c124 : AFunc := ⟨20, [.tmp t5],
 (xSeq (xOps [⟨(some t5), oMov (.v (.int .i64 0)), none, none⟩])
 (xSeq (xSeq (xOps [⟨(some t6), oMov (.t t0), none, none⟩,
   ⟨(some t7), oLoad1 (.t t1), none, (some (.t t1))⟩,
   ⟨(some t8), oBin (int2 (cmpO ltI)) (.t t6) (.t t7), none, none⟩,
   ⟨(some t9), oMov (.t t8), none, none⟩,
   ⟨(some t10), oMov (.t t0), (some (t9, false)), none⟩,
   ⟨(some t11), oLoad1 (.t t2), (some (t9, false)), (some (.t t2))⟩,
   ⟨(some t12), oBin (int2 (cmpO gtI)) (.t t10) (.t t11), (some (t9, false)), none⟩,
   ⟨(some t13), oPick (.t t9) (.v (.bool true)) (.t t12), none, none⟩])
 (xCond (.t t13)
 (xSeq (xOps [⟨(some t5), oMov (.v (.int .i64 0)), none, none⟩])
 xRet)
 xSkip))
 (xSeq (xOps [⟨(some t14), oLoad1 (.t t3), none, (some (.t t3))⟩,
   ⟨(some t15), oMov (.t t0), none, none⟩,
   ⟨(some t16), oLoad1 (.t t1), none, (some (.t t1))⟩,
   ⟨(some t17), oBin (int2 subO) (.t t15) (.t t16), none, none⟩,
   ⟨(some t18), oIdxAddrL 1 (.t t14) (.t t17), none, none⟩,
   ⟨(some t19), oLoad1 (.t t18), none, (some (.t t18))⟩,
   ⟨(some t5), oMov (.t t19), none, none⟩])
 xRet)))⟩
theorem ok124 : cFunc Tryz.prog gl ex Tryz.f124 = some c124 := by kernel_rfl
/-- slices.IndexFunc[[]int64,int64] -/
def c125 : AFunc := ⟨19, [.tmp t4],
 (xSeq (xOps [⟨(some t4), oMov (.v (.int .i64 0)), none, none⟩])
 (xSeq (xSeq (xOps [⟨(some t6), oMov (.t t0), none, none⟩,
   ⟨(some t7), oLenL (.t t6), none, none⟩,
   ⟨(some t8), oMov (.v (.int .i64 0)), none, none⟩])
 (xBlock 0 (xLoop (xSeq (xOps [⟨(some t9), oBin (int2 (cmpO ltI)) (.t t8) (.t t7), none, none⟩])
 (xSeq (xCond (.t t9)
 xSkip
 (xExit 0))
 (xSeq (xBlock 1 (xSeq (xOps [⟨(some t10), oMov (.t t8), none, none⟩,
   ⟨(some t5), oMov (.t t10), none, none⟩])
 (xSeq (xOps [⟨(some t11), oMov (.t t1), none, none⟩,
   ⟨(some t12), oMov (.t t0), none, none⟩,
   ⟨(some t13), oMov (.t t5), none, none⟩,
   ⟨(some t14), oIdxAddrL 1 (.t t12) (.t t13), none, none⟩,
   ⟨(some t15), oLoad1 (.t t14), none, (some (.t t14))⟩,
   ⟨(some t16), oCallV (.t t11) [(.t t15)], none, none⟩])
 (xCond (.t t16)
 (xSeq (xOps [⟨(some t17), oMov (.t t5), none, none⟩,
   ⟨(some t4), oMov (.t t17), none, none⟩])
 xRet)
 xSkip))))
 (xOps [⟨(some t18), oBin (int2 addO) (.t t8) (.v (.int .i64 1)), none, none⟩,
   ⟨(some t8), oMov (.t t18), none, none⟩])))))))
 (xSeq (xOps [⟨(some t4), oMov (.v (.int .i64 (-1))), none, none⟩])
 xRet)))⟩
theorem ok125 : cFunc Tryz.prog gl ex Tryz.f125 = some c125 := by kernel_rfl
/-- publican/mean.Op -/
def c126 : AFunc := ⟨188, [.cell t6 (some 3), .tmp t7],
 (xSeq (xOps [⟨(some t4), oBox (.t t1), none, none⟩,
   ⟨(some t5), oBox (.t t2), none, none⟩,
   ⟨(some t6), oNew [(.int .i64 0), (.int .i64 0), (.slice none 0 0)], none, none⟩,
   ⟨(some t7), oMov (.v (.int .i64 0)), none, none⟩])
 (xSeq (xSeq (xOps [⟨(some t13), oMov (.t t0), none, none⟩,
   ⟨(some t14), oBin (str2 (cmpS eqBytes)) (.t t13) (.v (.string ⟨⟨[110, 101, 103]⟩⟩)), none, none⟩,
   ⟨(some t15), oMov (.t t14), none, none⟩,
   ⟨(some t16), oMov (.t t0), (some (t15, false)), none⟩,
   ⟨(some t17), oBin (str2 (cmpS eqBytes)) (.t t16) (.v (.string ⟨⟨[110, 111, 116]⟩⟩)), (some (t15, false)), none⟩,
   ⟨(some t18), oPick (.t t15) (.v (.bool true)) (.t t17), none, none⟩])
 (xCond (.t t18)
 (xSeq (xOps [⟨(some t19), oMov (.t t0), none, none⟩,
   ⟨(some t20), oLoadN 3 (.t t4), none, none⟩,
   ⟨(some t21), oCall 147 [(.t t19), (.t t20)], none, none⟩,
   ⟨(some t22), oExtract (.t t21) 0, none, none⟩,
   ⟨(some t23), oExtract (.t t21) 1, none, none⟩,
   ⟨none, oStore 3 (.t t6) (.t t22), none, none⟩,
   ⟨(some t7), oMov (.t t23), none, none⟩])
 xRet)
 xSkip))
 (xSeq (xOps [⟨(some t24), oMov (.t t0), none, none⟩,
   ⟨(some t25), oFieldAddr 0 (.t t4), none, none⟩,
   ⟨(some t26), oLoad1 (.t t25), none, (some (.t t25))⟩,
   ⟨(some t27), oFieldAddr 0 (.t t5), none, none⟩,
   ⟨(some t28), oLoad1 (.t t27), none, (some (.t t27))⟩,
   ⟨(some t29), oCall 148 [(.t t24), (.t t26), (.t t28)], none, none⟩,
   ⟨(some t8), oMov (.t t29), none, none⟩])
 (xSeq (xSeq (xOps [⟨(some t30), oMov (.t t8), none, none⟩,
   ⟨(some t31), oBin (int2 (cmpO eqI)) (.t t30) (.v (.int .i64 0)), none, none⟩])
 (xCond (.t t31)
 (xSeq (xOps [⟨(some t32), oBuild [(.int .i64 0), (.int .i64 0), (.slice none 0 0)] [], none, none⟩,
   ⟨none, oStore 3 (.t t6) (.t t32), none, none⟩,
   ⟨(some t7), oMov (.v (.int .i64 8)), none, none⟩])
 xRet)
 xSkip))
 (xSeq (xSeq (xOps [⟨(some t33), oMov (.t t0), none, none⟩])
 (xBlock 0 (xSeq (xOps [⟨(some t35), oBin (str2 (cmpS eqBytes)) (.t t33) (.v (.string ⟨⟨[43]⟩⟩)), none, none⟩,
   ⟨(some t34), oMov (.t t35), none, none⟩])
 (xCond (.t t34)
 (xSeq (xOps [⟨(some t37), oFieldAddr 1 (.t t4), none, none⟩,
   ⟨(some t38), oLoad1 (.t t37), none, (some (.t t37))⟩,
   ⟨(some t39), oFieldAddr 1 (.t t5), none, none⟩,
   ⟨(some t40), oLoad1 (.t t39), none, (some (.t t39))⟩,
   ⟨(some t41), oCall 149 [(.t t38), (.t t40)], none, none⟩,
   ⟨(some t36), oMov (.t t41), none, none⟩,
   ⟨(some t42), oExtract (.t t36) 0, none, none⟩,
   ⟨(some t43), oExtract (.t t36) 1, none, none⟩,
   ⟨(some t9), oMov (.t t42), none, none⟩,
   ⟨(some t10), oMov (.t t43), none, none⟩])
 (xSeq (xOps [⟨(some t44), oMov (.t t8), none, none⟩,
   ⟨(some t45), oMov (.t t9), none, none⟩,
   ⟨(some t46), oMov (.t t10), none, none⟩,
   ⟨(some t47), oCall 150 [(.t t44), (.t t45), (.t t46)], none, none⟩,
   ⟨(some t48), oExtract (.t t47) 0, none, none⟩,
   ⟨(some t49), oExtract (.t t47) 1, none, none⟩,
   ⟨none, oStore 3 (.t t6) (.t t48), none, none⟩,
   ⟨(some t7), oMov (.t t49), none, none⟩])
 xRet))
 (xSeq (xOps [⟨(some t51), oBin (str2 (cmpS eqBytes)) (.t t33) (.v (.string ⟨⟨[45]⟩⟩)), none, none⟩,
   ⟨(some t50), oMov (.t t51), none, none⟩])
 (xCond (.t t50)
 (xSeq (xOps [⟨(some t53), oFieldAddr 1 (.t t4), none, none⟩,
   ⟨(some t54), oLoad1 (.t t53), none, (some (.t t53))⟩,
   ⟨(some t55), oFieldAddr 1 (.t t5), none, none⟩,
   ⟨(some t56), oLoad1 (.t t55), none, (some (.t t55))⟩,
   ⟨(some t57), oCall 151 [(.t t54), (.t t56)], none, none⟩,
   ⟨(some t52), oMov (.t t57), none, none⟩,
   ⟨(some t58), oExtract (.t t52) 0, none, none⟩,
   ⟨(some t59), oExtract (.t t52) 1, none, none⟩,
   ⟨(some t11), oMov (.t t58), none, none⟩,
   ⟨(some t12), oMov (.t t59), none, none⟩])
 (xSeq (xOps [⟨(some t60), oMov (.t t8), none, none⟩,
   ⟨(some t61), oMov (.t t11), none, none⟩,
   ⟨(some t62), oMov (.t t12), none, none⟩,
   ⟨(some t63), oCall 150 [(.t t60), (.t t61), (.t t62)], none, none⟩,
   ⟨(some t64), oExtract (.t t63) 0, none, none⟩,
   ⟨(some t65), oExtract (.t t63) 1, none, none⟩,
   ⟨none, oStore 3 (.t t6) (.t t64), none, none⟩,
   ⟨(some t7), oMov (.t t65), none, none⟩])
 xRet))
 (xSeq (xOps [⟨(some t67), oBin (str2 (cmpS eqBytes)) (.t t33) (.v (.string ⟨⟨[42]⟩⟩)), none, none⟩,
   ⟨(some t66), oMov (.t t67), none, none⟩])
 (xCond (.t t66)
 (xSeq (xOps [⟨(some t68), oMov (.t t8), none, none⟩,
   ⟨(some t69), oLoadN 3 (.t t4), none, none⟩,
   ⟨(some t70), oLoadN 3 (.t t5), none, none⟩,
   ⟨(some t71), oCall 152 [(.t t68), (.t t69), (.t t70)], none, none⟩,
   ⟨(some t72), oExtract (.t t71) 0, none, none⟩,
   ⟨(some t73), oExtract (.t t71) 1, none, none⟩,
   ⟨none, oStore 3 (.t t6) (.t t72), none, none⟩,
   ⟨(some t7), oMov (.t t73), none, none⟩])
 xRet)
 (xSeq (xOps [⟨(some t75), oBin (str2 (cmpS eqBytes)) (.t t33) (.v (.string ⟨⟨[47]⟩⟩)), none, none⟩,
   ⟨(some t74), oMov (.t t75), none, none⟩])
 (xCond (.t t74)
 (xSeq (xOps [⟨(some t76), oMov (.t t8), none, none⟩,
   ⟨(some t77), oLoadN 3 (.t t4), none, none⟩,
   ⟨(some t78), oLoadN 3 (.t t5), none, none⟩,
   ⟨(some t79), oCall 153 [(.t t76), (.t t77), (.t t78)], none, none⟩,
   ⟨(some t80), oExtract (.t t79) 0, none, none⟩,
   ⟨(some t81), oExtract (.t t79) 1, none, none⟩,
   ⟨none, oStore 3 (.t t6) (.t t80), none, none⟩,
   ⟨(some t7), oMov (.t t81), none, none⟩])
 xRet)
 (xSeq (xOps [⟨(some t83), oBin (str2 (cmpS eqBytes)) (.t t33) (.v (.string ⟨⟨[109, 105, 110]⟩⟩)), none, none⟩,
   ⟨(some t82), oMov (.t t83), none, none⟩])
 (xCond (.t t82)
 (xSeq (xOps [⟨(some t84), oMov (.t t8), none, none⟩,
   ⟨(some t85), oFieldAddr 1 (.t t4), none, none⟩,
   ⟨(some t86), oLoad1 (.t t85), none, (some (.t t85))⟩,
   ⟨(some t87), oFieldAddr 1 (.t t5), none, none⟩,
   ⟨(some t88), oLoad1 (.t t87), none, (some (.t t87))⟩,
   ⟨(some t89), oMM false (.t t86) [(.t t88)], none, none⟩,
   ⟨(some t90), oCall 150 [(.t t84), (.t t89), (.v (.bool true))], none, none⟩,
   ⟨(some t91), oExtract (.t t90) 0, none, none⟩,
   ⟨(some t92), oExtract (.t t90) 1, none, none⟩,
   ⟨none, oStore 3 (.t t6) (.t t91), none, none⟩,
   ⟨(some t7), oMov (.t t92), none, none⟩])
 xRet)
 (xSeq (xOps [⟨(some t94), oBin (str2 (cmpS eqBytes)) (.t t33) (.v (.string ⟨⟨[109, 97, 120]⟩⟩)), none, none⟩,
   ⟨(some t93), oMov (.t t94), none, none⟩])
 (xCond (.t t93)
 (xSeq (xOps [⟨(some t95), oMov (.t t8), none, none⟩,
   ⟨(some t96), oFieldAddr 1 (.t t4), none, none⟩,
   ⟨(some t97), oLoad1 (.t t96), none, (some (.t t96))⟩,
   ⟨(some t98), oFieldAddr 1 (.t t5), none, none⟩,
   ⟨(some t99), oLoad1 (.t t98), none, (some (.t t98))⟩,
   ⟨(some t100), oMM true (.t t97) [(.t t99)], none, none⟩,
   ⟨(some t101), oCall 150 [(.t t95), (.t t100), (.v (.bool true))], none, none⟩,
   ⟨(some t102), oExtract (.t t101) 0, none, none⟩,
   ⟨(some t103), oExtract (.t t101) 1, none, none⟩,
   ⟨none, oStore 3 (.t t6) (.t t102), none, none⟩,
   ⟨(some t7), oMov (.t t103), none, none⟩])
 xRet)
 (xSeq (xOps [⟨(some t105), oBin (str2 (cmpS eqBytes)) (.t t33) (.v (.string ⟨⟨[60]⟩⟩)), none, none⟩,
   ⟨(some t104), oMov (.t t105), none, none⟩])
 (xCond (.t t104)
 (xSeq (xOps [⟨(some t106), oFieldAddr 1 (.t t4), none, none⟩,
   ⟨(some t107), oLoad1 (.t t106), none, (some (.t t106))⟩,
   ⟨(some t108), oFieldAddr 1 (.t t5), none, none⟩,
   ⟨(some t109), oLoad1 (.t t108), none, (some (.t t108))⟩,
   ⟨(some t110), oBin (int2 (cmpO ltI)) (.t t107) (.t t109), none, none⟩,
   ⟨(some t111), oCall 154 [(.t t110)], none, none⟩,
   ⟨(some t112), oExtract (.t t111) 0, none, none⟩,
   ⟨(some t113), oExtract (.t t111) 1, none, none⟩,
   ⟨none, oStore 3 (.t t6) (.t t112), none, none⟩,
   ⟨(some t7), oMov (.t t113), none, none⟩])
 xRet)
 (xSeq (xOps [⟨(some t115), oBin (str2 (cmpS eqBytes)) (.t t33) (.v (.string ⟨⟨[60, 61]⟩⟩)), none, none⟩,
   ⟨(some t114), oMov (.t t115), none, none⟩])
 (xCond (.t t114)
 (xSeq (xOps [⟨(some t116), oFieldAddr 1 (.t t4), none, none⟩,
   ⟨(some t117), oLoad1 (.t t116), none, (some (.t t116))⟩,
   ⟨(some t118), oFieldAddr 1 (.t t5), none, none⟩,
   ⟨(some t119), oLoad1 (.t t118), none, (some (.t t118))⟩,
   ⟨(some t120), oBin (int2 (cmpO leI)) (.t t117) (.t t119), none, none⟩,
   ⟨(some t121), oCall 154 [(.t t120)], none, none⟩,
   ⟨(some t122), oExtract (.t t121) 0, none, none⟩,
   ⟨(some t123), oExtract (.t t121) 1, none, none⟩,
   ⟨none, oStore 3 (.t t6) (.t t122), none, none⟩,
   ⟨(some t7), oMov (.t t123), none, none⟩])
 xRet)
 (xSeq (xOps [⟨(some t125), oBin (str2 (cmpS eqBytes)) (.t t33) (.v (.string ⟨⟨[62]⟩⟩)), none, none⟩,
   ⟨(some t124), oMov (.t t125), none, none⟩])
 (xCond (.t t124)
 (xSeq (xOps [⟨(some t126), oFieldAddr 1 (.t t4), none, none⟩,
   ⟨(some t127), oLoad1 (.t t126), none, (some (.t t126))⟩,
   ⟨(some t128), oFieldAddr 1 (.t t5), none, none⟩,
   ⟨(some t129), oLoad1 (.t t128), none, (some (.t t128))⟩,
   ⟨(some t130), oBin (int2 (cmpO gtI)) (.t t127) (.t t129), none, none⟩,
   ⟨(some t131), oCall 154 [(.t t130)], none, none⟩,
   ⟨(some t132), oExtract (.t t131) 0, none, none⟩,
   ⟨(some t133), oExtract (.t t131) 1, none, none⟩,
   ⟨none, oStore 3 (.t t6) (.t t132), none, none⟩,
   ⟨(some t7), oMov (.t t133), none, none⟩])
 xRet)
 (xSeq (xOps [⟨(some t135), oBin (str2 (cmpS eqBytes)) (.t t33) (.v (.string ⟨⟨[62, 61]⟩⟩)), none, none⟩,
   ⟨(some t134), oMov (.t t135), none, none⟩])
 (xCond (.t t134)
 (xSeq (xOps [⟨(some t136), oFieldAddr 1 (.t t4), none, none⟩,
   ⟨(some t137), oLoad1 (.t t136), none, (some (.t t136))⟩,
   ⟨(some t138), oFieldAddr 1 (.t t5), none, none⟩,
   ⟨(some t139), oLoad1 (.t t138), none, (some (.t t138))⟩,
   ⟨(some t140), oBin (int2 (cmpO geI)) (.t t137) (.t t139), none, none⟩,
   ⟨(some t141), oCall 154 [(.t t140)], none, none⟩,
   ⟨(some t142), oExtract (.t t141) 0, none, none⟩,
   ⟨(some t143), oExtract (.t t141) 1, none, none⟩,
   ⟨none, oStore 3 (.t t6) (.t t142), none, none⟩,
   ⟨(some t7), oMov (.t t143), none, none⟩])
 xRet)
 (xSeq (xOps [⟨(some t145), oBin (str2 (cmpS eqBytes)) (.t t33) (.v (.string ⟨⟨[61, 61]⟩⟩)), none, none⟩,
   ⟨(some t144), oMov (.t t145), none, none⟩])
 (xCond (.t t144)
 (xSeq (xOps [⟨(some t146), oFieldAddr 1 (.t t4), none, none⟩,
   ⟨(some t147), oLoad1 (.t t146), none, (some (.t t146))⟩,
   ⟨(some t148), oFieldAddr 1 (.t t5), none, none⟩,
   ⟨(some t149), oLoad1 (.t t148), none, (some (.t t148))⟩,
   ⟨(some t150), oBin (int2 (cmpO eqI)) (.t t147) (.t t149), none, none⟩,
   ⟨(some t151), oCall 154 [(.t t150)], none, none⟩,
   ⟨(some t152), oExtract (.t t151) 0, none, none⟩,
   ⟨(some t153), oExtract (.t t151) 1, none, none⟩,
   ⟨none, oStore 3 (.t t6) (.t t152), none, none⟩,
   ⟨(some t7), oMov (.t t153), none, none⟩])
 xRet)
 (xSeq (xOps [⟨(some t155), oBin (str2 (cmpS eqBytes)) (.t t33) (.v (.string ⟨⟨[33, 61]⟩⟩)), none, none⟩,
   ⟨(some t154), oMov (.t t155), none, none⟩])
 (xCond (.t t154)
 (xSeq (xOps [⟨(some t156), oFieldAddr 1 (.t t4), none, none⟩,
   ⟨(some t157), oLoad1 (.t t156), none, (some (.t t156))⟩,
   ⟨(some t158), oFieldAddr 1 (.t t5), none, none⟩,
   ⟨(some t159), oLoad1 (.t t158), none, (some (.t t158))⟩,
   ⟨(some t160), oBin (int2 (cmpO neI)) (.t t157) (.t t159), none, none⟩,
   ⟨(some t161), oCall 154 [(.t t160)], none, none⟩,
   ⟨(some t162), oExtract (.t t161) 0, none, none⟩,
   ⟨(some t163), oExtract (.t t161) 1, none, none⟩,
   ⟨none, oStore 3 (.t t6) (.t t162), none, none⟩,
   ⟨(some t7), oMov (.t t163), none, none⟩])
 xRet)
 (xSeq (xOps [⟨(some t165), oBin (str2 (cmpS eqBytes)) (.t t33) (.v (.string ⟨⟨[97, 110, 100]⟩⟩)), none, none⟩,
   ⟨(some t164), oMov (.t t165), none, none⟩])
 (xCond (.t t164)
 (xSeq (xOps [⟨(some t166), oFieldAddr 1 (.t t4), none, none⟩,
   ⟨(some t167), oLoad1 (.t t166), none, (some (.t t166))⟩,
   ⟨(some t168), oBin (int2 (cmpO neI)) (.t t167) (.v (.int .i64 0)), none, none⟩,
   ⟨(some t169), oMov (.t t168), none, none⟩,
   ⟨(some t170), oFieldAddr 1 (.t t5), (some (t169, true)), none⟩,
   ⟨(some t171), oLoad1 (.t t170), (some (t169, true)), (some (.t t170))⟩,
   ⟨(some t172), oBin (int2 (cmpO neI)) (.t t171) (.v (.int .i64 0)), (some (t169, true)), none⟩,
   ⟨(some t173), oPick (.t t169) (.t t172) (.v (.bool false)), none, none⟩,
   ⟨(some t174), oCall 154 [(.t t173)], none, none⟩,
   ⟨(some t175), oExtract (.t t174) 0, none, none⟩,
   ⟨(some t176), oExtract (.t t174) 1, none, none⟩,
   ⟨none, oStore 3 (.t t6) (.t t175), none, none⟩,
   ⟨(some t7), oMov (.t t176), none, none⟩])
 xRet)
 xSkip))))))))))))))))))))))))))))
 (xSeq (xOps [⟨(some t177), oFieldAddr 1 (.t t4), none, none⟩,
   ⟨(some t178), oLoad1 (.t t177), none, (some (.t t177))⟩,
   ⟨(some t179), oBin (int2 (cmpO neI)) (.t t178) (.v (.int .i64 0)), none, none⟩,
   ⟨(some t180), oMov (.t t179), none, none⟩,
   ⟨(some t181), oFieldAddr 1 (.t t5), (some (t180, false)), none⟩,
   ⟨(some t182), oLoad1 (.t t181), (some (t180, false)), (some (.t t181))⟩,
   ⟨(some t183), oBin (int2 (cmpO neI)) (.t t182) (.v (.int .i64 0)), (some (t180, false)), none⟩,
   ⟨(some t184), oPick (.t t180) (.v (.bool true)) (.t t183), none, none⟩,
   ⟨(some t185), oCall 154 [(.t t184)], none, none⟩,
   ⟨(some t186), oExtract (.t t185) 0, none, none⟩,
   ⟨(some t187), oExtract (.t t185) 1, none, none⟩,
   ⟨none, oStore 3 (.t t6) (.t t186), none, none⟩,
   ⟨(some t7), oMov (.t t187), none, none⟩])
 xRet))))))⟩
theorem ok126 : cFunc Tryz.prog gl ex Tryz.f126 = some c126 := by kernel_rfl
/-- sort.Search -/
def c127 : AFunc := ⟨26, [.tmp t4],
 (xSeq (xOps [⟨(some t4), oMov (.v (.int .i64 0)), none, none⟩])
 (xSeq (xOps [⟨(some t8), oMov (.t t0), none, none⟩,
   ⟨(some t5), oMov (.v (.int .i64 0)), none, none⟩,
   ⟨(some t6), oMov (.t t8), none, none⟩])
 (xSeq (xBlock 0 (xLoop (xSeq (xSeq (xOps [⟨(some t9), oMov (.t t5), none, none⟩,
   ⟨(some t10), oMov (.t t6), none, none⟩,
   ⟨(some t11), oBin (int2 (cmpO ltI)) (.t t9) (.t t10), none, none⟩])
 (xCond (.t t11)
 xSkip
 (xExit 0)))
 (xBlock 1 (xSeq (xOps [⟨(some t12), oMov (.t t5), none, none⟩,
   ⟨(some t13), oMov (.t t6), none, none⟩,
   ⟨(some t14), oBin (int2 addO) (.t t12) (.t t13), none, none⟩,
   ⟨(some t15), oConv .u64 (.t t14), none, none⟩,
   ⟨(some t16), oBin (sh2 shrO) (.t t15) (.v (.int .u64 1)), none, none⟩,
   ⟨(some t17), oConv .i64 (.t t16), none, none⟩,
   ⟨(some t7), oMov (.t t17), none, none⟩])
 (xSeq (xOps [⟨(some t18), oMov (.t t1), none, none⟩,
   ⟨(some t19), oMov (.t t7), none, none⟩,
   ⟨(some t20), oCallV (.t t18) [(.t t19)], none, none⟩,
   ⟨(some t21), oNot (.t t20), none, none⟩])
 (xCond (.t t21)
 (xOps [⟨(some t22), oMov (.t t7), none, none⟩,
   ⟨(some t23), oBin (int2 addO) (.t t22) (.v (.int .i64 1)), none, none⟩,
   ⟨(some t5), oMov (.t t23), none, none⟩])
 (xOps [⟨(some t24), oMov (.t t7), none, none⟩,
   ⟨(some t6), oMov (.t t24), none, none⟩]))))))))
 (xSeq (xOps [⟨(some t25), oMov (.t t5), none, none⟩,
   ⟨(some t4), oMov (.t t25), none, none⟩])
 xRet))))⟩
theorem ok127 : cFunc Tryz.prog gl ex Tryz.f127 = some c127 := by kernel_rfl
/-- publican/mach.look$1 -/
def c128 : AFunc := ⟨12, [.tmp t4],
 (xSeq (xOps [⟨(some t4), oMov (.v (.bool false)), none, none⟩])
 (xSeq (xReg [⟨(some t5), oFieldAddr 2 (.t t1), none, none⟩,
   ⟨(some t6), oLoad1 (.t t5), none, (some (.t t5))⟩,
   ⟨(some t7), oMov (.t t0), none, none⟩,
   ⟨(some t8), oIdxAddrL 1 (.t t6) (.t t7), none, none⟩,
   ⟨(some t9), oLoad1 (.t t8), none, (some (.t t8))⟩,
   ⟨(some t10), oLoad1 (.t t2), none, (some (.t t2))⟩,
   ⟨(some t11), oBin (int2 (cmpO geI)) (.t t9) (.t t10), none, none⟩,
   ⟨(some t4), oMov (.t t11), none, none⟩] [(0, 2), (1, 2), (0, 5), (1, 5), (2, 5), (3, 5), (4, 5)])
 xRet))⟩
theorem ok128 : cFunc Tryz.prog gl ex Tryz.f128 = some c128 := by kernel_rfl
/-- slices.Clone[[]byte,byte] -/
def c129 : AFunc := ⟨8, [.tmp t2],
 (xSeq (xOps [⟨(some t2), oMov (.v (.slice none 0 0)), none, none⟩])
 (xSeq (xSeq (xOps [⟨(some t3), oMov (.t t0), none, none⟩,
   ⟨(some t4), oEqv eqL false (.t t3) (.v (.slice none 0 0)), none, none⟩])
 (xCond (.t t4)
 (xSeq (xOps [⟨(some t2), oMov (.v (.slice none 0 0)), none, none⟩])
 xRet)
 xSkip))
 (xSeq (xOps [⟨(some t5), oBuildSlice 0 [] [], none, none⟩,
   ⟨(some t6), oMov (.t t0), none, none⟩,
   ⟨(some t7), oAppend 1 1 (.t t5) (.t t6), none, none⟩,
   ⟨(some t2), oMov (.t t7), none, none⟩])
 xRet)))⟩
theorem ok129 : cFunc Tryz.prog gl ex Tryz.f129 = some c129 := by kernel_rfl
/-- (*publican/pack.Reader).U -/
def c130 : AFunc := ⟨53, [.tmp t2],
 (xSeq (xOps [⟨(some t2), oMov (.v (.int .u64 0)), none, none⟩])
 (xSeq (xOps [⟨(some t3), oMov (.v (.int .u64 0)), none, none⟩])
 (xSeq (xSeq (xOps [⟨(some t6), oMov (.t t0), none, none⟩,
   ⟨(some t7), oNilCheck (.t t6), none, none⟩,
   ⟨(some t8), oFieldAddr 0 (.t t7), none, none⟩,
   ⟨(some t9), oLoad1 (.t t8), none, (some (.t t8))⟩,
   ⟨(some t10), oLenL (.t t9), none, none⟩,
   ⟨(some t11), oMov (.v (.int .i64 0)), none, none⟩])
 (xBlock 0 (xLoop (xSeq (xOps [⟨(some t12), oBin (int2 (cmpO ltI)) (.t t11) (.t t10), none, none⟩])
 (xSeq (xCond (.t t12)
 xSkip
 (xExit 0))
 (xSeq (xBlock 1 (xSeq (xOps [⟨(some t13), oMov (.t t11), none, none⟩,
   ⟨(some t14), oIdxAddrL 1 (.t t9) (.t t11), none, none⟩,
   ⟨(some t15), oLoad1 (.t t14), none, (some (.t t14))⟩,
   ⟨(some t4), oMov (.t t13), none, none⟩,
   ⟨(some t5), oMov (.t t15), none, none⟩])
 (xSeq (xSeq (xOps [⟨(some t16), oMov (.t t4), none, none⟩,
   ⟨(some t17), oBin (int2 (cmpO eqI)) (.t t16) (.v (.int .i64 9)), none, none⟩,
   ⟨(some t18), oMov (.t t17), none, none⟩,
   ⟨(some t19), oMov (.t t5), (some (t18, true)), none⟩,
   ⟨(some t20), oBin (int2 (cmpO gtI)) (.t t19) (.v (.int .u8 1)), (some (t18, true)), none⟩,
   ⟨(some t21), oPick (.t t18) (.t t20) (.v (.bool false)), none, none⟩])
 (xCond (.t t21)
 (xExit 0)
 xSkip))
 (xSeq (xOps [⟨(some t22), oMov (.t t3), none, none⟩,
   ⟨(some t23), oMov (.t t5), none, none⟩,
   ⟨(some t24), oBin (int2 andO) (.t t23) (.v (.int .u8 127)), none, none⟩,
   ⟨(some t25), oConv .u64 (.t t24), none, none⟩,
   ⟨(some t26), oMov (.t t4), none, none⟩,
   ⟨(some t27), oConv .u64 (.t t26), none, none⟩,
   ⟨(some t28), oBin (int2 mulO) (.v (.int .u64 7)) (.t t27), none, none⟩,
   ⟨(some t29), oBin (sh2 shlO) (.t t25) (.t t28), none, none⟩,
   ⟨(some t30), oBin (int2 orO) (.t t22) (.t t29), none, none⟩,
   ⟨(some t3), oMov (.t t30), none, none⟩])
 (xSeq (xSeq (xOps [⟨(some t31), oMov (.t t5), none, none⟩,
   ⟨(some t32), oBin (int2 (cmpO geI)) (.t t31) (.v (.int .u8 128)), none, none⟩])
 (xCond (.t t32)
 (xExit 1)
 xSkip))
 (xSeq (xSeq (xOps [⟨(some t33), oMov (.t t5), none, none⟩,
   ⟨(some t34), oBin (int2 (cmpO eqI)) (.t t33) (.v (.int .u8 0)), none, none⟩,
   ⟨(some t35), oMov (.t t34), none, none⟩,
   ⟨(some t36), oMov (.t t4), (some (t35, true)), none⟩,
   ⟨(some t37), oBin (int2 (cmpO gtI)) (.t t36) (.v (.int .i64 0)), (some (t35, true)), none⟩,
   ⟨(some t38), oPick (.t t35) (.t t37) (.v (.bool false)), none, none⟩])
 (xCond (.t t38)
 (xExit 0)
 xSkip))
 (xSeq (xOps [⟨(some t39), oMov (.t t0), none, none⟩,
   ⟨(some t40), oMov (.t t0), none, none⟩,
   ⟨(some t41), oNilCheck (.t t40), none, none⟩,
   ⟨(some t42), oFieldAddr 0 (.t t41), none, none⟩,
   ⟨(some t43), oLoad1 (.t t42), none, (some (.t t42))⟩,
   ⟨(some t44), oMov (.t t4), none, none⟩,
   ⟨(some t45), oBin (int2 addO) (.t t44) (.v (.int .i64 1)), none, none⟩,
   ⟨(some t46), oSliceL 1 (.t t43) (some (.t t45)) none none, none, none⟩,
   ⟨(some t47), oNilCheck (.t t39), none, none⟩,
   ⟨(some t48), oFieldAddr 0 (.t t47), none, none⟩,
   ⟨none, oStore 1 (.t t48) (.t t46), none, none⟩])
 (xSeq (xOps [⟨(some t49), oMov (.t t3), none, none⟩,
   ⟨(some t2), oMov (.t t49), none, none⟩])
 xRet))))))))
 (xOps [⟨(some t50), oBin (int2 addO) (.t t11) (.v (.int .i64 1)), none, none⟩,
   ⟨(some t11), oMov (.t t50), none, none⟩])))))))
 (xSeq (xOps [⟨(some t51), oMov (.t t0), none, none⟩,
   ⟨(some t52), oCall 131 [(.t t51)], none, none⟩])
 (xSeq (xOps [⟨(some t2), oMov (.v (.int .u64 0)), none, none⟩])
 xRet)))))⟩
theorem ok130 : cFunc Tryz.prog gl ex Tryz.f130 = some c130 := by kernel_rfl
/-- (*publican/pack.Reader).spoil -/
def c131 : AFunc := ⟨8, [],
 (xOps [⟨(some t2), oMov (.t t0), none, none⟩,
   ⟨(some t3), oMov (.t t0), none, none⟩,
   ⟨(some t4), oNilCheck (.t t2), none, none⟩,
   ⟨(some t5), oFieldAddr 0 (.t t4), none, none⟩,
   ⟨none, oStore 1 (.t t5) (.v (.slice none 0 0)), none, none⟩,
   ⟨(some t6), oNilCheck (.t t3), none, none⟩,
   ⟨(some t7), oFieldAddr 1 (.t t6), none, none⟩,
   ⟨none, oStore 1 (.t t7) (.v (.bool true)), none, none⟩])⟩
theorem ok131 : cFunc Tryz.prog gl ex Tryz.f131 = some c131 := by kernel_rfl
/-- slices.ContainsFunc[[]publican/api.Kind,publican/api.Kind] -/
def c138 : AFunc := ⟨9, [.tmp t4],
 (xSeq (xOps [⟨(some t4), oMov (.v (.bool false)), none, none⟩])
 (xSeq (xOps [⟨(some t5), oMov (.t t0), none, none⟩,
   ⟨(some t6), oMov (.t t1), none, none⟩,
   ⟨(some t7), oCall 156 [(.t t5), (.t t6)], none, none⟩,
   ⟨(some t8), oBin (int2 (cmpO geI)) (.t t7) (.v (.int .i64 0)), none, none⟩,
   ⟨(some t4), oMov (.t t8), none, none⟩])
 xRet))⟩
theorem ok138 : cFunc Tryz.prog gl ex Tryz.f138 = some c138 := by kernel_rfl
/-- publican/verify.allKinds$1 -/
def c139 : AFunc := ⟨8, [.tmp t3],
 (xSeq (xOps [⟨(some t3), oMov (.v (.bool false)), none, none⟩])
 (xSeq (xOps [⟨(some t4), oMov (.t t0), none, none⟩,
   ⟨(some t5), oLoad1 (.t t1), none, (some (.t t1))⟩,
   ⟨(some t6), oCall 106 [(.t t4), (.v (.int .i64 1)), (.t t5)], none, none⟩,
   ⟨(some t7), oNot (.t t6), none, none⟩,
   ⟨(some t3), oMov (.t t7), none, none⟩])
 xRet))⟩
theorem ok139 : cFunc Tryz.prog gl ex Tryz.f139 = some c139 := by kernel_rfl
/-- slices.IndexFunc[[]publican/api.Value,publican/api.Value] -/
def c140 : AFunc := ⟨19, [.tmp t4],
 (xSeq (xOps [⟨(some t4), oMov (.v (.int .i64 0)), none, none⟩])
 (xSeq (xSeq (xOps [⟨(some t6), oMov (.t t0), none, none⟩,
   ⟨(some t7), oLenL (.t t6), none, none⟩,
   ⟨(some t8), oMov (.v (.int .i64 0)), none, none⟩])
 (xBlock 0 (xLoop (xSeq (xOps [⟨(some t9), oBin (int2 (cmpO ltI)) (.t t8) (.t t7), none, none⟩])
 (xSeq (xCond (.t t9)
 xSkip
 (xExit 0))
 (xSeq (xBlock 1 (xSeq (xOps [⟨(some t10), oMov (.t t8), none, none⟩,
   ⟨(some t5), oMov (.t t10), none, none⟩])
 (xSeq (xOps [⟨(some t11), oMov (.t t1), none, none⟩,
   ⟨(some t12), oMov (.t t0), none, none⟩,
   ⟨(some t13), oMov (.t t5), none, none⟩,
   ⟨(some t14), oIdxAddrL 3 (.t t12) (.t t13), none, none⟩,
   ⟨(some t15), oLoadN 3 (.t t14), none, none⟩,
   ⟨(some t16), oCallV (.t t11) [(.t t15)], none, none⟩])
 (xCond (.t t16)
 (xSeq (xOps [⟨(some t17), oMov (.t t5), none, none⟩,
   ⟨(some t4), oMov (.t t17), none, none⟩])
 xRet)
 xSkip))))
 (xOps [⟨(some t18), oBin (int2 addO) (.t t8) (.v (.int .i64 1)), none, none⟩,
   ⟨(some t8), oMov (.t t18), none, none⟩])))))))
 (xSeq (xOps [⟨(some t4), oMov (.v (.int .i64 (-1))), none, none⟩])
 xRet)))⟩
theorem ok140 : cFunc Tryz.prog gl ex Tryz.f140 = some c140 := by kernel_rfl
/-- slices.IndexFunc[[]publican/code.Table,publican/code.Table] -/
def c141 : AFunc := ⟨19, [.tmp t4],
 (xSeq (xOps [⟨(some t4), oMov (.v (.int .i64 0)), none, none⟩])
 (xSeq (xSeq (xOps [⟨(some t6), oMov (.t t0), none, none⟩,
   ⟨(some t7), oLenL (.t t6), none, none⟩,
   ⟨(some t8), oMov (.v (.int .i64 0)), none, none⟩])
 (xBlock 0 (xLoop (xSeq (xOps [⟨(some t9), oBin (int2 (cmpO ltI)) (.t t8) (.t t7), none, none⟩])
 (xSeq (xCond (.t t9)
 xSkip
 (xExit 0))
 (xSeq (xBlock 1 (xSeq (xOps [⟨(some t10), oMov (.t t8), none, none⟩,
   ⟨(some t5), oMov (.t t10), none, none⟩])
 (xSeq (xOps [⟨(some t11), oMov (.t t1), none, none⟩,
   ⟨(some t12), oMov (.t t0), none, none⟩,
   ⟨(some t13), oMov (.t t5), none, none⟩,
   ⟨(some t14), oIdxAddrL 4 (.t t12) (.t t13), none, none⟩,
   ⟨(some t15), oLoadN 4 (.t t14), none, none⟩,
   ⟨(some t16), oCallV (.t t11) [(.t t15)], none, none⟩])
 (xCond (.t t16)
 (xSeq (xOps [⟨(some t17), oMov (.t t5), none, none⟩,
   ⟨(some t4), oMov (.t t17), none, none⟩])
 xRet)
 xSkip))))
 (xOps [⟨(some t18), oBin (int2 addO) (.t t8) (.v (.int .i64 1)), none, none⟩,
   ⟨(some t8), oMov (.t t18), none, none⟩])))))))
 (xSeq (xOps [⟨(some t4), oMov (.v (.int .i64 (-1))), none, none⟩])
 xRet)))⟩
theorem ok141 : cFunc Tryz.prog gl ex Tryz.f141 = some c141 := by kernel_rfl
/-- publican/verify.table$1 -/
def c142 : AFunc := ⟨9, [.tmp t3],
 (xSeq (xOps [⟨(some t3), oMov (.v (.bool false)), none, none⟩])
 (xSeq (xOps [⟨(some t4), oFieldAddr 1 (.t t1), none, none⟩,
   ⟨(some t5), oLoad1 (.t t4), none, (some (.t t4))⟩,
   ⟨(some t6), oMov (.t t0), none, none⟩,
   ⟨(some t7), oCall 61 [(.t t5), (.t t6)], none, none⟩,
   ⟨(some t8), oNot (.t t7), none, none⟩,
   ⟨(some t3), oMov (.t t8), none, none⟩])
 xRet))⟩
theorem ok142 : cFunc Tryz.prog gl ex Tryz.f142 = some c142 := by kernel_rfl
/-- publican/verify.pop -/
def c143 : AFunc := ⟨26, [.tmp t4, .tmp t5],
 (xSeq (xOps [⟨(some t4), oMov (.v (.slice none 0 0)), none, none⟩,
   ⟨(some t5), oMov (.v (.bool false)), none, none⟩])
 (xSeq (xOps [⟨(some t7), oMov (.t t0), none, none⟩,
   ⟨(some t8), oLenL (.t t7), none, none⟩,
   ⟨(some t9), oMov (.t t1), none, none⟩,
   ⟨(some t10), oLenL (.t t9), none, none⟩,
   ⟨(some t11), oBin (int2 subO) (.t t8) (.t t10), none, none⟩,
   ⟨(some t6), oMov (.t t11), none, none⟩])
 (xSeq (xSeq (xOps [⟨(some t12), oMov (.t t6), none, none⟩,
   ⟨(some t13), oBin (int2 (cmpO ltI)) (.t t12) (.v (.int .i64 0)), none, none⟩,
   ⟨(some t14), oMov (.t t13), none, none⟩,
   ⟨(some t15), oMov (.t t0), (some (t14, false)), none⟩,
   ⟨(some t16), oMov (.t t6), (some (t14, false)), none⟩,
   ⟨(some t17), oSliceL 1 (.t t15) (some (.t t16)) none none, (some (t14, false)), none⟩,
   ⟨(some t18), oMov (.t t1), (some (t14, false)), none⟩,
   ⟨(some t19), oCall 122 [(.t t17), (.t t18)], (some (t14, false)), none⟩,
   ⟨(some t20), oNot (.t t19), (some (t14, false)), none⟩,
   ⟨(some t21), oPick (.t t14) (.v (.bool true)) (.t t20), none, none⟩])
 (xCond (.t t21)
 (xSeq (xOps [⟨(some t4), oMov (.v (.slice none 0 0)), none, none⟩,
   ⟨(some t5), oMov (.v (.bool false)), none, none⟩])
 xRet)
 xSkip))
 (xSeq (xOps [⟨(some t22), oMov (.t t0), none, none⟩,
   ⟨(some t23), oMov (.t t6), none, none⟩,
   ⟨(some t24), oMov (.t t6), none, none⟩,
   ⟨(some t25), oSliceL 1 (.t t22) none (some (.t t23)) (some (.t t24)), none, none⟩,
   ⟨(some t4), oMov (.t t25), none, none⟩,
   ⟨(some t5), oMov (.v (.bool true)), none, none⟩])
 xRet))))⟩
theorem ok143 : cFunc Tryz.prog gl ex Tryz.f143 = some c143 := by kernel_rfl
/-- publican/verify.reckons -/
def c144 : AFunc := ⟨42, [.tmp t6, .tmp t7],
 (xSeq (xOps [⟨(some t6), oMov (.v (.slice none 0 0)), none, none⟩,
   ⟨(some t7), oMov (.v (.bool false)), none, none⟩])
 (xSeq (xSeq (xOps [⟨(some t11), oMov (.t t2), none, none⟩,
   ⟨(some t12), oLenL (.t t11), none, none⟩,
   ⟨(some t13), oBin (int2 (cmpO ltI)) (.t t12) (.v (.int .i64 2)), none, none⟩])
 (xCond (.t t13)
 (xSeq (xOps [⟨(some t6), oMov (.v (.slice none 0 0)), none, none⟩,
   ⟨(some t7), oMov (.v (.bool false)), none, none⟩])
 xRet)
 xSkip))
 (xSeq (xReg [⟨(some t14), oMov (.t t2), none, none⟩,
   ⟨(some t15), oMov (.t t2), none, none⟩,
   ⟨(some t16), oLenL (.t t15), none, none⟩,
   ⟨(some t17), oBin (int2 subO) (.t t16) (.v (.int .i64 2)), none, none⟩,
   ⟨(some t18), oIdxAddrL 1 (.t t14) (.t t17), none, none⟩,
   ⟨(some t19), oLoad1 (.t t18), none, (some (.t t18))⟩,
   ⟨(some t20), oMov (.t t2), none, none⟩,
   ⟨(some t21), oMov (.t t2), none, none⟩,
   ⟨(some t22), oLenL (.t t21), none, none⟩,
   ⟨(some t23), oBin (int2 subO) (.t t22) (.v (.int .i64 1)), none, none⟩,
   ⟨(some t24), oIdxAddrL 1 (.t t20) (.t t23), none, none⟩,
   ⟨(some t25), oLoad1 (.t t24), none, (some (.t t24))⟩,
   ⟨(some t8), oMov (.t t19), none, none⟩,
   ⟨(some t9), oMov (.t t25), none, none⟩] [(0, 1), (0, 2), (0, 3), (0, 6), (1, 6), (2, 6), (3, 6), (4, 6), (5, 6), (0, 7), (1, 7), (2, 7), (3, 7), (4, 7), (5, 7), (6, 7), (0, 8), (1, 8), (2, 8), (3, 8), (4, 8), (5, 8), (6, 8), (0, 9), (1, 9), (2, 9), (3, 9), (4, 9), (5, 9), (6, 9), (0, 10), (1, 10), (2, 10), (3, 10), (4, 10), (5, 10), (0, 11), (1, 11), (2, 11), (3, 11), (4, 11), (5, 11), (6, 12), (7, 12), (8, 12), (9, 12), (10, 12), (11, 12)])
 (xSeq (xSeq (xOps [⟨(some t26), oMov (.t t0), none, none⟩,
   ⟨(some t27), oMov (.t t1), none, none⟩,
   ⟨(some t28), oMov (.t t8), none, none⟩,
   ⟨(some t29), oMov (.t t9), none, none⟩,
   ⟨(some t30), oCall 157 [(.t t26), (.t t27), (.t t28), (.t t29)], none, none⟩,
   ⟨(some t31), oNot (.t t30), none, none⟩])
 (xCond (.t t31)
 (xSeq (xOps [⟨(some t6), oMov (.v (.slice none 0 0)), none, none⟩,
   ⟨(some t7), oMov (.v (.bool false)), none, none⟩])
 xRet)
 xSkip))
 (xSeq (xOps [⟨(some t32), oMov (.t t2), none, none⟩,
   ⟨(some t33), oLenL (.t t32), none, none⟩,
   ⟨(some t34), oBin (int2 subO) (.t t33) (.v (.int .i64 2)), none, none⟩,
   ⟨(some t10), oMov (.t t34), none, none⟩])
 (xSeq (xOps [⟨(some t35), oMov (.t t2), none, none⟩,
   ⟨(some t36), oMov (.t t10), none, none⟩,
   ⟨(some t37), oMov (.t t10), none, none⟩,
   ⟨(some t38), oSliceL 1 (.t t35) none (some (.t t36)) (some (.t t37)), none, none⟩,
   ⟨(some t39), oMov (.t t1), none, none⟩,
   ⟨(some t40), oBuildSlice 1 [(.int .i64 0)] [(0, 1, (.t t39))], none, none⟩,
   ⟨(some t41), oAppend 1 8 (.t t38) (.t t40), none, none⟩,
   ⟨(some t6), oMov (.t t41), none, none⟩,
   ⟨(some t7), oMov (.v (.bool true)), none, none⟩])
 xRet))))))⟩
theorem ok144 : cFunc Tryz.prog gl ex Tryz.f144 = some c144 := by kernel_rfl
/-- slices.ContainsFunc[[]publican/verify.loop,publican/verify.loop] -/
def c145 : AFunc := ⟨9, [.tmp t4],
 (xSeq (xOps [⟨(some t4), oMov (.v (.bool false)), none, none⟩])
 (xSeq (xOps [⟨(some t5), oMov (.t t0), none, none⟩,
   ⟨(some t6), oMov (.t t1), none, none⟩,
   ⟨(some t7), oCall 158 [(.t t5), (.t t6)], none, none⟩,
   ⟨(some t8), oBin (int2 (cmpO geI)) (.t t7) (.v (.int .i64 0)), none, none⟩,
   ⟨(some t4), oMov (.t t8), none, none⟩])
 xRet))⟩
theorem ok145 : cFunc Tryz.prog gl ex Tryz.f145 = some c145 := by kernel_rfl
/-- (*publican/verify.checker).inLoop$1 -/
def c146 : AFunc := ⟨7, [.tmp t3],
 (xSeq (xOps [⟨(some t2), oBox (.t t0), none, none⟩,
   ⟨(some t3), oMov (.v (.bool false)), none, none⟩])
 (xSeq (xOps [⟨(some t4), oLoadN 2 (.t t2), none, none⟩,
   ⟨(some t5), oLoad1 (.t t1), none, (some (.t t1))⟩,
   ⟨(some t6), oCall 117 [(.t t4), (.t t5)], none, none⟩,
   ⟨(some t3), oMov (.t t6), none, none⟩])
 xRet))⟩
theorem ok146 : cFunc Tryz.prog gl ex Tryz.f146 = some c146 := by kernel_rfl
/-- publican/mean.one -/
def c147 : AFunc := ⟨36, [.cell t4 (some 3), .tmp t5],
 (xSeq (xOps [⟨(some t3), oBox (.t t1), none, none⟩,
   ⟨(some t4), oNew [(.int .i64 0), (.int .i64 0), (.slice none 0 0)], none, none⟩,
   ⟨(some t5), oMov (.v (.int .i64 0)), none, none⟩])
 (xSeq (xOps [⟨(some t9), oMov (.t t0), none, none⟩,
   ⟨(some t10), oFieldAddr 0 (.t t3), none, none⟩,
   ⟨(some t11), oLoad1 (.t t10), none, (some (.t t10))⟩,
   ⟨(some t12), oCall 159 [(.t t9), (.t t11)], none, none⟩,
   ⟨(some t6), oMov (.t t12), none, none⟩])
 (xSeq (xSeq (xOps [⟨(some t13), oMov (.t t6), none, none⟩,
   ⟨(some t14), oBin (int2 (cmpO eqI)) (.t t13) (.v (.int .i64 0)), none, none⟩])
 (xCond (.t t14)
 (xSeq (xOps [⟨(some t15), oBuild [(.int .i64 0), (.int .i64 0), (.slice none 0 0)] [], none, none⟩,
   ⟨none, oStore 3 (.t t4) (.t t15), none, none⟩,
   ⟨(some t5), oMov (.v (.int .i64 8)), none, none⟩])
 xRet)
 xSkip))
 (xSeq (xSeq (xOps [⟨(some t16), oMov (.t t0), none, none⟩,
   ⟨(some t17), oBin (str2 (cmpS eqBytes)) (.t t16) (.v (.string ⟨⟨[110, 111, 116]⟩⟩)), none, none⟩])
 (xCond (.t t17)
 (xSeq (xOps [⟨(some t18), oFieldAddr 1 (.t t3), none, none⟩,
   ⟨(some t19), oLoad1 (.t t18), none, (some (.t t18))⟩,
   ⟨(some t20), oBin (int2 (cmpO eqI)) (.t t19) (.v (.int .i64 0)), none, none⟩,
   ⟨(some t21), oCall 154 [(.t t20)], none, none⟩,
   ⟨(some t22), oExtract (.t t21) 0, none, none⟩,
   ⟨(some t23), oExtract (.t t21) 1, none, none⟩,
   ⟨none, oStore 3 (.t t4) (.t t22), none, none⟩,
   ⟨(some t5), oMov (.t t23), none, none⟩])
 xRet)
 xSkip))
 (xSeq (xOps [⟨(some t25), oFieldAddr 1 (.t t3), none, none⟩,
   ⟨(some t26), oLoad1 (.t t25), none, (some (.t t25))⟩,
   ⟨(some t27), oCall 151 [(.v (.int .i64 0)), (.t t26)], none, none⟩,
   ⟨(some t24), oMov (.t t27), none, none⟩,
   ⟨(some t28), oExtract (.t t24) 0, none, none⟩,
   ⟨(some t29), oExtract (.t t24) 1, none, none⟩,
   ⟨(some t7), oMov (.t t28), none, none⟩,
   ⟨(some t8), oMov (.t t29), none, none⟩])
 (xSeq (xOps [⟨(some t30), oMov (.t t6), none, none⟩,
   ⟨(some t31), oMov (.t t7), none, none⟩,
   ⟨(some t32), oMov (.t t8), none, none⟩,
   ⟨(some t33), oCall 150 [(.t t30), (.t t31), (.t t32)], none, none⟩,
   ⟨(some t34), oExtract (.t t33) 0, none, none⟩,
   ⟨(some t35), oExtract (.t t33) 1, none, none⟩,
   ⟨none, oStore 3 (.t t4) (.t t34), none, none⟩,
   ⟨(some t5), oMov (.t t35), none, none⟩])
 xRet))))))⟩
theorem ok147 : cFunc Tryz.prog gl ex Tryz.f147 = some c147 := by kernel_rfl
/-- publican/typ.Two -/
def c148 : AFunc := ⟨71, [.tmp t6],
 (xSeq (xOps [⟨(some t6), oMov (.v (.int .i64 0)), none, none⟩])
 (xSeq (xSeq (xOps [⟨(some t7), oMov (.t t0), none, none⟩])
 (xBlock 0 (xSeq (xSeq (xOps [⟨(some t9), oBin (str2 (cmpS eqBytes)) (.t t7) (.v (.string ⟨⟨[43]⟩⟩)), none, none⟩,
   ⟨(some t8), oMov (.t t9), none, none⟩])
 (xCond (.t t8)
 xSkip
 (xOps [⟨(some t10), oBin (str2 (cmpS eqBytes)) (.t t7) (.v (.string ⟨⟨[45]⟩⟩)), none, none⟩,
   ⟨(some t8), oMov (.t t10), none, none⟩])))
 (xCond (.t t8)
 (xSeq (xOps [⟨(some t11), oMov (.t t0), none, none⟩,
   ⟨(some t12), oMov (.t t1), none, none⟩,
   ⟨(some t13), oMov (.t t2), none, none⟩,
   ⟨(some t14), oCall 160 [(.t t11), (.t t12), (.t t13)], none, none⟩,
   ⟨(some t6), oMov (.t t14), none, none⟩])
 xRet)
 (xSeq (xOps [⟨(some t16), oBin (str2 (cmpS eqBytes)) (.t t7) (.v (.string ⟨⟨[42]⟩⟩)), none, none⟩,
   ⟨(some t15), oMov (.t t16), none, none⟩])
 (xCond (.t t15)
 (xSeq (xOps [⟨(some t17), oMov (.t t1), none, none⟩,
   ⟨(some t18), oMov (.t t2), none, none⟩,
   ⟨(some t19), oCall 161 [(.t t17), (.t t18)], none, none⟩,
   ⟨(some t6), oMov (.t t19), none, none⟩])
 xRet)
 (xSeq (xOps [⟨(some t21), oBin (str2 (cmpS eqBytes)) (.t t7) (.v (.string ⟨⟨[47]⟩⟩)), none, none⟩,
   ⟨(some t20), oMov (.t t21), none, none⟩])
 (xCond (.t t20)
 (xSeq (xOps [⟨(some t22), oMov (.t t1), none, none⟩,
   ⟨(some t23), oMov (.t t2), none, none⟩,
   ⟨(some t24), oCall 162 [(.t t22), (.t t23)], none, none⟩,
   ⟨(some t6), oMov (.t t24), none, none⟩])
 xRet)
 (xSeq (xSeq (xOps [⟨(some t26), oBin (str2 (cmpS eqBytes)) (.t t7) (.v (.string ⟨⟨[60]⟩⟩)), none, none⟩,
   ⟨(some t25), oMov (.t t26), none, none⟩])
 (xCond (.t t25)
 xSkip
 (xSeq (xOps [⟨(some t27), oBin (str2 (cmpS eqBytes)) (.t t7) (.v (.string ⟨⟨[60, 61]⟩⟩)), none, none⟩,
   ⟨(some t25), oMov (.t t27), none, none⟩])
 (xCond (.t t25)
 xSkip
 (xSeq (xOps [⟨(some t28), oBin (str2 (cmpS eqBytes)) (.t t7) (.v (.string ⟨⟨[62]⟩⟩)), none, none⟩,
   ⟨(some t25), oMov (.t t28), none, none⟩])
 (xCond (.t t25)
 xSkip
 (xOps [⟨(some t29), oBin (str2 (cmpS eqBytes)) (.t t7) (.v (.string ⟨⟨[62, 61]⟩⟩)), none, none⟩,
   ⟨(some t25), oMov (.t t29), none, none⟩])))))))
 (xCond (.t t25)
 (xSeq (xOps [⟨(some t30), oMov (.t t1), none, none⟩,
   ⟨(some t31), oMov (.t t2), none, none⟩,
   ⟨(some t32), oBin (int2 (cmpO eqI)) (.t t30) (.t t31), none, none⟩,
   ⟨(some t33), oMov (.t t32), none, none⟩,
   ⟨(some t34), oMov (.t t1), (some (t33, true)), none⟩,
   ⟨(some t35), oCall 163 [(.t t34)], (some (t33, true)), none⟩,
   ⟨(some t36), oPick (.t t33) (.t t35) (.v (.bool false)), none, none⟩])
 (xCond (.t t36)
 (xSeq (xOps [⟨(some t6), oMov (.v (.int .i64 1)), none, none⟩])
 xRet)
 xSkip))
 (xSeq (xSeq (xOps [⟨(some t38), oBin (str2 (cmpS eqBytes)) (.t t7) (.v (.string ⟨⟨[61, 61]⟩⟩)), none, none⟩,
   ⟨(some t37), oMov (.t t38), none, none⟩])
 (xCond (.t t37)
 xSkip
 (xOps [⟨(some t39), oBin (str2 (cmpS eqBytes)) (.t t7) (.v (.string ⟨⟨[33, 61]⟩⟩)), none, none⟩,
   ⟨(some t37), oMov (.t t39), none, none⟩])))
 (xCond (.t t37)
 (xSeq (xOps [⟨(some t40), oMov (.t t1), none, none⟩,
   ⟨(some t41), oMov (.t t2), none, none⟩,
   ⟨(some t42), oBin (int2 (cmpO eqI)) (.t t40) (.t t41), none, none⟩,
   ⟨(some t43), oMov (.t t42), none, none⟩,
   ⟨(some t44), oMov (.t t1), (some (t43, true)), none⟩,
   ⟨(some t45), oCall 163 [(.t t44)], (some (t43, true)), none⟩,
   ⟨(some t46), oMov (.t t45), (some (t43, true)), none⟩,
   ⟨(some t47), oMov (.t t1), (some (t46, false)), none⟩,
   ⟨(some t48), oBin (int2 (cmpO eqI)) (.t t47) (.v (.int .i64 1)), (some (t46, false)), none⟩,
   ⟨(some t49), oPick (.t t46) (.v (.bool true)) (.t t48), (some (t43, true)), none⟩,
   ⟨(some t50), oPick (.t t43) (.t t49) (.v (.bool false)), none, none⟩])
 (xCond (.t t50)
 (xSeq (xOps [⟨(some t6), oMov (.v (.int .i64 1)), none, none⟩])
 xRet)
 xSkip))
 (xSeq (xSeq (xOps [⟨(some t52), oBin (str2 (cmpS eqBytes)) (.t t7) (.v (.string ⟨⟨[97, 110, 100]⟩⟩)), none, none⟩,
   ⟨(some t51), oMov (.t t52), none, none⟩])
 (xCond (.t t51)
 xSkip
 (xOps [⟨(some t53), oBin (str2 (cmpS eqBytes)) (.t t7) (.v (.string ⟨⟨[111, 114]⟩⟩)), none, none⟩,
   ⟨(some t51), oMov (.t t53), none, none⟩])))
 (xCond (.t t51)
 (xSeq (xOps [⟨(some t54), oMov (.t t1), none, none⟩,
   ⟨(some t55), oBin (int2 (cmpO eqI)) (.t t54) (.v (.int .i64 1)), none, none⟩,
   ⟨(some t56), oMov (.t t55), none, none⟩,
   ⟨(some t57), oMov (.t t2), (some (t56, true)), none⟩,
   ⟨(some t58), oBin (int2 (cmpO eqI)) (.t t57) (.v (.int .i64 1)), (some (t56, true)), none⟩,
   ⟨(some t59), oPick (.t t56) (.t t58) (.v (.bool false)), none, none⟩])
 (xCond (.t t59)
 (xSeq (xOps [⟨(some t6), oMov (.v (.int .i64 1)), none, none⟩])
 xRet)
 xSkip))
 (xSeq (xSeq (xOps [⟨(some t61), oBin (str2 (cmpS eqBytes)) (.t t7) (.v (.string ⟨⟨[109, 105, 110]⟩⟩)), none, none⟩,
   ⟨(some t60), oMov (.t t61), none, none⟩])
 (xCond (.t t60)
 xSkip
 (xOps [⟨(some t62), oBin (str2 (cmpS eqBytes)) (.t t7) (.v (.string ⟨⟨[109, 97, 120]⟩⟩)), none, none⟩,
   ⟨(some t60), oMov (.t t62), none, none⟩])))
 (xCond (.t t60)
 (xSeq (xOps [⟨(some t63), oMov (.t t1), none, none⟩,
   ⟨(some t64), oMov (.t t2), none, none⟩,
   ⟨(some t65), oBin (int2 (cmpO eqI)) (.t t63) (.t t64), none, none⟩,
   ⟨(some t66), oMov (.t t65), none, none⟩,
   ⟨(some t67), oMov (.t t1), (some (t66, true)), none⟩,
   ⟨(some t68), oCall 163 [(.t t67)], (some (t66, true)), none⟩,
   ⟨(some t69), oPick (.t t66) (.t t68) (.v (.bool false)), none, none⟩])
 (xCond (.t t69)
 (xSeq (xOps [⟨(some t70), oMov (.t t1), none, none⟩,
   ⟨(some t6), oMov (.t t70), none, none⟩])
 xRet)
 xSkip))
 xSkip))))))))))))))))
 (xSeq (xOps [⟨(some t6), oMov (.v (.int .i64 0)), none, none⟩])
 xRet)))⟩
theorem ok148 : cFunc Tryz.prog gl ex Tryz.f148 = some c148 := by kernel_rfl
end
end Go.Proofs.YtoabiapkdnibkaaGreat.AbsMachK
