import Derived.Test.YtdnedangfnincaaRows
import Derived.Test.YtdnedangfnincaaAbsAccOT
import Derived.KernelRfl
namespace Go.Proofs.Ytdnedangfnincaa.AbsAccO
open Go Go.Abs Go.Proofs
set_option maxRecDepth 100000
set_option linter.unusedVariables false
noncomputable section
-- publican/publicanlaw20.AccrueOften
def c5_q0 : List AOper := [⟨(some t40), oBin (int2 (cmpO gtI)) (.t t39) (.v (.int .i64 30)), (some (t37, false)), none⟩,
   ⟨(some t41), oPick (.t t37) (.v (.bool true)) (.t t40), none, none⟩,
   ⟨(some t42), oMov (.t t41), none, none⟩,
   ⟨(some t43), oMov (.t t3), (some (t42, false)), none⟩,
   ⟨(some t44), oBin (int2 (cmpO ltI)) (.t t43) (.v (.int .i64 0)), (some (t42, false)), none⟩,
   ⟨(some t45), oPick (.t t42) (.v (.bool true)) (.t t44), none, none⟩,
   ⟨(some t46), oMov (.t t45), none, none⟩,
   ⟨(some t47), oMov (.t t3), (some (t46, false)), none⟩,
   ⟨(some t48), oBin (int2 (cmpO gtI)) (.t t47) (.v (.int .i64 109572)), (some (t46, false)), none⟩,
   ⟨(some t49), oPick (.t t46) (.v (.bool true)) (.t t48), none, none⟩]
def c5_q1 : List AOper := [⟨(some t112), oIdxAddrL 1 (.t t110) (.t t111), (some (t104, true)), none⟩,
   ⟨(some t113), oLoad1 (.t t112), (some (t104, true)), (some (.t t112))⟩,
   ⟨(some t114), oBin (int2 (cmpO geI)) (.t t109) (.t t113), (some (t104, true)), none⟩,
   ⟨(some t115), oPick (.t t104) (.t t114) (.v (.bool false)), none, none⟩,
   ⟨(some t116), oMov (.t t115), none, none⟩,
   ⟨(some t117), oMov (.t t1), (some (t116, true)), none⟩,
   ⟨(some t118), oMov (.t t16), (some (t116, true)), none⟩,
   ⟨(some t119), oIdxAddrL 3 (.t t117) (.t t118), (some (t116, true)), none⟩,
   ⟨(some t120), oFieldAddr 1 (.t t119), (some (t116, true)), none⟩,
   ⟨(some t121), oLoad1 (.t t120), (some (t116, true)), (some (.t t120))⟩,
   ⟨(some t122), oMov (.t t3), (some (t116, true)), none⟩,
   ⟨(some t123), oBin (int2 (cmpO leI)) (.t t121) (.t t122), (some (t116, true)), none⟩,
   ⟨(some t124), oPick (.t t116) (.t t123) (.v (.bool false)), none, none⟩]
def c5_g0 : List AOper := [⟨(some t63), oMov (.t t9), none, none⟩,
   ⟨(some t64), oMov (.t t1), none, none⟩,
   ⟨(some t65), oMov (.t t10), none, none⟩,
   ⟨(some t66), oIdxAddrL 3 (.t t64) (.t t65), none, none⟩,
   ⟨(some t67), oFieldAddr 1 (.t t66), none, none⟩,
   ⟨(some t68), oLoad1 (.t t67), none, (some (.t t67))⟩,
   ⟨(some t69), oMov (.t t1), none, none⟩,
   ⟨(some t70), oMov (.t t10), none, none⟩,
   ⟨(some t71), oIdxAddrL 3 (.t t69) (.t t70), none, none⟩,
   ⟨(some t72), oFieldAddr 2 (.t t71), none, none⟩,
   ⟨(some t73), oLoad1 (.t t72), none, (some (.t t72))⟩,
   ⟨(some t74), oBin (int2 andO) (.t t73) (.v (.int .i64 1048575)), none, none⟩,
   ⟨(some t75), oCall 27 [(.t t63), (.t t68), (.t t74)], none, none⟩]
def c5_g1 : List AOper := (⟨(some t98), oMov (.t t2), none, none⟩ ::
   ⟨(some t99), oMov (.t t17), none, none⟩ ::
   ⟨(some t100), oIdxAddrL 1 (.t t98) (.t t99), none, none⟩ ::
   ⟨(some t101), oLoad1 (.t t100), none, (some (.t t100))⟩ ::
   ⟨(some t102), oMov (.t t15), none, none⟩ ::
   ⟨(some t103), oBin (int2 (cmpO geI)) (.t t101) (.t t102), none, none⟩ ::
   ⟨(some t104), oMov (.t t103), none, none⟩ ::
   ⟨(some t105), oMov (.t t1), (some (t104, true)), none⟩ ::
   ⟨(some t106), oMov (.t t16), (some (t104, true)), none⟩ ::
   ⟨(some t107), oIdxAddrL 3 (.t t105) (.t t106), (some (t104, true)), none⟩ ::
   ⟨(some t108), oFieldAddr 1 (.t t107), (some (t104, true)), none⟩ ::
   ⟨(some t109), oLoad1 (.t t108), (some (t104, true)), (some (.t t108))⟩ ::
   ⟨(some t110), oMov (.t t2), (some (t104, true)), none⟩ ::
   ⟨(some t111), oMov (.t t17), (some (t104, true)), none⟩ :: c5_q1)
def c5_g2 : List AOper := [⟨(some t179), oMov (.t t11), none, none⟩,
   ⟨(some t180), oMov (.t t9), none, none⟩,
   ⟨(some t181), oMov (.t t1), none, none⟩,
   ⟨(some t182), oMov (.t t16), none, none⟩,
   ⟨(some t183), oIdxAddrL 3 (.t t181) (.t t182), none, none⟩,
   ⟨(some t184), oFieldAddr 1 (.t t183), none, none⟩,
   ⟨(some t185), oLoad1 (.t t184), none, (some (.t t184))⟩,
   ⟨(some t186), oMov (.t t1), none, none⟩,
   ⟨(some t187), oMov (.t t16), none, none⟩,
   ⟨(some t188), oIdxAddrL 3 (.t t186) (.t t187), none, none⟩,
   ⟨(some t189), oFieldAddr 2 (.t t188), none, none⟩,
   ⟨(some t190), oLoad1 (.t t189), none, (some (.t t189))⟩,
   ⟨(some t191), oCall 14 [(.t t179), (.t t180), (.t t185), (.t t190)], none, none⟩,
   ⟨(some t18), oMov (.t t191), none, none⟩]
def c5_g3 : List AOper := [⟨(some t192), oMov (.t t13), none, none⟩,
   ⟨(some t193), oMov (.t t9), none, none⟩,
   ⟨(some t194), oMov (.t t1), none, none⟩,
   ⟨(some t195), oMov (.t t16), none, none⟩,
   ⟨(some t196), oIdxAddrL 3 (.t t194) (.t t195), none, none⟩,
   ⟨(some t197), oFieldAddr 1 (.t t196), none, none⟩,
   ⟨(some t198), oLoad1 (.t t197), none, (some (.t t197))⟩,
   ⟨(some t199), oMov (.t t1), none, none⟩,
   ⟨(some t200), oMov (.t t16), none, none⟩,
   ⟨(some t201), oIdxAddrL 3 (.t t199) (.t t200), none, none⟩,
   ⟨(some t202), oFieldAddr 2 (.t t201), none, none⟩,
   ⟨(some t203), oLoad1 (.t t202), none, (some (.t t202))⟩,
   ⟨(some t204), oCall 14 [(.t t192), (.t t193), (.t t198), (.t t203)], none, none⟩,
   ⟨(some t19), oMov (.t t204), none, none⟩]
def c5_j0 : X := (xCond (.t t49)
 (xSeq (xOps [⟨(some t8), oMov (.v (.bool true)), none, none⟩])
 xRet)
 xSkip)
def c5_l0 : X := (xSeq (xSeq (xOps [⟨(some t51), oMov (.t t10), none, none⟩,
   ⟨(some t52), oMov (.t t1), none, none⟩,
   ⟨(some t53), oLenL (.t t52), none, none⟩,
   ⟨(some t54), oBin (int2 (cmpO ltI)) (.t t51) (.t t53), none, none⟩])
 (xCond (.t t54)
 xSkip
 (xExit 0)))
 (xSeq (xBlock 1 (xSeq (xOps [⟨(some t57), oMov (.t t1), none, none⟩,
   ⟨(some t58), oMov (.t t10), none, none⟩,
   ⟨(some t59), oIdxAddrL 3 (.t t57) (.t t58), none, none⟩,
   ⟨(some t60), oFieldAddr 0 (.t t59), none, none⟩,
   ⟨(some t61), oLoad1 (.t t60), none, (some (.t t60))⟩,
   ⟨(some t62), oBin (int2 (cmpO eqI)) (.t t61) (.v (.int .i64 6)), none, none⟩])
 (xCond (.t t62)
 (xReg c5_g0 [(0, 1), (0, 2), (1, 2), (0, 3), (0, 4), (0, 5), (0, 6), (1, 6), (2, 6), (3, 6), (4, 6), (5, 6), (0, 7), (1, 7), (2, 7), (3, 7), (4, 7), (5, 7), (6, 7), (0, 8), (1, 8), (2, 8), (3, 8), (4, 8), (5, 8), (0, 9), (1, 9), (2, 9), (3, 9), (4, 9), (5, 9), (0, 10), (1, 10), (2, 10), (3, 10), (4, 10), (5, 10), (0, 11), (1, 11), (2, 11), (3, 11), (4, 11), (5, 11)])
 xSkip)))
 (xOps [⟨(some t55), oMov (.t t10), none, none⟩,
   ⟨(some t56), oBin (int2 addO) (.t t55) (.v (.int .i64 1)), none, none⟩,
   ⟨(some t10), oMov (.t t56), none, none⟩])))
def c5_j1 : X := (xCond (.t t124)
 (xSeq (xOps [⟨(some t125), oMov (.t t2), none, none⟩,
   ⟨(some t126), oMov (.t t17), none, none⟩,
   ⟨(some t127), oIdxAddrL 1 (.t t125) (.t t126), none, none⟩,
   ⟨(some t128), oLoad1 (.t t127), none, (some (.t t127))⟩,
   ⟨(some t129), oBin (int2 andO) (.t t128) (.v (.int .i64 1)), none, none⟩,
   ⟨(some t130), oBin (int2 (cmpO eqI)) (.t t129) (.v (.int .i64 0)), none, none⟩])
 (xCond (.t t130)
 (xOps [⟨(some t131), oMov (.t t11), none, none⟩,
   ⟨(some t132), oMov (.t t9), none, none⟩,
   ⟨(some t133), oMov (.t t2), none, none⟩,
   ⟨(some t134), oMov (.t t17), none, none⟩,
   ⟨(some t135), oIdxAddrL 1 (.t t133) (.t t134), none, none⟩,
   ⟨(some t136), oLoad1 (.t t135), none, (some (.t t135))⟩,
   ⟨(some t137), oCall 20 [(.t t131), (.t t132), (.t t136)], none, none⟩])
 (xOps [⟨(some t138), oMov (.t t11), none, none⟩,
   ⟨(some t139), oMov (.t t9), none, none⟩,
   ⟨(some t140), oMov (.t t2), none, none⟩,
   ⟨(some t141), oMov (.t t17), none, none⟩,
   ⟨(some t142), oIdxAddrL 1 (.t t140) (.t t141), none, none⟩,
   ⟨(some t143), oLoad1 (.t t142), none, (some (.t t142))⟩,
   ⟨(some t144), oCall 22 [(.t t138), (.t t139), (.t t143)], none, none⟩])))
 xSkip)
def c5_j2 : X := (xOps [⟨(some t96), oMov (.t t17), none, none⟩,
   ⟨(some t97), oBin (int2 addO) (.t t96) (.v (.int .i64 1)), none, none⟩,
   ⟨(some t17), oMov (.t t97), none, none⟩])
def c5_l1 : X := (xSeq (xSeq (xOps [⟨(some t92), oMov (.t t17), none, none⟩,
   ⟨(some t93), oMov (.t t2), none, none⟩,
   ⟨(some t94), oLenL (.t t93), none, none⟩,
   ⟨(some t95), oBin (int2 (cmpO ltI)) (.t t92) (.t t94), none, none⟩])
 (xCond (.t t95)
 xSkip
 (xExit 4)))
 (xSeq (xBlock 5 (xSeq (xReg c5_g1 [(0, 1), (0, 4), (1, 4), (2, 4), (3, 4), (7, 8), (7, 12), (8, 12), (9, 12), (10, 12), (11, 12), (7, 13), (8, 13), (9, 13), (10, 13), (11, 13), (12, 13), (7, 14), (8, 14), (9, 14), (10, 14), (11, 14), (7, 15), (8, 15), (9, 15), (10, 15), (11, 15), (19, 20), (19, 24), (20, 24), (21, 24), (22, 24), (23, 24)])
 c5_j1))
 c5_j2))
def c5_j3 : X := (xCond (.t t178)
 (xSeq (xReg c5_g2 [(0, 1), (0, 2), (1, 2), (0, 3), (1, 3), (2, 3), (0, 4), (1, 4), (0, 5), (1, 5), (0, 6), (1, 6), (0, 7), (1, 7), (2, 7), (3, 7), (4, 7), (5, 7), (6, 7), (0, 8), (1, 8), (2, 8), (3, 8), (4, 8), (5, 8), (6, 8), (7, 8), (0, 9), (1, 9), (2, 9), (3, 9), (4, 9), (5, 9), (6, 9), (0, 10), (1, 10), (2, 10), (3, 10), (4, 10), (5, 10), (6, 10), (0, 11), (1, 11), (2, 11), (3, 11), (4, 11), (5, 11), (6, 11)])
 (xSeq (xReg c5_g3 [(0, 1), (0, 2), (1, 2), (0, 3), (1, 3), (2, 3), (0, 4), (1, 4), (0, 5), (1, 5), (0, 6), (1, 6), (0, 7), (1, 7), (2, 7), (3, 7), (4, 7), (5, 7), (6, 7), (0, 8), (1, 8), (2, 8), (3, 8), (4, 8), (5, 8), (6, 8), (7, 8), (0, 9), (1, 9), (2, 9), (3, 9), (4, 9), (5, 9), (6, 9), (0, 10), (1, 10), (2, 10), (3, 10), (4, 10), (5, 10), (6, 10), (0, 11), (1, 11), (2, 11), (3, 11), (4, 11), (5, 11), (6, 11)])
 (xSeq (xOps [⟨(some t205), oMov (.t t18), none, none⟩,
   ⟨(some t206), oMov (.t t19), none, none⟩,
   ⟨(some t207), oBin (int2 (cmpO eqI)) (.t t205) (.t t206), none, none⟩,
   ⟨(some t208), oMov (.t t207), none, none⟩,
   ⟨(some t209), oMov (.t t18), (some (t208, true)), none⟩,
   ⟨(some t210), oBin (int2 (cmpO eqI)) (.t t209) (.v (.int .i64 0)), (some (t208, true)), none⟩,
   ⟨(some t211), oPick (.t t208) (.t t210) (.v (.bool false)), none, none⟩])
 (xCond (.t t211)
 (xOps [⟨(some t212), oMov (.t t1), none, none⟩,
   ⟨(some t213), oMov (.t t16), none, none⟩,
   ⟨(some t214), oIdxAddrL 3 (.t t212) (.t t213), none, none⟩,
   ⟨(some t215), oFieldAddr 1 (.t t214), none, none⟩,
   ⟨(some t216), oLoad1 (.t t215), none, (some (.t t215))⟩,
   ⟨(some t15), oMov (.t t216), none, none⟩])
 xSkip))))
 xSkip)
def c5_r0 : X := (xSeq (xReg [⟨(some t145), oMov (.t t1), none, none⟩,
   ⟨(some t146), oMov (.t t16), none, none⟩,
   ⟨(some t147), oIdxAddrL 3 (.t t145) (.t t146), none, none⟩,
   ⟨(some t148), oFieldAddr 0 (.t t147), none, none⟩,
   ⟨(some t149), oLoad1 (.t t148), none, (some (.t t148))⟩,
   ⟨(some t150), oBin (int2 (cmpO eqI)) (.t t149) (.v (.int .i64 1)), none, none⟩,
   ⟨(some t151), oMov (.t t150), none, none⟩,
   ⟨(some t152), oMov (.t t1), (some (t151, true)), none⟩,
   ⟨(some t153), oMov (.t t16), (some (t151, true)), none⟩,
   ⟨(some t154), oIdxAddrL 3 (.t t152) (.t t153), (some (t151, true)), none⟩,
   ⟨(some t155), oFieldAddr 1 (.t t154), (some (t151, true)), none⟩,
   ⟨(some t156), oLoad1 (.t t155), (some (t151, true)), (some (.t t155))⟩,
   ⟨(some t157), oMov (.t t15), (some (t151, true)), none⟩,
   ⟨(some t158), oBin (int2 (cmpO geI)) (.t t156) (.t t157), (some (t151, true)), none⟩,
   ⟨(some t159), oPick (.t t151) (.t t158) (.v (.bool false)), none, none⟩,
   ⟨(some t160), oMov (.t t159), none, none⟩,
   ⟨(some t161), oMov (.t t1), (some (t160, true)), none⟩,
   ⟨(some t162), oMov (.t t16), (some (t160, true)), none⟩,
   ⟨(some t163), oIdxAddrL 3 (.t t161) (.t t162), (some (t160, true)), none⟩,
   ⟨(some t164), oFieldAddr 1 (.t t163), (some (t160, true)), none⟩,
   ⟨(some t165), oLoad1 (.t t164), (some (t160, true)), (some (.t t164))⟩,
   ⟨(some t166), oMov (.t t11), (some (t160, true)), none⟩,
   ⟨(some t167), oCall 30 [(.t t166)], (some (t160, true)), none⟩,
   ⟨(some t168), oBin (int2 (cmpO geI)) (.t t165) (.t t167), (some (t160, true)), none⟩,
   ⟨(some t169), oPick (.t t160) (.t t168) (.v (.bool false)), none, none⟩,
   ⟨(some t170), oMov (.t t169), none, none⟩,
   ⟨(some t171), oMov (.t t1), (some (t170, true)), none⟩,
   ⟨(some t172), oMov (.t t16), (some (t170, true)), none⟩,
   ⟨(some t173), oIdxAddrL 3 (.t t171) (.t t172), (some (t170, true)), none⟩,
   ⟨(some t174), oFieldAddr 1 (.t t173), (some (t170, true)), none⟩,
   ⟨(some t175), oLoad1 (.t t174), (some (t170, true)), (some (.t t174))⟩,
   ⟨(some t176), oMov (.t t3), (some (t170, true)), none⟩,
   ⟨(some t177), oBin (int2 (cmpO leI)) (.t t175) (.t t176), (some (t170, true)), none⟩,
   ⟨(some t178), oPick (.t t170) (.t t177) (.v (.bool false)), none, none⟩] [(0, 1), (7, 8), (7, 12), (8, 12), (9, 12), (10, 12), (11, 12), (16, 17), (16, 21), (17, 21), (18, 21), (19, 21), (20, 21), (16, 22), (17, 22), (18, 22), (19, 22), (20, 22), (26, 27), (26, 31), (27, 31), (28, 31), (29, 31), (30, 31)])
 c5_j3)
def c5_r1 : X := (xOps [⟨(some t90), oMov (.t t16), none, none⟩,
   ⟨(some t91), oBin (int2 addO) (.t t90) (.v (.int .i64 1)), none, none⟩,
   ⟨(some t16), oMov (.t t91), none, none⟩])
def c5_l2 : X := (xSeq (xSeq (xOps [⟨(some t86), oMov (.t t16), none, none⟩,
   ⟨(some t87), oMov (.t t1), none, none⟩,
   ⟨(some t88), oLenL (.t t87), none, none⟩,
   ⟨(some t89), oBin (int2 (cmpO ltI)) (.t t86) (.t t88), none, none⟩])
 (xCond (.t t89)
 xSkip
 (xExit 2)))
 (xSeq (xBlock 3 (xSeq (xSeq (xOps [⟨(some t17), oMov (.v (.int .i64 0)), none, none⟩])
 (xBlock 4 (xLoop c5_l1)))
 c5_r0))
 c5_r1))
def c5_r2 : X := (xSeq (xSeq (xOps [⟨(some t217), oMov (.t t11), none, none⟩,
   ⟨(some t218), oCall 30 [(.t t217)], none, none⟩,
   ⟨(some t219), oMov (.t t3), none, none⟩,
   ⟨(some t220), oBin (int2 (cmpO gtI)) (.t t218) (.t t219), none, none⟩])
 (xCond (.t t220)
 (xSeq (xOps [⟨(some t8), oMov (.v (.bool true)), none, none⟩])
 xRet)
 xSkip))
 (xSeq (xOps [⟨(some t222), oMov (.t t11), none, none⟩,
   ⟨(some t223), oMov (.t t9), none, none⟩,
   ⟨(some t224), oMov (.t t3), none, none⟩,
   ⟨(some t225), oCall 22 [(.t t222), (.t t223), (.t t224)], none, none⟩,
   ⟨(some t221), oMov (.t t225), none, none⟩,
   ⟨(some t226), oExtract (.t t221) 0, none, none⟩,
   ⟨(some t227), oExtract (.t t221) 1, none, none⟩,
   ⟨(some t20), oMov (.t t226), none, none⟩,
   ⟨(some t21), oMov (.t t227), none, none⟩])
 (xSeq (xOps [⟨(some t229), oMov (.t t13), none, none⟩,
   ⟨(some t230), oMov (.t t9), none, none⟩,
   ⟨(some t231), oMov (.t t3), none, none⟩,
   ⟨(some t232), oCall 22 [(.t t229), (.t t230), (.t t231)], none, none⟩,
   ⟨(some t228), oMov (.t t232), none, none⟩,
   ⟨(some t233), oExtract (.t t228) 0, none, none⟩,
   ⟨(some t234), oExtract (.t t228) 1, none, none⟩,
   ⟨(some t22), oMov (.t t233), none, none⟩,
   ⟨(some t23), oMov (.t t234), none, none⟩])
 (xSeq (xSeq (xOps [⟨(some t235), oMov (.t t21), none, none⟩,
   ⟨(some t236), oBin (int2 (cmpO neI)) (.t t235) (.v (.int .i64 0)), none, none⟩,
   ⟨(some t237), oMov (.t t236), none, none⟩,
   ⟨(some t238), oMov (.t t23), (some (t237, false)), none⟩,
   ⟨(some t239), oBin (int2 (cmpO neI)) (.t t238) (.v (.int .i64 0)), (some (t237, false)), none⟩,
   ⟨(some t240), oPick (.t t237) (.v (.bool true)) (.t t239), none, none⟩])
 (xCond (.t t240)
 (xSeq (xOps [⟨(some t241), oMov (.t t21), none, none⟩,
   ⟨(some t242), oMov (.t t23), none, none⟩,
   ⟨(some t243), oBin (int2 (cmpO eqI)) (.t t241) (.t t242), none, none⟩,
   ⟨(some t8), oMov (.t t243), none, none⟩])
 xRet)
 xSkip))
 (xSeq (xOps [⟨(some t244), oMov (.t t11), none, none⟩,
   ⟨(some t245), oCall 32 [(.t t244)], none, none⟩,
   ⟨(some t246), oMov (.t t20), none, none⟩,
   ⟨(some t247), oBin (int2 addO) (.t t245) (.t t246), none, none⟩,
   ⟨(some t248), oMov (.t t13), none, none⟩,
   ⟨(some t249), oCall 32 [(.t t248)], none, none⟩,
   ⟨(some t250), oMov (.t t22), none, none⟩,
   ⟨(some t251), oBin (int2 addO) (.t t249) (.t t250), none, none⟩,
   ⟨(some t252), oBin (int2 (cmpO eqI)) (.t t247) (.t t251), none, none⟩,
   ⟨(some t253), oMov (.t t252), none, none⟩,
   ⟨(some t254), oMov (.t t11), (some (t253, true)), none⟩,
   ⟨(some t255), oCall 31 [(.t t254)], (some (t253, true)), none⟩,
   ⟨(some t256), oMov (.t t13), (some (t253, true)), none⟩,
   ⟨(some t257), oCall 31 [(.t t256)], (some (t253, true)), none⟩,
   ⟨(some t258), oBin (int2 (cmpO eqI)) (.t t255) (.t t257), (some (t253, true)), none⟩,
   ⟨(some t259), oPick (.t t253) (.t t258) (.v (.bool false)), none, none⟩,
   ⟨(some t8), oMov (.t t259), none, none⟩])
 xRet)))))
def c5_r3 : X := (xSeq (xOps [⟨(some t77), oMov (.t t0), none, none⟩,
   ⟨(some t78), oCall 11 [(.v (.int .i64 0)), (.t t77)], none, none⟩,
   ⟨(some t76), oMov (.t t78), none, none⟩,
   ⟨(some t79), oExtract (.t t76) 0, none, none⟩,
   ⟨(some t80), oExtract (.t t76) 1, none, none⟩,
   ⟨(some t11), oMov (.t t79), none, none⟩,
   ⟨(some t12), oMov (.t t80), none, none⟩])
 (xSeq (xOps [⟨(some t82), oMov (.t t0), none, none⟩,
   ⟨(some t83), oCall 11 [(.v (.int .i64 0)), (.t t82)], none, none⟩,
   ⟨(some t81), oMov (.t t83), none, none⟩,
   ⟨(some t84), oExtract (.t t81) 0, none, none⟩,
   ⟨(some t85), oExtract (.t t81) 1, none, none⟩,
   ⟨(some t13), oMov (.t t84), none, none⟩,
   ⟨(some t14), oMov (.t t85), none, none⟩])
 (xSeq (xOps [⟨(some t15), oMov (.v (.int .i64 0)), none, none⟩])
 (xSeq (xSeq (xOps [⟨(some t16), oMov (.v (.int .i64 0)), none, none⟩])
 (xBlock 2 (xLoop c5_l2)))
 c5_r2))))
def c5_j4 : X := (xSeq (xOps [⟨(some t50), oCall 10 [], none, none⟩,
   ⟨(some t9), oMov (.t t50), none, none⟩])
 (xSeq (xSeq (xOps [⟨(some t10), oMov (.v (.int .i64 0)), none, none⟩])
 (xBlock 0 (xLoop c5_l0)))
 c5_r3))
def c5 : AFunc := ⟨260, [.tmp t8],
 (xSeq (xOps [⟨(some t8), oMov (.v (.bool false)), none, none⟩])
 (xSeq (xSeq (xOps [⟨(some t24), oCall 9 [], none, none⟩,
   ⟨(some t25), oNot (.t t24), none, none⟩])
 (xCond (.t t25)
 (xSeq (xOps [⟨(some t8), oMov (.v (.bool false)), none, none⟩])
 xRet)
 xSkip))
 (xSeq (xSeq (xOps (⟨(some t26), oMov (.t t0), none, none⟩ ::
   ⟨(some t27), oBin (int2 (cmpO ltI)) (.t t26) (.v (.int .i64 0)), none, none⟩ ::
   ⟨(some t28), oMov (.t t27), none, none⟩ ::
   ⟨(some t29), oMov (.t t0), (some (t28, false)), none⟩ ::
   ⟨(some t30), oBin (int2 (cmpO gtI)) (.t t29) (.v (.int .i64 1099511627776)), (some (t28, false)), none⟩ ::
   ⟨(some t31), oPick (.t t28) (.v (.bool true)) (.t t30), none, none⟩ ::
   ⟨(some t32), oMov (.t t31), none, none⟩ ::
   ⟨(some t33), oMov (.t t1), (some (t32, false)), none⟩ ::
   ⟨(some t34), oLenL (.t t33), (some (t32, false)), none⟩ ::
   ⟨(some t35), oBin (int2 (cmpO gtI)) (.t t34) (.v (.int .i64 30)), (some (t32, false)), none⟩ ::
   ⟨(some t36), oPick (.t t32) (.v (.bool true)) (.t t35), none, none⟩ ::
   ⟨(some t37), oMov (.t t36), none, none⟩ ::
   ⟨(some t38), oMov (.t t2), (some (t37, false)), none⟩ ::
   ⟨(some t39), oLenL (.t t38), (some (t37, false)), none⟩ :: c5_q0))
 c5_j0)
 c5_j4)))⟩
theorem ok5 : cFunc Try.prog gl ex Try.f5 = some c5 := by kernel_rfl
-- publican/publicanlaw20.AccrueParts
def c7_q0 : List AOper := [⟨(some t36), oMov (.t t35), none, none⟩,
   ⟨(some t37), oMov (.t t2), (some (t36, false)), none⟩,
   ⟨(some t38), oLenL (.t t37), (some (t36, false)), none⟩,
   ⟨(some t39), oBin (int2 (cmpO gtI)) (.t t38) (.v (.int .i64 30)), (some (t36, false)), none⟩,
   ⟨(some t40), oPick (.t t36) (.v (.bool true)) (.t t39), none, none⟩,
   ⟨(some t41), oMov (.t t40), none, none⟩,
   ⟨(some t42), oMov (.t t3), (some (t41, false)), none⟩,
   ⟨(some t43), oBin (int2 (cmpO ltI)) (.t t42) (.v (.int .i64 0)), (some (t41, false)), none⟩,
   ⟨(some t44), oPick (.t t41) (.v (.bool true)) (.t t43), none, none⟩,
   ⟨(some t45), oMov (.t t44), none, none⟩,
   ⟨(some t46), oMov (.t t3), (some (t45, false)), none⟩,
   ⟨(some t47), oBin (int2 (cmpO gtI)) (.t t46) (.v (.int .i64 109572)), (some (t45, false)), none⟩,
   ⟨(some t48), oPick (.t t45) (.v (.bool true)) (.t t47), none, none⟩]
def c7_q1 : List AOper := [⟨(some t127), oPick (.t t122) (.t t126) (.v (.bool false)), none, none⟩,
   ⟨(some t128), oMov (.t t127), none, none⟩,
   ⟨(some t129), oMov (.t t17), (some (t128, true)), none⟩,
   ⟨(some t130), oCall 33 [(.t t129)], (some (t128, true)), none⟩,
   ⟨(some t131), oField none 1 (.t t130), (some (t128, true)), none⟩,
   ⟨(some t132), oBin (int2 (cmpO eqI)) (.t t131) (.v (.int .u64 0)), (some (t128, true)), none⟩,
   ⟨(some t133), oPick (.t t128) (.t t132) (.v (.bool false)), none, none⟩,
   ⟨(some t8), oMov (.t t133), none, none⟩]
def c7_q2 : List AOper := (⟨(some t113), oCall 33 [(.t t112)], (some (t109, true)), none⟩ ::
   ⟨(some t114), oEqs false [(0, eqN), (1, eqN)] (.t t111) (.t t113), (some (t109, true)), none⟩ ::
   ⟨(some t115), oPick (.t t109) (.t t114) (.v (.bool false)), none, none⟩ ::
   ⟨(some t116), oMov (.t t115), none, none⟩ ::
   ⟨(some t117), oMov (.t t10), (some (t116, true)), none⟩ ::
   ⟨(some t118), oCall 30 [(.t t117)], (some (t116, true)), none⟩ ::
   ⟨(some t119), oMov (.t t3), (some (t116, true)), none⟩ ::
   ⟨(some t120), oBin (int2 (cmpO eqI)) (.t t118) (.t t119), (some (t116, true)), none⟩ ::
   ⟨(some t121), oPick (.t t116) (.t t120) (.v (.bool false)), none, none⟩ ::
   ⟨(some t122), oMov (.t t121), none, none⟩ ::
   ⟨(some t123), oMov (.t t17), (some (t122, true)), none⟩ ::
   ⟨(some t124), oCall 33 [(.t t123)], (some (t122, true)), none⟩ ::
   ⟨(some t125), oField none 0 (.t t124), (some (t122, true)), none⟩ ::
   ⟨(some t126), oBin (int2 (cmpO eqI)) (.t t125) (.v (.int .i64 0)), (some (t122, true)), none⟩ :: c7_q1)
def c7_j0 : X := (xCond (.t t48)
 (xSeq (xOps [⟨(some t8), oMov (.v (.bool true)), none, none⟩])
 xRet)
 xSkip)
def c7_l0 : X := (xSeq (xSeq (xOps [⟨(some t63), oMov (.t t14), none, none⟩,
   ⟨(some t64), oMov (.t t2), none, none⟩,
   ⟨(some t65), oLenL (.t t64), none, none⟩,
   ⟨(some t66), oBin (int2 (cmpO ltI)) (.t t63) (.t t65), none, none⟩])
 (xCond (.t t66)
 xSkip
 (xExit 0)))
 (xSeq (xBlock 1 (xSeq (xOps [⟨(some t69), oMov (.t t2), none, none⟩,
   ⟨(some t70), oMov (.t t14), none, none⟩,
   ⟨(some t71), oIdxAddrL 1 (.t t69) (.t t70), none, none⟩,
   ⟨(some t72), oLoad1 (.t t71), none, (some (.t t71))⟩,
   ⟨(some t73), oMov (.t t3), none, none⟩,
   ⟨(some t74), oBin (int2 (cmpO leI)) (.t t72) (.t t73), none, none⟩])
 (xCond (.t t74)
 (xOps [⟨(some t75), oMov (.t t10), none, none⟩,
   ⟨(some t76), oMov (.t t9), none, none⟩,
   ⟨(some t77), oMov (.t t2), none, none⟩,
   ⟨(some t78), oMov (.t t14), none, none⟩,
   ⟨(some t79), oIdxAddrL 1 (.t t77) (.t t78), none, none⟩,
   ⟨(some t80), oLoad1 (.t t79), none, (some (.t t79))⟩,
   ⟨(some t81), oCall 13 [(.t t75), (.t t76), (.t t80)], none, none⟩])
 xSkip)))
 (xOps [⟨(some t67), oMov (.t t14), none, none⟩,
   ⟨(some t68), oBin (int2 addO) (.t t67) (.v (.int .i64 1)), none, none⟩,
   ⟨(some t14), oMov (.t t68), none, none⟩])))
def c7_r0 : X := (xSeq (xOps [⟨(some t82), oMov (.t t10), none, none⟩,
   ⟨(some t83), oMov (.t t9), none, none⟩,
   ⟨(some t84), oMov (.t t3), none, none⟩,
   ⟨(some t85), oCall 13 [(.t t82), (.t t83), (.t t84)], none, none⟩,
   ⟨(some t15), oMov (.t t85), none, none⟩])
 (xSeq (xOps [⟨(some t86), oMov (.t t12), none, none⟩,
   ⟨(some t87), oMov (.t t9), none, none⟩,
   ⟨(some t88), oMov (.t t3), none, none⟩,
   ⟨(some t89), oCall 13 [(.t t86), (.t t87), (.t t88)], none, none⟩,
   ⟨(some t16), oMov (.t t89), none, none⟩])
 (xSeq (xOps [⟨(some t91), oMov (.t t0), none, none⟩,
   ⟨(some t92), oCall 11 [(.v (.int .i64 0)), (.t t91)], none, none⟩,
   ⟨(some t90), oMov (.t t92), none, none⟩,
   ⟨(some t93), oExtract (.t t90) 0, none, none⟩,
   ⟨(some t94), oExtract (.t t90) 1, none, none⟩,
   ⟨(some t17), oMov (.t t93), none, none⟩,
   ⟨(some t18), oMov (.t t94), none, none⟩])
 (xSeq (xOps [⟨(some t95), oMov (.t t17), none, none⟩,
   ⟨(some t96), oCall 10 [], none, none⟩,
   ⟨(some t97), oMov (.t t3), none, none⟩,
   ⟨(some t98), oCall 13 [(.t t95), (.t t96), (.t t97)], none, none⟩,
   ⟨(some t19), oMov (.t t98), none, none⟩])
 (xSeq (xOps (⟨(some t99), oMov (.t t15), none, none⟩ ::
   ⟨(some t100), oBin (int2 (cmpO eqI)) (.t t99) (.v (.int .i64 0)), none, none⟩ ::
   ⟨(some t101), oMov (.t t100), none, none⟩ ::
   ⟨(some t102), oMov (.t t16), (some (t101, true)), none⟩ ::
   ⟨(some t103), oBin (int2 (cmpO eqI)) (.t t102) (.v (.int .i64 0)), (some (t101, true)), none⟩ ::
   ⟨(some t104), oPick (.t t101) (.t t103) (.v (.bool false)), none, none⟩ ::
   ⟨(some t105), oMov (.t t104), none, none⟩ ::
   ⟨(some t106), oMov (.t t19), (some (t105, true)), none⟩ ::
   ⟨(some t107), oBin (int2 (cmpO eqI)) (.t t106) (.v (.int .i64 0)), (some (t105, true)), none⟩ ::
   ⟨(some t108), oPick (.t t105) (.t t107) (.v (.bool false)), none, none⟩ ::
   ⟨(some t109), oMov (.t t108), none, none⟩ ::
   ⟨(some t110), oMov (.t t10), (some (t109, true)), none⟩ ::
   ⟨(some t111), oCall 33 [(.t t110)], (some (t109, true)), none⟩ ::
   ⟨(some t112), oMov (.t t12), (some (t109, true)), none⟩ :: c7_q2))
 xRet)))))
def c7_j1 : X := (xSeq (xOps [⟨(some t49), oCall 10 [], none, none⟩,
   ⟨(some t9), oMov (.t t49), none, none⟩])
 (xSeq (xOps [⟨(some t50), oMov (.t t9), none, none⟩,
   ⟨(some t51), oMov (.t t1), none, none⟩,
   ⟨(some t52), oCall 27 [(.t t50), (.v (.int .i64 3)), (.t t51)], none, none⟩])
 (xSeq (xOps [⟨(some t54), oMov (.t t0), none, none⟩,
   ⟨(some t55), oCall 11 [(.v (.int .i64 0)), (.t t54)], none, none⟩,
   ⟨(some t53), oMov (.t t55), none, none⟩,
   ⟨(some t56), oExtract (.t t53) 0, none, none⟩,
   ⟨(some t57), oExtract (.t t53) 1, none, none⟩,
   ⟨(some t10), oMov (.t t56), none, none⟩,
   ⟨(some t11), oMov (.t t57), none, none⟩])
 (xSeq (xOps [⟨(some t59), oMov (.t t0), none, none⟩,
   ⟨(some t60), oCall 11 [(.v (.int .i64 0)), (.t t59)], none, none⟩,
   ⟨(some t58), oMov (.t t60), none, none⟩,
   ⟨(some t61), oExtract (.t t58) 0, none, none⟩,
   ⟨(some t62), oExtract (.t t58) 1, none, none⟩,
   ⟨(some t12), oMov (.t t61), none, none⟩,
   ⟨(some t13), oMov (.t t62), none, none⟩])
 (xSeq (xSeq (xOps [⟨(some t14), oMov (.v (.int .i64 0)), none, none⟩])
 (xBlock 0 (xLoop c7_l0)))
 c7_r0)))))
def c7 : AFunc := ⟨134, [.tmp t8],
 (xSeq (xOps [⟨(some t8), oMov (.v (.bool false)), none, none⟩])
 (xSeq (xSeq (xOps [⟨(some t20), oCall 9 [], none, none⟩,
   ⟨(some t21), oNot (.t t20), none, none⟩])
 (xCond (.t t21)
 (xSeq (xOps [⟨(some t8), oMov (.v (.bool false)), none, none⟩])
 xRet)
 xSkip))
 (xSeq (xSeq (xOps (⟨(some t22), oMov (.t t0), none, none⟩ ::
   ⟨(some t23), oBin (int2 (cmpO ltI)) (.t t22) (.v (.int .i64 0)), none, none⟩ ::
   ⟨(some t24), oMov (.t t23), none, none⟩ ::
   ⟨(some t25), oMov (.t t0), (some (t24, false)), none⟩ ::
   ⟨(some t26), oBin (int2 (cmpO gtI)) (.t t25) (.v (.int .i64 4503599627370496)), (some (t24, false)), none⟩ ::
   ⟨(some t27), oPick (.t t24) (.v (.bool true)) (.t t26), none, none⟩ ::
   ⟨(some t28), oMov (.t t27), none, none⟩ ::
   ⟨(some t29), oMov (.t t1), (some (t28, false)), none⟩ ::
   ⟨(some t30), oBin (int2 (cmpO ltI)) (.t t29) (.v (.int .i64 0)), (some (t28, false)), none⟩ ::
   ⟨(some t31), oPick (.t t28) (.v (.bool true)) (.t t30), none, none⟩ ::
   ⟨(some t32), oMov (.t t31), none, none⟩ ::
   ⟨(some t33), oMov (.t t1), (some (t32, false)), none⟩ ::
   ⟨(some t34), oBin (int2 (cmpO gtI)) (.t t33) (.v (.int .i64 1000000000)), (some (t32, false)), none⟩ ::
   ⟨(some t35), oPick (.t t32) (.v (.bool true)) (.t t34), none, none⟩ :: c7_q0))
 c7_j0)
 c7_j1)))⟩
theorem ok7 : cFunc Try.prog gl ex Try.f7 = some c7 := by kernel_rfl
-- publican/publicanlaw20.AccrueCopies
def c8_q0 : List AOper := [⟨(some t37), oMov (.t t36), none, none⟩,
   ⟨(some t38), oMov (.t t2), (some (t37, false)), none⟩,
   ⟨(some t39), oBin (int2 (cmpO ltI)) (.t t38) (.v (.int .i64 0)), (some (t37, false)), none⟩,
   ⟨(some t40), oPick (.t t37) (.v (.bool true)) (.t t39), none, none⟩,
   ⟨(some t41), oMov (.t t40), none, none⟩,
   ⟨(some t42), oMov (.t t2), (some (t41, false)), none⟩,
   ⟨(some t43), oBin (int2 (cmpO gtI)) (.t t42) (.v (.int .i64 2000)), (some (t41, false)), none⟩,
   ⟨(some t44), oPick (.t t41) (.v (.bool true)) (.t t43), none, none⟩]
def c8_q1 : List AOper := [⟨(some t129), oCall 33 [(.t t128)], (some (t127, true)), none⟩,
   ⟨(some t130), oMov (.t t13), (some (t127, true)), none⟩,
   ⟨(some t131), oCall 33 [(.t t130)], (some (t127, true)), none⟩,
   ⟨(some t132), oEqs false [(0, eqN), (1, eqN)] (.t t129) (.t t131), (some (t127, true)), none⟩,
   ⟨(some t133), oPick (.t t127) (.t t132) (.v (.bool false)), none, none⟩,
   ⟨(some t134), oMov (.t t133), none, none⟩,
   ⟨(some t135), oMov (.t t12), (some (t134, true)), none⟩,
   ⟨(some t136), oCall 32 [(.t t135)], (some (t134, true)), none⟩,
   ⟨(some t137), oMov (.t t8), (some (t134, true)), none⟩,
   ⟨(some t138), oCall 32 [(.t t137)], (some (t134, true)), none⟩,
   ⟨(some t139), oMov (.t t15), (some (t134, true)), none⟩,
   ⟨(some t140), oBin (int2 addO) (.t t138) (.t t139), (some (t134, true)), none⟩,
   ⟨(some t141), oBin (int2 (cmpO eqI)) (.t t136) (.t t140), (some (t134, true)), none⟩,
   ⟨(some t142), oPick (.t t134) (.t t141) (.v (.bool false)), none, none⟩,
   ⟨(some t6), oMov (.t t142), none, none⟩]
def c8_q2 : List AOper := (⟨(some t115), oPick (.t t111) (.t t114) (.v (.bool false)), none, none⟩ ::
   ⟨(some t116), oMov (.t t115), none, none⟩ ::
   ⟨(some t117), oMov (.t t15), (some (t116, true)), none⟩ ::
   ⟨(some t118), oMov (.t t19), (some (t116, true)), none⟩ ::
   ⟨(some t119), oBin (int2 (cmpO eqI)) (.t t117) (.t t118), (some (t116, true)), none⟩ ::
   ⟨(some t120), oPick (.t t116) (.t t119) (.v (.bool false)), none, none⟩ ::
   ⟨(some t121), oMov (.t t120), none, none⟩ ::
   ⟨(some t122), oMov (.t t8), (some (t121, true)), none⟩ ::
   ⟨(some t123), oCall 30 [(.t t122)], (some (t121, true)), none⟩ ::
   ⟨(some t124), oMov (.t t1), (some (t121, true)), none⟩ ::
   ⟨(some t125), oBin (int2 (cmpO eqI)) (.t t123) (.t t124), (some (t121, true)), none⟩ ::
   ⟨(some t126), oPick (.t t121) (.t t125) (.v (.bool false)), none, none⟩ ::
   ⟨(some t127), oMov (.t t126), none, none⟩ ::
   ⟨(some t128), oMov (.t t12), (some (t127, true)), none⟩ :: c8_q1)
def c8_j0 : X := (xCond (.t t44)
 (xSeq (xOps [⟨(some t6), oMov (.v (.bool true)), none, none⟩])
 xRet)
 xSkip)
def c8_j1 : X := (xSeq (xOps [⟨(some t45), oCall 10 [], none, none⟩,
   ⟨(some t7), oMov (.t t45), none, none⟩])
 (xSeq (xOps [⟨(some t46), oMov (.t t7), none, none⟩,
   ⟨(some t47), oCall 27 [(.t t46), (.v (.int .i64 0)), (.v (.int .i64 54321))], none, none⟩])
 (xSeq (xOps [⟨(some t49), oMov (.t t0), none, none⟩,
   ⟨(some t50), oCall 11 [(.v (.int .i64 0)), (.t t49)], none, none⟩,
   ⟨(some t48), oMov (.t t50), none, none⟩,
   ⟨(some t51), oExtract (.t t48) 0, none, none⟩,
   ⟨(some t52), oExtract (.t t48) 1, none, none⟩,
   ⟨(some t8), oMov (.t t51), none, none⟩,
   ⟨(some t9), oMov (.t t52), none, none⟩])
 (xSeq (xOps [⟨(some t54), oMov (.t t8), none, none⟩,
   ⟨(some t55), oMov (.t t7), none, none⟩,
   ⟨(some t56), oMov (.t t1), none, none⟩,
   ⟨(some t57), oCall 20 [(.t t54), (.t t55), (.t t56)], none, none⟩,
   ⟨(some t53), oMov (.t t57), none, none⟩,
   ⟨(some t58), oExtract (.t t53) 0, none, none⟩,
   ⟨(some t59), oExtract (.t t53) 1, none, none⟩,
   ⟨(some t10), oMov (.t t58), none, none⟩,
   ⟨(some t11), oMov (.t t59), none, none⟩])
 (xSeq (xOps [⟨(some t60), oMov (.t t8), none, none⟩,
   ⟨(some t61), oCall 38 [(.t t60)], none, none⟩,
   ⟨(some t12), oMov (.t t61), none, none⟩])
 (xSeq (xOps [⟨(some t63), oMov (.t t8), none, none⟩,
   ⟨(some t64), oCall 24 [(.t t63)], none, none⟩,
   ⟨(some t65), oCall 12 [(.t t64)], none, none⟩,
   ⟨(some t62), oMov (.t t65), none, none⟩,
   ⟨(some t66), oExtract (.t t62) 0, none, none⟩,
   ⟨(some t67), oExtract (.t t62) 1, none, none⟩,
   ⟨(some t13), oMov (.t t66), none, none⟩,
   ⟨(some t14), oMov (.t t67), none, none⟩])
 (xSeq (xSeq (xOps [⟨(some t68), oMov (.t t11), none, none⟩,
   ⟨(some t69), oBin (int2 (cmpO neI)) (.t t68) (.v (.int .i64 0)), none, none⟩,
   ⟨(some t70), oMov (.t t69), none, none⟩,
   ⟨(some t71), oMov (.t t14), (some (t70, false)), none⟩,
   ⟨(some t72), oBin (int2 (cmpO neI)) (.t t71) (.v (.int .i64 0)), (some (t70, false)), none⟩,
   ⟨(some t73), oPick (.t t70) (.v (.bool true)) (.t t72), none, none⟩])
 (xCond (.t t73)
 (xSeq (xOps [⟨(some t6), oMov (.v (.bool false)), none, none⟩])
 xRet)
 xSkip))
 (xSeq (xOps [⟨(some t75), oMov (.t t12), none, none⟩,
   ⟨(some t76), oMov (.t t7), none, none⟩,
   ⟨(some t77), oMov (.t t1), none, none⟩,
   ⟨(some t78), oMov (.t t2), none, none⟩,
   ⟨(some t79), oBin (int2 addO) (.t t77) (.t t78), none, none⟩,
   ⟨(some t80), oCall 20 [(.t t75), (.t t76), (.t t79)], none, none⟩,
   ⟨(some t74), oMov (.t t80), none, none⟩,
   ⟨(some t81), oExtract (.t t74) 0, none, none⟩,
   ⟨(some t82), oExtract (.t t74) 1, none, none⟩,
   ⟨(some t15), oMov (.t t81), none, none⟩,
   ⟨(some t16), oMov (.t t82), none, none⟩])
 (xSeq (xOps [⟨(some t84), oMov (.t t13), none, none⟩,
   ⟨(some t85), oMov (.t t7), none, none⟩,
   ⟨(some t86), oMov (.t t1), none, none⟩,
   ⟨(some t87), oMov (.t t2), none, none⟩,
   ⟨(some t88), oBin (int2 addO) (.t t86) (.t t87), none, none⟩,
   ⟨(some t89), oCall 20 [(.t t84), (.t t85), (.t t88)], none, none⟩,
   ⟨(some t83), oMov (.t t89), none, none⟩,
   ⟨(some t90), oExtract (.t t83) 0, none, none⟩,
   ⟨(some t91), oExtract (.t t83) 1, none, none⟩,
   ⟨(some t17), oMov (.t t90), none, none⟩,
   ⟨(some t18), oMov (.t t91), none, none⟩])
 (xSeq (xOps [⟨(some t93), oMov (.t t8), none, none⟩,
   ⟨(some t94), oMov (.t t7), none, none⟩,
   ⟨(some t95), oMov (.t t1), none, none⟩,
   ⟨(some t96), oMov (.t t2), none, none⟩,
   ⟨(some t97), oBin (int2 addO) (.t t95) (.t t96), none, none⟩,
   ⟨(some t98), oCall 22 [(.t t93), (.t t94), (.t t97)], none, none⟩,
   ⟨(some t92), oMov (.t t98), none, none⟩,
   ⟨(some t99), oExtract (.t t92) 0, none, none⟩,
   ⟨(some t100), oExtract (.t t92) 1, none, none⟩,
   ⟨(some t19), oMov (.t t99), none, none⟩,
   ⟨(some t20), oMov (.t t100), none, none⟩])
 (xSeq (xOps (⟨(some t101), oMov (.t t16), none, none⟩ ::
   ⟨(some t102), oBin (int2 (cmpO eqI)) (.t t101) (.v (.int .i64 0)), none, none⟩ ::
   ⟨(some t103), oMov (.t t102), none, none⟩ ::
   ⟨(some t104), oMov (.t t18), (some (t103, true)), none⟩ ::
   ⟨(some t105), oBin (int2 (cmpO eqI)) (.t t104) (.v (.int .i64 0)), (some (t103, true)), none⟩ ::
   ⟨(some t106), oPick (.t t103) (.t t105) (.v (.bool false)), none, none⟩ ::
   ⟨(some t107), oMov (.t t106), none, none⟩ ::
   ⟨(some t108), oMov (.t t20), (some (t107, true)), none⟩ ::
   ⟨(some t109), oBin (int2 (cmpO eqI)) (.t t108) (.v (.int .i64 0)), (some (t107, true)), none⟩ ::
   ⟨(some t110), oPick (.t t107) (.t t109) (.v (.bool false)), none, none⟩ ::
   ⟨(some t111), oMov (.t t110), none, none⟩ ::
   ⟨(some t112), oMov (.t t15), (some (t111, true)), none⟩ ::
   ⟨(some t113), oMov (.t t17), (some (t111, true)), none⟩ ::
   ⟨(some t114), oBin (int2 (cmpO eqI)) (.t t112) (.t t113), (some (t111, true)), none⟩ :: c8_q2))
 xRet)))))))))))
def c8 : AFunc := ⟨143, [.tmp t6],
 (xSeq (xOps [⟨(some t6), oMov (.v (.bool false)), none, none⟩])
 (xSeq (xSeq (xOps [⟨(some t21), oCall 9 [], none, none⟩,
   ⟨(some t22), oNot (.t t21), none, none⟩])
 (xCond (.t t22)
 (xSeq (xOps [⟨(some t6), oMov (.v (.bool false)), none, none⟩])
 xRet)
 xSkip))
 (xSeq (xSeq (xOps (⟨(some t23), oMov (.t t0), none, none⟩ ::
   ⟨(some t24), oBin (int2 (cmpO ltI)) (.t t23) (.v (.int .i64 1)), none, none⟩ ::
   ⟨(some t25), oMov (.t t24), none, none⟩ ::
   ⟨(some t26), oMov (.t t0), (some (t25, false)), none⟩ ::
   ⟨(some t27), oBin (int2 (cmpO gtI)) (.t t26) (.v (.int .i64 1099511627776)), (some (t25, false)), none⟩ ::
   ⟨(some t28), oPick (.t t25) (.v (.bool true)) (.t t27), none, none⟩ ::
   ⟨(some t29), oMov (.t t28), none, none⟩ ::
   ⟨(some t30), oMov (.t t1), (some (t29, false)), none⟩ ::
   ⟨(some t31), oBin (int2 (cmpO ltI)) (.t t30) (.v (.int .i64 0)), (some (t29, false)), none⟩ ::
   ⟨(some t32), oPick (.t t29) (.v (.bool true)) (.t t31), none, none⟩ ::
   ⟨(some t33), oMov (.t t32), none, none⟩ ::
   ⟨(some t34), oMov (.t t1), (some (t33, false)), none⟩ ::
   ⟨(some t35), oBin (int2 (cmpO gtI)) (.t t34) (.v (.int .i64 2000)), (some (t33, false)), none⟩ ::
   ⟨(some t36), oPick (.t t33) (.v (.bool true)) (.t t35), none, none⟩ :: c8_q0))
 c8_j0)
 c8_j1)))⟩
theorem ok8 : cFunc Try.prog gl ex Try.f8 = some c8 := by kernel_rfl
-- publican/publicanlaw20.awake
def c9_q0 : List AOper := [⟨(some t126), oPick (.t t120) (.t t125) (.v (.bool false)), none, none⟩,
   ⟨(some t127), oMov (.t t126), none, none⟩,
   ⟨(some t128), oMov (.t t10), (some (t127, true)), none⟩,
   ⟨(some t129), oCall 33 [(.t t128)], (some (t127, true)), none⟩,
   ⟨(some t130), oField none 1 (.t t129), (some (t127, true)), none⟩,
   ⟨(some t131), oBin (int2 (cmpO gtI)) (.t t130) (.v (.int .u64 0)), (some (t127, true)), none⟩,
   ⟨(some t132), oPick (.t t127) (.t t131) (.v (.bool false)), none, none⟩,
   ⟨(some t0), oMov (.t t132), none, none⟩]
def c9_q1 : List AOper := (⟨(some t112), oCall 31 [(.t t111)], (some (t110, true)), none⟩ ::
   ⟨(some t113), oBin (int2 (cmpO eqI)) (.t t112) (.v (.int .i64 36100)), (some (t110, true)), none⟩ ::
   ⟨(some t114), oPick (.t t110) (.t t113) (.v (.bool false)), none, none⟩ ::
   ⟨(some t115), oMov (.t t114), none, none⟩ ::
   ⟨(some t116), oMov (.t t12), (some (t115, true)), none⟩ ::
   ⟨(some t117), oCall 30 [(.t t116)], (some (t115, true)), none⟩ ::
   ⟨(some t118), oBin (int2 (cmpO eqI)) (.t t117) (.v (.int .i64 3)), (some (t115, true)), none⟩ ::
   ⟨(some t119), oPick (.t t115) (.t t118) (.v (.bool false)), none, none⟩ ::
   ⟨(some t120), oMov (.t t119), none, none⟩ ::
   ⟨(some t121), oMov (.t t12), (some (t120, true)), none⟩ ::
   ⟨(some t122), oCall 33 [(.t t121)], (some (t120, true)), none⟩ ::
   ⟨(some t123), oMov (.t t10), (some (t120, true)), none⟩ ::
   ⟨(some t124), oCall 33 [(.t t123)], (some (t120, true)), none⟩ ::
   ⟨(some t125), oEqs false [(0, eqN), (1, eqN)] (.t t122) (.t t124), (some (t120, true)), none⟩ :: c9_q0)
def c9_q2 : List AOper := (⟨(some t98), oMov (.t t2), (some (t97, true)), none⟩ ::
   ⟨(some t99), oCall 30 [(.t t98)], (some (t97, true)), none⟩ ::
   ⟨(some t100), oBin (int2 (cmpO eqI)) (.t t99) (.v (.int .i64 9)), (some (t97, true)), none⟩ ::
   ⟨(some t101), oPick (.t t97) (.t t100) (.v (.bool false)), none, none⟩ ::
   ⟨(some t102), oMov (.t t101), none, none⟩ ::
   ⟨(some t103), oMov (.t t13), (some (t102, true)), none⟩ ::
   ⟨(some t104), oBin (int2 (cmpO eqI)) (.t t103) (.v (.int .i64 0)), (some (t102, true)), none⟩ ::
   ⟨(some t105), oPick (.t t102) (.t t104) (.v (.bool false)), none, none⟩ ::
   ⟨(some t106), oMov (.t t105), none, none⟩ ::
   ⟨(some t107), oMov (.t t12), (some (t106, true)), none⟩ ::
   ⟨(some t108), oEqv eqP true (.t t107) (.v (.pointer none)), (some (t106, true)), none⟩ ::
   ⟨(some t109), oPick (.t t106) (.t t108) (.v (.bool false)), none, none⟩ ::
   ⟨(some t110), oMov (.t t109), none, none⟩ ::
   ⟨(some t111), oMov (.t t12), (some (t110, true)), none⟩ :: c9_q1)
def c9_q3 : List AOper := (⟨(some t84), oCall 31 [(.t t83)], (some (t82, true)), none⟩ ::
   ⟨(some t85), oBin (int2 (cmpO eqI)) (.t t84) (.v (.int .i64 36100)), (some (t82, true)), none⟩ ::
   ⟨(some t86), oPick (.t t82) (.t t85) (.v (.bool false)), none, none⟩ ::
   ⟨(some t87), oMov (.t t86), none, none⟩ ::
   ⟨(some t88), oMov (.t t10), (some (t87, true)), none⟩ ::
   ⟨(some t89), oCall 30 [(.t t88)], (some (t87, true)), none⟩ ::
   ⟨(some t90), oBin (int2 (cmpO eqI)) (.t t89) (.v (.int .i64 3)), (some (t87, true)), none⟩ ::
   ⟨(some t91), oPick (.t t87) (.t t90) (.v (.bool false)), none, none⟩ ::
   ⟨(some t92), oMov (.t t91), none, none⟩ ::
   ⟨(some t93), oMov (.t t10), (some (t92, true)), none⟩ ::
   ⟨(some t94), oCall 32 [(.t t93)], (some (t92, true)), none⟩ ::
   ⟨(some t95), oBin (int2 (cmpO eqI)) (.t t94) (.v (.int .i64 100)), (some (t92, true)), none⟩ ::
   ⟨(some t96), oPick (.t t92) (.t t95) (.v (.bool false)), none, none⟩ ::
   ⟨(some t97), oMov (.t t96), none, none⟩ :: c9_q2)
def c9_q4 : List AOper := (⟨(some t70), oMov (.t t69), none, none⟩ ::
   ⟨(some t71), oMov (.t t8), (some (t70, true)), none⟩ ::
   ⟨(some t72), oBin (int2 (cmpO eqI)) (.t t71) (.v (.int .i64 0)), (some (t70, true)), none⟩ ::
   ⟨(some t73), oPick (.t t70) (.t t72) (.v (.bool false)), none, none⟩ ::
   ⟨(some t74), oMov (.t t73), none, none⟩ ::
   ⟨(some t75), oMov (.t t9), (some (t74, true)), none⟩ ::
   ⟨(some t76), oBin (int2 (cmpO eqI)) (.t t75) (.v (.int .i64 0)), (some (t74, true)), none⟩ ::
   ⟨(some t77), oPick (.t t74) (.t t76) (.v (.bool false)), none, none⟩ ::
   ⟨(some t78), oMov (.t t77), none, none⟩ ::
   ⟨(some t79), oMov (.t t11), (some (t78, true)), none⟩ ::
   ⟨(some t80), oBin (int2 (cmpO eqI)) (.t t79) (.v (.int .i64 0)), (some (t78, true)), none⟩ ::
   ⟨(some t81), oPick (.t t78) (.t t80) (.v (.bool false)), none, none⟩ ::
   ⟨(some t82), oMov (.t t81), none, none⟩ ::
   ⟨(some t83), oMov (.t t10), (some (t82, true)), none⟩ :: c9_q3)
def c9 : AFunc := ⟨133, [.tmp t0],
 (xSeq (xOps [⟨(some t0), oMov (.v (.bool false)), none, none⟩])
 (xSeq (xOps [⟨(some t14), oCall 10 [], none, none⟩,
   ⟨(some t1), oMov (.t t14), none, none⟩])
 (xSeq (xOps [⟨(some t15), oMov (.t t1), none, none⟩,
   ⟨(some t16), oCall 27 [(.t t15), (.v (.int .i64 0)), (.v (.int .i64 1000000))], none, none⟩])
 (xSeq (xOps [⟨(some t18), oCall 11 [(.v (.int .i64 0)), (.v (.int .i64 36500))], none, none⟩,
   ⟨(some t17), oMov (.t t18), none, none⟩,
   ⟨(some t19), oExtract (.t t17) 0, none, none⟩,
   ⟨(some t20), oExtract (.t t17) 1, none, none⟩,
   ⟨(some t2), oMov (.t t19), none, none⟩,
   ⟨(some t3), oMov (.t t20), none, none⟩])
 (xSeq (xSeq (xOps [⟨(some t21), oMov (.t t3), none, none⟩,
   ⟨(some t22), oBin (int2 (cmpO neI)) (.t t21) (.v (.int .i64 0)), none, none⟩,
   ⟨(some t23), oMov (.t t22), none, none⟩,
   ⟨(some t24), oMov (.t t2), (some (t23, false)), none⟩,
   ⟨(some t25), oEqv eqP false (.t t24) (.v (.pointer none)), (some (t23, false)), none⟩,
   ⟨(some t26), oPick (.t t23) (.v (.bool true)) (.t t25), none, none⟩])
 (xCond (.t t26)
 (xSeq (xOps [⟨(some t0), oMov (.v (.bool false)), none, none⟩])
 xRet)
 xSkip))
 (xSeq (xOps [⟨(some t28), oMov (.t t2), none, none⟩,
   ⟨(some t29), oMov (.t t1), none, none⟩,
   ⟨(some t30), oCall 22 [(.t t28), (.t t29), (.v (.int .i64 1))], none, none⟩,
   ⟨(some t27), oMov (.t t30), none, none⟩,
   ⟨(some t31), oExtract (.t t27) 0, none, none⟩,
   ⟨(some t32), oExtract (.t t27) 1, none, none⟩,
   ⟨(some t4), oMov (.t t31), none, none⟩,
   ⟨(some t5), oMov (.t t32), none, none⟩])
 (xSeq (xOps [⟨(some t34), oMov (.t t2), none, none⟩,
   ⟨(some t35), oMov (.t t1), none, none⟩,
   ⟨(some t36), oCall 20 [(.t t34), (.t t35), (.v (.int .i64 1))], none, none⟩,
   ⟨(some t33), oMov (.t t36), none, none⟩,
   ⟨(some t37), oExtract (.t t33) 0, none, none⟩,
   ⟨(some t38), oExtract (.t t33) 1, none, none⟩,
   ⟨(some t6), oMov (.t t37), none, none⟩,
   ⟨(some t7), oMov (.t t38), none, none⟩])
 (xSeq (xOps [⟨(some t39), oMov (.t t2), none, none⟩,
   ⟨(some t40), oMov (.t t1), none, none⟩,
   ⟨(some t41), oCall 14 [(.t t39), (.t t40), (.v (.int .i64 2)), (.v (.int .i64 500))], none, none⟩,
   ⟨(some t8), oMov (.t t41), none, none⟩])
 (xSeq (xOps [⟨(some t42), oMov (.t t2), none, none⟩,
   ⟨(some t43), oMov (.t t1), none, none⟩,
   ⟨(some t44), oCall 15 [(.t t42), (.t t43), (.v (.int .i64 3)), (.v (.int .i64 100))], none, none⟩,
   ⟨(some t9), oMov (.t t44), none, none⟩])
 (xSeq (xOps [⟨(some t45), oMov (.t t2), none, none⟩,
   ⟨(some t46), oCall 38 [(.t t45)], none, none⟩,
   ⟨(some t10), oMov (.t t46), none, none⟩])
 (xSeq (xOps [⟨(some t47), oMov (.t t2), none, none⟩,
   ⟨(some t48), oMov (.t t1), none, none⟩,
   ⟨(some t49), oCall 13 [(.t t47), (.t t48), (.v (.int .i64 9))], none, none⟩,
   ⟨(some t11), oMov (.t t49), none, none⟩])
 (xSeq (xOps [⟨(some t51), oMov (.t t10), none, none⟩,
   ⟨(some t52), oCall 24 [(.t t51)], none, none⟩,
   ⟨(some t53), oCall 12 [(.t t52)], none, none⟩,
   ⟨(some t50), oMov (.t t53), none, none⟩,
   ⟨(some t54), oExtract (.t t50) 0, none, none⟩,
   ⟨(some t55), oExtract (.t t50) 1, none, none⟩,
   ⟨(some t12), oMov (.t t54), none, none⟩,
   ⟨(some t13), oMov (.t t55), none, none⟩])
 (xSeq (xOps (⟨(some t56), oMov (.t t5), none, none⟩ ::
   ⟨(some t57), oBin (int2 (cmpO eqI)) (.t t56) (.v (.int .i64 0)), none, none⟩ ::
   ⟨(some t58), oMov (.t t57), none, none⟩ ::
   ⟨(some t59), oMov (.t t4), (some (t58, true)), none⟩ ::
   ⟨(some t60), oBin (int2 (cmpO eqI)) (.t t59) (.v (.int .i64 100)), (some (t58, true)), none⟩ ::
   ⟨(some t61), oPick (.t t58) (.t t60) (.v (.bool false)), none, none⟩ ::
   ⟨(some t62), oMov (.t t61), none, none⟩ ::
   ⟨(some t63), oMov (.t t7), (some (t62, true)), none⟩ ::
   ⟨(some t64), oBin (int2 (cmpO eqI)) (.t t63) (.v (.int .i64 0)), (some (t62, true)), none⟩ ::
   ⟨(some t65), oPick (.t t62) (.t t64) (.v (.bool false)), none, none⟩ ::
   ⟨(some t66), oMov (.t t65), none, none⟩ ::
   ⟨(some t67), oMov (.t t6), (some (t66, true)), none⟩ ::
   ⟨(some t68), oBin (int2 (cmpO eqI)) (.t t67) (.v (.int .i64 100)), (some (t66, true)), none⟩ ::
   ⟨(some t69), oPick (.t t66) (.t t68) (.v (.bool false)), none, none⟩ :: c9_q4))
 xRet)))))))))))))⟩
theorem ok9 : cFunc Try.prog gl ex Try.f9 = some c9 := by kernel_rfl
-- publican/rate.New
-- publican/accrue.New
def c11 : AFunc := ⟨24, [.tmp t4, .tmp t5],
 (xSeq (xOps [⟨(some t4), oMov (.v (.pointer none)), none, none⟩,
   ⟨(some t5), oMov (.v (.int .i64 0)), none, none⟩])
 (xSeq (xBlock 0 (xSeq (xOps [⟨(some t7), oMov (.t t0), none, none⟩,
   ⟨(some t8), oBin (int2 (cmpO ltI)) (.t t7) (.v (.int .i64 0)), none, none⟩,
   ⟨(some t9), oMov (.t t8), none, none⟩,
   ⟨(some t10), oMov (.t t0), (some (t9, false)), none⟩,
   ⟨(some t11), oBin (int2 (cmpO gtI)) (.t t10) (.v (.int .i64 109572)), (some (t9, false)), none⟩,
   ⟨(some t12), oPick (.t t9) (.v (.bool true)) (.t t11), none, none⟩,
   ⟨(some t6), oMov (.t t12), none, none⟩])
 (xCond (.t t6)
 (xSeq (xOps [⟨(some t4), oMov (.v (.pointer none)), none, none⟩,
   ⟨(some t5), oMov (.v (.int .i64 12)), none, none⟩])
 xRet)
 (xSeq (xOps [⟨(some t14), oMov (.t t1), none, none⟩,
   ⟨(some t15), oBin (int2 (cmpO ltI)) (.t t14) (.v (.int .i64 0)), none, none⟩,
   ⟨(some t16), oMov (.t t15), none, none⟩,
   ⟨(some t17), oMov (.t t1), (some (t16, false)), none⟩,
   ⟨(some t18), oBin (int2 (cmpO gtI)) (.t t17) (.v (.int .i64 4503599627370496)), (some (t16, false)), none⟩,
   ⟨(some t19), oPick (.t t16) (.v (.bool true)) (.t t18), none, none⟩,
   ⟨(some t13), oMov (.t t19), none, none⟩])
 (xCond (.t t13)
 (xSeq (xOps [⟨(some t4), oMov (.v (.pointer none)), none, none⟩,
   ⟨(some t5), oMov (.v (.int .i64 1)), none, none⟩])
 xRet)
 xSkip)))))
 (xSeq (xOps [⟨(some t20), oMov (.t t0), none, none⟩,
   ⟨(some t21), oMov (.t t1), none, none⟩,
   ⟨(some t22), oBuild [(.int .i64 0), (.int .i64 0), (.int .i64 0), (.int .i64 0), (.int .u64 0)] [(0, 1, (.t t20)), (1, 1, (.t t21))], none, none⟩,
   ⟨(some t23), oBox (.t t22), none, none⟩,
   ⟨(some t4), oMov (.t t23), none, none⟩,
   ⟨(some t5), oMov (.v (.int .i64 0)), none, none⟩])
 xRet)))⟩
theorem ok11 : cFunc Try.prog gl ex Try.f11 = some c11 := by kernel_rfl
-- publican/accrue.Decode
def c12_q0 : List AOper := [⟨(some t50), oMov (.t t7), (some (t49, false)), none⟩,
   ⟨(some t51), oBin (int2 (cmpO gtI)) (.t t50) (.v (.int .i64 4503599627370496)), (some (t49, false)), none⟩,
   ⟨(some t52), oPick (.t t49) (.v (.bool true)) (.t t51), none, none⟩,
   ⟨(some t53), oMov (.t t52), none, none⟩,
   ⟨(some t54), oFieldAddr 0 (.t t8), (some (t53, false)), none⟩,
   ⟨(some t55), oLoad1 (.t t54), (some (t53, false)), (some (.t t54))⟩,
   ⟨(some t56), oBin (int2 (cmpO ltI)) (.t t55) (.v (.int .i64 0)), (some (t53, false)), none⟩,
   ⟨(some t57), oPick (.t t53) (.v (.bool true)) (.t t56), none, none⟩,
   ⟨(some t58), oMov (.t t57), none, none⟩,
   ⟨(some t59), oLoadN 2 (.t t8), (some (t58, false)), none⟩,
   ⟨(some t60), oBuild [(.int .i64 0), (.int .u64 0)] [(0, 1, (.v (.int .i64 68719476736)))], (some (t58, false)), none⟩,
   ⟨(some t61), oCall 44 [(.t t59), (.t t60)], (some (t58, false)), none⟩,
   ⟨(some t62), oBin (int2 (cmpO gtI)) (.t t61) (.v (.int .i64 0)), (some (t58, false)), none⟩,
   ⟨(some t63), oPick (.t t58) (.v (.bool true)) (.t t62), none, none⟩]
def c12_q1 : List AOper := (⟨(some t36), oPick (.t t33) (.v (.bool true)) (.t t35), none, none⟩ ::
   ⟨(some t37), oMov (.t t36), none, none⟩ ::
   ⟨(some t38), oMov (.t t6), (some (t37, false)), none⟩ ::
   ⟨(some t39), oBin (int2 (cmpO ltI)) (.t t38) (.v (.int .i64 0)), (some (t37, false)), none⟩ ::
   ⟨(some t40), oPick (.t t37) (.v (.bool true)) (.t t39), none, none⟩ ::
   ⟨(some t41), oMov (.t t40), none, none⟩ ::
   ⟨(some t42), oMov (.t t6), (some (t41, false)), none⟩ ::
   ⟨(some t43), oBin (int2 (cmpO gtI)) (.t t42) (.v (.int .i64 4503599627370496)), (some (t41, false)), none⟩ ::
   ⟨(some t44), oPick (.t t41) (.v (.bool true)) (.t t43), none, none⟩ ::
   ⟨(some t45), oMov (.t t44), none, none⟩ ::
   ⟨(some t46), oMov (.t t7), (some (t45, false)), none⟩ ::
   ⟨(some t47), oBin (int2 (cmpO ltI)) (.t t46) (.v (.int .i64 0)), (some (t45, false)), none⟩ ::
   ⟨(some t48), oPick (.t t45) (.v (.bool true)) (.t t47), none, none⟩ ::
   ⟨(some t49), oMov (.t t48), none, none⟩ :: c12_q0)
def c12_j0 : X := (xCond (.t t63)
 (xSeq (xOps [⟨(some t2), oMov (.v (.pointer none)), none, none⟩,
   ⟨(some t3), oMov (.v (.int .i64 3)), none, none⟩])
 xRet)
 xSkip)
def c12_j1 : X := (xSeq (xOps [⟨(some t64), oMov (.t t5), none, none⟩,
   ⟨(some t65), oMov (.t t6), none, none⟩,
   ⟨(some t66), oMov (.t t7), none, none⟩,
   ⟨(some t67), oLoadN 2 (.t t8), none, none⟩,
   ⟨(some t68), oBuild [(.int .i64 0), (.int .i64 0), (.int .i64 0), (.int .i64 0), (.int .u64 0)] [(0, 1, (.t t64)), (1, 1, (.t t65)), (2, 1, (.t t66)), (3, 2, (.t t67))], none, none⟩,
   ⟨(some t69), oBox (.t t68), none, none⟩,
   ⟨(some t2), oMov (.t t69), none, none⟩,
   ⟨(some t3), oMov (.v (.int .i64 0)), none, none⟩])
 xRet)
def c12 : AFunc := ⟨70, [.tmp t2, .tmp t3],
 (xSeq (xOps [⟨(some t2), oMov (.v (.pointer none)), none, none⟩,
   ⟨(some t3), oMov (.v (.int .i64 0)), none, none⟩])
 (xSeq (xOps [⟨(some t9), oMov (.t t0), none, none⟩,
   ⟨(some t10), oCall 39 [(.t t9)], none, none⟩,
   ⟨(some t4), oMov (.t t10), none, none⟩])
 (xSeq (xOps [⟨(some t11), oMov (.t t4), none, none⟩,
   ⟨(some t12), oCall 40 [(.t t11)], none, none⟩,
   ⟨(some t13), oMov (.t t4), none, none⟩,
   ⟨(some t14), oCall 40 [(.t t13)], none, none⟩,
   ⟨(some t15), oMov (.t t4), none, none⟩,
   ⟨(some t16), oCall 40 [(.t t15)], none, none⟩,
   ⟨(some t5), oMov (.t t12), none, none⟩,
   ⟨(some t6), oMov (.t t14), none, none⟩,
   ⟨(some t7), oMov (.t t16), none, none⟩])
 (xSeq (xOps [⟨(some t17), oMov (.t t4), none, none⟩,
   ⟨(some t18), oCall 40 [(.t t17)], none, none⟩,
   ⟨(some t19), oMov (.t t4), none, none⟩,
   ⟨(some t20), oCall 41 [(.t t19)], none, none⟩,
   ⟨(some t21), oBuild [(.int .i64 0), (.int .u64 0)] [(0, 1, (.t t18)), (1, 1, (.t t20))], none, none⟩,
   ⟨(some t8), oNew [(.int .i64 0), (.int .u64 0)], none, none⟩,
   ⟨none, oStore 2 (.t t8) (.t t21), none, none⟩])
 (xSeq (xSeq (xOps (⟨(some t22), oMov (.t t4), none, none⟩ ::
   ⟨(some t23), oCall 42 [(.t t22)], none, none⟩ ::
   ⟨(some t24), oMov (.t t23), none, none⟩ ::
   ⟨(some t25), oMov (.t t4), (some (t24, false)), none⟩ ::
   ⟨(some t26), oCall 43 [(.t t25)], (some (t24, false)), none⟩ ::
   ⟨(some t27), oBin (int2 (cmpO gtI)) (.t t26) (.v (.int .i64 0)), (some (t24, false)), none⟩ ::
   ⟨(some t28), oPick (.t t24) (.v (.bool true)) (.t t27), none, none⟩ ::
   ⟨(some t29), oMov (.t t28), none, none⟩ ::
   ⟨(some t30), oMov (.t t5), (some (t29, false)), none⟩ ::
   ⟨(some t31), oBin (int2 (cmpO ltI)) (.t t30) (.v (.int .i64 0)), (some (t29, false)), none⟩ ::
   ⟨(some t32), oPick (.t t29) (.v (.bool true)) (.t t31), none, none⟩ ::
   ⟨(some t33), oMov (.t t32), none, none⟩ ::
   ⟨(some t34), oMov (.t t5), (some (t33, false)), none⟩ ::
   ⟨(some t35), oBin (int2 (cmpO gtI)) (.t t34) (.v (.int .i64 109572)), (some (t33, false)), none⟩ :: c12_q1))
 c12_j0)
 c12_j1)))))⟩
theorem ok12 : cFunc Try.prog gl ex Try.f12 = some c12 := by kernel_rfl
-- (*publican/accrue.Acc).Run
def c13 : AFunc := ⟨25, [.tmp t6],
 (xSeq (xOps [⟨(some t6), oMov (.v (.int .i64 0)), none, none⟩])
 (xSeq (xSeq (xOps [⟨(some t8), oMov (.t t0), none, none⟩,
   ⟨(some t9), oMov (.t t2), none, none⟩,
   ⟨(some t10), oCall 45 [(.t t8), (.t t9)], none, none⟩,
   ⟨(some t7), oMov (.t t10), none, none⟩])
 (xSeq (xOps [⟨(some t11), oMov (.t t7), none, none⟩,
   ⟨(some t12), oBin (int2 (cmpO neI)) (.t t11) (.v (.int .i64 0)), none, none⟩])
 (xCond (.t t12)
 (xSeq (xOps [⟨(some t13), oMov (.t t7), none, none⟩,
   ⟨(some t6), oMov (.t t13), none, none⟩])
 xRet)
 xSkip)))
 (xSeq (xOps [⟨(some t14), oMov (.t t0), none, none⟩,
   ⟨(some t15), oMov (.t t0), none, none⟩,
   ⟨(some t16), oMov (.t t1), none, none⟩,
   ⟨(some t17), oMov (.t t2), none, none⟩,
   ⟨(some t18), oCall 46 [(.t t15), (.t t16), (.t t17)], none, none⟩,
   ⟨(some t19), oNilCheck (.t t14), none, none⟩,
   ⟨(some t20), oFieldAddr 3 (.t t19), none, none⟩,
   ⟨none, oStore 2 (.t t20) (.t t18), none, none⟩])
 (xSeq (xOps [⟨(some t21), oMov (.t t0), none, none⟩,
   ⟨(some t22), oMov (.t t2), none, none⟩,
   ⟨(some t23), oNilCheck (.t t21), none, none⟩,
   ⟨(some t24), oFieldAddr 0 (.t t23), none, none⟩,
   ⟨none, oStore 1 (.t t24) (.t t22), none, none⟩])
 (xSeq (xOps [⟨(some t6), oMov (.v (.int .i64 0)), none, none⟩])
 xRet)))))⟩
theorem ok13 : cFunc Try.prog gl ex Try.f13 = some c13 := by kernel_rfl
-- (*publican/accrue.Acc).Pay
def c14 : AFunc := ⟨45, [.tmp t8],
 (xSeq (xOps [⟨(some t8), oMov (.v (.int .i64 0)), none, none⟩])
 (xSeq (xSeq (xOps [⟨(some t10), oMov (.t t0), none, none⟩,
   ⟨(some t11), oMov (.t t2), none, none⟩,
   ⟨(some t12), oCall 45 [(.t t10), (.t t11)], none, none⟩,
   ⟨(some t9), oMov (.t t12), none, none⟩])
 (xSeq (xOps [⟨(some t13), oMov (.t t9), none, none⟩,
   ⟨(some t14), oBin (int2 (cmpO neI)) (.t t13) (.v (.int .i64 0)), none, none⟩])
 (xCond (.t t14)
 (xSeq (xOps [⟨(some t15), oMov (.t t9), none, none⟩,
   ⟨(some t8), oMov (.t t15), none, none⟩])
 xRet)
 xSkip)))
 (xSeq (xSeq (xOps [⟨(some t16), oMov (.t t3), none, none⟩,
   ⟨(some t17), oBin (int2 (cmpO ltI)) (.t t16) (.v (.int .i64 0)), none, none⟩,
   ⟨(some t18), oMov (.t t17), none, none⟩,
   ⟨(some t19), oMov (.t t3), (some (t18, false)), none⟩,
   ⟨(some t20), oMov (.t t0), (some (t18, false)), none⟩,
   ⟨(some t21), oNilCheck (.t t20), (some (t18, false)), none⟩,
   ⟨(some t22), oFieldAddr 1 (.t t21), (some (t18, false)), none⟩,
   ⟨(some t23), oLoad1 (.t t22), (some (t18, false)), (some (.t t22))⟩,
   ⟨(some t24), oBin (int2 (cmpO gtI)) (.t t19) (.t t23), (some (t18, false)), none⟩,
   ⟨(some t25), oPick (.t t18) (.v (.bool true)) (.t t24), none, none⟩])
 (xCond (.t t25)
 (xSeq (xOps [⟨(some t8), oMov (.v (.int .i64 1)), none, none⟩])
 xRet)
 xSkip))
 (xSeq (xOps [⟨(some t26), oMov (.t t0), none, none⟩,
   ⟨(some t27), oMov (.t t0), none, none⟩,
   ⟨(some t28), oMov (.t t0), none, none⟩,
   ⟨(some t29), oMov (.t t1), none, none⟩,
   ⟨(some t30), oMov (.t t2), none, none⟩,
   ⟨(some t31), oCall 46 [(.t t28), (.t t29), (.t t30)], none, none⟩,
   ⟨(some t32), oMov (.t t2), none, none⟩,
   ⟨(some t33), oNilCheck (.t t26), none, none⟩,
   ⟨(some t34), oFieldAddr 3 (.t t33), none, none⟩,
   ⟨none, oStore 2 (.t t34) (.t t31), none, none⟩,
   ⟨(some t35), oNilCheck (.t t27), none, none⟩,
   ⟨(some t36), oFieldAddr 0 (.t t35), none, none⟩,
   ⟨none, oStore 1 (.t t36) (.t t32), none, none⟩])
 (xSeq (xOps [⟨(some t37), oMov (.t t0), none, none⟩,
   ⟨(some t38), oNilCheck (.t t37), none, none⟩,
   ⟨(some t39), oFieldAddr 1 (.t t38), none, none⟩,
   ⟨(some t40), oLoad1 (.t t39), none, (some (.t t39))⟩,
   ⟨(some t41), oMov (.t t3), none, none⟩,
   ⟨(some t42), oBin (int2 subO) (.t t40) (.t t41), none, none⟩,
   ⟨(some t43), oNilCheck (.t t37), none, none⟩,
   ⟨(some t44), oFieldAddr 1 (.t t43), none, none⟩,
   ⟨none, oStore 1 (.t t44) (.t t42), none, none⟩])
 (xSeq (xOps [⟨(some t8), oMov (.v (.int .i64 0)), none, none⟩])
 xRet))))))⟩
theorem ok14 : cFunc Try.prog gl ex Try.f14 = some c14 := by kernel_rfl
-- (*publican/accrue.Acc).Add
def c15 : AFunc := ⟨46, [.tmp t8],
 (xSeq (xOps [⟨(some t8), oMov (.v (.int .i64 0)), none, none⟩])
 (xSeq (xSeq (xOps [⟨(some t10), oMov (.t t0), none, none⟩,
   ⟨(some t11), oMov (.t t2), none, none⟩,
   ⟨(some t12), oCall 45 [(.t t10), (.t t11)], none, none⟩,
   ⟨(some t9), oMov (.t t12), none, none⟩])
 (xSeq (xOps [⟨(some t13), oMov (.t t9), none, none⟩,
   ⟨(some t14), oBin (int2 (cmpO neI)) (.t t13) (.v (.int .i64 0)), none, none⟩])
 (xCond (.t t14)
 (xSeq (xOps [⟨(some t15), oMov (.t t9), none, none⟩,
   ⟨(some t8), oMov (.t t15), none, none⟩])
 xRet)
 xSkip)))
 (xSeq (xSeq (xOps [⟨(some t16), oMov (.t t3), none, none⟩,
   ⟨(some t17), oBin (int2 (cmpO ltI)) (.t t16) (.v (.int .i64 0)), none, none⟩,
   ⟨(some t18), oMov (.t t17), none, none⟩,
   ⟨(some t19), oMov (.t t3), (some (t18, false)), none⟩,
   ⟨(some t20), oMov (.t t0), (some (t18, false)), none⟩,
   ⟨(some t21), oNilCheck (.t t20), (some (t18, false)), none⟩,
   ⟨(some t22), oFieldAddr 1 (.t t21), (some (t18, false)), none⟩,
   ⟨(some t23), oLoad1 (.t t22), (some (t18, false)), (some (.t t22))⟩,
   ⟨(some t24), oBin (int2 subO) (.v (.int .i64 4503599627370496)) (.t t23), (some (t18, false)), none⟩,
   ⟨(some t25), oBin (int2 (cmpO gtI)) (.t t19) (.t t24), (some (t18, false)), none⟩,
   ⟨(some t26), oPick (.t t18) (.v (.bool true)) (.t t25), none, none⟩])
 (xCond (.t t26)
 (xSeq (xOps [⟨(some t8), oMov (.v (.int .i64 1)), none, none⟩])
 xRet)
 xSkip))
 (xSeq (xOps [⟨(some t27), oMov (.t t0), none, none⟩,
   ⟨(some t28), oMov (.t t0), none, none⟩,
   ⟨(some t29), oMov (.t t0), none, none⟩,
   ⟨(some t30), oMov (.t t1), none, none⟩,
   ⟨(some t31), oMov (.t t2), none, none⟩,
   ⟨(some t32), oCall 46 [(.t t29), (.t t30), (.t t31)], none, none⟩,
   ⟨(some t33), oMov (.t t2), none, none⟩,
   ⟨(some t34), oNilCheck (.t t27), none, none⟩,
   ⟨(some t35), oFieldAddr 3 (.t t34), none, none⟩,
   ⟨none, oStore 2 (.t t35) (.t t32), none, none⟩,
   ⟨(some t36), oNilCheck (.t t28), none, none⟩,
   ⟨(some t37), oFieldAddr 0 (.t t36), none, none⟩,
   ⟨none, oStore 1 (.t t37) (.t t33), none, none⟩])
 (xSeq (xOps [⟨(some t38), oMov (.t t0), none, none⟩,
   ⟨(some t39), oNilCheck (.t t38), none, none⟩,
   ⟨(some t40), oFieldAddr 1 (.t t39), none, none⟩,
   ⟨(some t41), oLoad1 (.t t40), none, (some (.t t40))⟩,
   ⟨(some t42), oMov (.t t3), none, none⟩,
   ⟨(some t43), oBin (int2 addO) (.t t41) (.t t42), none, none⟩,
   ⟨(some t44), oNilCheck (.t t38), none, none⟩,
   ⟨(some t45), oFieldAddr 1 (.t t44), none, none⟩,
   ⟨none, oStore 1 (.t t45) (.t t43), none, none⟩])
 (xSeq (xOps [⟨(some t8), oMov (.v (.int .i64 0)), none, none⟩])
 xRet))))))⟩
theorem ok15 : cFunc Try.prog gl ex Try.f15 = some c15 := by kernel_rfl
-- (*publican/accrue.Acc).Post
def c20 : AFunc := ⟨37, [.tmp t6, .tmp t7],
 (xSeq (xOps [⟨(some t6), oMov (.v (.int .i64 0)), none, none⟩,
   ⟨(some t7), oMov (.v (.int .i64 0)), none, none⟩])
 (xSeq (xOps [⟨(some t12), oMov (.t t0), none, none⟩,
   ⟨(some t13), oMov (.t t1), none, none⟩,
   ⟨(some t14), oMov (.t t2), none, none⟩,
   ⟨(some t15), oCall 22 [(.t t12), (.t t13), (.t t14)], none, none⟩,
   ⟨(some t11), oMov (.t t15), none, none⟩,
   ⟨(some t16), oExtract (.t t11) 0, none, none⟩,
   ⟨(some t17), oExtract (.t t11) 1, none, none⟩,
   ⟨(some t8), oMov (.t t16), none, none⟩,
   ⟨(some t9), oMov (.t t17), none, none⟩])
 (xSeq (xSeq (xOps [⟨(some t18), oMov (.t t9), none, none⟩,
   ⟨(some t19), oBin (int2 (cmpO neI)) (.t t18) (.v (.int .i64 0)), none, none⟩])
 (xCond (.t t19)
 (xSeq (xOps [⟨(some t20), oMov (.t t9), none, none⟩,
   ⟨(some t6), oMov (.v (.int .i64 0)), none, none⟩,
   ⟨(some t7), oMov (.t t20), none, none⟩])
 xRet)
 xSkip))
 (xSeq (xSeq (xOps [⟨(some t21), oMov (.t t0), none, none⟩,
   ⟨(some t22), oMov (.t t1), none, none⟩,
   ⟨(some t23), oMov (.t t2), none, none⟩,
   ⟨(some t24), oCall 13 [(.t t21), (.t t22), (.t t23)], none, none⟩,
   ⟨(some t10), oMov (.t t24), none, none⟩])
 (xSeq (xOps [⟨(some t25), oMov (.t t10), none, none⟩,
   ⟨(some t26), oBin (int2 (cmpO neI)) (.t t25) (.v (.int .i64 0)), none, none⟩])
 (xCond (.t t26)
 (xSeq (xOps [⟨(some t27), oMov (.t t10), none, none⟩,
   ⟨(some t6), oMov (.v (.int .i64 0)), none, none⟩,
   ⟨(some t7), oMov (.t t27), none, none⟩])
 xRet)
 xSkip)))
 (xSeq (xOps [⟨(some t28), oMov (.t t0), none, none⟩,
   ⟨(some t29), oNilCheck (.t t28), none, none⟩,
   ⟨(some t30), oFieldAddr 2 (.t t29), none, none⟩,
   ⟨(some t31), oLoad1 (.t t30), none, (some (.t t30))⟩,
   ⟨(some t32), oMov (.t t8), none, none⟩,
   ⟨(some t33), oBin (int2 addO) (.t t31) (.t t32), none, none⟩,
   ⟨(some t34), oNilCheck (.t t28), none, none⟩,
   ⟨(some t35), oFieldAddr 2 (.t t34), none, none⟩,
   ⟨none, oStore 1 (.t t35) (.t t33), none, none⟩])
 (xSeq (xOps [⟨(some t36), oMov (.t t8), none, none⟩,
   ⟨(some t6), oMov (.t t36), none, none⟩,
   ⟨(some t7), oMov (.v (.int .i64 0)), none, none⟩])
 xRet))))))⟩
theorem ok20 : cFunc Try.prog gl ex Try.f20 = some c20 := by kernel_rfl
-- (*publican/accrue.Acc).Shown
def c22 : AFunc := ⟨37, [.tmp t6, .tmp t7],
 (xSeq (xOps [⟨(some t6), oMov (.v (.int .i64 0)), none, none⟩,
   ⟨(some t7), oMov (.v (.int .i64 0)), none, none⟩])
 (xSeq (xSeq (xOps [⟨(some t11), oMov (.t t0), none, none⟩,
   ⟨(some t12), oMov (.t t2), none, none⟩,
   ⟨(some t13), oCall 45 [(.t t11), (.t t12)], none, none⟩,
   ⟨(some t8), oMov (.t t13), none, none⟩])
 (xSeq (xOps [⟨(some t14), oMov (.t t8), none, none⟩,
   ⟨(some t15), oBin (int2 (cmpO neI)) (.t t14) (.v (.int .i64 0)), none, none⟩])
 (xCond (.t t15)
 (xSeq (xOps [⟨(some t16), oMov (.t t8), none, none⟩,
   ⟨(some t6), oMov (.v (.int .i64 0)), none, none⟩,
   ⟨(some t7), oMov (.t t16), none, none⟩])
 xRet)
 xSkip)))
 (xSeq (xOps [⟨(some t18), oMov (.t t0), none, none⟩,
   ⟨(some t19), oMov (.t t1), none, none⟩,
   ⟨(some t20), oMov (.t t2), none, none⟩,
   ⟨(some t21), oCall 46 [(.t t18), (.t t19), (.t t20)], none, none⟩,
   ⟨(some t22), oCall 48 [(.t t21), (.v (.int .i64 365000000))], none, none⟩,
   ⟨(some t17), oMov (.t t22), none, none⟩,
   ⟨(some t23), oExtract (.t t17) 0, none, none⟩,
   ⟨(some t24), oExtract (.t t17) 1, none, none⟩,
   ⟨(some t9), oMov (.t t23), none, none⟩,
   ⟨(some t10), oMov (.t t24), none, none⟩])
 (xSeq (xSeq (xOps [⟨(some t25), oMov (.t t10), none, none⟩,
   ⟨(some t26), oNot (.t t25), none, none⟩,
   ⟨(some t27), oMov (.t t26), none, none⟩,
   ⟨(some t28), oMov (.t t9), (some (t27, false)), none⟩,
   ⟨(some t29), oBin (int2 (cmpO gtI)) (.t t28) (.v (.int .i64 4503599627370496)), (some (t27, false)), none⟩,
   ⟨(some t30), oPick (.t t27) (.v (.bool true)) (.t t29), none, none⟩])
 (xCond (.t t30)
 (xSeq (xOps [⟨(some t6), oMov (.v (.int .i64 0)), none, none⟩,
   ⟨(some t7), oMov (.v (.int .i64 10)), none, none⟩])
 xRet)
 xSkip))
 (xSeq (xOps [⟨(some t31), oMov (.t t9), none, none⟩,
   ⟨(some t32), oMov (.t t0), none, none⟩,
   ⟨(some t33), oNilCheck (.t t32), none, none⟩,
   ⟨(some t34), oFieldAddr 2 (.t t33), none, none⟩,
   ⟨(some t35), oLoad1 (.t t34), none, (some (.t t34))⟩,
   ⟨(some t36), oBin (int2 subO) (.t t31) (.t t35), none, none⟩,
   ⟨(some t6), oMov (.t t36), none, none⟩,
   ⟨(some t7), oMov (.v (.int .i64 0)), none, none⟩])
 xRet)))))⟩
theorem ok22 : cFunc Try.prog gl ex Try.f22 = some c22 := by kernel_rfl
end
end Go.Proofs.Ytdnedangfnincaa.AbsAccO
