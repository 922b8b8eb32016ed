import Derived.Test.YtikdjhlcbkkkfaaRows
import Derived.Test.YtikdjhlcbkkkfaaAbsLexOT
import Derived.KernelRfl
namespace Go.Proofs.Ytikdjhlcbkkkfaa.AbsLexO
open Go Go.Abs Go.Proofs
set_option maxRecDepth 100000
set_option linter.unusedVariables false
noncomputable section
-- publican/publicanlaw9.LexCuts
def c4_q0 : List AOper := [⟨(some t96), oLoad1 (.t t95), (some (t91, false)), (some (.t t95))⟩,
   ⟨(some t97), oMov (.t t6), (some (t91, false)), none⟩,
   ⟨(some t98), oMov (.t t8), (some (t91, false)), none⟩,
   ⟨(some t99), oIdxAddrL 4 (.t t97) (.t t98), (some (t91, false)), none⟩,
   ⟨(some t100), oFieldAddr 3 (.t t99), (some (t91, false)), none⟩,
   ⟨(some t101), oLoad1 (.t t100), (some (t91, false)), (some (.t t100))⟩,
   ⟨(some t102), oBin (int2 (cmpO neI)) (.t t96) (.t t101), (some (t91, false)), none⟩,
   ⟨(some t103), oPick (.t t91) (.v (.bool true)) (.t t102), none, none⟩]
def c4_q1 : List AOper := (⟨(some t82), oFieldAddr 2 (.t t81), (some (t78, false)), none⟩ ::
   ⟨(some t83), oLoad1 (.t t82), (some (t78, false)), (some (.t t82))⟩ ::
   ⟨(some t84), oMov (.t t6), (some (t78, false)), none⟩ ::
   ⟨(some t85), oMov (.t t8), (some (t78, false)), none⟩ ::
   ⟨(some t86), oIdxAddrL 4 (.t t84) (.t t85), (some (t78, false)), none⟩ ::
   ⟨(some t87), oFieldAddr 2 (.t t86), (some (t78, false)), none⟩ ::
   ⟨(some t88), oLoad1 (.t t87), (some (t78, false)), (some (.t t87))⟩ ::
   ⟨(some t89), oBin (int2 (cmpO neI)) (.t t83) (.t t88), (some (t78, false)), none⟩ ::
   ⟨(some t90), oPick (.t t78) (.v (.bool true)) (.t t89), none, none⟩ ::
   ⟨(some t91), oMov (.t t90), none, none⟩ ::
   ⟨(some t92), oMov (.t t3), (some (t91, false)), none⟩ ::
   ⟨(some t93), oMov (.t t8), (some (t91, false)), none⟩ ::
   ⟨(some t94), oIdxAddrL 4 (.t t92) (.t t93), (some (t91, false)), none⟩ ::
   ⟨(some t95), oFieldAddr 3 (.t t94), (some (t91, false)), none⟩ :: c4_q0)
def c4_q2 : List AOper := (⟨(some t68), oIdxAddrL 4 (.t t66) (.t t67), (some (t65, false)), none⟩ ::
   ⟨(some t69), oFieldAddr 1 (.t t68), (some (t65, false)), none⟩ ::
   ⟨(some t70), oLoad1 (.t t69), (some (t65, false)), (some (.t t69))⟩ ::
   ⟨(some t71), oMov (.t t6), (some (t65, false)), none⟩ ::
   ⟨(some t72), oMov (.t t8), (some (t65, false)), none⟩ ::
   ⟨(some t73), oIdxAddrL 4 (.t t71) (.t t72), (some (t65, false)), none⟩ ::
   ⟨(some t74), oFieldAddr 1 (.t t73), (some (t65, false)), none⟩ ::
   ⟨(some t75), oLoad1 (.t t74), (some (t65, false)), (some (.t t74))⟩ ::
   ⟨(some t76), oBin (str2 (cmpS neBytes)) (.t t70) (.t t75), (some (t65, false)), none⟩ ::
   ⟨(some t77), oPick (.t t65) (.v (.bool true)) (.t t76), none, none⟩ ::
   ⟨(some t78), oMov (.t t77), none, none⟩ ::
   ⟨(some t79), oMov (.t t3), (some (t78, false)), none⟩ ::
   ⟨(some t80), oMov (.t t8), (some (t78, false)), none⟩ ::
   ⟨(some t81), oIdxAddrL 4 (.t t79) (.t t80), (some (t78, false)), none⟩ :: c4_q1)
def c4_g0 : List AOper := (⟨(some t54), oMov (.t t3), none, none⟩ ::
   ⟨(some t55), oMov (.t t8), none, none⟩ ::
   ⟨(some t56), oIdxAddrL 4 (.t t54) (.t t55), none, none⟩ ::
   ⟨(some t57), oFieldAddr 0 (.t t56), none, none⟩ ::
   ⟨(some t58), oLoad1 (.t t57), none, (some (.t t57))⟩ ::
   ⟨(some t59), oMov (.t t6), none, none⟩ ::
   ⟨(some t60), oMov (.t t8), none, none⟩ ::
   ⟨(some t61), oIdxAddrL 4 (.t t59) (.t t60), none, none⟩ ::
   ⟨(some t62), oFieldAddr 0 (.t t61), none, none⟩ ::
   ⟨(some t63), oLoad1 (.t t62), none, (some (.t t62))⟩ ::
   ⟨(some t64), oBin (int2 (cmpO neI)) (.t t58) (.t t63), none, none⟩ ::
   ⟨(some t65), oMov (.t t64), none, none⟩ ::
   ⟨(some t66), oMov (.t t3), (some (t65, false)), none⟩ ::
   ⟨(some t67), oMov (.t t8), (some (t65, false)), none⟩ :: c4_q2)
def c4_j0 : X := (xCond (.t t103)
 (xSeq (xOps [⟨(some t2), oMov (.v (.bool false)), none, none⟩])
 xRet)
 xSkip)
def c4_j1 : X := (xOps [⟨(some t52), oMov (.t t8), none, none⟩,
   ⟨(some t53), oBin (int2 addO) (.t t52) (.v (.int .i64 1)), none, none⟩,
   ⟨(some t8), oMov (.t t53), none, none⟩])
def c4_l0 : X := (xSeq (xSeq (xOps [⟨(some t48), oMov (.t t8), none, none⟩,
   ⟨(some t49), oMov (.t t3), none, none⟩,
   ⟨(some t50), oLenL (.t t49), none, none⟩,
   ⟨(some t51), oBin (int2 (cmpO ltI)) (.t t48) (.t t50), none, none⟩])
 (xCond (.t t51)
 xSkip
 (xExit 0)))
 (xSeq (xBlock 1 (xSeq (xReg c4_g0 [(0, 1), (0, 5), (1, 5), (2, 5), (3, 5), (4, 5), (0, 6), (1, 6), (2, 6), (3, 6), (4, 6), (5, 6), (0, 7), (1, 7), (2, 7), (3, 7), (4, 7), (0, 8), (1, 8), (2, 8), (3, 8), (4, 8), (0, 9), (1, 9), (2, 9), (3, 9), (4, 9), (12, 13), (12, 17), (13, 17), (14, 17), (15, 17), (16, 17), (12, 18), (13, 18), (14, 18), (15, 18), (16, 18), (17, 18), (12, 19), (13, 19), (14, 19), (15, 19), (16, 19), (12, 20), (13, 20), (14, 20), (15, 20), (16, 20), (12, 21), (13, 21), (14, 21), (15, 21), (16, 21), (25, 26), (25, 30), (26, 30), (27, 30), (28, 30), (29, 30), (25, 31), (26, 31), (27, 31), (28, 31), (29, 31), (30, 31), (25, 32), (26, 32), (27, 32), (28, 32), (29, 32), (25, 33), (26, 33), (27, 33), (28, 33), (29, 33), (25, 34), (26, 34), (27, 34), (28, 34), (29, 34), (38, 39), (38, 43), (39, 43), (40, 43), (41, 43), (42, 43), (38, 44), (39, 44), (40, 44), (41, 44), (42, 44), (43, 44), (38, 45), (39, 45), (40, 45), (41, 45), (42, 45), (38, 46), (39, 46), (40, 46), (41, 46), (42, 46), (38, 47), (39, 47), (40, 47), (41, 47), (42, 47)])
 c4_j0))
 c4_j1))
def c4_r0 : X := (xSeq (xOps [⟨(some t2), oMov (.v (.bool true)), none, none⟩])
 xRet)
def c4 : AFunc := ⟨104, [.tmp t2],
 (xSeq (xOps [⟨(some t2), oMov (.v (.bool false)), none, none⟩])
 (xSeq (xSeq (xOps [⟨(some t9), oCall 8 [], none, none⟩,
   ⟨(some t10), oNot (.t t9), none, none⟩])
 (xCond (.t t10)
 (xSeq (xOps [⟨(some t2), oMov (.v (.bool false)), none, none⟩])
 xRet)
 xSkip))
 (xSeq (xSeq (xOps [⟨(some t11), oMov (.t t0), none, none⟩,
   ⟨(some t12), oLenS (.t t11), none, none⟩,
   ⟨(some t13), oBin (int2 (cmpO gtI)) (.t t12) (.v (.int .i64 3000)), none, none⟩])
 (xCond (.t t13)
 (xSeq (xOps [⟨(some t2), oMov (.v (.bool true)), none, none⟩])
 xRet)
 xSkip))
 (xSeq (xOps [⟨(some t15), oMov (.t t0), none, none⟩,
   ⟨(some t16), oCall 9 [(.t t15)], none, none⟩,
   ⟨(some t14), oMov (.t t16), none, none⟩,
   ⟨(some t17), oExtract (.t t14) 0, none, none⟩,
   ⟨(some t18), oExtract (.t t14) 1, none, none⟩,
   ⟨(some t19), oExtract (.t t14) 2, none, none⟩,
   ⟨(some t3), oMov (.t t17), none, none⟩,
   ⟨(some t4), oMov (.t t18), none, none⟩,
   ⟨(some t5), oMov (.t t19), none, none⟩])
 (xSeq (xOps [⟨(some t21), oMov (.t t0), none, none⟩,
   ⟨(some t22), oCall 10 [(.t t21)], none, none⟩,
   ⟨(some t20), oMov (.t t22), none, none⟩,
   ⟨(some t23), oExtract (.t t20) 0, none, none⟩,
   ⟨(some t24), oExtract (.t t20) 1, none, none⟩,
   ⟨(some t6), oMov (.t t23), none, none⟩,
   ⟨(some t7), oMov (.t t24), none, none⟩])
 (xSeq (xSeq (xOps [⟨(some t25), oMov (.t t7), none, none⟩,
   ⟨(some t26), oBin (int2 (cmpO geI)) (.t t25) (.v (.int .i64 0)), none, none⟩])
 (xCond (.t t26)
 (xSeq (xOps [⟨(some t27), oMov (.t t5), none, none⟩,
   ⟨(some t28), oBin (int2 (cmpO eqI)) (.t t27) (.v (.int .i64 7)), none, none⟩,
   ⟨(some t29), oMov (.t t28), none, none⟩,
   ⟨(some t30), oMov (.t t4), (some (t29, true)), none⟩,
   ⟨(some t31), oMov (.t t7), (some (t29, true)), none⟩,
   ⟨(some t32), oBin (int2 (cmpO eqI)) (.t t30) (.t t31), (some (t29, true)), none⟩,
   ⟨(some t33), oPick (.t t29) (.t t32) (.v (.bool false)), none, none⟩,
   ⟨(some t34), oMov (.t t33), none, none⟩,
   ⟨(some t35), oMov (.t t3), (some (t34, true)), none⟩,
   ⟨(some t36), oLenL (.t t35), (some (t34, true)), none⟩,
   ⟨(some t37), oBin (int2 (cmpO eqI)) (.t t36) (.v (.int .i64 0)), (some (t34, true)), none⟩,
   ⟨(some t38), oPick (.t t34) (.t t37) (.v (.bool false)), none, none⟩,
   ⟨(some t2), oMov (.t t38), none, none⟩])
 xRet)
 xSkip))
 (xSeq (xSeq (xOps [⟨(some t39), oMov (.t t5), none, none⟩,
   ⟨(some t40), oBin (int2 (cmpO neI)) (.t t39) (.v (.int .i64 0)), none, none⟩,
   ⟨(some t41), oMov (.t t40), none, none⟩,
   ⟨(some t42), oMov (.t t3), (some (t41, false)), none⟩,
   ⟨(some t43), oLenL (.t t42), (some (t41, false)), none⟩,
   ⟨(some t44), oMov (.t t6), (some (t41, false)), none⟩,
   ⟨(some t45), oLenL (.t t44), (some (t41, false)), none⟩,
   ⟨(some t46), oBin (int2 (cmpO neI)) (.t t43) (.t t45), (some (t41, false)), none⟩,
   ⟨(some t47), oPick (.t t41) (.v (.bool true)) (.t t46), none, none⟩])
 (xCond (.t t47)
 (xSeq (xOps [⟨(some t2), oMov (.v (.bool false)), none, none⟩])
 xRet)
 xSkip))
 (xSeq (xSeq (xOps [⟨(some t8), oMov (.v (.int .i64 0)), none, none⟩])
 (xBlock 0 (xLoop c4_l0)))
 c4_r0))))))))⟩
theorem ok4 : cFunc Try.prog gl ex Try.f4 = some c4 := by kernel_rfl
-- publican/publicanlaw9.LexNumbers
def c5_q0 : List AOper := [⟨(some t39), oBin (int2 (cmpO eqI)) (.t t38) (.v (.int .i64 5)), (some (t37, false)), none⟩,
   ⟨(some t40), oMov (.t t39), (some (t37, false)), none⟩,
   ⟨(some t41), oMov (.t t1), (some (t40, true)), none⟩,
   ⟨(some t42), oBin (int2 (cmpO gtI)) (.t t41) (.v (.int .i64 109572)), (some (t40, true)), none⟩,
   ⟨(some t43), oPick (.t t40) (.t t42) (.v (.bool false)), (some (t37, false)), none⟩,
   ⟨(some t44), oPick (.t t37) (.v (.bool true)) (.t t43), none, none⟩]
def c5_q1 : List AOper := (⟨(some t25), oMov (.t t1), (some (t24, true)), none⟩ ::
   ⟨(some t26), oBin (int2 (cmpO gtI)) (.t t25) (.v (.int .i64 4503599627370496)), (some (t24, true)), none⟩ ::
   ⟨(some t27), oPick (.t t24) (.t t26) (.v (.bool false)), (some (t21, false)), none⟩ ::
   ⟨(some t28), oPick (.t t21) (.v (.bool true)) (.t t27), none, none⟩ ::
   ⟨(some t29), oMov (.t t28), none, none⟩ ::
   ⟨(some t30), oMov (.t t0), (some (t29, false)), none⟩ ::
   ⟨(some t31), oBin (int2 (cmpO eqI)) (.t t30) (.v (.int .i64 4)), (some (t29, false)), none⟩ ::
   ⟨(some t32), oMov (.t t31), (some (t29, false)), none⟩ ::
   ⟨(some t33), oMov (.t t1), (some (t32, true)), none⟩ ::
   ⟨(some t34), oBin (int2 (cmpO gtI)) (.t t33) (.v (.int .i64 1000000000000)), (some (t32, true)), none⟩ ::
   ⟨(some t35), oPick (.t t32) (.t t34) (.v (.bool false)), (some (t29, false)), none⟩ ::
   ⟨(some t36), oPick (.t t29) (.v (.bool true)) (.t t35), none, none⟩ ::
   ⟨(some t37), oMov (.t t36), none, none⟩ ::
   ⟨(some t38), oMov (.t t0), (some (t37, false)), none⟩ :: c5_q0)
def c5_q2 : List AOper := [⟨(some t68), oMov (.t t1), (some (t61, true)), none⟩,
   ⟨(some t69), oBuild [(.int .i64 0), (.string ⟨⟨[]⟩⟩), (.int .i64 0), (.int .i64 0)] [(0, 1, (.t t66)), (1, 1, (.t t67)), (2, 1, (.t t68))], (some (t61, true)), none⟩,
   ⟨(some t70), oEqs false [(0, eqN), (1, eqT), (2, eqN), (3, eqN)] (.t t64) (.t t69), (some (t61, true)), none⟩,
   ⟨(some t71), oPick (.t t61) (.t t70) (.v (.bool false)), none, none⟩,
   ⟨(some t4), oMov (.t t71), none, none⟩]
def c5_j0 : X := (xCond (.t t44)
 (xSeq (xOps [⟨(some t4), oMov (.v (.bool true)), none, none⟩])
 xRet)
 xSkip)
def c5_j1 : X := (xSeq (xOps [⟨(some t45), oMov (.t t0), none, none⟩,
   ⟨(some t46), oMov (.t t1), none, none⟩,
   ⟨(some t47), oCall 11 [(.t t45), (.t t46)], none, none⟩,
   ⟨(some t5), oMov (.t t47), none, none⟩])
 (xSeq (xOps [⟨(some t49), oMov (.t t5), none, none⟩,
   ⟨(some t50), oCall 9 [(.t t49)], none, none⟩,
   ⟨(some t48), oMov (.t t50), none, none⟩,
   ⟨(some t51), oExtract (.t t48) 0, none, none⟩,
   ⟨(some t52), oExtract (.t t48) 1, none, none⟩,
   ⟨(some t53), oExtract (.t t48) 2, none, none⟩,
   ⟨(some t6), oMov (.t t51), none, none⟩,
   ⟨(some t7), oMov (.t t52), none, none⟩,
   ⟨(some t8), oMov (.t t53), none, none⟩])
 (xSeq (xOps (⟨(some t54), oMov (.t t8), none, none⟩ ::
   ⟨(some t55), oBin (int2 (cmpO eqI)) (.t t54) (.v (.int .i64 0)), none, none⟩ ::
   ⟨(some t56), oMov (.t t55), none, none⟩ ::
   ⟨(some t57), oMov (.t t6), (some (t56, true)), none⟩ ::
   ⟨(some t58), oLenL (.t t57), (some (t56, true)), none⟩ ::
   ⟨(some t59), oBin (int2 (cmpO eqI)) (.t t58) (.v (.int .i64 2)), (some (t56, true)), none⟩ ::
   ⟨(some t60), oPick (.t t56) (.t t59) (.v (.bool false)), none, none⟩ ::
   ⟨(some t61), oMov (.t t60), none, none⟩ ::
   ⟨(some t62), oMov (.t t6), (some (t61, true)), none⟩ ::
   ⟨(some t63), oIdxAddrL 4 (.t t62) (.v (.int .i64 0)), (some (t61, true)), none⟩ ::
   ⟨(some t64), oLoadN 4 (.t t63), (some (t61, true)), none⟩ ::
   ⟨(some t65), oMov (.t t0), (some (t61, true)), none⟩ ::
   ⟨(some t66), oBin (int2 addO) (.t t65) (.v (.int .i64 1)), (some (t61, true)), none⟩ ::
   ⟨(some t67), oMov (.t t5), (some (t61, true)), none⟩ :: c5_q2))
 xRet)))
def c5 : AFunc := ⟨72, [.tmp t4],
 (xSeq (xOps [⟨(some t4), oMov (.v (.bool false)), none, none⟩])
 (xSeq (xSeq (xOps [⟨(some t9), oCall 8 [], none, none⟩,
   ⟨(some t10), oNot (.t t9), none, none⟩])
 (xCond (.t t10)
 (xSeq (xOps [⟨(some t4), oMov (.v (.bool false)), none, none⟩])
 xRet)
 xSkip))
 (xSeq (xSeq (xOps (⟨(some t11), oMov (.t t0), none, none⟩ ::
   ⟨(some t12), oBin (int2 (cmpO ltI)) (.t t11) (.v (.int .i64 2)), none, none⟩ ::
   ⟨(some t13), oMov (.t t12), none, none⟩ ::
   ⟨(some t14), oMov (.t t0), (some (t13, false)), none⟩ ::
   ⟨(some t15), oBin (int2 (cmpO gtI)) (.t t14) (.v (.int .i64 5)), (some (t13, false)), none⟩ ::
   ⟨(some t16), oPick (.t t13) (.v (.bool true)) (.t t15), none, none⟩ ::
   ⟨(some t17), oMov (.t t16), none, none⟩ ::
   ⟨(some t18), oMov (.t t1), (some (t17, false)), none⟩ ::
   ⟨(some t19), oBin (int2 (cmpO ltI)) (.t t18) (.v (.int .i64 0)), (some (t17, false)), none⟩ ::
   ⟨(some t20), oPick (.t t17) (.v (.bool true)) (.t t19), none, none⟩ ::
   ⟨(some t21), oMov (.t t20), none, none⟩ ::
   ⟨(some t22), oMov (.t t0), (some (t21, false)), none⟩ ::
   ⟨(some t23), oBin (int2 (cmpO ltI)) (.t t22) (.v (.int .i64 4)), (some (t21, false)), none⟩ ::
   ⟨(some t24), oMov (.t t23), (some (t21, false)), none⟩ :: c5_q1))
 c5_j0)
 c5_j1)))⟩
theorem ok5 : cFunc Try.prog gl ex Try.f5 = some c5 := by kernel_rfl
-- publican/publicanlaw9.LexBetween
def c7_q0 : List AOper := [⟨(some t73), oSliceS (.t t55) (some (.t t60)) (some (.t t72)), (some (t54, false)), none⟩,
   ⟨(some t74), oMov (.t t3), (some (t54, false)), none⟩,
   ⟨(some t75), oMov (.t t7), (some (t54, false)), none⟩,
   ⟨(some t76), oIdxAddrL 4 (.t t74) (.t t75), (some (t54, false)), none⟩,
   ⟨(some t77), oFieldAddr 1 (.t t76), (some (t54, false)), none⟩,
   ⟨(some t78), oLoad1 (.t t77), (some (t54, false)), (some (.t t77))⟩,
   ⟨(some t79), oBin (str2 (cmpS neBytes)) (.t t73) (.t t78), (some (t54, false)), none⟩,
   ⟨(some t80), oPick (.t t54) (.v (.bool true)) (.t t79), none, none⟩]
def c7_q1 : List AOper := (⟨(some t59), oFieldAddr 3 (.t t58), (some (t54, false)), none⟩ ::
   ⟨(some t60), oLoad1 (.t t59), (some (t54, false)), (some (.t t59))⟩ ::
   ⟨(some t61), oMov (.t t3), (some (t54, false)), none⟩ ::
   ⟨(some t62), oMov (.t t7), (some (t54, false)), none⟩ ::
   ⟨(some t63), oIdxAddrL 4 (.t t61) (.t t62), (some (t54, false)), none⟩ ::
   ⟨(some t64), oFieldAddr 3 (.t t63), (some (t54, false)), none⟩ ::
   ⟨(some t65), oLoad1 (.t t64), (some (t54, false)), (some (.t t64))⟩ ::
   ⟨(some t66), oMov (.t t3), (some (t54, false)), none⟩ ::
   ⟨(some t67), oMov (.t t7), (some (t54, false)), none⟩ ::
   ⟨(some t68), oIdxAddrL 4 (.t t66) (.t t67), (some (t54, false)), none⟩ ::
   ⟨(some t69), oFieldAddr 1 (.t t68), (some (t54, false)), none⟩ ::
   ⟨(some t70), oLoad1 (.t t69), (some (t54, false)), (some (.t t69))⟩ ::
   ⟨(some t71), oLenS (.t t70), (some (t54, false)), none⟩ ::
   ⟨(some t72), oBin (int2 addO) (.t t65) (.t t71), (some (t54, false)), none⟩ :: c7_q0)
def c7_q2 : List AOper := (⟨(some t45), oMov (.t t3), (some (t37, false)), none⟩ ::
   ⟨(some t46), oMov (.t t7), (some (t37, false)), none⟩ ::
   ⟨(some t47), oIdxAddrL 4 (.t t45) (.t t46), (some (t37, false)), none⟩ ::
   ⟨(some t48), oFieldAddr 1 (.t t47), (some (t37, false)), none⟩ ::
   ⟨(some t49), oLoad1 (.t t48), (some (t37, false)), (some (.t t48))⟩ ::
   ⟨(some t50), oLenS (.t t49), (some (t37, false)), none⟩ ::
   ⟨(some t51), oBin (int2 subO) (.t t44) (.t t50), (some (t37, false)), none⟩ ::
   ⟨(some t52), oBin (int2 (cmpO gtI)) (.t t42) (.t t51), (some (t37, false)), none⟩ ::
   ⟨(some t53), oPick (.t t37) (.v (.bool true)) (.t t52), none, none⟩ ::
   ⟨(some t54), oMov (.t t53), none, none⟩ ::
   ⟨(some t55), oMov (.t t0), (some (t54, false)), none⟩ ::
   ⟨(some t56), oMov (.t t3), (some (t54, false)), none⟩ ::
   ⟨(some t57), oMov (.t t7), (some (t54, false)), none⟩ ::
   ⟨(some t58), oIdxAddrL 4 (.t t56) (.t t57), (some (t54, false)), none⟩ :: c7_q1)
def c7_q3 : List AOper := [⟨(some t138), oFieldAddr 2 (.t t137), (some (t134, false)), none⟩,
   ⟨(some t139), oLoad1 (.t t138), (some (t134, false)), (some (.t t138))⟩,
   ⟨(some t140), oMov (.t t3), (some (t134, false)), none⟩,
   ⟨(some t141), oMov (.t t11), (some (t134, false)), none⟩,
   ⟨(some t142), oIdxAddrL 4 (.t t140) (.t t141), (some (t134, false)), none⟩,
   ⟨(some t143), oFieldAddr 2 (.t t142), (some (t134, false)), none⟩,
   ⟨(some t144), oLoad1 (.t t143), (some (t134, false)), (some (.t t143))⟩,
   ⟨(some t145), oBin (int2 (cmpO neI)) (.t t139) (.t t144), (some (t134, false)), none⟩,
   ⟨(some t146), oPick (.t t134) (.v (.bool true)) (.t t145), none, none⟩]
def c7_q4 : List AOper := (⟨(some t124), oIdxAddrL 4 (.t t122) (.t t123), (some (t121, false)), none⟩ ::
   ⟨(some t125), oFieldAddr 1 (.t t124), (some (t121, false)), none⟩ ::
   ⟨(some t126), oLoad1 (.t t125), (some (t121, false)), (some (.t t125))⟩ ::
   ⟨(some t127), oMov (.t t3), (some (t121, false)), none⟩ ::
   ⟨(some t128), oMov (.t t11), (some (t121, false)), none⟩ ::
   ⟨(some t129), oIdxAddrL 4 (.t t127) (.t t128), (some (t121, false)), none⟩ ::
   ⟨(some t130), oFieldAddr 1 (.t t129), (some (t121, false)), none⟩ ::
   ⟨(some t131), oLoad1 (.t t130), (some (t121, false)), (some (.t t130))⟩ ::
   ⟨(some t132), oBin (str2 (cmpS neBytes)) (.t t126) (.t t131), (some (t121, false)), none⟩ ::
   ⟨(some t133), oPick (.t t121) (.v (.bool true)) (.t t132), none, none⟩ ::
   ⟨(some t134), oMov (.t t133), none, none⟩ ::
   ⟨(some t135), oMov (.t t8), (some (t134, false)), none⟩ ::
   ⟨(some t136), oMov (.t t11), (some (t134, false)), none⟩ ::
   ⟨(some t137), oIdxAddrL 4 (.t t135) (.t t136), (some (t134, false)), none⟩ :: c7_q3)
def c7_g0 : List AOper := (⟨(some t31), oMov (.t t3), none, none⟩ ::
   ⟨(some t32), oMov (.t t7), none, none⟩ ::
   ⟨(some t33), oIdxAddrL 4 (.t t31) (.t t32), none, none⟩ ::
   ⟨(some t34), oFieldAddr 3 (.t t33), none, none⟩ ::
   ⟨(some t35), oLoad1 (.t t34), none, (some (.t t34))⟩ ::
   ⟨(some t36), oBin (int2 (cmpO ltI)) (.t t35) (.v (.int .i64 0)), none, none⟩ ::
   ⟨(some t37), oMov (.t t36), none, none⟩ ::
   ⟨(some t38), oMov (.t t3), (some (t37, false)), none⟩ ::
   ⟨(some t39), oMov (.t t7), (some (t37, false)), none⟩ ::
   ⟨(some t40), oIdxAddrL 4 (.t t38) (.t t39), (some (t37, false)), none⟩ ::
   ⟨(some t41), oFieldAddr 3 (.t t40), (some (t37, false)), none⟩ ::
   ⟨(some t42), oLoad1 (.t t41), (some (t37, false)), (some (.t t41))⟩ ::
   ⟨(some t43), oMov (.t t0), (some (t37, false)), none⟩ ::
   ⟨(some t44), oLenS (.t t43), (some (t37, false)), none⟩ :: c7_q2)
def c7_g1 : List AOper := (⟨(some t110), oMov (.t t8), none, none⟩ ::
   ⟨(some t111), oMov (.t t11), none, none⟩ ::
   ⟨(some t112), oIdxAddrL 4 (.t t110) (.t t111), none, none⟩ ::
   ⟨(some t113), oFieldAddr 0 (.t t112), none, none⟩ ::
   ⟨(some t114), oLoad1 (.t t113), none, (some (.t t113))⟩ ::
   ⟨(some t115), oMov (.t t3), none, none⟩ ::
   ⟨(some t116), oMov (.t t11), none, none⟩ ::
   ⟨(some t117), oIdxAddrL 4 (.t t115) (.t t116), none, none⟩ ::
   ⟨(some t118), oFieldAddr 0 (.t t117), none, none⟩ ::
   ⟨(some t119), oLoad1 (.t t118), none, (some (.t t118))⟩ ::
   ⟨(some t120), oBin (int2 (cmpO neI)) (.t t114) (.t t119), none, none⟩ ::
   ⟨(some t121), oMov (.t t120), none, none⟩ ::
   ⟨(some t122), oMov (.t t8), (some (t121, false)), none⟩ ::
   ⟨(some t123), oMov (.t t11), (some (t121, false)), none⟩ :: c7_q4)
def c7_j0 : X := (xCond (.t t80)
 (xSeq (xOps [⟨(some t2), oMov (.v (.bool false)), none, none⟩])
 xRet)
 xSkip)
def c7_j1 : X := (xOps [⟨(some t81), oMov (.t t6), none, none⟩,
   ⟨(some t82), oMov (.t t3), none, none⟩,
   ⟨(some t83), oMov (.t t7), none, none⟩,
   ⟨(some t84), oIdxAddrL 4 (.t t82) (.t t83), none, none⟩,
   ⟨(some t85), oFieldAddr 1 (.t t84), none, none⟩,
   ⟨(some t86), oLoad1 (.t t85), none, (some (.t t85))⟩,
   ⟨(some t87), oBin (str2 catO) (.t t81) (.t t86), none, none⟩,
   ⟨(some t88), oBin (str2 catO) (.t t87) (.v (.string ⟨⟨[32]⟩⟩)), none, none⟩,
   ⟨(some t6), oMov (.t t88), none, none⟩])
def c7_j2 : X := (xOps [⟨(some t29), oMov (.t t7), none, none⟩,
   ⟨(some t30), oBin (int2 addO) (.t t29) (.v (.int .i64 1)), none, none⟩,
   ⟨(some t7), oMov (.t t30), none, none⟩])
def c7_l0 : X := (xSeq (xSeq (xOps [⟨(some t25), oMov (.t t7), none, none⟩,
   ⟨(some t26), oMov (.t t3), none, none⟩,
   ⟨(some t27), oLenL (.t t26), none, none⟩,
   ⟨(some t28), oBin (int2 (cmpO ltI)) (.t t25) (.t t27), none, none⟩])
 (xCond (.t t28)
 xSkip
 (xExit 0)))
 (xSeq (xBlock 1 (xSeq (xSeq (xReg c7_g0 [(0, 1), (7, 8), (7, 12), (8, 12), (9, 12), (10, 12), (11, 12), (7, 13), (8, 13), (9, 13), (10, 13), (11, 13), (7, 14), (8, 14), (9, 14), (10, 14), (11, 14), (12, 14), (13, 14), (7, 15), (8, 15), (9, 15), (10, 15), (11, 15), (12, 15), (13, 15), (14, 15), (7, 16), (8, 16), (9, 16), (10, 16), (11, 16), (12, 16), (13, 16), (7, 17), (8, 17), (9, 17), (10, 17), (11, 17), (12, 17), (13, 17), (7, 18), (8, 18), (9, 18), (10, 18), (11, 18), (12, 18), (13, 18), (7, 19), (8, 19), (9, 19), (10, 19), (11, 19), (12, 19), (13, 19), (7, 20), (8, 20), (9, 20), (10, 20), (11, 20), (24, 25), (24, 26), (25, 26), (24, 27), (24, 28), (24, 29), (24, 30), (25, 30), (26, 30), (27, 30), (28, 30), (29, 30), (24, 31), (25, 31), (26, 31), (27, 31), (28, 31), (29, 31), (30, 31), (24, 32), (25, 32), (26, 32), (27, 32), (28, 32), (29, 32), (24, 33), (25, 33), (26, 33), (27, 33), (28, 33), (29, 33), (24, 34), (25, 34), (26, 34), (27, 34), (28, 34), (29, 34), (24, 35), (25, 35), (26, 35), (27, 35), (28, 35), (29, 35), (30, 35), (31, 35), (32, 35), (33, 35), (34, 35), (24, 36), (25, 36), (26, 36), (27, 36), (28, 36), (29, 36), (30, 36), (31, 36), (32, 36), (33, 36), (34, 36), (35, 36), (24, 37), (25, 37), (26, 37), (27, 37), (28, 37), (29, 37), (30, 37), (31, 37), (32, 37), (33, 37), (34, 37), (24, 38), (25, 38), (26, 38), (27, 38), (28, 38), (29, 38), (30, 38), (31, 38), (32, 38), (33, 38), (34, 38), (24, 39), (25, 39), (26, 39), (27, 39), (28, 39), (29, 39), (30, 39), (31, 39), (32, 39), (33, 39), (34, 39), (24, 40), (25, 40), (26, 40), (27, 40), (28, 40), (29, 40), (30, 40), (31, 40), (32, 40), (33, 40), (34, 40), (24, 41), (25, 41), (26, 41), (27, 41), (28, 41), (29, 41), (24, 43), (25, 43), (26, 43), (27, 43), (28, 43), (29, 43), (30, 43), (31, 43), (32, 43), (33, 43), (34, 43), (35, 43), (36, 43), (37, 43), (38, 43), (39, 43), (40, 43), (41, 43), (42, 43), (24, 44), (25, 44), (26, 44), (27, 44), (28, 44), (29, 44), (30, 44), (31, 44), (32, 44), (33, 44), (34, 44), (35, 44), (36, 44), (37, 44), (38, 44), (39, 44), (40, 44), (41, 44), (42, 44), (43, 44), (24, 45), (25, 45), (26, 45), (27, 45), (28, 45), (29, 45), (30, 45), (31, 45), (32, 45), (33, 45), (34, 45), (35, 45), (36, 45), (37, 45), (38, 45), (39, 45), (40, 45), (41, 45), (42, 45), (24, 46), (25, 46), (26, 46), (27, 46), (28, 46), (29, 46), (30, 46), (31, 46), (32, 46), (33, 46), (34, 46), (35, 46), (36, 46), (37, 46), (38, 46), (39, 46), (40, 46), (41, 46), (42, 46), (24, 47), (25, 47), (26, 47), (27, 47), (28, 47), (29, 47), (30, 47), (31, 47), (32, 47), (33, 47), (34, 47), (35, 47), (36, 47), (37, 47), (38, 47), (39, 47), (40, 47), (41, 47), (42, 47)])
 c7_j0)
 c7_j1))
 c7_j2))
def c7_j3 : X := (xCond (.t t146)
 (xSeq (xOps [⟨(some t2), oMov (.v (.bool false)), none, none⟩])
 xRet)
 xSkip)
def c7_j4 : X := (xOps [⟨(some t108), oMov (.t t11), none, none⟩,
   ⟨(some t109), oBin (int2 addO) (.t t108) (.v (.int .i64 1)), none, none⟩,
   ⟨(some t11), oMov (.t t109), none, none⟩])
def c7_l1 : X := (xSeq (xSeq (xOps [⟨(some t104), oMov (.t t11), none, none⟩,
   ⟨(some t105), oMov (.t t3), none, none⟩,
   ⟨(some t106), oLenL (.t t105), none, none⟩,
   ⟨(some t107), oBin (int2 (cmpO ltI)) (.t t104) (.t t106), none, none⟩])
 (xCond (.t t107)
 xSkip
 (xExit 2)))
 (xSeq (xBlock 3 (xSeq (xReg c7_g1 [(0, 1), (0, 5), (1, 5), (2, 5), (3, 5), (4, 5), (0, 6), (1, 6), (2, 6), (3, 6), (4, 6), (5, 6), (0, 7), (1, 7), (2, 7), (3, 7), (4, 7), (0, 8), (1, 8), (2, 8), (3, 8), (4, 8), (0, 9), (1, 9), (2, 9), (3, 9), (4, 9), (12, 13), (12, 17), (13, 17), (14, 17), (15, 17), (16, 17), (12, 18), (13, 18), (14, 18), (15, 18), (16, 18), (17, 18), (12, 19), (13, 19), (14, 19), (15, 19), (16, 19), (12, 20), (13, 20), (14, 20), (15, 20), (16, 20), (12, 21), (13, 21), (14, 21), (15, 21), (16, 21), (25, 26), (25, 30), (26, 30), (27, 30), (28, 30), (29, 30), (25, 31), (26, 31), (27, 31), (28, 31), (29, 31), (30, 31), (25, 32), (26, 32), (27, 32), (28, 32), (29, 32), (25, 33), (26, 33), (27, 33), (28, 33), (29, 33), (25, 34), (26, 34), (27, 34), (28, 34), (29, 34)])
 c7_j3))
 c7_j4))
def c7_r0 : X := (xSeq (xOps [⟨(some t2), oMov (.v (.bool true)), none, none⟩])
 xRet)
def c7_r1 : X := (xSeq (xOps [⟨(some t90), oMov (.t t6), none, none⟩,
   ⟨(some t91), oCall 9 [(.t t90)], none, none⟩,
   ⟨(some t89), oMov (.t t91), none, none⟩,
   ⟨(some t92), oExtract (.t t89) 0, none, none⟩,
   ⟨(some t93), oExtract (.t t89) 1, none, none⟩,
   ⟨(some t94), oExtract (.t t89) 2, none, none⟩,
   ⟨(some t8), oMov (.t t92), none, none⟩,
   ⟨(some t9), oMov (.t t93), none, none⟩,
   ⟨(some t10), oMov (.t t94), none, none⟩])
 (xSeq (xSeq (xOps [⟨(some t95), oMov (.t t10), none, none⟩,
   ⟨(some t96), oBin (int2 (cmpO neI)) (.t t95) (.v (.int .i64 0)), none, none⟩,
   ⟨(some t97), oMov (.t t96), none, none⟩,
   ⟨(some t98), oMov (.t t8), (some (t97, false)), none⟩,
   ⟨(some t99), oLenL (.t t98), (some (t97, false)), none⟩,
   ⟨(some t100), oMov (.t t3), (some (t97, false)), none⟩,
   ⟨(some t101), oLenL (.t t100), (some (t97, false)), none⟩,
   ⟨(some t102), oBin (int2 (cmpO neI)) (.t t99) (.t t101), (some (t97, false)), none⟩,
   ⟨(some t103), oPick (.t t97) (.v (.bool true)) (.t t102), none, none⟩])
 (xCond (.t t103)
 (xSeq (xOps [⟨(some t2), oMov (.v (.bool false)), none, none⟩])
 xRet)
 xSkip))
 (xSeq (xSeq (xOps [⟨(some t11), oMov (.v (.int .i64 0)), none, none⟩])
 (xBlock 2 (xLoop c7_l1)))
 c7_r0)))
def c7 : AFunc := ⟨147, [.tmp t2],
 (xSeq (xOps [⟨(some t2), oMov (.v (.bool false)), none, none⟩])
 (xSeq (xSeq (xOps [⟨(some t12), oCall 8 [], none, none⟩,
   ⟨(some t13), oNot (.t t12), none, none⟩])
 (xCond (.t t13)
 (xSeq (xOps [⟨(some t2), oMov (.v (.bool false)), none, none⟩])
 xRet)
 xSkip))
 (xSeq (xSeq (xOps [⟨(some t14), oMov (.t t0), none, none⟩,
   ⟨(some t15), oLenS (.t t14), none, none⟩,
   ⟨(some t16), oBin (int2 (cmpO gtI)) (.t t15) (.v (.int .i64 2500)), none, none⟩])
 (xCond (.t t16)
 (xSeq (xOps [⟨(some t2), oMov (.v (.bool true)), none, none⟩])
 xRet)
 xSkip))
 (xSeq (xOps [⟨(some t18), oMov (.t t0), none, none⟩,
   ⟨(some t19), oCall 9 [(.t t18)], none, none⟩,
   ⟨(some t17), oMov (.t t19), none, none⟩,
   ⟨(some t20), oExtract (.t t17) 0, none, none⟩,
   ⟨(some t21), oExtract (.t t17) 1, none, none⟩,
   ⟨(some t22), oExtract (.t t17) 2, none, none⟩,
   ⟨(some t3), oMov (.t t20), none, none⟩,
   ⟨(some t4), oMov (.t t21), none, none⟩,
   ⟨(some t5), oMov (.t t22), none, none⟩])
 (xSeq (xSeq (xOps [⟨(some t23), oMov (.t t5), none, none⟩,
   ⟨(some t24), oBin (int2 (cmpO neI)) (.t t23) (.v (.int .i64 0)), none, none⟩])
 (xCond (.t t24)
 (xSeq (xOps [⟨(some t2), oMov (.v (.bool true)), none, none⟩])
 xRet)
 xSkip))
 (xSeq (xOps [⟨(some t6), oMov (.v (.string ⟨⟨[]⟩⟩)), none, none⟩])
 (xSeq (xSeq (xOps [⟨(some t7), oMov (.v (.int .i64 0)), none, none⟩])
 (xBlock 0 (xLoop c7_l0)))
 c7_r1)))))))⟩
theorem ok7 : cFunc Try.prog gl ex Try.f7 = some c7 := by kernel_rfl
-- publican/publicanlaw9.awake
def c8_q0 : List AOper := [⟨(some t89), oBin (int2 (cmpO eqI)) (.t t88) (.v (.int .i64 1)), (some (t87, true)), none⟩,
   ⟨(some t90), oPick (.t t87) (.t t89) (.v (.bool false)), none, none⟩,
   ⟨(some t91), oMov (.t t90), none, none⟩,
   ⟨(some t92), oCall 12 [(.v (.string ⟨⟨[109, 111, 110, 101, 121, 115]⟩⟩))], (some (t91, true)), none⟩,
   ⟨(some t93), oPick (.t t91) (.t t92) (.v (.bool false)), none, none⟩,
   ⟨(some t94), oMov (.t t93), none, none⟩,
   ⟨(some t95), oCall 12 [(.v (.string ⟨⟨[116, 97, 120]⟩⟩))], (some (t94, true)), none⟩,
   ⟨(some t96), oNot (.t t95), (some (t94, true)), none⟩,
   ⟨(some t97), oPick (.t t94) (.t t96) (.v (.bool false)), none, none⟩,
   ⟨(some t0), oMov (.t t97), none, none⟩]
def c8_q1 : List AOper := (⟨(some t75), oPick (.t t69) (.t t74) (.v (.bool false)), none, none⟩ ::
   ⟨(some t76), oMov (.t t75), none, none⟩ ::
   ⟨(some t77), oMov (.t t7), (some (t76, true)), none⟩ ::
   ⟨(some t78), oIdxAddrL 4 (.t t77) (.v (.int .i64 0)), (some (t76, true)), none⟩ ::
   ⟨(some t79), oFieldAddr 2 (.t t78), (some (t76, true)), none⟩ ::
   ⟨(some t80), oLoad1 (.t t79), (some (t76, true)), (some (.t t79))⟩ ::
   ⟨(some t81), oBin (int2 (cmpO eqI)) (.t t80) (.v (.int .i64 45290)), (some (t76, true)), none⟩ ::
   ⟨(some t82), oPick (.t t76) (.t t81) (.v (.bool false)), none, none⟩ ::
   ⟨(some t83), oMov (.t t82), none, none⟩ ::
   ⟨(some t84), oMov (.t t12), (some (t83, true)), none⟩ ::
   ⟨(some t85), oBin (int2 (cmpO eqI)) (.t t84) (.v (.int .i64 7)), (some (t83, true)), none⟩ ::
   ⟨(some t86), oPick (.t t83) (.t t85) (.v (.bool false)), none, none⟩ ::
   ⟨(some t87), oMov (.t t86), none, none⟩ ::
   ⟨(some t88), oMov (.t t11), (some (t87, true)), none⟩ :: c8_q0)
def c8_q2 : List AOper := (⟨(some t61), oFieldAddr 0 (.t t60), (some (t58, true)), none⟩ ::
   ⟨(some t62), oLoad1 (.t t61), (some (t58, true)), (some (.t t61))⟩ ::
   ⟨(some t63), oBin (int2 (cmpO eqI)) (.t t62) (.v (.int .i64 5)), (some (t58, true)), none⟩ ::
   ⟨(some t64), oPick (.t t58) (.t t63) (.v (.bool false)), none, none⟩ ::
   ⟨(some t65), oMov (.t t64), none, none⟩ ::
   ⟨(some t66), oMov (.t t9), (some (t65, true)), none⟩ ::
   ⟨(some t67), oBin (int2 (cmpO eqI)) (.t t66) (.v (.int .i64 0)), (some (t65, true)), none⟩ ::
   ⟨(some t68), oPick (.t t65) (.t t67) (.v (.bool false)), none, none⟩ ::
   ⟨(some t69), oMov (.t t68), none, none⟩ ::
   ⟨(some t70), oMov (.t t7), (some (t69, true)), none⟩ ::
   ⟨(some t71), oIdxAddrL 4 (.t t70) (.v (.int .i64 0)), (some (t69, true)), none⟩ ::
   ⟨(some t72), oFieldAddr 0 (.t t71), (some (t69, true)), none⟩ ::
   ⟨(some t73), oLoad1 (.t t72), (some (t69, true)), (some (.t t72))⟩ ::
   ⟨(some t74), oBin (int2 (cmpO eqI)) (.t t73) (.v (.int .i64 6)), (some (t69, true)), none⟩ :: c8_q1)
def c8_q3 : List AOper := (⟨(some t47), oMov (.t t46), none, none⟩ ::
   ⟨(some t48), oMov (.t t6), (some (t47, true)), none⟩ ::
   ⟨(some t49), oBin (int2 (cmpO eqI)) (.t t48) (.v (.int .i64 0)), (some (t47, true)), none⟩ ::
   ⟨(some t50), oPick (.t t47) (.t t49) (.v (.bool false)), none, none⟩ ::
   ⟨(some t51), oMov (.t t50), none, none⟩ ::
   ⟨(some t52), oMov (.t t4), (some (t51, true)), none⟩ ::
   ⟨(some t53), oIdxAddrL 4 (.t t52) (.v (.int .i64 0)), (some (t51, true)), none⟩ ::
   ⟨(some t54), oFieldAddr 2 (.t t53), (some (t51, true)), none⟩ ::
   ⟨(some t55), oLoad1 (.t t54), (some (t51, true)), (some (.t t54))⟩ ::
   ⟨(some t56), oBin (int2 (cmpO eqI)) (.t t55) (.v (.int .i64 45000)), (some (t51, true)), none⟩ ::
   ⟨(some t57), oPick (.t t51) (.t t56) (.v (.bool false)), none, none⟩ ::
   ⟨(some t58), oMov (.t t57), none, none⟩ ::
   ⟨(some t59), oMov (.t t4), (some (t58, true)), none⟩ ::
   ⟨(some t60), oIdxAddrL 4 (.t t59) (.v (.int .i64 0)), (some (t58, true)), none⟩ :: c8_q2)
def c8 : AFunc := ⟨98, [.tmp t0],
 (xSeq (xOps [⟨(some t0), oMov (.v (.bool false)), none, none⟩])
 (xSeq (xOps [⟨(some t14), oCall 9 [(.v (.string ⟨⟨[36, 49, 46, 53, 48]⟩⟩))], none, none⟩,
   ⟨(some t13), oMov (.t t14), none, none⟩,
   ⟨(some t15), oExtract (.t t13) 0, none, none⟩,
   ⟨(some t16), oExtract (.t t13) 1, none, none⟩,
   ⟨(some t17), oExtract (.t t13) 2, none, none⟩,
   ⟨(some t1), oMov (.t t15), none, none⟩,
   ⟨(some t2), oMov (.t t16), none, none⟩,
   ⟨(some t3), oMov (.t t17), none, none⟩])
 (xSeq (xOps [⟨(some t19), oCall 9 [(.v (.string ⟨⟨[52, 46, 53, 37]⟩⟩))], none, none⟩,
   ⟨(some t18), oMov (.t t19), none, none⟩,
   ⟨(some t20), oExtract (.t t18) 0, none, none⟩,
   ⟨(some t21), oExtract (.t t18) 1, none, none⟩,
   ⟨(some t22), oExtract (.t t18) 2, none, none⟩,
   ⟨(some t4), oMov (.t t20), none, none⟩,
   ⟨(some t5), oMov (.t t21), none, none⟩,
   ⟨(some t6), oMov (.t t22), none, none⟩])
 (xSeq (xOps [⟨(some t24), oCall 9 [(.v (.string ⟨⟨[50, 48, 50, 52, 45, 48, 49, 45, 48, 49]⟩⟩))], none, none⟩,
   ⟨(some t23), oMov (.t t24), none, none⟩,
   ⟨(some t25), oExtract (.t t23) 0, none, none⟩,
   ⟨(some t26), oExtract (.t t23) 1, none, none⟩,
   ⟨(some t27), oExtract (.t t23) 2, none, none⟩,
   ⟨(some t7), oMov (.t t25), none, none⟩,
   ⟨(some t8), oMov (.t t26), none, none⟩,
   ⟨(some t9), oMov (.t t27), none, none⟩])
 (xSeq (xOps [⟨(some t29), oCall 9 [(.v (.string ⟨⟨[32, 64]⟩⟩))], none, none⟩,
   ⟨(some t28), oMov (.t t29), none, none⟩,
   ⟨(some t30), oExtract (.t t28) 0, none, none⟩,
   ⟨(some t31), oExtract (.t t28) 1, none, none⟩,
   ⟨(some t32), oExtract (.t t28) 2, none, none⟩,
   ⟨(some t10), oMov (.t t30), none, none⟩,
   ⟨(some t11), oMov (.t t31), none, none⟩,
   ⟨(some t12), oMov (.t t32), none, none⟩])
 (xSeq (xOps (⟨(some t33), oMov (.t t3), none, none⟩ ::
   ⟨(some t34), oBin (int2 (cmpO eqI)) (.t t33) (.v (.int .i64 0)), none, none⟩ ::
   ⟨(some t35), oMov (.t t34), none, none⟩ ::
   ⟨(some t36), oMov (.t t1), (some (t35, true)), none⟩ ::
   ⟨(some t37), oLenL (.t t36), (some (t35, true)), none⟩ ::
   ⟨(some t38), oBin (int2 (cmpO eqI)) (.t t37) (.v (.int .i64 2)), (some (t35, true)), none⟩ ::
   ⟨(some t39), oPick (.t t35) (.t t38) (.v (.bool false)), none, none⟩ ::
   ⟨(some t40), oMov (.t t39), none, none⟩ ::
   ⟨(some t41), oMov (.t t1), (some (t40, true)), none⟩ ::
   ⟨(some t42), oIdxAddrL 4 (.t t41) (.v (.int .i64 0)), (some (t40, true)), none⟩ ::
   ⟨(some t43), oLoadN 4 (.t t42), (some (t40, true)), none⟩ ::
   ⟨(some t44), oBuild [(.int .i64 0), (.string ⟨⟨[]⟩⟩), (.int .i64 0), (.int .i64 0)] [(0, 1, (.v (.int .i64 4))), (1, 1, (.v (.string ⟨⟨[36, 49, 46, 53, 48]⟩⟩))), (2, 1, (.v (.int .i64 150)))], (some (t40, true)), none⟩ ::
   ⟨(some t45), oEqs false [(0, eqN), (1, eqT), (2, eqN), (3, eqN)] (.t t43) (.t t44), (some (t40, true)), none⟩ ::
   ⟨(some t46), oPick (.t t40) (.t t45) (.v (.bool false)), none, none⟩ :: c8_q3))
 xRet))))))⟩
theorem ok8 : cFunc Try.prog gl ex Try.f8 = some c8 := by kernel_rfl
-- publican/lex.Cut
def c9_l0 : X := (xSeq (xSeq (xOps [⟨(some t13), oMov (.t t6), none, none⟩,
   ⟨(some t14), oMov (.t t0), none, none⟩,
   ⟨(some t15), oLenS (.t t14), none, none⟩,
   ⟨(some t16), oBin (int2 (cmpO ltI)) (.t t13) (.t t15), none, none⟩])
 (xCond (.t t16)
 xSkip
 (xExit 0)))
 (xSeq (xBlock 1 (xSeq (xOps [⟨(some t23), oMov (.t t0), none, none⟩,
   ⟨(some t24), oMov (.t t6), none, none⟩,
   ⟨(some t25), oSliceS (.t t23) (some (.t t24)) none, none, none⟩,
   ⟨(some t26), oCall 15 [(.t t25)], none, none⟩,
   ⟨(some t7), oNew [(.int .i64 0), (.string ⟨⟨[]⟩⟩), (.int .i64 0), (.int .i64 0)], none, none⟩,
   ⟨none, oStore 4 (.t t7) (.t t26), none, none⟩])
 (xSeq (xSeq (xOps [⟨(some t27), oFieldAddr 0 (.t t7), none, none⟩,
   ⟨(some t28), oLoad1 (.t t27), none, (some (.t t27))⟩,
   ⟨(some t29), oBin (int2 (cmpO eqI)) (.t t28) (.v (.int .i64 0)), none, none⟩])
 (xCond (.t t29)
 (xSeq (xOps [⟨(some t30), oMov (.t t6), none, none⟩,
   ⟨(some t2), oMov (.v (.slice none 0 0)), none, none⟩,
   ⟨(some t3), oMov (.t t30), none, none⟩,
   ⟨(some t4), oMov (.v (.int .i64 7)), none, none⟩])
 xRet)
 xSkip))
 (xSeq (xOps [⟨(some t31), oMov (.t t6), none, none⟩,
   ⟨(some t32), oFieldAddr 3 (.t t7), none, none⟩,
   ⟨none, oStore 1 (.t t32) (.t t31), none, none⟩])
 (xSeq (xOps [⟨(some t33), oMov (.t t5), none, none⟩,
   ⟨(some t34), oLoadN 4 (.t t7), none, none⟩,
   ⟨(some t35), oBuildSlice 1 [(.int .i64 0), (.string ⟨⟨[]⟩⟩), (.int .i64 0), (.int .i64 0)] [(0, 4, (.t t34))], none, none⟩,
   ⟨(some t36), oAppend 4 40 (.t t33) (.t t35), none, none⟩,
   ⟨(some t5), oMov (.t t36), none, none⟩])
 (xOps [⟨(some t37), oMov (.t t6), none, none⟩,
   ⟨(some t38), oFieldAddr 1 (.t t7), none, none⟩,
   ⟨(some t39), oLoad1 (.t t38), none, (some (.t t38))⟩,
   ⟨(some t40), oLenS (.t t39), none, none⟩,
   ⟨(some t41), oBin (int2 addO) (.t t37) (.t t40), none, none⟩,
   ⟨(some t6), oMov (.t t41), none, none⟩]))))))
 (xOps [⟨(some t17), oMov (.t t6), none, none⟩,
   ⟨(some t18), oMov (.t t0), none, none⟩,
   ⟨(some t19), oMov (.t t6), none, none⟩,
   ⟨(some t20), oSliceS (.t t18) (some (.t t19)) none, none, none⟩,
   ⟨(some t21), oCall 14 [(.t t20)], none, none⟩,
   ⟨(some t22), oBin (int2 addO) (.t t17) (.t t21), none, none⟩,
   ⟨(some t6), oMov (.t t22), none, none⟩])))
def c9_r0 : X := (xSeq (xOps [⟨(some t42), oMov (.t t5), none, none⟩,
   ⟨(some t43), oMov (.t t0), none, none⟩,
   ⟨(some t44), oLenS (.t t43), none, none⟩,
   ⟨(some t45), oBuild [(.int .i64 0), (.string ⟨⟨[]⟩⟩), (.int .i64 0), (.int .i64 0)] [(3, 1, (.t t44))], none, none⟩,
   ⟨(some t46), oBuildSlice 1 [(.int .i64 0), (.string ⟨⟨[]⟩⟩), (.int .i64 0), (.int .i64 0)] [(0, 4, (.t t45))], none, none⟩,
   ⟨(some t47), oAppend 4 40 (.t t42) (.t t46), none, none⟩,
   ⟨(some t2), oMov (.t t47), none, none⟩,
   ⟨(some t3), oMov (.v (.int .i64 0)), none, none⟩,
   ⟨(some t4), oMov (.v (.int .i64 0)), none, none⟩])
 xRet)
def c9 : AFunc := ⟨48, [.tmp t2, .tmp t3, .tmp t4],
 (xSeq (xOps [⟨(some t2), oMov (.v (.slice none 0 0)), none, none⟩,
   ⟨(some t3), oMov (.v (.int .i64 0)), none, none⟩,
   ⟨(some t4), oMov (.v (.int .i64 0)), none, none⟩])
 (xSeq (xSeq (xOps [⟨(some t8), oMov (.t t0), none, none⟩,
   ⟨(some t9), oLenS (.t t8), none, none⟩,
   ⟨(some t10), oBin (int2 (cmpO gtI)) (.t t9) (.v (.int .i64 8192)), none, none⟩])
 (xCond (.t t10)
 (xSeq (xOps [⟨(some t2), oMov (.v (.slice none 0 0)), none, none⟩,
   ⟨(some t3), oMov (.v (.int .i64 0)), none, none⟩,
   ⟨(some t4), oMov (.v (.int .i64 2)), none, none⟩])
 xRet)
 xSkip))
 (xSeq (xOps [⟨(some t5), oMov (.v (.slice none 0 0)), none, none⟩])
 (xSeq (xSeq (xOps [⟨(some t11), oMov (.t t0), none, none⟩,
   ⟨(some t12), oCall 14 [(.t t11)], none, none⟩,
   ⟨(some t6), oMov (.t t12), none, none⟩])
 (xBlock 0 (xLoop c9_l0)))
 c9_r0))))⟩
theorem ok9 : cFunc Try.prog gl ex Try.f9 = some c9 := by kernel_rfl
-- publican/publicanref9.Cut
def c10_q0 : List AOper := [⟨(some t79), oMov (.t t0), (some (t78, false)), none⟩,
   ⟨(some t80), oMov (.t t5), (some (t78, false)), none⟩,
   ⟨(some t81), oMov (.t t8), (some (t78, false)), none⟩,
   ⟨(some t82), oBin (int2 addO) (.t t80) (.t t81), (some (t78, false)), none⟩,
   ⟨(some t83), oIdxS (.t t79) (.t t82), (some (t78, false)), none⟩,
   ⟨(some t84), oCall 17 [(.t t83)], (some (t78, false)), none⟩,
   ⟨(some t85), oPick (.t t78) (.v (.bool true)) (.t t84), (some (t71, true)), none⟩,
   ⟨(some t86), oMov (.t t85), (some (t71, true)), none⟩,
   ⟨(some t87), oMov (.t t0), (some (t86, false)), none⟩,
   ⟨(some t88), oMov (.t t5), (some (t86, false)), none⟩,
   ⟨(some t89), oMov (.t t8), (some (t86, false)), none⟩,
   ⟨(some t90), oBin (int2 addO) (.t t88) (.t t89), (some (t86, false)), none⟩,
   ⟨(some t91), oIdxS (.t t87) (.t t90), (some (t86, false)), none⟩,
   ⟨(some t92), oBin (int2 (cmpO eqI)) (.t t91) (.v (.int .u8 95)), (some (t86, false)), none⟩,
   ⟨(some t93), oPick (.t t86) (.v (.bool true)) (.t t92), (some (t71, true)), none⟩,
   ⟨(some t94), oPick (.t t71) (.t t93) (.v (.bool false)), none, none⟩]
def c10_q1 : List AOper := [⟨(some t143), oBin (int2 addO) (.t t141) (.t t142), (some (t139, true)), none⟩,
   ⟨(some t144), oIdxS (.t t140) (.t t143), (some (t139, true)), none⟩,
   ⟨(some t145), oBin (int2 (cmpO eqI)) (.t t144) (.v (.int .u8 46)), (some (t139, true)), none⟩,
   ⟨(some t146), oPick (.t t139) (.t t145) (.v (.bool false)), none, none⟩,
   ⟨(some t147), oMov (.t t146), none, none⟩,
   ⟨(some t148), oMov (.t t0), (some (t147, true)), none⟩,
   ⟨(some t149), oMov (.t t5), (some (t147, true)), none⟩,
   ⟨(some t150), oMov (.t t8), (some (t147, true)), none⟩,
   ⟨(some t151), oBin (int2 addO) (.t t149) (.t t150), (some (t147, true)), none⟩,
   ⟨(some t152), oBin (int2 addO) (.t t151) (.v (.int .i64 1)), (some (t147, true)), none⟩,
   ⟨(some t153), oCall 19 [(.t t148), (.t t152)], (some (t147, true)), none⟩,
   ⟨(some t154), oBin (int2 (cmpO eqI)) (.t t153) (.v (.int .i64 2)), (some (t147, true)), none⟩,
   ⟨(some t155), oPick (.t t147) (.t t154) (.v (.bool false)), none, none⟩]
def c10_l0 : X := (xSeq (xSeq (xOps [⟨(some t39), oMov (.t t5), none, none⟩,
   ⟨(some t40), oMov (.t t0), none, none⟩,
   ⟨(some t41), oLenS (.t t40), none, none⟩,
   ⟨(some t42), oBin (int2 (cmpO ltI)) (.t t39) (.t t41), none, none⟩,
   ⟨(some t43), oMov (.t t42), none, none⟩,
   ⟨(some t44), oMov (.t t0), (some (t43, true)), none⟩,
   ⟨(some t45), oMov (.t t5), (some (t43, true)), none⟩,
   ⟨(some t46), oIdxS (.t t44) (.t t45), (some (t43, true)), none⟩,
   ⟨(some t47), oBin (int2 (cmpO neI)) (.t t46) (.v (.int .u8 10)), (some (t43, true)), none⟩,
   ⟨(some t48), oPick (.t t43) (.t t47) (.v (.bool false)), none, none⟩])
 (xCond (.t t48)
 xSkip
 (xExit 2)))
 (xBlock 3 (xOps [⟨(some t49), oMov (.t t5), none, none⟩,
   ⟨(some t50), oBin (int2 addO) (.t t49) (.v (.int .i64 1)), none, none⟩,
   ⟨(some t5), oMov (.t t50), none, none⟩])))
def c10_j0 : X := (xCond (.t t94)
 xSkip
 (xExit 5))
def c10_j1 : X := (xBlock 6 (xOps [⟨(some t95), oMov (.t t8), none, none⟩,
   ⟨(some t96), oBin (int2 addO) (.t t95) (.v (.int .i64 1)), none, none⟩,
   ⟨(some t8), oMov (.t t96), none, none⟩]))
def c10_l1 : X := (xSeq (xSeq (xOps (⟨(some t65), oMov (.t t5), none, none⟩ ::
   ⟨(some t66), oMov (.t t8), none, none⟩ ::
   ⟨(some t67), oBin (int2 addO) (.t t65) (.t t66), none, none⟩ ::
   ⟨(some t68), oMov (.t t0), none, none⟩ ::
   ⟨(some t69), oLenS (.t t68), none, none⟩ ::
   ⟨(some t70), oBin (int2 (cmpO ltI)) (.t t67) (.t t69), none, none⟩ ::
   ⟨(some t71), oMov (.t t70), none, none⟩ ::
   ⟨(some t72), oMov (.t t0), (some (t71, true)), none⟩ ::
   ⟨(some t73), oMov (.t t5), (some (t71, true)), none⟩ ::
   ⟨(some t74), oMov (.t t8), (some (t71, true)), none⟩ ::
   ⟨(some t75), oBin (int2 addO) (.t t73) (.t t74), (some (t71, true)), none⟩ ::
   ⟨(some t76), oIdxS (.t t72) (.t t75), (some (t71, true)), none⟩ ::
   ⟨(some t77), oCall 16 [(.t t76)], (some (t71, true)), none⟩ ::
   ⟨(some t78), oMov (.t t77), (some (t71, true)), none⟩ :: c10_q0))
 c10_j0)
 c10_j1)
def c10_r0 : X := (xSeq (xOps [⟨(some t97), oFieldAddr 0 (.t t7), none, none⟩,
   ⟨none, oStore 1 (.t t97) (.v (.int .i64 1)), none, none⟩])
 (xSeq (xOps [⟨(some t98), oMov (.t t0), none, none⟩,
   ⟨(some t99), oMov (.t t5), none, none⟩,
   ⟨(some t100), oMov (.t t5), none, none⟩,
   ⟨(some t101), oMov (.t t8), none, none⟩,
   ⟨(some t102), oBin (int2 addO) (.t t100) (.t t101), none, none⟩,
   ⟨(some t103), oSliceS (.t t98) (some (.t t99)) (some (.t t102)), none, none⟩,
   ⟨(some t104), oFieldAddr 1 (.t t7), none, none⟩,
   ⟨none, oStore 1 (.t t104) (.t t103), none, none⟩])
 (xSeq (xSeq (xOps [⟨(some t105), oFieldAddr 1 (.t t7), none, none⟩,
   ⟨(some t106), oLoad1 (.t t105), none, (some (.t t105))⟩,
   ⟨(some t107), oCall 13 [(.t t106)], none, none⟩])
 (xCond (.t t107)
 (xOps [⟨(some t108), oFieldAddr 0 (.t t7), none, none⟩,
   ⟨none, oStore 1 (.t t108) (.v (.int .i64 2)), none, none⟩])
 xSkip))
 (xSeq (xOps [⟨(some t109), oMov (.t t8), none, none⟩,
   ⟨(some t110), oBin (int2 (cmpO gtI)) (.t t109) (.v (.int .i64 32)), none, none⟩])
 (xCond (.t t110)
 (xOps [⟨(some t8), oMov (.v (.int .i64 0)), none, none⟩])
 xSkip)))))
def c10_j2 : X := (xCond (.t t155)
 (xSeq (xOps [⟨(some t156), oMov (.t t0), none, none⟩,
   ⟨(some t157), oMov (.t t5), none, none⟩,
   ⟨(some t158), oMov (.t t8), none, none⟩,
   ⟨(some t159), oBin (int2 addO) (.t t157) (.t t158), none, none⟩,
   ⟨(some t160), oBin (int2 addO) (.t t159) (.v (.int .i64 1)), none, none⟩,
   ⟨(some t161), oMov (.t t5), none, none⟩,
   ⟨(some t162), oMov (.t t8), none, none⟩,
   ⟨(some t163), oBin (int2 addO) (.t t161) (.t t162), none, none⟩,
   ⟨(some t164), oBin (int2 addO) (.t t163) (.v (.int .i64 3)), none, none⟩,
   ⟨(some t165), oSliceS (.t t156) (some (.t t160)) (some (.t t164)), none, none⟩,
   ⟨(some t10), oMov (.t t165), none, none⟩])
 (xOps [⟨(some t166), oMov (.t t8), none, none⟩,
   ⟨(some t167), oBin (int2 addO) (.t t166) (.v (.int .i64 3)), none, none⟩,
   ⟨(some t8), oMov (.t t167), none, none⟩]))
 xSkip)
def c10_j3 : X := (xSeq (xOps [⟨(some t169), oMov (.t t0), none, none⟩,
   ⟨(some t170), oMov (.t t5), none, none⟩,
   ⟨(some t171), oBin (int2 addO) (.t t170) (.v (.int .i64 1)), none, none⟩,
   ⟨(some t172), oMov (.t t5), none, none⟩,
   ⟨(some t173), oBin (int2 addO) (.t t172) (.v (.int .i64 1)), none, none⟩,
   ⟨(some t174), oMov (.t t9), none, none⟩,
   ⟨(some t175), oBin (int2 addO) (.t t173) (.t t174), none, none⟩,
   ⟨(some t176), oSliceS (.t t169) (some (.t t171)) (some (.t t175)), none, none⟩,
   ⟨(some t177), oMov (.t t10), none, none⟩,
   ⟨(some t178), oCall 20 [(.t t176), (.t t177)], none, none⟩,
   ⟨(some t168), oMov (.t t178), none, none⟩,
   ⟨(some t179), oExtract (.t t168) 0, none, none⟩,
   ⟨(some t180), oExtract (.t t168) 1, none, none⟩,
   ⟨(some t11), oMov (.t t179), none, none⟩,
   ⟨(some t12), oMov (.t t180), none, none⟩])
 (xSeq (xOps [⟨(some t181), oMov (.t t9), none, none⟩,
   ⟨(some t182), oBin (int2 (cmpO eqI)) (.t t181) (.v (.int .i64 0)), none, none⟩,
   ⟨(some t183), oMov (.t t182), none, none⟩,
   ⟨(some t184), oMov (.t t12), (some (t183, false)), none⟩,
   ⟨(some t185), oNot (.t t184), (some (t183, false)), none⟩,
   ⟨(some t186), oPick (.t t183) (.v (.bool true)) (.t t185), none, none⟩])
 (xCond (.t t186)
 (xOps [⟨(some t8), oMov (.v (.int .i64 0)), none, none⟩])
 (xOps [⟨(some t187), oMov (.t t0), none, none⟩,
   ⟨(some t188), oMov (.t t5), none, none⟩,
   ⟨(some t189), oMov (.t t5), none, none⟩,
   ⟨(some t190), oMov (.t t8), none, none⟩,
   ⟨(some t191), oBin (int2 addO) (.t t189) (.t t190), none, none⟩,
   ⟨(some t192), oSliceS (.t t187) (some (.t t188)) (some (.t t191)), none, none⟩,
   ⟨(some t193), oMov (.t t11), none, none⟩,
   ⟨(some t194), oMov (.t t5), none, none⟩,
   ⟨(some t195), oBuild [(.int .i64 0), (.string ⟨⟨[]⟩⟩), (.int .i64 0), (.int .i64 0)] [(0, 1, (.v (.int .i64 4))), (1, 1, (.t t192)), (2, 1, (.t t193)), (3, 1, (.t t194))], none, none⟩,
   ⟨none, oStore 4 (.t t7) (.t t195), none, none⟩]))))
def c10_r1 : X := (xSeq (xSeq (xOps [⟨(some t196), oMov (.t t8), none, none⟩,
   ⟨(some t197), oBin (int2 (cmpO eqI)) (.t t196) (.v (.int .i64 0)), none, none⟩])
 (xCond (.t t197)
 (xSeq (xOps [⟨(some t198), oMov (.t t5), none, none⟩,
   ⟨(some t2), oMov (.v (.slice none 0 0)), none, none⟩,
   ⟨(some t3), oMov (.t t198), none, none⟩])
 xRet)
 xSkip))
 (xSeq (xOps [⟨(some t199), oMov (.t t4), none, none⟩,
   ⟨(some t200), oLoadN 4 (.t t7), none, none⟩,
   ⟨(some t201), oBuildSlice 1 [(.int .i64 0), (.string ⟨⟨[]⟩⟩), (.int .i64 0), (.int .i64 0)] [(0, 4, (.t t200))], none, none⟩,
   ⟨(some t202), oAppend 4 40 (.t t199) (.t t201), none, none⟩,
   ⟨(some t4), oMov (.t t202), none, none⟩])
 (xOps [⟨(some t203), oMov (.t t5), none, none⟩,
   ⟨(some t204), oMov (.t t8), none, none⟩,
   ⟨(some t205), oBin (int2 addO) (.t t203) (.t t204), none, none⟩,
   ⟨(some t5), oMov (.t t205), none, none⟩])))
def c10_r2 : X := (xSeq (xOps [⟨(some t51), oMov (.t t5), none, none⟩,
   ⟨(some t52), oBuild [(.int .i64 0), (.string ⟨⟨[]⟩⟩), (.int .i64 0), (.int .i64 0)] [(3, 1, (.t t51))], none, none⟩,
   ⟨(some t7), oNew [(.int .i64 0), (.string ⟨⟨[]⟩⟩), (.int .i64 0), (.int .i64 0)], none, none⟩,
   ⟨none, oStore 4 (.t t7) (.t t52), none, none⟩,
   ⟨(some t8), oMov (.v (.int .i64 0)), none, none⟩])
 (xSeq (xBlock 4 (xSeq (xOps [⟨(some t63), oMov (.t t6), none, none⟩,
   ⟨(some t64), oCall 16 [(.t t63)], none, none⟩,
   ⟨(some t62), oMov (.t t64), none, none⟩])
 (xCond (.t t62)
 (xSeq (xBlock 5 (xLoop c10_l1))
 c10_r0)
 (xSeq (xOps [⟨(some t112), oMov (.t t6), none, none⟩,
   ⟨(some t113), oCall 17 [(.t t112)], none, none⟩,
   ⟨(some t111), oMov (.t t113), none, none⟩])
 (xCond (.t t111)
 (xOps [⟨(some t115), oMov (.t t0), none, none⟩,
   ⟨(some t116), oMov (.t t5), none, none⟩,
   ⟨(some t117), oCall 18 [(.t t115), (.t t116)], none, none⟩,
   ⟨(some t114), oMov (.t t117), none, none⟩,
   ⟨(some t118), oExtract (.t t114) 0, none, none⟩,
   ⟨(some t119), oExtract (.t t114) 1, none, none⟩,
   ⟨none, oStore 4 (.t t7) (.t t118), none, none⟩,
   ⟨(some t8), oMov (.t t119), none, none⟩])
 (xSeq (xOps [⟨(some t121), oMov (.t t6), none, none⟩,
   ⟨(some t122), oBin (int2 (cmpO eqI)) (.t t121) (.v (.int .u8 36)), none, none⟩,
   ⟨(some t120), oMov (.t t122), none, none⟩])
 (xCond (.t t120)
 (xSeq (xOps [⟨(some t123), oMov (.t t0), none, none⟩,
   ⟨(some t124), oMov (.t t5), none, none⟩,
   ⟨(some t125), oBin (int2 addO) (.t t124) (.v (.int .i64 1)), none, none⟩,
   ⟨(some t126), oCall 19 [(.t t123), (.t t125)], none, none⟩,
   ⟨(some t9), oMov (.t t126), none, none⟩])
 (xSeq (xOps [⟨(some t10), oMov (.v (.string ⟨⟨[]⟩⟩)), none, none⟩])
 (xSeq (xOps [⟨(some t127), oMov (.t t9), none, none⟩,
   ⟨(some t128), oBin (int2 addO) (.v (.int .i64 1)) (.t t127), none, none⟩,
   ⟨(some t8), oMov (.t t128), none, none⟩])
 (xSeq (xSeq (xOps (⟨(some t129), oMov (.t t9), none, none⟩ ::
   ⟨(some t130), oBin (int2 (cmpO gtI)) (.t t129) (.v (.int .i64 0)), none, none⟩ ::
   ⟨(some t131), oMov (.t t130), none, none⟩ ::
   ⟨(some t132), oMov (.t t5), (some (t131, true)), none⟩ ::
   ⟨(some t133), oMov (.t t8), (some (t131, true)), none⟩ ::
   ⟨(some t134), oBin (int2 addO) (.t t132) (.t t133), (some (t131, true)), none⟩ ::
   ⟨(some t135), oMov (.t t0), (some (t131, true)), none⟩ ::
   ⟨(some t136), oLenS (.t t135), (some (t131, true)), none⟩ ::
   ⟨(some t137), oBin (int2 (cmpO ltI)) (.t t134) (.t t136), (some (t131, true)), none⟩ ::
   ⟨(some t138), oPick (.t t131) (.t t137) (.v (.bool false)), none, none⟩ ::
   ⟨(some t139), oMov (.t t138), none, none⟩ ::
   ⟨(some t140), oMov (.t t0), (some (t139, true)), none⟩ ::
   ⟨(some t141), oMov (.t t5), (some (t139, true)), none⟩ ::
   ⟨(some t142), oMov (.t t8), (some (t139, true)), none⟩ :: c10_q1))
 c10_j2)
 c10_j3))))
 (xSeq (xOps [⟨(some t53), oFieldAddr 0 (.t t7), none, none⟩,
   ⟨none, oStore 1 (.t t53) (.v (.int .i64 7)), none, none⟩])
 (xSeq (xOps [⟨(some t54), oMov (.t t0), none, none⟩,
   ⟨(some t55), oMov (.t t5), none, none⟩,
   ⟨(some t56), oSliceS (.t t54) (some (.t t55)) none, none, none⟩,
   ⟨(some t57), oCall 21 [(.t t56)], none, none⟩,
   ⟨(some t58), oFieldAddr 1 (.t t7), none, none⟩,
   ⟨none, oStore 1 (.t t58) (.t t57), none, none⟩])
 (xOps [⟨(some t59), oFieldAddr 1 (.t t7), none, none⟩,
   ⟨(some t60), oLoad1 (.t t59), none, (some (.t t59))⟩,
   ⟨(some t61), oLenS (.t t60), none, none⟩,
   ⟨(some t8), oMov (.t t61), none, none⟩]))))))))))
 c10_r1))
def c10_l2 : X := (xSeq (xSeq (xOps [⟨(some t14), oMov (.t t5), none, none⟩,
   ⟨(some t15), oMov (.t t0), none, none⟩,
   ⟨(some t16), oLenS (.t t15), none, none⟩,
   ⟨(some t17), oBin (int2 (cmpO ltI)) (.t t14) (.t t16), none, none⟩])
 (xCond (.t t17)
 xSkip
 (xExit 0)))
 (xBlock 1 (xSeq (xOps [⟨(some t18), oMov (.t t0), none, none⟩,
   ⟨(some t19), oMov (.t t5), none, none⟩,
   ⟨(some t20), oIdxS (.t t18) (.t t19), none, none⟩,
   ⟨(some t6), oMov (.t t20), none, none⟩])
 (xSeq (xSeq (xOps [⟨(some t21), oMov (.t t6), none, none⟩,
   ⟨(some t22), oBin (int2 (cmpO eqI)) (.t t21) (.v (.int .u8 32)), none, none⟩,
   ⟨(some t23), oMov (.t t22), none, none⟩,
   ⟨(some t24), oMov (.t t6), (some (t23, false)), none⟩,
   ⟨(some t25), oBin (int2 (cmpO eqI)) (.t t24) (.v (.int .u8 9)), (some (t23, false)), none⟩,
   ⟨(some t26), oPick (.t t23) (.v (.bool true)) (.t t25), none, none⟩,
   ⟨(some t27), oMov (.t t26), none, none⟩,
   ⟨(some t28), oMov (.t t6), (some (t27, false)), none⟩,
   ⟨(some t29), oBin (int2 (cmpO eqI)) (.t t28) (.v (.int .u8 10)), (some (t27, false)), none⟩,
   ⟨(some t30), oPick (.t t27) (.v (.bool true)) (.t t29), none, none⟩,
   ⟨(some t31), oMov (.t t30), none, none⟩,
   ⟨(some t32), oMov (.t t6), (some (t31, false)), none⟩,
   ⟨(some t33), oBin (int2 (cmpO eqI)) (.t t32) (.v (.int .u8 13)), (some (t31, false)), none⟩,
   ⟨(some t34), oPick (.t t31) (.v (.bool true)) (.t t33), none, none⟩])
 (xCond (.t t34)
 (xSeq (xOps [⟨(some t35), oMov (.t t5), none, none⟩,
   ⟨(some t36), oBin (int2 addO) (.t t35) (.v (.int .i64 1)), none, none⟩,
   ⟨(some t5), oMov (.t t36), none, none⟩])
 (xExit 1))
 xSkip))
 (xSeq (xSeq (xOps [⟨(some t37), oMov (.t t6), none, none⟩,
   ⟨(some t38), oBin (int2 (cmpO eqI)) (.t t37) (.v (.int .u8 35)), none, none⟩])
 (xCond (.t t38)
 (xSeq (xBlock 2 (xLoop c10_l0))
 (xExit 1))
 xSkip))
 c10_r2)))))
def c10_r3 : X := (xSeq (xOps [⟨(some t206), oMov (.t t4), none, none⟩,
   ⟨(some t207), oMov (.t t0), none, none⟩,
   ⟨(some t208), oLenS (.t t207), none, none⟩,
   ⟨(some t209), oBuild [(.int .i64 0), (.string ⟨⟨[]⟩⟩), (.int .i64 0), (.int .i64 0)] [(3, 1, (.t t208))], none, none⟩,
   ⟨(some t210), oBuildSlice 1 [(.int .i64 0), (.string ⟨⟨[]⟩⟩), (.int .i64 0), (.int .i64 0)] [(0, 4, (.t t209))], none, none⟩,
   ⟨(some t211), oAppend 4 40 (.t t206) (.t t210), none, none⟩,
   ⟨(some t2), oMov (.t t211), none, none⟩,
   ⟨(some t3), oMov (.v (.int .i64 (-1))), none, none⟩])
 xRet)
def c10 : AFunc := ⟨212, [.tmp t2, .tmp t3],
 (xSeq (xOps [⟨(some t2), oMov (.v (.slice none 0 0)), none, none⟩,
   ⟨(some t3), oMov (.v (.int .i64 0)), none, none⟩])
 (xSeq (xOps [⟨(some t13), oMakeSlice 4 40 [(.int .i64 0), (.string ⟨⟨[]⟩⟩), (.int .i64 0), (.int .i64 0)] (.v (.int .i64 0)) (.v (.int .i64 0)), none, none⟩,
   ⟨(some t4), oMov (.t t13), none, none⟩])
 (xSeq (xOps [⟨(some t5), oMov (.v (.int .i64 0)), none, none⟩])
 (xSeq (xBlock 0 (xLoop c10_l2))
 c10_r3))))⟩
theorem ok10 : cFunc Try.prog gl ex Try.f10 = some c10 := by kernel_rfl
-- publican/publicanref9.Lit
def c11 : AFunc := ⟨53, [.tmp t4],
 (xSeq (xOps [⟨(some t4), oMov (.v (.string ⟨⟨[]⟩⟩)), none, none⟩])
 (xSeq (xSeq (xOps [⟨(some t5), oMov (.t t1), none, none⟩,
   ⟨(some t6), oBin (int2 (cmpO ltI)) (.t t5) (.v (.int .i64 0)), none, none⟩,
   ⟨(some t7), oMov (.t t6), none, none⟩,
   ⟨(some t8), oMov (.t t0), (some (t7, true)), none⟩,
   ⟨(some t9), oBin (int2 (cmpO neI)) (.t t8) (.v (.int .i64 1)), (some (t7, true)), none⟩,
   ⟨(some t10), oPick (.t t7) (.t t9) (.v (.bool false)), none, none⟩,
   ⟨(some t11), oMov (.t t10), none, none⟩,
   ⟨(some t12), oMov (.t t0), (some (t11, true)), none⟩,
   ⟨(some t13), oBin (int2 (cmpO neI)) (.t t12) (.v (.int .i64 5)), (some (t11, true)), none⟩,
   ⟨(some t14), oPick (.t t11) (.t t13) (.v (.bool false)), none, none⟩])
 (xCond (.t t14)
 (xSeq (xOps [⟨(some t15), oMov (.t t0), none, none⟩,
   ⟨(some t16), oMov (.t t1), none, none⟩,
   ⟨(some t17), oNeg (.t t16), none, none⟩,
   ⟨(some t18), oCall 11 [(.t t15), (.t t17)], none, none⟩,
   ⟨(some t19), oBin (str2 catO) (.v (.string ⟨⟨[45]⟩⟩)) (.t t18), none, none⟩,
   ⟨(some t4), oMov (.t t19), none, none⟩])
 xRet)
 xSkip))
 (xSeq (xSeq (xOps [⟨(some t20), oMov (.t t0), none, none⟩])
 (xBlock 0 (xSeq (xOps [⟨(some t22), oBin (int2 (cmpO eqI)) (.t t20) (.v (.int .i64 1)), none, none⟩,
   ⟨(some t21), oMov (.t t22), none, none⟩])
 (xCond (.t t21)
 (xSeq (xSeq (xOps [⟨(some t23), oMov (.t t1), none, none⟩,
   ⟨(some t24), oBin (int2 (cmpO eqI)) (.t t23) (.v (.int .i64 0)), none, none⟩])
 (xCond (.t t24)
 (xSeq (xOps [⟨(some t4), oMov (.v (.string ⟨⟨[102, 97, 108, 115, 101]⟩⟩)), none, none⟩])
 xRet)
 xSkip))
 (xSeq (xOps [⟨(some t4), oMov (.v (.string ⟨⟨[116, 114, 117, 101]⟩⟩)), none, none⟩])
 xRet))
 (xSeq (xOps [⟨(some t26), oBin (int2 (cmpO eqI)) (.t t20) (.v (.int .i64 2)), none, none⟩,
   ⟨(some t25), oMov (.t t26), none, none⟩])
 (xCond (.t t25)
 (xSeq (xOps [⟨(some t27), oMov (.t t1), none, none⟩,
   ⟨(some t28), oCall 22 [(.t t27)], none, none⟩,
   ⟨(some t4), oMov (.t t28), none, none⟩])
 xRet)
 (xSeq (xOps [⟨(some t30), oBin (int2 (cmpO eqI)) (.t t20) (.v (.int .i64 3)), none, none⟩,
   ⟨(some t29), oMov (.t t30), none, none⟩])
 (xCond (.t t29)
 (xSeq (xOps [⟨(some t31), oMov (.t t1), none, none⟩,
   ⟨(some t32), oBin (int2 quoO) (.t t31) (.v (.int .i64 100)), none, none⟩,
   ⟨(some t33), oCall 22 [(.t t32)], none, none⟩,
   ⟨(some t34), oBin (str2 catO) (.v (.string ⟨⟨[36]⟩⟩)) (.t t33), none, none⟩,
   ⟨(some t35), oBin (str2 catO) (.t t34) (.v (.string ⟨⟨[46]⟩⟩)), none, none⟩,
   ⟨(some t36), oMov (.t t1), none, none⟩,
   ⟨(some t37), oBin (int2 remO) (.t t36) (.v (.int .i64 100)), none, none⟩,
   ⟨(some t38), oCall 23 [(.t t37), (.v (.int .i64 2))], none, none⟩,
   ⟨(some t39), oBin (str2 catO) (.t t35) (.t t38), none, none⟩,
   ⟨(some t4), oMov (.t t39), none, none⟩])
 xRet)
 (xSeq (xOps [⟨(some t41), oBin (int2 (cmpO eqI)) (.t t20) (.v (.int .i64 4)), none, none⟩,
   ⟨(some t40), oMov (.t t41), none, none⟩])
 (xCond (.t t40)
 (xSeq (xOps [⟨(some t42), oMov (.t t1), none, none⟩,
   ⟨(some t43), oBin (int2 quoO) (.t t42) (.v (.int .i64 10000)), none, none⟩,
   ⟨(some t44), oCall 22 [(.t t43)], none, none⟩,
   ⟨(some t45), oBin (str2 catO) (.t t44) (.v (.string ⟨⟨[46]⟩⟩)), none, none⟩,
   ⟨(some t46), oMov (.t t1), none, none⟩,
   ⟨(some t47), oBin (int2 remO) (.t t46) (.v (.int .i64 10000)), none, none⟩,
   ⟨(some t48), oCall 23 [(.t t47), (.v (.int .i64 4))], none, none⟩,
   ⟨(some t49), oBin (str2 catO) (.t t45) (.t t48), none, none⟩,
   ⟨(some t50), oBin (str2 catO) (.t t49) (.v (.string ⟨⟨[37]⟩⟩)), none, none⟩,
   ⟨(some t4), oMov (.t t50), none, none⟩])
 xRet)
 xSkip))))))))))
 (xSeq (xOps [⟨(some t51), oMov (.t t1), none, none⟩,
   ⟨(some t52), oCall 24 [(.t t51)], none, none⟩,
   ⟨(some t4), oMov (.t t52), none, none⟩])
 xRet))))⟩
theorem ok11 : cFunc Try.prog gl ex Try.f11 = some c11 := by kernel_rfl
-- publican/lex.Kept
def c12_j0 : X := (xCond (.t t4)
 (xSeq (xOps [⟨(some t2), oMov (.v (.bool true)), none, none⟩])
 xRet)
 xSkip)
def c12_j1 : X := (xSeq (xOps [⟨(some t2), oMov (.v (.bool false)), none, none⟩])
 xRet)
def c12 : AFunc := ⟨28, [.tmp t2],
 (xSeq (xOps [⟨(some t2), oMov (.v (.bool false)), none, none⟩])
 (xSeq (xSeq (xOps [⟨(some t3), oMov (.t t0), none, none⟩])
 (xBlock 0 (xSeq (xSeq (xOps [⟨(some t5), oBin (str2 (cmpS eqBytes)) (.t t3) (.v (.string ⟨⟨[105, 110, 112, 117, 116]⟩⟩)), none, none⟩,
   ⟨(some t4), oMov (.t t5), none, none⟩])
 (xCond (.t t4)
 xSkip
 (xSeq (xOps [⟨(some t6), oBin (str2 (cmpS eqBytes)) (.t t3) (.v (.string ⟨⟨[114, 117, 108, 101]⟩⟩)), none, none⟩,
   ⟨(some t4), oMov (.t t6), none, none⟩])
 (xCond (.t t4)
 xSkip
 (xSeq (xOps [⟨(some t7), oBin (str2 (cmpS eqBytes)) (.t t3) (.v (.string ⟨⟨[116, 97, 98, 108, 101]⟩⟩)), none, none⟩,
   ⟨(some t4), oMov (.t t7), none, none⟩])
 (xCond (.t t4)
 xSkip
 (xSeq (xOps [⟨(some t8), oBin (str2 (cmpS eqBytes)) (.t t3) (.v (.string ⟨⟨[98, 111, 111, 108]⟩⟩)), none, none⟩,
   ⟨(some t4), oMov (.t t8), none, none⟩])
 (xCond (.t t4)
 xSkip
 (xSeq (xOps [⟨(some t9), oBin (str2 (cmpS eqBytes)) (.t t3) (.v (.string ⟨⟨[99, 111, 117, 110, 116]⟩⟩)), none, none⟩,
   ⟨(some t4), oMov (.t t9), none, none⟩])
 (xCond (.t t4)
 xSkip
 (xSeq (xOps [⟨(some t10), oBin (str2 (cmpS eqBytes)) (.t t3) (.v (.string ⟨⟨[109, 111, 110, 101, 121]⟩⟩)), none, none⟩,
   ⟨(some t4), oMov (.t t10), none, none⟩])
 (xCond (.t t4)
 xSkip
 (xSeq (xOps [⟨(some t11), oBin (str2 (cmpS eqBytes)) (.t t3) (.v (.string ⟨⟨[114, 97, 116, 101]⟩⟩)), none, none⟩,
   ⟨(some t4), oMov (.t t11), none, none⟩])
 (xCond (.t t4)
 xSkip
 (xSeq (xOps [⟨(some t12), oBin (str2 (cmpS eqBytes)) (.t t3) (.v (.string ⟨⟨[100, 97, 116, 101]⟩⟩)), none, none⟩,
   ⟨(some t4), oMov (.t t12), none, none⟩])
 (xCond (.t t4)
 xSkip
 (xSeq (xOps [⟨(some t13), oBin (str2 (cmpS eqBytes)) (.t t3) (.v (.string ⟨⟨[109, 111, 110, 101, 121, 115]⟩⟩)), none, none⟩,
   ⟨(some t4), oMov (.t t13), none, none⟩])
 (xCond (.t t4)
 xSkip
 (xSeq (xOps [⟨(some t14), oBin (str2 (cmpS eqBytes)) (.t t3) (.v (.string ⟨⟨[105, 102]⟩⟩)), none, none⟩,
   ⟨(some t4), oMov (.t t14), none, none⟩])
 (xCond (.t t4)
 xSkip
 (xSeq (xOps [⟨(some t15), oBin (str2 (cmpS eqBytes)) (.t t3) (.v (.string ⟨⟨[116, 104, 101, 110]⟩⟩)), none, none⟩,
   ⟨(some t4), oMov (.t t15), none, none⟩])
 (xCond (.t t4)
 xSkip
 (xSeq (xOps [⟨(some t16), oBin (str2 (cmpS eqBytes)) (.t t3) (.v (.string ⟨⟨[101, 108, 115, 101]⟩⟩)), none, none⟩,
   ⟨(some t4), oMov (.t t16), none, none⟩])
 (xCond (.t t4)
 xSkip
 (xSeq (xOps [⟨(some t17), oBin (str2 (cmpS eqBytes)) (.t t3) (.v (.string ⟨⟨[97, 110, 100]⟩⟩)), none, none⟩,
   ⟨(some t4), oMov (.t t17), none, none⟩])
 (xCond (.t t4)
 xSkip
 (xSeq (xOps [⟨(some t18), oBin (str2 (cmpS eqBytes)) (.t t3) (.v (.string ⟨⟨[111, 114]⟩⟩)), none, none⟩,
   ⟨(some t4), oMov (.t t18), none, none⟩])
 (xCond (.t t4)
 xSkip
 (xSeq (xOps [⟨(some t19), oBin (str2 (cmpS eqBytes)) (.t t3) (.v (.string ⟨⟨[110, 111, 116]⟩⟩)), none, none⟩,
   ⟨(some t4), oMov (.t t19), none, none⟩])
 (xCond (.t t4)
 xSkip
 (xSeq (xOps [⟨(some t20), oBin (str2 (cmpS eqBytes)) (.t t3) (.v (.string ⟨⟨[109, 105, 110]⟩⟩)), none, none⟩,
   ⟨(some t4), oMov (.t t20), none, none⟩])
 (xCond (.t t4)
 xSkip
 (xSeq (xOps [⟨(some t21), oBin (str2 (cmpS eqBytes)) (.t t3) (.v (.string ⟨⟨[109, 97, 120]⟩⟩)), none, none⟩,
   ⟨(some t4), oMov (.t t21), none, none⟩])
 (xCond (.t t4)
 xSkip
 (xSeq (xOps [⟨(some t22), oBin (str2 (cmpS eqBytes)) (.t t3) (.v (.string ⟨⟨[115, 117, 109]⟩⟩)), none, none⟩,
   ⟨(some t4), oMov (.t t22), none, none⟩])
 (xCond (.t t4)
 xSkip
 (xSeq (xOps [⟨(some t23), oBin (str2 (cmpS eqBytes)) (.t t3) (.v (.string ⟨⟨[105, 110]⟩⟩)), none, none⟩,
   ⟨(some t4), oMov (.t t23), none, none⟩])
 (xCond (.t t4)
 xSkip
 (xSeq (xOps [⟨(some t24), oBin (str2 (cmpS eqBytes)) (.t t3) (.v (.string ⟨⟨[108, 101, 110]⟩⟩)), none, none⟩,
   ⟨(some t4), oMov (.t t24), none, none⟩])
 (xCond (.t t4)
 xSkip
 (xSeq (xOps [⟨(some t25), oBin (str2 (cmpS eqBytes)) (.t t3) (.v (.string ⟨⟨[97, 116]⟩⟩)), none, none⟩,
   ⟨(some t4), oMov (.t t25), none, none⟩])
 (xCond (.t t4)
 xSkip
 (xSeq (xOps [⟨(some t26), oBin (str2 (cmpS eqBytes)) (.t t3) (.v (.string ⟨⟨[116, 114, 117, 101]⟩⟩)), none, none⟩,
   ⟨(some t4), oMov (.t t26), none, none⟩])
 (xCond (.t t4)
 xSkip
 (xOps [⟨(some t27), oBin (str2 (cmpS eqBytes)) (.t t3) (.v (.string ⟨⟨[102, 97, 108, 115, 101]⟩⟩)), none, none⟩,
   ⟨(some t4), oMov (.t t27), none, none⟩])))))))))))))))))))))))))))))))))))))))))))))
 c12_j0)))
 c12_j1))⟩
theorem ok12 : cFunc Try.prog gl ex Try.f12 = some c12 := by kernel_rfl
end
end Go.Proofs.Ytikdjhlcbkkkfaa.AbsLexO
