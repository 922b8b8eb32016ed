import Derived.Test.YtdfmhjbmenfaeaaDoorRows
import Derived.Test.YtdfmhjbmenfaeaaDoorAbsCalDT
import Derived.KernelRfl
namespace Go.Proofs.YtdfmhjbmenfaeaaDoor.AbsCalD
open Go Go.Abs Go.Proofs
set_option maxRecDepth 100000
set_option linter.unusedVariables false
noncomputable section
-- publican/publicanlaw2.CalDays
def c4_q0 : List AOper := [⟨(some t14), oMov (.t t36), none, none⟩]
def c4_q1 : List AOper := [⟨(some t18), oMov (.t t43), none, none⟩]
def c4_q2 : List AOper := [⟨(some t54), oMov (.t t17), (some (t52, false)), none⟩,
   ⟨(some t55), oBin (int2 (cmpO neI)) (.t t53) (.t t54), (some (t52, false)), none⟩,
   ⟨(some t56), oPick (.t t52) (.v (.bool true)) (.t t55), none, none⟩,
   ⟨(some t57), oMov (.t t56), none, none⟩,
   ⟨(some t58), oMov (.t t14), (some (t57, false)), none⟩,
   ⟨(some t59), oMov (.t t18), (some (t57, false)), none⟩,
   ⟨(some t60), oEqv eqB true (.t t58) (.t t59), (some (t57, false)), none⟩,
   ⟨(some t61), oPick (.t t57) (.v (.bool true)) (.t t60), none, none⟩]
def c4_q3 : List AOper := [⟨(some t131), oMov (.t t2), (some (t129, true)), none⟩,
   ⟨(some t132), oCall 17 [(.t t130), (.t t131)], (some (t129, true)), none⟩,
   ⟨(some t133), oMov (.t t1), (some (t129, true)), none⟩,
   ⟨(some t134), oMov (.t t2), (some (t129, true)), none⟩,
   ⟨(some t135), oCall 24 [(.t t133), (.t t134)], (some (t129, true)), none⟩,
   ⟨(some t136), oBin (int2 (cmpO eqI)) (.t t132) (.t t135), (some (t129, true)), none⟩,
   ⟨(some t137), oPick (.t t129) (.t t136) (.v (.bool false)), none, none⟩,
   ⟨(some t10), oMov (.t t137), none, none⟩]
def c4_q4 : List AOper := (⟨(some t121), oPick (.t t115) (.t t120) (.v (.bool false)), none, none⟩ ::
   ⟨(some t122), oMov (.t t121), none, none⟩ ::
   ⟨(some t123), oMov (.t t1), (some (t122, true)), none⟩ ::
   ⟨(some t124), oCall 22 [(.t t123)], (some (t122, true)), none⟩ ::
   ⟨(some t125), oMov (.t t1), (some (t122, true)), none⟩ ::
   ⟨(some t126), oCall 23 [(.t t125)], (some (t122, true)), none⟩ ::
   ⟨(some t127), oEqv eqB false (.t t124) (.t t126), (some (t122, true)), none⟩ ::
   ⟨(some t128), oPick (.t t122) (.t t127) (.v (.bool false)), none, none⟩ ::
   ⟨(some t129), oMov (.t t128), none, none⟩ ::
   ⟨(some t130), oMov (.t t1), (some (t129, true)), none⟩ :: c4_q3)
def c4_q5 : List AOper := (⟨(some t111), oCall 16 [(.t t110)], (some (t109, true)), none⟩ ::
   ⟨(some t112), oMov (.t t27), (some (t109, true)), none⟩ ::
   ⟨(some t113), oBin (int2 (cmpO eqI)) (.t t111) (.t t112), (some (t109, true)), none⟩ ::
   ⟨(some t114), oPick (.t t109) (.t t113) (.v (.bool false)), none, none⟩ ::
   ⟨(some t115), oMov (.t t114), none, none⟩ ::
   ⟨(some t116), oMov (.t t0), (some (t115, true)), none⟩ ::
   ⟨(some t117), oCall 15 [(.t t116)], (some (t115, true)), none⟩ ::
   ⟨(some t118), oMov (.t t0), (some (t115, true)), none⟩ ::
   ⟨(some t119), oCall 21 [(.t t118)], (some (t115, true)), none⟩ ::
   ⟨(some t120), oBin (str2 (cmpS eqBytes)) (.t t117) (.t t119), (some (t115, true)), none⟩ :: c4_q4)
def c4_q6 : List AOper := (⟨(some t101), oMov (.t t25), (some (t99, true)), none⟩ ::
   ⟨(some t102), oBin (int2 (cmpO eqI)) (.t t100) (.t t101), (some (t99, true)), none⟩ ::
   ⟨(some t103), oPick (.t t99) (.t t102) (.v (.bool false)), none, none⟩ ::
   ⟨(some t104), oMov (.t t103), none, none⟩ ::
   ⟨(some t105), oMov (.t t24), (some (t104, true)), none⟩ ::
   ⟨(some t106), oMov (.t t26), (some (t104, true)), none⟩ ::
   ⟨(some t107), oEqv eqB false (.t t105) (.t t106), (some (t104, true)), none⟩ ::
   ⟨(some t108), oPick (.t t104) (.t t107) (.v (.bool false)), none, none⟩ ::
   ⟨(some t109), oMov (.t t108), none, none⟩ ::
   ⟨(some t110), oMov (.t t0), (some (t109, true)), none⟩ :: c4_q5)
def c4 : AFunc := ⟨138, [.tmp t10],
 (xSeq (xOps [⟨(some t10), oMov (.v (.bool false)), none, none⟩])
 (xSeq (xSeq (xOps [⟨(some t28), oCall 10 [], none, none⟩,
   ⟨(some t29), oNot (.t t28), none, none⟩])
 (xCond (.t t29)
 (xSeq (xOps [⟨(some t10), oMov (.v (.bool false)), none, none⟩])
 xRet)
 xSkip))
 (xSeq (xOps (⟨(some t31), oMov (.t t0), none, none⟩ ::
   ⟨(some t32), oCall 14 [(.t t31)], none, none⟩ ::
   ⟨(some t30), oMov (.t t32), none, none⟩ ::
   ⟨(some t33), oExtract (.t t30) 0, none, none⟩ ::
   ⟨(some t34), oExtract (.t t30) 1, none, none⟩ ::
   ⟨(some t35), oExtract (.t t30) 2, none, none⟩ ::
   ⟨(some t36), oExtract (.t t30) 3, none, none⟩ ::
   ⟨(some t11), oMov (.t t33), none, none⟩ ::
   ⟨(some t12), oMov (.t t34), none, none⟩ ::
   ⟨(some t13), oMov (.t t35), none, none⟩ :: c4_q0))
 (xSeq (xOps (⟨(some t38), oMov (.t t0), none, none⟩ ::
   ⟨(some t39), oCall 18 [(.t t38)], none, none⟩ ::
   ⟨(some t37), oMov (.t t39), none, none⟩ ::
   ⟨(some t40), oExtract (.t t37) 0, none, none⟩ ::
   ⟨(some t41), oExtract (.t t37) 1, none, none⟩ ::
   ⟨(some t42), oExtract (.t t37) 2, none, none⟩ ::
   ⟨(some t43), oExtract (.t t37) 3, none, none⟩ ::
   ⟨(some t15), oMov (.t t40), none, none⟩ ::
   ⟨(some t16), oMov (.t t41), none, none⟩ ::
   ⟨(some t17), oMov (.t t42), none, none⟩ :: c4_q1))
 (xSeq (xSeq (xOps (⟨(some t44), oMov (.t t11), none, none⟩ ::
   ⟨(some t45), oMov (.t t15), none, none⟩ ::
   ⟨(some t46), oBin (int2 (cmpO neI)) (.t t44) (.t t45), none, none⟩ ::
   ⟨(some t47), oMov (.t t46), none, none⟩ ::
   ⟨(some t48), oMov (.t t12), (some (t47, false)), none⟩ ::
   ⟨(some t49), oMov (.t t16), (some (t47, false)), none⟩ ::
   ⟨(some t50), oBin (int2 (cmpO neI)) (.t t48) (.t t49), (some (t47, false)), none⟩ ::
   ⟨(some t51), oPick (.t t47) (.v (.bool true)) (.t t50), none, none⟩ ::
   ⟨(some t52), oMov (.t t51), none, none⟩ ::
   ⟨(some t53), oMov (.t t13), (some (t52, false)), none⟩ :: c4_q2))
 (xCond (.t t61)
 (xSeq (xOps [⟨(some t10), oMov (.v (.bool false)), none, none⟩])
 xRet)
 xSkip))
 (xSeq (xOps [⟨(some t63), oMov (.t t1), none, none⟩,
   ⟨(some t64), oMov (.t t2), none, none⟩,
   ⟨(some t65), oMov (.t t3), none, none⟩,
   ⟨(some t66), oCall 11 [(.t t63), (.t t64), (.t t65)], none, none⟩,
   ⟨(some t62), oMov (.t t66), none, none⟩,
   ⟨(some t67), oExtract (.t t62) 0, none, none⟩,
   ⟨(some t68), oExtract (.t t62) 1, none, none⟩,
   ⟨(some t19), oMov (.t t67), none, none⟩,
   ⟨(some t20), oMov (.t t68), none, none⟩])
 (xSeq (xOps [⟨(some t70), oMov (.t t1), none, none⟩,
   ⟨(some t71), oMov (.t t2), none, none⟩,
   ⟨(some t72), oMov (.t t3), none, none⟩,
   ⟨(some t73), oCall 19 [(.t t70), (.t t71), (.t t72)], none, none⟩,
   ⟨(some t69), oMov (.t t73), none, none⟩,
   ⟨(some t74), oExtract (.t t69) 0, none, none⟩,
   ⟨(some t75), oExtract (.t t69) 1, none, none⟩,
   ⟨(some t21), oMov (.t t74), none, none⟩,
   ⟨(some t22), oMov (.t t75), none, none⟩])
 (xSeq (xOps [⟨(some t77), oMov (.t t0), none, none⟩,
   ⟨(some t78), oMov (.t t4), none, none⟩,
   ⟨(some t79), oCall 12 [(.t t77), (.t t78)], none, none⟩,
   ⟨(some t76), oMov (.t t79), none, none⟩,
   ⟨(some t80), oExtract (.t t76) 0, none, none⟩,
   ⟨(some t81), oExtract (.t t76) 1, none, none⟩,
   ⟨(some t23), oMov (.t t80), none, none⟩,
   ⟨(some t24), oMov (.t t81), none, none⟩])
 (xSeq (xOps [⟨(some t83), oMov (.t t0), none, none⟩,
   ⟨(some t84), oMov (.t t4), none, none⟩,
   ⟨(some t85), oCall 20 [(.t t83), (.t t84)], none, none⟩,
   ⟨(some t82), oMov (.t t85), none, none⟩,
   ⟨(some t86), oExtract (.t t82) 0, none, none⟩,
   ⟨(some t87), oExtract (.t t82) 1, none, none⟩,
   ⟨(some t25), oMov (.t t86), none, none⟩,
   ⟨(some t26), oMov (.t t87), none, none⟩])
 (xSeq (xOps [⟨(some t27), oMov (.v (.int .i64 (-1))), none, none⟩])
 (xSeq (xSeq (xOps [⟨(some t88), oMov (.t t18), none, none⟩])
 (xCond (.t t88)
 (xOps [⟨(some t89), oMov (.t t0), none, none⟩,
   ⟨(some t90), oBin (int2 remO) (.t t89) (.v (.int .i64 7)), none, none⟩,
   ⟨(some t27), oMov (.t t90), none, none⟩])
 xSkip))
 (xSeq (xOps (⟨(some t91), oMov (.t t19), none, none⟩ ::
   ⟨(some t92), oMov (.t t21), none, none⟩ ::
   ⟨(some t93), oBin (int2 (cmpO eqI)) (.t t91) (.t t92), none, none⟩ ::
   ⟨(some t94), oMov (.t t93), none, none⟩ ::
   ⟨(some t95), oMov (.t t20), (some (t94, true)), none⟩ ::
   ⟨(some t96), oMov (.t t22), (some (t94, true)), none⟩ ::
   ⟨(some t97), oEqv eqB false (.t t95) (.t t96), (some (t94, true)), none⟩ ::
   ⟨(some t98), oPick (.t t94) (.t t97) (.v (.bool false)), none, none⟩ ::
   ⟨(some t99), oMov (.t t98), none, none⟩ ::
   ⟨(some t100), oMov (.t t23), (some (t99, true)), none⟩ :: c4_q6))
 xRet))))))))))))⟩
theorem ok4 : cFunc Tryd.prog gl ex Tryd.f4 = some c4 := by kernel_rfl
-- publican/publicanlaw2.CalReads
def c5 : AFunc := ⟨40, [.tmp t2],
 (xSeq (xOps [⟨(some t2), oMov (.v (.bool false)), none, none⟩])
 (xSeq (xSeq (xOps [⟨(some t7), oCall 10 [], none, none⟩,
   ⟨(some t8), oNot (.t t7), none, none⟩])
 (xCond (.t t8)
 (xSeq (xOps [⟨(some t2), oMov (.v (.bool false)), none, none⟩])
 xRet)
 xSkip))
 (xSeq (xSeq (xOps [⟨(some t9), oMov (.t t0), none, none⟩,
   ⟨(some t10), oLenS (.t t9), none, none⟩,
   ⟨(some t11), oBin (int2 (cmpO gtI)) (.t t10) (.v (.int .i64 100)), none, none⟩])
 (xCond (.t t11)
 (xSeq (xOps [⟨(some t2), oMov (.v (.bool true)), none, none⟩])
 xRet)
 xSkip))
 (xSeq (xOps [⟨(some t13), oMov (.t t0), none, none⟩,
   ⟨(some t14), oCall 13 [(.t t13)], none, none⟩,
   ⟨(some t12), oMov (.t t14), none, none⟩,
   ⟨(some t15), oExtract (.t t12) 0, none, none⟩,
   ⟨(some t16), oExtract (.t t12) 1, none, none⟩,
   ⟨(some t3), oMov (.t t15), none, none⟩,
   ⟨(some t4), oMov (.t t16), none, none⟩])
 (xSeq (xOps [⟨(some t18), oMov (.t t0), none, none⟩,
   ⟨(some t19), oCall 25 [(.t t18)], none, none⟩,
   ⟨(some t17), oMov (.t t19), none, none⟩,
   ⟨(some t20), oExtract (.t t17) 0, none, none⟩,
   ⟨(some t21), oExtract (.t t17) 1, none, none⟩,
   ⟨(some t5), oMov (.t t20), none, none⟩,
   ⟨(some t6), oMov (.t t21), none, none⟩])
 (xSeq (xOps [⟨(some t22), oMov (.t t3), none, none⟩,
   ⟨(some t23), oMov (.t t5), none, none⟩,
   ⟨(some t24), oBin (int2 (cmpO eqI)) (.t t22) (.t t23), none, none⟩,
   ⟨(some t25), oMov (.t t24), none, none⟩,
   ⟨(some t26), oMov (.t t4), (some (t25, true)), none⟩,
   ⟨(some t27), oMov (.t t6), (some (t25, true)), none⟩,
   ⟨(some t28), oEqv eqB false (.t t26) (.t t27), (some (t25, true)), none⟩,
   ⟨(some t29), oPick (.t t25) (.t t28) (.v (.bool false)), none, none⟩,
   ⟨(some t30), oMov (.t t29), none, none⟩,
   ⟨(some t31), oMov (.t t4), (some (t30, true)), none⟩,
   ⟨(some t32), oNot (.t t31), (some (t30, true)), none⟩,
   ⟨(some t33), oMov (.t t32), (some (t30, true)), none⟩,
   ⟨(some t34), oMov (.t t3), (some (t33, false)), none⟩,
   ⟨(some t35), oCall 15 [(.t t34)], (some (t33, false)), none⟩,
   ⟨(some t36), oMov (.t t0), (some (t33, false)), none⟩,
   ⟨(some t37), oBin (str2 (cmpS eqBytes)) (.t t35) (.t t36), (some (t33, false)), none⟩,
   ⟨(some t38), oPick (.t t33) (.v (.bool true)) (.t t37), (some (t30, true)), none⟩,
   ⟨(some t39), oPick (.t t30) (.t t38) (.v (.bool false)), none, none⟩,
   ⟨(some t2), oMov (.t t39), none, none⟩])
 xRet))))))⟩
theorem ok5 : cFunc Tryd.prog gl ex Tryd.f5 = some c5 := by kernel_rfl
-- publican/publicanlaw2.awake
def c10 : AFunc := ⟨86, [.tmp t0],
 (xSeq (xOps [⟨(some t0), oMov (.v (.bool false)), none, none⟩])
 (xSeq (xOps [⟨(some t14), oCall 11 [(.v (.int .i64 2000)), (.v (.int .i64 3)), (.v (.int .i64 1))], none, none⟩,
   ⟨(some t13), oMov (.t t14), none, none⟩,
   ⟨(some t15), oExtract (.t t13) 0, none, none⟩,
   ⟨(some t16), oExtract (.t t13) 1, none, none⟩,
   ⟨(some t1), oMov (.t t15), none, none⟩,
   ⟨(some t2), oMov (.t t16), none, none⟩])
 (xSeq (xOps [⟨(some t18), oCall 11 [(.v (.int .i64 2023)), (.v (.int .i64 1)), (.v (.int .i64 31))], none, none⟩,
   ⟨(some t17), oMov (.t t18), none, none⟩,
   ⟨(some t19), oExtract (.t t17) 0, none, none⟩,
   ⟨(some t20), oExtract (.t t17) 1, none, none⟩,
   ⟨(some t3), oMov (.t t19), none, none⟩,
   ⟨(some t4), oMov (.t t20), none, none⟩])
 (xSeq (xOps [⟨(some t22), oMov (.t t3), none, none⟩,
   ⟨(some t23), oCall 12 [(.t t22), (.v (.int .i64 1))], none, none⟩,
   ⟨(some t21), oMov (.t t23), none, none⟩,
   ⟨(some t24), oExtract (.t t21) 0, none, none⟩,
   ⟨(some t25), oExtract (.t t21) 1, none, none⟩,
   ⟨(some t5), oMov (.t t24), none, none⟩,
   ⟨(some t6), oMov (.t t25), none, none⟩])
 (xSeq (xOps [⟨(some t27), oMov (.t t5), none, none⟩,
   ⟨(some t28), oCall 14 [(.t t27)], none, none⟩,
   ⟨(some t26), oMov (.t t28), none, none⟩,
   ⟨(some t29), oExtract (.t t26) 0, none, none⟩,
   ⟨(some t30), oExtract (.t t26) 1, none, none⟩,
   ⟨(some t31), oExtract (.t t26) 2, none, none⟩,
   ⟨(some t32), oExtract (.t t26) 3, none, none⟩,
   ⟨(some t7), oMov (.t t29), none, none⟩,
   ⟨(some t8), oMov (.t t30), none, none⟩,
   ⟨(some t9), oMov (.t t31), none, none⟩,
   ⟨(some t10), oMov (.t t32), none, none⟩])
 (xSeq (xOps [⟨(some t34), oCall 13 [(.v (.string ⟨⟨[49, 57, 48, 48, 45, 48, 49, 45, 48, 50]⟩⟩))], none, none⟩,
   ⟨(some t33), oMov (.t t34), none, none⟩,
   ⟨(some t35), oExtract (.t t33) 0, none, none⟩,
   ⟨(some t36), oExtract (.t t33) 1, none, none⟩,
   ⟨(some t11), oMov (.t t35), none, none⟩,
   ⟨(some t12), oMov (.t t36), none, none⟩])
 (xSeq (xOps [⟨(some t37), oMov (.t t2), none, none⟩,
   ⟨(some t38), oMov (.t t37), none, none⟩,
   ⟨(some t39), oMov (.t t1), (some (t38, true)), none⟩,
   ⟨(some t40), oBin (int2 (cmpO eqI)) (.t t39) (.v (.int .i64 36584)), (some (t38, true)), none⟩,
   ⟨(some t41), oPick (.t t38) (.t t40) (.v (.bool false)), none, none⟩,
   ⟨(some t42), oMov (.t t41), none, none⟩,
   ⟨(some t43), oMov (.t t6), (some (t42, true)), none⟩,
   ⟨(some t44), oPick (.t t42) (.t t43) (.v (.bool false)), none, none⟩,
   ⟨(some t45), oMov (.t t44), none, none⟩,
   ⟨(some t46), oMov (.t t10), (some (t45, true)), none⟩,
   ⟨(some t47), oPick (.t t45) (.t t46) (.v (.bool false)), none, none⟩,
   ⟨(some t48), oMov (.t t47), none, none⟩,
   ⟨(some t49), oMov (.t t7), (some (t48, true)), none⟩,
   ⟨(some t50), oBin (int2 (cmpO eqI)) (.t t49) (.v (.int .i64 2023)), (some (t48, true)), none⟩,
   ⟨(some t51), oPick (.t t48) (.t t50) (.v (.bool false)), none, none⟩,
   ⟨(some t52), oMov (.t t51), none, none⟩,
   ⟨(some t53), oMov (.t t8), (some (t52, true)), none⟩,
   ⟨(some t54), oBin (int2 (cmpO eqI)) (.t t53) (.v (.int .i64 2)), (some (t52, true)), none⟩,
   ⟨(some t55), oPick (.t t52) (.t t54) (.v (.bool false)), none, none⟩,
   ⟨(some t56), oMov (.t t55), none, none⟩,
   ⟨(some t57), oMov (.t t9), (some (t56, true)), none⟩,
   ⟨(some t58), oBin (int2 (cmpO eqI)) (.t t57) (.v (.int .i64 28)), (some (t56, true)), none⟩,
   ⟨(some t59), oPick (.t t56) (.t t58) (.v (.bool false)), none, none⟩,
   ⟨(some t60), oMov (.t t59), none, none⟩,
   ⟨(some t61), oCall 15 [(.v (.int .i64 0))], (some (t60, true)), none⟩,
   ⟨(some t62), oBin (str2 (cmpS eqBytes)) (.t t61) (.v (.string ⟨⟨[49, 57, 48, 48, 45, 48, 49, 45, 48, 49]⟩⟩)), (some (t60, true)), none⟩,
   ⟨(some t63), oPick (.t t60) (.t t62) (.v (.bool false)), none, none⟩,
   ⟨(some t64), oMov (.t t63), none, none⟩,
   ⟨(some t65), oMov (.t t12), (some (t64, true)), none⟩,
   ⟨(some t66), oPick (.t t64) (.t t65) (.v (.bool false)), none, none⟩,
   ⟨(some t67), oMov (.t t66), none, none⟩,
   ⟨(some t68), oMov (.t t11), (some (t67, true)), none⟩,
   ⟨(some t69), oBin (int2 (cmpO eqI)) (.t t68) (.v (.int .i64 1)), (some (t67, true)), none⟩,
   ⟨(some t70), oPick (.t t67) (.t t69) (.v (.bool false)), none, none⟩,
   ⟨(some t71), oMov (.t t70), none, none⟩,
   ⟨(some t72), oCall 16 [(.v (.int .i64 0))], (some (t71, true)), none⟩,
   ⟨(some t73), oBin (int2 (cmpO eqI)) (.t t72) (.v (.int .i64 0)), (some (t71, true)), none⟩,
   ⟨(some t74), oPick (.t t71) (.t t73) (.v (.bool false)), none, none⟩,
   ⟨(some t75), oMov (.t t74), none, none⟩,
   ⟨(some t76), oCall 22 [(.v (.int .i64 2000))], (some (t75, true)), none⟩,
   ⟨(some t77), oPick (.t t75) (.t t76) (.v (.bool false)), none, none⟩,
   ⟨(some t78), oMov (.t t77), none, none⟩,
   ⟨(some t79), oCall 22 [(.v (.int .i64 1900))], (some (t78, true)), none⟩,
   ⟨(some t80), oNot (.t t79), (some (t78, true)), none⟩,
   ⟨(some t81), oPick (.t t78) (.t t80) (.v (.bool false)), none, none⟩,
   ⟨(some t82), oMov (.t t81), none, none⟩,
   ⟨(some t83), oCall 17 [(.v (.int .i64 2024)), (.v (.int .i64 2))], (some (t82, true)), none⟩,
   ⟨(some t84), oBin (int2 (cmpO eqI)) (.t t83) (.v (.int .i64 29)), (some (t82, true)), none⟩,
   ⟨(some t85), oPick (.t t82) (.t t84) (.v (.bool false)), none, none⟩,
   ⟨(some t0), oMov (.t t85), none, none⟩])
 xRet)))))))⟩
theorem ok10 : cFunc Tryd.prog gl ex Tryd.f10 = some c10 := by kernel_rfl
-- publican/cal.Of
def c11_l0 : X := (xSeq (xSeq (xOps [⟨(some t29), oMov (.t t9), none, none⟩,
   ⟨(some t30), oMov (.t t1), none, none⟩,
   ⟨(some t31), oBin (int2 (cmpO ltI)) (.t t29) (.t t30), none, none⟩])
 (xCond (.t t31)
 xSkip
 (xExit 0)))
 (xSeq (xBlock 1 (xOps [⟨(some t34), oMov (.t t8), none, none⟩,
   ⟨(some t35), oMov (.t t0), none, none⟩,
   ⟨(some t36), oMov (.t t9), none, none⟩,
   ⟨(some t37), oCall 17 [(.t t35), (.t t36)], none, none⟩,
   ⟨(some t38), oBin (int2 addO) (.t t34) (.t t37), none, none⟩,
   ⟨(some t8), oMov (.t t38), none, none⟩]))
 (xOps [⟨(some t32), oMov (.t t9), none, none⟩,
   ⟨(some t33), oBin (int2 addO) (.t t32) (.v (.int .i64 1)), none, none⟩,
   ⟨(some t9), oMov (.t t33), none, none⟩])))
def c11_r0 : X := (xSeq (xOps [⟨(some t39), oMov (.t t8), none, none⟩,
   ⟨(some t40), oMov (.t t2), none, none⟩,
   ⟨(some t41), oBin (int2 addO) (.t t39) (.t t40), none, none⟩,
   ⟨(some t42), oBin (int2 subO) (.t t41) (.v (.int .i64 1)), none, none⟩,
   ⟨(some t6), oMov (.t t42), none, none⟩,
   ⟨(some t7), oMov (.v (.bool true)), none, none⟩])
 xRet)
def c11 : AFunc := ⟨43, [.tmp t6, .tmp t7],
 (xSeq (xOps [⟨(some t6), oMov (.v (.int .i64 0)), none, none⟩,
   ⟨(some t7), oMov (.v (.bool false)), none, none⟩])
 (xSeq (xSeq (xOps [⟨(some t10), oMov (.t t0), none, none⟩,
   ⟨(some t11), oBin (int2 (cmpO ltI)) (.t t10) (.v (.int .i64 1900)), none, none⟩,
   ⟨(some t12), oMov (.t t11), none, none⟩,
   ⟨(some t13), oMov (.t t0), (some (t12, false)), none⟩,
   ⟨(some t14), oBin (int2 (cmpO gtI)) (.t t13) (.v (.int .i64 2199)), (some (t12, false)), none⟩,
   ⟨(some t15), oPick (.t t12) (.v (.bool true)) (.t t14), none, none⟩,
   ⟨(some t16), oMov (.t t15), none, none⟩,
   ⟨(some t17), oMov (.t t2), (some (t16, false)), none⟩,
   ⟨(some t18), oBin (int2 (cmpO ltI)) (.t t17) (.v (.int .i64 1)), (some (t16, false)), none⟩,
   ⟨(some t19), oPick (.t t16) (.v (.bool true)) (.t t18), none, none⟩,
   ⟨(some t20), oMov (.t t19), none, none⟩,
   ⟨(some t21), oMov (.t t2), (some (t20, false)), none⟩,
   ⟨(some t22), oMov (.t t0), (some (t20, false)), none⟩,
   ⟨(some t23), oMov (.t t1), (some (t20, false)), none⟩,
   ⟨(some t24), oCall 17 [(.t t22), (.t t23)], (some (t20, false)), none⟩,
   ⟨(some t25), oBin (int2 (cmpO gtI)) (.t t21) (.t t24), (some (t20, false)), none⟩,
   ⟨(some t26), oPick (.t t20) (.v (.bool true)) (.t t25), none, none⟩])
 (xCond (.t t26)
 (xSeq (xOps [⟨(some t6), oMov (.v (.int .i64 0)), none, none⟩,
   ⟨(some t7), oMov (.v (.bool false)), none, none⟩])
 xRet)
 xSkip))
 (xSeq (xOps [⟨(some t27), oMov (.t t0), none, none⟩,
   ⟨(some t28), oCall 26 [(.t t27)], none, none⟩,
   ⟨(some t8), oMov (.t t28), none, none⟩])
 (xSeq (xSeq (xOps [⟨(some t9), oMov (.v (.int .i64 1)), none, none⟩])
 (xBlock 0 (xLoop c11_l0)))
 c11_r0))))⟩
theorem ok11 : cFunc Tryd.prog gl ex Tryd.f11 = some c11 := by kernel_rfl
-- publican/cal.Months
def c12 : AFunc := ⟨58, [.tmp t4, .tmp t5],
 (xSeq (xOps [⟨(some t4), oMov (.v (.int .i64 0)), none, none⟩,
   ⟨(some t5), oMov (.v (.bool false)), none, none⟩])
 (xSeq (xOps [⟨(some t12), oMov (.t t0), none, none⟩,
   ⟨(some t13), oCall 14 [(.t t12)], none, none⟩,
   ⟨(some t11), oMov (.t t13), none, none⟩,
   ⟨(some t14), oExtract (.t t11) 0, none, none⟩,
   ⟨(some t15), oExtract (.t t11) 1, none, none⟩,
   ⟨(some t16), oExtract (.t t11) 2, none, none⟩,
   ⟨(some t17), oExtract (.t t11) 3, none, none⟩,
   ⟨(some t6), oMov (.t t14), none, none⟩,
   ⟨(some t7), oMov (.t t15), none, none⟩,
   ⟨(some t8), oMov (.t t16), none, none⟩,
   ⟨(some t9), oMov (.t t17), none, none⟩])
 (xSeq (xSeq (xOps [⟨(some t18), oMov (.t t9), none, none⟩,
   ⟨(some t19), oNot (.t t18), none, none⟩,
   ⟨(some t20), oMov (.t t19), none, none⟩,
   ⟨(some t21), oMov (.t t1), (some (t20, false)), none⟩,
   ⟨(some t22), oBin (int2 (cmpO ltI)) (.t t21) (.v (.int .i64 (-3600))), (some (t20, false)), none⟩,
   ⟨(some t23), oPick (.t t20) (.v (.bool true)) (.t t22), none, none⟩,
   ⟨(some t24), oMov (.t t23), none, none⟩,
   ⟨(some t25), oMov (.t t1), (some (t24, false)), none⟩,
   ⟨(some t26), oBin (int2 (cmpO gtI)) (.t t25) (.v (.int .i64 3600)), (some (t24, false)), none⟩,
   ⟨(some t27), oPick (.t t24) (.v (.bool true)) (.t t26), none, none⟩])
 (xCond (.t t27)
 (xSeq (xOps [⟨(some t4), oMov (.v (.int .i64 0)), none, none⟩,
   ⟨(some t5), oMov (.v (.bool false)), none, none⟩])
 xRet)
 xSkip))
 (xSeq (xOps [⟨(some t28), oMov (.t t6), none, none⟩,
   ⟨(some t29), oBin (int2 subO) (.t t28) (.v (.int .i64 1900)), none, none⟩,
   ⟨(some t30), oBin (int2 mulO) (.t t29) (.v (.int .i64 12)), none, none⟩,
   ⟨(some t31), oMov (.t t7), none, none⟩,
   ⟨(some t32), oBin (int2 addO) (.t t30) (.t t31), none, none⟩,
   ⟨(some t33), oBin (int2 subO) (.t t32) (.v (.int .i64 1)), none, none⟩,
   ⟨(some t34), oMov (.t t1), none, none⟩,
   ⟨(some t35), oBin (int2 addO) (.t t33) (.t t34), none, none⟩,
   ⟨(some t10), oMov (.t t35), none, none⟩])
 (xSeq (xSeq (xOps [⟨(some t36), oMov (.t t10), none, none⟩,
   ⟨(some t37), oBin (int2 (cmpO ltI)) (.t t36) (.v (.int .i64 0)), none, none⟩,
   ⟨(some t38), oMov (.t t37), none, none⟩,
   ⟨(some t39), oMov (.t t10), (some (t38, false)), none⟩,
   ⟨(some t40), oBin (int2 (cmpO geI)) (.t t39) (.v (.int .i64 3600)), (some (t38, false)), none⟩,
   ⟨(some t41), oPick (.t t38) (.v (.bool true)) (.t t40), none, none⟩])
 (xCond (.t t41)
 (xSeq (xOps [⟨(some t4), oMov (.v (.int .i64 0)), none, none⟩,
   ⟨(some t5), oMov (.v (.bool false)), none, none⟩])
 xRet)
 xSkip))
 (xSeq (xOps [⟨(some t42), oMov (.t t10), none, none⟩,
   ⟨(some t43), oBin (int2 quoO) (.t t42) (.v (.int .i64 12)), none, none⟩,
   ⟨(some t44), oBin (int2 addO) (.v (.int .i64 1900)) (.t t43), none, none⟩,
   ⟨(some t45), oMov (.t t10), none, none⟩,
   ⟨(some t46), oBin (int2 remO) (.t t45) (.v (.int .i64 12)), none, none⟩,
   ⟨(some t47), oBin (int2 addO) (.t t46) (.v (.int .i64 1)), none, none⟩,
   ⟨(some t6), oMov (.t t44), none, none⟩,
   ⟨(some t7), oMov (.t t47), none, none⟩])
 (xSeq (xOps [⟨(some t48), oMov (.t t6), none, none⟩,
   ⟨(some t49), oMov (.t t7), none, none⟩,
   ⟨(some t50), oMov (.t t8), none, none⟩,
   ⟨(some t51), oMov (.t t6), none, none⟩,
   ⟨(some t52), oMov (.t t7), none, none⟩,
   ⟨(some t53), oCall 17 [(.t t51), (.t t52)], none, none⟩,
   ⟨(some t54), oMM false (.t t50) [(.t t53)], none, none⟩,
   ⟨(some t55), oCall 11 [(.t t48), (.t t49), (.t t54)], none, none⟩,
   ⟨(some t56), oExtract (.t t55) 0, none, none⟩,
   ⟨(some t57), oExtract (.t t55) 1, none, none⟩,
   ⟨(some t4), oMov (.t t56), none, none⟩,
   ⟨(some t5), oMov (.t t57), none, none⟩])
 xRet)))))))⟩
theorem ok12 : cFunc Tryd.prog gl ex Tryd.f12 = some c12 := by kernel_rfl
-- publican/cal.Read
def c13 : AFunc := ⟨29, [.tmp t2, .tmp t3],
 (xSeq (xOps [⟨(some t2), oMov (.v (.int .i64 0)), none, none⟩,
   ⟨(some t3), oMov (.v (.bool false)), none, none⟩])
 (xSeq (xSeq (xOps [⟨(some t4), oMov (.t t0), none, none⟩,
   ⟨(some t5), oLenS (.t t4), none, none⟩,
   ⟨(some t6), oBin (int2 (cmpO neI)) (.t t5) (.v (.int .i64 10)), none, none⟩,
   ⟨(some t7), oMov (.t t6), none, none⟩,
   ⟨(some t8), oMov (.t t0), (some (t7, false)), none⟩,
   ⟨(some t9), oIdxS (.t t8) (.v (.int .i64 4)), (some (t7, false)), none⟩,
   ⟨(some t10), oBin (int2 (cmpO neI)) (.t t9) (.v (.int .u8 45)), (some (t7, false)), none⟩,
   ⟨(some t11), oPick (.t t7) (.v (.bool true)) (.t t10), none, none⟩,
   ⟨(some t12), oMov (.t t11), none, none⟩,
   ⟨(some t13), oMov (.t t0), (some (t12, false)), none⟩,
   ⟨(some t14), oIdxS (.t t13) (.v (.int .i64 7)), (some (t12, false)), none⟩,
   ⟨(some t15), oBin (int2 (cmpO neI)) (.t t14) (.v (.int .u8 45)), (some (t12, false)), none⟩,
   ⟨(some t16), oPick (.t t12) (.v (.bool true)) (.t t15), none, none⟩])
 (xCond (.t t16)
 (xSeq (xOps [⟨(some t2), oMov (.v (.int .i64 0)), none, none⟩,
   ⟨(some t3), oMov (.v (.bool false)), none, none⟩])
 xRet)
 xSkip))
 (xSeq (xReg [⟨(some t17), oMov (.t t0), none, none⟩,
   ⟨(some t18), oSliceS (.t t17) none (some (.v (.int .i64 4))), none, none⟩,
   ⟨(some t19), oCall 27 [(.t t18)], none, none⟩,
   ⟨(some t20), oMov (.t t0), none, none⟩,
   ⟨(some t21), oSliceS (.t t20) (some (.v (.int .i64 5))) (some (.v (.int .i64 7))), none, none⟩,
   ⟨(some t22), oCall 27 [(.t t21)], none, none⟩,
   ⟨(some t23), oMov (.t t0), none, none⟩,
   ⟨(some t24), oSliceS (.t t23) (some (.v (.int .i64 8))) none, none, none⟩,
   ⟨(some t25), oCall 27 [(.t t24)], none, none⟩,
   ⟨(some t26), oCall 11 [(.t t19), (.t t22), (.t t25)], none, none⟩,
   ⟨(some t27), oExtract (.t t26) 0, none, none⟩,
   ⟨(some t28), oExtract (.t t26) 1, none, none⟩,
   ⟨(some t2), oMov (.t t27), none, none⟩,
   ⟨(some t3), oMov (.t t28), none, none⟩] [(0, 3), (1, 3), (2, 3), (0, 4), (1, 4), (2, 4), (0, 6), (1, 6), (2, 6), (3, 6), (4, 6), (5, 6), (0, 7), (1, 7), (2, 7), (3, 7), (4, 7), (5, 7), (10, 11)])
 xRet)))⟩
theorem ok13 : cFunc Tryd.prog gl ex Tryd.f13 = some c13 := by kernel_rfl
-- publican/cal.Date
def c14_l0 : X := (xSeq (xSeq (xOps [⟨(some t9), oMov (.t t2), none, none⟩,
   ⟨(some t10), oBin (int2 (cmpO ltI)) (.t t9) (.v (.int .i64 2199)), none, none⟩,
   ⟨(some t11), oMov (.t t10), none, none⟩,
   ⟨(some t12), oMov (.t t2), (some (t11, true)), none⟩,
   ⟨(some t13), oBin (int2 addO) (.t t12) (.v (.int .i64 1)), (some (t11, true)), none⟩,
   ⟨(some t14), oCall 26 [(.t t13)], (some (t11, true)), none⟩,
   ⟨(some t15), oMov (.t t0), (some (t11, true)), none⟩,
   ⟨(some t16), oBin (int2 (cmpO leI)) (.t t14) (.t t15), (some (t11, true)), none⟩,
   ⟨(some t17), oPick (.t t11) (.t t16) (.v (.bool false)), none, none⟩])
 (xCond (.t t17)
 xSkip
 (xExit 0)))
 (xBlock 1 (xOps [⟨(some t18), oMov (.t t2), none, none⟩,
   ⟨(some t19), oBin (int2 addO) (.t t18) (.v (.int .i64 1)), none, none⟩,
   ⟨(some t2), oMov (.t t19), none, none⟩])))
def c14_l1 : X := (xSeq (xSeq (xOps [⟨(some t24), oMov (.t t0), none, none⟩,
   ⟨(some t25), oMov (.t t2), none, none⟩,
   ⟨(some t26), oMov (.t t3), none, none⟩,
   ⟨(some t27), oCall 17 [(.t t25), (.t t26)], none, none⟩,
   ⟨(some t28), oBin (int2 (cmpO geI)) (.t t24) (.t t27), none, none⟩])
 (xCond (.t t28)
 xSkip
 (xExit 2)))
 (xBlock 3 (xSeq (xOps [⟨(some t29), oMov (.t t0), none, none⟩,
   ⟨(some t30), oMov (.t t2), none, none⟩,
   ⟨(some t31), oMov (.t t3), none, none⟩,
   ⟨(some t32), oCall 17 [(.t t30), (.t t31)], none, none⟩,
   ⟨(some t33), oBin (int2 subO) (.t t29) (.t t32), none, none⟩,
   ⟨(some t0), oMov (.t t33), none, none⟩])
 (xOps [⟨(some t34), oMov (.t t3), none, none⟩,
   ⟨(some t35), oBin (int2 addO) (.t t34) (.v (.int .i64 1)), none, none⟩,
   ⟨(some t3), oMov (.t t35), none, none⟩]))))
def c14_r0 : X := (xSeq (xOps [⟨(some t36), oMov (.t t2), none, none⟩,
   ⟨(some t37), oMov (.t t3), none, none⟩,
   ⟨(some t38), oMov (.t t0), none, none⟩,
   ⟨(some t39), oBin (int2 addO) (.t t38) (.v (.int .i64 1)), none, none⟩,
   ⟨(some t2), oMov (.t t36), none, none⟩,
   ⟨(some t3), oMov (.t t37), none, none⟩,
   ⟨(some t4), oMov (.t t39), none, none⟩,
   ⟨(some t5), oMov (.v (.bool true)), none, none⟩])
 xRet)
def c14_r1 : X := (xSeq (xOps [⟨(some t20), oMov (.t t0), none, none⟩,
   ⟨(some t21), oMov (.t t2), none, none⟩,
   ⟨(some t22), oCall 26 [(.t t21)], none, none⟩,
   ⟨(some t23), oBin (int2 subO) (.t t20) (.t t22), none, none⟩,
   ⟨(some t0), oMov (.t t23), none, none⟩])
 (xSeq (xOps [⟨(some t3), oMov (.v (.int .i64 1)), none, none⟩])
 (xSeq (xBlock 2 (xLoop c14_l1))
 c14_r0)))
def c14 : AFunc := ⟨40, [.tmp t2, .tmp t3, .tmp t4, .tmp t5],
 (xSeq (xOps [⟨(some t2), oMov (.v (.int .i64 0)), none, none⟩,
   ⟨(some t3), oMov (.v (.int .i64 0)), none, none⟩,
   ⟨(some t4), oMov (.v (.int .i64 0)), none, none⟩,
   ⟨(some t5), oMov (.v (.bool false)), none, none⟩])
 (xSeq (xSeq (xOps [⟨(some t6), oMov (.t t0), none, none⟩,
   ⟨(some t7), oCall 28 [(.t t6)], none, none⟩,
   ⟨(some t8), oNot (.t t7), none, none⟩])
 (xCond (.t t8)
 (xSeq (xOps [⟨(some t2), oMov (.v (.int .i64 0)), none, none⟩,
   ⟨(some t3), oMov (.v (.int .i64 0)), none, none⟩,
   ⟨(some t4), oMov (.v (.int .i64 0)), none, none⟩,
   ⟨(some t5), oMov (.v (.bool false)), none, none⟩])
 xRet)
 xSkip))
 (xSeq (xOps [⟨(some t2), oMov (.v (.int .i64 1900)), none, none⟩])
 (xSeq (xBlock 0 (xLoop c14_l0))
 c14_r1))))⟩
theorem ok14 : cFunc Tryd.prog gl ex Tryd.f14 = some c14 := by kernel_rfl
-- publican/cal.Text
def c15 : AFunc := ⟨26, [.tmp t2],
 (xSeq (xOps [⟨(some t2), oMov (.v (.string ⟨⟨[]⟩⟩)), none, none⟩])
 (xSeq (xOps [⟨(some t8), oMov (.t t0), none, none⟩,
   ⟨(some t9), oCall 14 [(.t t8)], none, none⟩,
   ⟨(some t7), oMov (.t t9), none, none⟩,
   ⟨(some t10), oExtract (.t t7) 0, none, none⟩,
   ⟨(some t11), oExtract (.t t7) 1, none, none⟩,
   ⟨(some t12), oExtract (.t t7) 2, none, none⟩,
   ⟨(some t13), oExtract (.t t7) 3, none, none⟩,
   ⟨(some t3), oMov (.t t10), none, none⟩,
   ⟨(some t4), oMov (.t t11), none, none⟩,
   ⟨(some t5), oMov (.t t12), none, none⟩,
   ⟨(some t6), oMov (.t t13), none, none⟩])
 (xSeq (xSeq (xOps [⟨(some t14), oMov (.t t6), none, none⟩,
   ⟨(some t15), oNot (.t t14), none, none⟩])
 (xCond (.t t15)
 (xSeq (xOps [⟨(some t2), oMov (.v (.string ⟨⟨[]⟩⟩)), none, none⟩])
 xRet)
 xSkip))
 (xSeq (xOps [⟨(some t16), oMov (.t t3), none, none⟩,
   ⟨(some t17), oCall 29 [(.t t16), (.v (.int .i64 4))], none, none⟩,
   ⟨(some t18), oBin (str2 catO) (.t t17) (.v (.string ⟨⟨[45]⟩⟩)), none, none⟩,
   ⟨(some t19), oMov (.t t4), none, none⟩,
   ⟨(some t20), oCall 29 [(.t t19), (.v (.int .i64 2))], none, none⟩,
   ⟨(some t21), oBin (str2 catO) (.t t18) (.t t20), none, none⟩,
   ⟨(some t22), oBin (str2 catO) (.t t21) (.v (.string ⟨⟨[45]⟩⟩)), none, none⟩,
   ⟨(some t23), oMov (.t t5), none, none⟩,
   ⟨(some t24), oCall 29 [(.t t23), (.v (.int .i64 2))], none, none⟩,
   ⟨(some t25), oBin (str2 catO) (.t t22) (.t t24), none, none⟩,
   ⟨(some t2), oMov (.t t25), none, none⟩])
 xRet))))⟩
theorem ok15 : cFunc Tryd.prog gl ex Tryd.f15 = some c15 := by kernel_rfl
-- publican/cal.Weekday
def c16 : AFunc := ⟨8, [.tmp t2],
 (xSeq (xOps [⟨(some t2), oMov (.v (.int .i64 0)), none, none⟩])
 (xSeq (xSeq (xOps [⟨(some t3), oMov (.t t0), none, none⟩,
   ⟨(some t4), oCall 28 [(.t t3)], none, none⟩,
   ⟨(some t5), oNot (.t t4), none, none⟩])
 (xCond (.t t5)
 (xSeq (xOps [⟨(some t2), oMov (.v (.int .i64 (-1))), none, none⟩])
 xRet)
 xSkip))
 (xSeq (xOps [⟨(some t6), oMov (.t t0), none, none⟩,
   ⟨(some t7), oBin (int2 remO) (.t t6) (.v (.int .i64 7)), none, none⟩,
   ⟨(some t2), oMov (.t t7), none, none⟩])
 xRet)))⟩
theorem ok16 : cFunc Tryd.prog gl ex Tryd.f16 = some c16 := by kernel_rfl
-- publican/cal.Days
def c17 : AFunc := ⟨23, [.tmp t4],
 (xSeq (xOps [⟨(some t4), oMov (.v (.int .i64 0)), none, none⟩])
 (xSeq (xSeq (xOps [⟨(some t5), oMov (.t t1), none, none⟩])
 (xBlock 0 (xSeq (xOps [⟨(some t7), oBin (int2 (cmpO eqI)) (.t t5) (.v (.int .i64 2)), none, none⟩,
   ⟨(some t6), oMov (.t t7), none, none⟩])
 (xCond (.t t6)
 (xSeq (xSeq (xOps [⟨(some t8), oMov (.t t0), none, none⟩,
   ⟨(some t9), oCall 22 [(.t t8)], none, none⟩])
 (xCond (.t t9)
 (xSeq (xOps [⟨(some t4), oMov (.v (.int .i64 29)), none, none⟩])
 xRet)
 xSkip))
 (xSeq (xOps [⟨(some t4), oMov (.v (.int .i64 28)), none, none⟩])
 xRet))
 (xSeq (xSeq (xOps [⟨(some t11), oBin (int2 (cmpO eqI)) (.t t5) (.v (.int .i64 4)), none, none⟩,
   ⟨(some t10), oMov (.t t11), none, none⟩])
 (xCond (.t t10)
 xSkip
 (xSeq (xOps [⟨(some t12), oBin (int2 (cmpO eqI)) (.t t5) (.v (.int .i64 6)), none, none⟩,
   ⟨(some t10), oMov (.t t12), none, none⟩])
 (xCond (.t t10)
 xSkip
 (xSeq (xOps [⟨(some t13), oBin (int2 (cmpO eqI)) (.t t5) (.v (.int .i64 9)), none, none⟩,
   ⟨(some t10), oMov (.t t13), none, none⟩])
 (xCond (.t t10)
 xSkip
 (xOps [⟨(some t14), oBin (int2 (cmpO eqI)) (.t t5) (.v (.int .i64 11)), none, none⟩,
   ⟨(some t10), oMov (.t t14), none, none⟩])))))))
 (xCond (.t t10)
 (xSeq (xOps [⟨(some t4), oMov (.v (.int .i64 30)), none, none⟩])
 xRet)
 (xSeq (xSeq (xOps [⟨(some t16), oBin (int2 (cmpO eqI)) (.t t5) (.v (.int .i64 1)), none, none⟩,
   ⟨(some t15), oMov (.t t16), none, none⟩])
 (xCond (.t t15)
 xSkip
 (xSeq (xOps [⟨(some t17), oBin (int2 (cmpO eqI)) (.t t5) (.v (.int .i64 3)), none, none⟩,
   ⟨(some t15), oMov (.t t17), none, none⟩])
 (xCond (.t t15)
 xSkip
 (xSeq (xOps [⟨(some t18), oBin (int2 (cmpO eqI)) (.t t5) (.v (.int .i64 5)), none, none⟩,
   ⟨(some t15), oMov (.t t18), none, none⟩])
 (xCond (.t t15)
 xSkip
 (xSeq (xOps [⟨(some t19), oBin (int2 (cmpO eqI)) (.t t5) (.v (.int .i64 7)), none, none⟩,
   ⟨(some t15), oMov (.t t19), none, none⟩])
 (xCond (.t t15)
 xSkip
 (xSeq (xOps [⟨(some t20), oBin (int2 (cmpO eqI)) (.t t5) (.v (.int .i64 8)), none, none⟩,
   ⟨(some t15), oMov (.t t20), none, none⟩])
 (xCond (.t t15)
 xSkip
 (xSeq (xOps [⟨(some t21), oBin (int2 (cmpO eqI)) (.t t5) (.v (.int .i64 10)), none, none⟩,
   ⟨(some t15), oMov (.t t21), none, none⟩])
 (xCond (.t t15)
 xSkip
 (xOps [⟨(some t22), oBin (int2 (cmpO eqI)) (.t t5) (.v (.int .i64 12)), none, none⟩,
   ⟨(some t15), oMov (.t t22), none, none⟩])))))))))))))
 (xCond (.t t15)
 (xSeq (xOps [⟨(some t4), oMov (.v (.int .i64 31)), none, none⟩])
 xRet)
 xSkip))))))))
 (xSeq (xOps [⟨(some t4), oMov (.v (.int .i64 0)), none, none⟩])
 xRet)))⟩
theorem ok17 : cFunc Tryd.prog gl ex Tryd.f17 = some c17 := by kernel_rfl
-- publican/publicanref1.Date
def c18_l0 : X := (xBlock 1 (xSeq (xOps [⟨(some t7), oMov (.v (.int .i64 365)), none, none⟩])
 (xSeq (xSeq (xOps [⟨(some t15), oMov (.t t6), none, none⟩,
   ⟨(some t16), oCall 23 [(.t t15)], none, none⟩])
 (xCond (.t t16)
 (xOps [⟨(some t7), oMov (.v (.int .i64 366)), none, none⟩])
 xSkip))
 (xSeq (xSeq (xOps [⟨(some t17), oMov (.t t0), none, none⟩,
   ⟨(some t18), oMov (.t t7), none, none⟩,
   ⟨(some t19), oBin (int2 (cmpO ltI)) (.t t17) (.t t18), none, none⟩])
 (xCond (.t t19)
 (xExit 0)
 xSkip))
 (xSeq (xOps [⟨(some t20), oMov (.t t0), none, none⟩,
   ⟨(some t21), oMov (.t t7), none, none⟩,
   ⟨(some t22), oBin (int2 subO) (.t t20) (.t t21), none, none⟩,
   ⟨(some t0), oMov (.t t22), none, none⟩])
 (xOps [⟨(some t23), oMov (.t t6), none, none⟩,
   ⟨(some t24), oBin (int2 addO) (.t t23) (.v (.int .i64 1)), none, none⟩,
   ⟨(some t6), oMov (.t t24), none, none⟩]))))))
def c18_l1 : X := (xSeq (xSeq (xOps [⟨(some t25), oMov (.t t0), none, none⟩,
   ⟨(some t26), oMov (.t t6), none, none⟩,
   ⟨(some t27), oMov (.t t8), none, none⟩,
   ⟨(some t28), oCall 24 [(.t t26), (.t t27)], none, none⟩,
   ⟨(some t29), oBin (int2 (cmpO geI)) (.t t25) (.t t28), none, none⟩])
 (xCond (.t t29)
 xSkip
 (xExit 2)))
 (xBlock 3 (xSeq (xOps [⟨(some t30), oMov (.t t0), none, none⟩,
   ⟨(some t31), oMov (.t t6), none, none⟩,
   ⟨(some t32), oMov (.t t8), none, none⟩,
   ⟨(some t33), oCall 24 [(.t t31), (.t t32)], none, none⟩,
   ⟨(some t34), oBin (int2 subO) (.t t30) (.t t33), none, none⟩,
   ⟨(some t0), oMov (.t t34), none, none⟩])
 (xOps [⟨(some t35), oMov (.t t8), none, none⟩,
   ⟨(some t36), oBin (int2 addO) (.t t35) (.v (.int .i64 1)), none, none⟩,
   ⟨(some t8), oMov (.t t36), none, none⟩]))))
def c18_r0 : X := (xSeq (xOps [⟨(some t37), oMov (.t t6), none, none⟩,
   ⟨(some t38), oMov (.t t8), none, none⟩,
   ⟨(some t39), oMov (.t t0), none, none⟩,
   ⟨(some t40), oBin (int2 addO) (.t t39) (.v (.int .i64 1)), none, none⟩,
   ⟨(some t2), oMov (.t t37), none, none⟩,
   ⟨(some t3), oMov (.t t38), none, none⟩,
   ⟨(some t4), oMov (.t t40), none, none⟩,
   ⟨(some t5), oMov (.v (.bool true)), none, none⟩])
 xRet)
def c18_r1 : X := (xSeq (xOps [⟨(some t8), oMov (.v (.int .i64 1)), none, none⟩])
 (xSeq (xBlock 2 (xLoop c18_l1))
 c18_r0))
def c18 : AFunc := ⟨41, [.tmp t2, .tmp t3, .tmp t4, .tmp t5],
 (xSeq (xOps [⟨(some t2), oMov (.v (.int .i64 0)), none, none⟩,
   ⟨(some t3), oMov (.v (.int .i64 0)), none, none⟩,
   ⟨(some t4), oMov (.v (.int .i64 0)), none, none⟩,
   ⟨(some t5), oMov (.v (.bool false)), none, none⟩])
 (xSeq (xSeq (xOps [⟨(some t9), oMov (.t t0), none, none⟩,
   ⟨(some t10), oBin (int2 (cmpO ltI)) (.t t9) (.v (.int .i64 0)), none, none⟩,
   ⟨(some t11), oMov (.t t10), none, none⟩,
   ⟨(some t12), oMov (.t t0), (some (t11, false)), none⟩,
   ⟨(some t13), oBin (int2 (cmpO gtI)) (.t t12) (.v (.int .i64 109572)), (some (t11, false)), none⟩,
   ⟨(some t14), oPick (.t t11) (.v (.bool true)) (.t t13), none, none⟩])
 (xCond (.t t14)
 (xSeq (xOps [⟨(some t2), oMov (.v (.int .i64 0)), none, none⟩,
   ⟨(some t3), oMov (.v (.int .i64 0)), none, none⟩,
   ⟨(some t4), oMov (.v (.int .i64 0)), none, none⟩,
   ⟨(some t5), oMov (.v (.bool false)), none, none⟩])
 xRet)
 xSkip))
 (xSeq (xOps [⟨(some t6), oMov (.v (.int .i64 1900)), none, none⟩])
 (xSeq (xBlock 0 (xLoop c18_l0))
 c18_r1))))⟩
theorem ok18 : cFunc Tryd.prog gl ex Tryd.f18 = some c18 := by kernel_rfl
-- publican/publicanref1.Day
def c19_l0 : X := (xSeq (xSeq (xOps [⟨(some t36), oMov (.t t9), none, none⟩,
   ⟨(some t37), oMov (.t t0), none, none⟩,
   ⟨(some t38), oBin (int2 (cmpO ltI)) (.t t36) (.t t37), none, none⟩])
 (xCond (.t t38)
 xSkip
 (xExit 0)))
 (xSeq (xBlock 1 (xSeq (xOps [⟨(some t41), oMov (.t t8), none, none⟩,
   ⟨(some t42), oBin (int2 addO) (.t t41) (.v (.int .i64 365)), none, none⟩,
   ⟨(some t8), oMov (.t t42), none, none⟩])
 (xSeq (xOps [⟨(some t43), oMov (.t t9), none, none⟩,
   ⟨(some t44), oCall 23 [(.t t43)], none, none⟩])
 (xCond (.t t44)
 (xOps [⟨(some t45), oMov (.t t8), none, none⟩,
   ⟨(some t46), oBin (int2 addO) (.t t45) (.v (.int .i64 1)), none, none⟩,
   ⟨(some t8), oMov (.t t46), none, none⟩])
 xSkip))))
 (xOps [⟨(some t39), oMov (.t t9), none, none⟩,
   ⟨(some t40), oBin (int2 addO) (.t t39) (.v (.int .i64 1)), none, none⟩,
   ⟨(some t9), oMov (.t t40), none, none⟩])))
def c19_l1 : X := (xSeq (xSeq (xOps [⟨(some t47), oMov (.t t10), none, none⟩,
   ⟨(some t48), oMov (.t t1), none, none⟩,
   ⟨(some t49), oBin (int2 (cmpO ltI)) (.t t47) (.t t48), none, none⟩])
 (xCond (.t t49)
 xSkip
 (xExit 2)))
 (xSeq (xBlock 3 (xOps [⟨(some t52), oMov (.t t8), none, none⟩,
   ⟨(some t53), oMov (.t t0), none, none⟩,
   ⟨(some t54), oMov (.t t10), none, none⟩,
   ⟨(some t55), oCall 24 [(.t t53), (.t t54)], none, none⟩,
   ⟨(some t56), oBin (int2 addO) (.t t52) (.t t55), none, none⟩,
   ⟨(some t8), oMov (.t t56), none, none⟩]))
 (xOps [⟨(some t50), oMov (.t t10), none, none⟩,
   ⟨(some t51), oBin (int2 addO) (.t t50) (.v (.int .i64 1)), none, none⟩,
   ⟨(some t10), oMov (.t t51), none, none⟩])))
def c19_r0 : X := (xSeq (xOps [⟨(some t57), oMov (.t t8), none, none⟩,
   ⟨(some t58), oMov (.t t2), none, none⟩,
   ⟨(some t59), oBin (int2 addO) (.t t57) (.t t58), none, none⟩,
   ⟨(some t60), oBin (int2 subO) (.t t59) (.v (.int .i64 1)), none, none⟩,
   ⟨(some t6), oMov (.t t60), none, none⟩,
   ⟨(some t7), oMov (.v (.bool true)), none, none⟩])
 xRet)
def c19_r1 : X := (xSeq (xSeq (xOps [⟨(some t10), oMov (.v (.int .i64 1)), none, none⟩])
 (xBlock 2 (xLoop c19_l1)))
 c19_r0)
def c19 : AFunc := ⟨61, [.tmp t6, .tmp t7],
 (xSeq (xOps [⟨(some t6), oMov (.v (.int .i64 0)), none, none⟩,
   ⟨(some t7), oMov (.v (.bool false)), none, none⟩])
 (xSeq (xSeq (xOps [⟨(some t11), oMov (.t t0), none, none⟩,
   ⟨(some t12), oBin (int2 (cmpO ltI)) (.t t11) (.v (.int .i64 1900)), none, none⟩,
   ⟨(some t13), oMov (.t t12), none, none⟩,
   ⟨(some t14), oMov (.t t0), (some (t13, false)), none⟩,
   ⟨(some t15), oBin (int2 (cmpO gtI)) (.t t14) (.v (.int .i64 2199)), (some (t13, false)), none⟩,
   ⟨(some t16), oPick (.t t13) (.v (.bool true)) (.t t15), none, none⟩,
   ⟨(some t17), oMov (.t t16), none, none⟩,
   ⟨(some t18), oMov (.t t1), (some (t17, false)), none⟩,
   ⟨(some t19), oBin (int2 (cmpO ltI)) (.t t18) (.v (.int .i64 1)), (some (t17, false)), none⟩,
   ⟨(some t20), oPick (.t t17) (.v (.bool true)) (.t t19), none, none⟩,
   ⟨(some t21), oMov (.t t20), none, none⟩,
   ⟨(some t22), oMov (.t t1), (some (t21, false)), none⟩,
   ⟨(some t23), oBin (int2 (cmpO gtI)) (.t t22) (.v (.int .i64 12)), (some (t21, false)), none⟩,
   ⟨(some t24), oPick (.t t21) (.v (.bool true)) (.t t23), none, none⟩,
   ⟨(some t25), oMov (.t t24), none, none⟩,
   ⟨(some t26), oMov (.t t2), (some (t25, false)), none⟩,
   ⟨(some t27), oBin (int2 (cmpO ltI)) (.t t26) (.v (.int .i64 1)), (some (t25, false)), none⟩,
   ⟨(some t28), oPick (.t t25) (.v (.bool true)) (.t t27), none, none⟩,
   ⟨(some t29), oMov (.t t28), none, none⟩,
   ⟨(some t30), oMov (.t t2), (some (t29, false)), none⟩,
   ⟨(some t31), oMov (.t t0), (some (t29, false)), none⟩,
   ⟨(some t32), oMov (.t t1), (some (t29, false)), none⟩,
   ⟨(some t33), oCall 24 [(.t t31), (.t t32)], (some (t29, false)), none⟩,
   ⟨(some t34), oBin (int2 (cmpO gtI)) (.t t30) (.t t33), (some (t29, false)), none⟩,
   ⟨(some t35), oPick (.t t29) (.v (.bool true)) (.t t34), none, none⟩])
 (xCond (.t t35)
 (xSeq (xOps [⟨(some t6), oMov (.v (.int .i64 0)), none, none⟩,
   ⟨(some t7), oMov (.v (.bool false)), none, none⟩])
 xRet)
 xSkip))
 (xSeq (xOps [⟨(some t8), oMov (.v (.int .i64 0)), none, none⟩])
 (xSeq (xSeq (xOps [⟨(some t9), oMov (.v (.int .i64 1900)), none, none⟩])
 (xBlock 0 (xLoop c19_l0)))
 c19_r1))))⟩
theorem ok19 : cFunc Tryd.prog gl ex Tryd.f19 = some c19 := by kernel_rfl
-- publican/publicanref1.Months
def c20 : AFunc := ⟨54, [.tmp t4, .tmp t5],
 (xSeq (xOps [⟨(some t4), oMov (.v (.int .i64 0)), none, none⟩,
   ⟨(some t5), oMov (.v (.bool false)), none, none⟩])
 (xSeq (xOps [⟨(some t12), oMov (.t t0), none, none⟩,
   ⟨(some t13), oCall 18 [(.t t12)], none, none⟩,
   ⟨(some t11), oMov (.t t13), none, none⟩,
   ⟨(some t14), oExtract (.t t11) 0, none, none⟩,
   ⟨(some t15), oExtract (.t t11) 1, none, none⟩,
   ⟨(some t16), oExtract (.t t11) 2, none, none⟩,
   ⟨(some t17), oExtract (.t t11) 3, none, none⟩,
   ⟨(some t6), oMov (.t t14), none, none⟩,
   ⟨(some t7), oMov (.t t15), none, none⟩,
   ⟨(some t8), oMov (.t t16), none, none⟩,
   ⟨(some t9), oMov (.t t17), none, none⟩])
 (xSeq (xSeq (xOps [⟨(some t18), oMov (.t t9), none, none⟩,
   ⟨(some t19), oNot (.t t18), none, none⟩,
   ⟨(some t20), oMov (.t t19), none, none⟩,
   ⟨(some t21), oMov (.t t1), (some (t20, false)), none⟩,
   ⟨(some t22), oBin (int2 (cmpO gtI)) (.t t21) (.v (.int .i64 4000)), (some (t20, false)), none⟩,
   ⟨(some t23), oPick (.t t20) (.v (.bool true)) (.t t22), none, none⟩,
   ⟨(some t24), oMov (.t t23), none, none⟩,
   ⟨(some t25), oMov (.t t1), (some (t24, false)), none⟩,
   ⟨(some t26), oBin (int2 (cmpO ltI)) (.t t25) (.v (.int .i64 (-4000))), (some (t24, false)), none⟩,
   ⟨(some t27), oPick (.t t24) (.v (.bool true)) (.t t26), none, none⟩])
 (xCond (.t t27)
 (xSeq (xOps [⟨(some t4), oMov (.v (.int .i64 0)), none, none⟩,
   ⟨(some t5), oMov (.v (.bool false)), none, none⟩])
 xRet)
 xSkip))
 (xSeq (xOps [⟨(some t28), oMov (.t t6), none, none⟩,
   ⟨(some t29), oBin (int2 mulO) (.v (.int .i64 12)) (.t t28), none, none⟩,
   ⟨(some t30), oMov (.t t7), none, none⟩,
   ⟨(some t31), oBin (int2 addO) (.t t29) (.t t30), none, none⟩,
   ⟨(some t32), oBin (int2 subO) (.t t31) (.v (.int .i64 1)), none, none⟩,
   ⟨(some t33), oMov (.t t1), none, none⟩,
   ⟨(some t34), oBin (int2 addO) (.t t32) (.t t33), none, none⟩,
   ⟨(some t10), oMov (.t t34), none, none⟩])
 (xSeq (xOps [⟨(some t35), oMov (.t t10), none, none⟩,
   ⟨(some t36), oBin (int2 quoO) (.t t35) (.v (.int .i64 12)), none, none⟩,
   ⟨(some t6), oMov (.t t36), none, none⟩])
 (xSeq (xOps [⟨(some t37), oMov (.t t10), none, none⟩,
   ⟨(some t38), oBin (int2 remO) (.t t37) (.v (.int .i64 12)), none, none⟩,
   ⟨(some t39), oBin (int2 addO) (.t t38) (.v (.int .i64 1)), none, none⟩,
   ⟨(some t7), oMov (.t t39), none, none⟩])
 (xSeq (xSeq (xOps [⟨(some t40), oMov (.t t8), none, none⟩,
   ⟨(some t41), oMov (.t t6), none, none⟩,
   ⟨(some t42), oMov (.t t7), none, none⟩,
   ⟨(some t43), oCall 24 [(.t t41), (.t t42)], none, none⟩,
   ⟨(some t44), oBin (int2 (cmpO gtI)) (.t t40) (.t t43), none, none⟩])
 (xCond (.t t44)
 (xOps [⟨(some t45), oMov (.t t6), none, none⟩,
   ⟨(some t46), oMov (.t t7), none, none⟩,
   ⟨(some t47), oCall 24 [(.t t45), (.t t46)], none, none⟩,
   ⟨(some t8), oMov (.t t47), none, none⟩])
 xSkip))
 (xSeq (xOps [⟨(some t48), oMov (.t t6), none, none⟩,
   ⟨(some t49), oMov (.t t7), none, none⟩,
   ⟨(some t50), oMov (.t t8), none, none⟩,
   ⟨(some t51), oCall 19 [(.t t48), (.t t49), (.t t50)], none, none⟩,
   ⟨(some t52), oExtract (.t t51) 0, none, none⟩,
   ⟨(some t53), oExtract (.t t51) 1, none, none⟩,
   ⟨(some t4), oMov (.t t52), none, none⟩,
   ⟨(some t5), oMov (.t t53), none, none⟩])
 xRet))))))))⟩
theorem ok20 : cFunc Tryd.prog gl ex Tryd.f20 = some c20 := by kernel_rfl
-- publican/publicanref1.DayText
def c21 : AFunc := ⟨30, [.tmp t2],
 (xSeq (xOps [⟨(some t2), oMov (.v (.string ⟨⟨[]⟩⟩)), none, none⟩])
 (xSeq (xOps [⟨(some t8), oMov (.t t0), none, none⟩,
   ⟨(some t9), oCall 18 [(.t t8)], none, none⟩,
   ⟨(some t7), oMov (.t t9), none, none⟩,
   ⟨(some t10), oExtract (.t t7) 0, none, none⟩,
   ⟨(some t11), oExtract (.t t7) 1, none, none⟩,
   ⟨(some t12), oExtract (.t t7) 2, none, none⟩,
   ⟨(some t13), oExtract (.t t7) 3, none, none⟩,
   ⟨(some t3), oMov (.t t10), none, none⟩,
   ⟨(some t4), oMov (.t t11), none, none⟩,
   ⟨(some t5), oMov (.t t12), none, none⟩,
   ⟨(some t6), oMov (.t t13), none, none⟩])
 (xSeq (xSeq (xOps [⟨(some t14), oMov (.t t6), none, none⟩,
   ⟨(some t15), oNot (.t t14), none, none⟩])
 (xCond (.t t15)
 (xSeq (xOps [⟨(some t2), oMov (.v (.string ⟨⟨[]⟩⟩)), none, none⟩])
 xRet)
 xSkip))
 (xSeq (xOps [⟨(some t16), oMov (.t t3), none, none⟩,
   ⟨(some t17), oBin (int2 quoO) (.t t16) (.v (.int .i64 100)), none, none⟩,
   ⟨(some t18), oCall 30 [(.t t17)], none, none⟩,
   ⟨(some t19), oMov (.t t3), none, none⟩,
   ⟨(some t20), oCall 30 [(.t t19)], none, none⟩,
   ⟨(some t21), oBin (str2 catO) (.t t18) (.t t20), none, none⟩,
   ⟨(some t22), oBin (str2 catO) (.t t21) (.v (.string ⟨⟨[45]⟩⟩)), none, none⟩,
   ⟨(some t23), oMov (.t t4), none, none⟩,
   ⟨(some t24), oCall 30 [(.t t23)], none, none⟩,
   ⟨(some t25), oBin (str2 catO) (.t t22) (.t t24), none, none⟩,
   ⟨(some t26), oBin (str2 catO) (.t t25) (.v (.string ⟨⟨[45]⟩⟩)), none, none⟩,
   ⟨(some t27), oMov (.t t5), none, none⟩,
   ⟨(some t28), oCall 30 [(.t t27)], none, none⟩,
   ⟨(some t29), oBin (str2 catO) (.t t26) (.t t28), none, none⟩,
   ⟨(some t2), oMov (.t t29), none, none⟩])
 xRet))))⟩
theorem ok21 : cFunc Tryd.prog gl ex Tryd.f21 = some c21 := by kernel_rfl
-- publican/cal.Leap
def c22 : AFunc := ⟨16, [.tmp t2],
 (xSeq (xOps [⟨(some t2), oMov (.v (.bool false)), none, none⟩])
 (xSeq (xOps [⟨(some t3), oMov (.t t0), none, none⟩,
   ⟨(some t4), oBin (int2 remO) (.t t3) (.v (.int .i64 4)), none, none⟩,
   ⟨(some t5), oBin (int2 (cmpO eqI)) (.t t4) (.v (.int .i64 0)), none, none⟩,
   ⟨(some t6), oMov (.t t5), none, none⟩,
   ⟨(some t7), oMov (.t t0), (some (t6, true)), none⟩,
   ⟨(some t8), oBin (int2 remO) (.t t7) (.v (.int .i64 100)), (some (t6, true)), none⟩,
   ⟨(some t9), oBin (int2 (cmpO neI)) (.t t8) (.v (.int .i64 0)), (some (t6, true)), none⟩,
   ⟨(some t10), oPick (.t t6) (.t t9) (.v (.bool false)), none, none⟩,
   ⟨(some t11), oMov (.t t10), none, none⟩,
   ⟨(some t12), oMov (.t t0), (some (t11, false)), none⟩,
   ⟨(some t13), oBin (int2 remO) (.t t12) (.v (.int .i64 400)), (some (t11, false)), none⟩,
   ⟨(some t14), oBin (int2 (cmpO eqI)) (.t t13) (.v (.int .i64 0)), (some (t11, false)), none⟩,
   ⟨(some t15), oPick (.t t11) (.v (.bool true)) (.t t14), none, none⟩,
   ⟨(some t2), oMov (.t t15), none, none⟩])
 xRet))⟩
theorem ok22 : cFunc Tryd.prog gl ex Tryd.f22 = some c22 := by kernel_rfl
-- publican/publicanref1.Leap
def c23 : AFunc := ⟨16, [.tmp t2],
 (xSeq (xOps [⟨(some t2), oMov (.v (.bool false)), none, none⟩])
 (xSeq (xOps [⟨(some t3), oMov (.t t0), none, none⟩,
   ⟨(some t4), oBin (int2 remO) (.t t3) (.v (.int .i64 4)), none, none⟩,
   ⟨(some t5), oBin (int2 (cmpO eqI)) (.t t4) (.v (.int .i64 0)), none, none⟩,
   ⟨(some t6), oMov (.t t5), none, none⟩,
   ⟨(some t7), oMov (.t t0), (some (t6, true)), none⟩,
   ⟨(some t8), oBin (int2 remO) (.t t7) (.v (.int .i64 100)), (some (t6, true)), none⟩,
   ⟨(some t9), oBin (int2 (cmpO neI)) (.t t8) (.v (.int .i64 0)), (some (t6, true)), none⟩,
   ⟨(some t10), oPick (.t t6) (.t t9) (.v (.bool false)), none, none⟩,
   ⟨(some t11), oMov (.t t10), none, none⟩,
   ⟨(some t12), oMov (.t t0), (some (t11, false)), none⟩,
   ⟨(some t13), oBin (int2 remO) (.t t12) (.v (.int .i64 400)), (some (t11, false)), none⟩,
   ⟨(some t14), oBin (int2 (cmpO eqI)) (.t t13) (.v (.int .i64 0)), (some (t11, false)), none⟩,
   ⟨(some t15), oPick (.t t11) (.v (.bool true)) (.t t14), none, none⟩,
   ⟨(some t2), oMov (.t t15), none, none⟩])
 xRet))⟩
theorem ok23 : cFunc Tryd.prog gl ex Tryd.f23 = some c23 := by kernel_rfl
-- publican/publicanref1.Days
def c24 : AFunc := ⟨23, [.tmp t4],
 (xSeq (xOps [⟨(some t4), oMov (.v (.int .i64 0)), none, none⟩])
 (xSeq (xSeq (xOps [⟨(some t5), oMov (.t t1), none, none⟩])
 (xBlock 0 (xSeq (xSeq (xOps [⟨(some t7), oBin (int2 (cmpO eqI)) (.t t5) (.v (.int .i64 1)), none, none⟩,
   ⟨(some t6), oMov (.t t7), none, none⟩])
 (xCond (.t t6)
 xSkip
 (xSeq (xOps [⟨(some t8), oBin (int2 (cmpO eqI)) (.t t5) (.v (.int .i64 3)), none, none⟩,
   ⟨(some t6), oMov (.t t8), none, none⟩])
 (xCond (.t t6)
 xSkip
 (xSeq (xOps [⟨(some t9), oBin (int2 (cmpO eqI)) (.t t5) (.v (.int .i64 5)), none, none⟩,
   ⟨(some t6), oMov (.t t9), none, none⟩])
 (xCond (.t t6)
 xSkip
 (xSeq (xOps [⟨(some t10), oBin (int2 (cmpO eqI)) (.t t5) (.v (.int .i64 7)), none, none⟩,
   ⟨(some t6), oMov (.t t10), none, none⟩])
 (xCond (.t t6)
 xSkip
 (xSeq (xOps [⟨(some t11), oBin (int2 (cmpO eqI)) (.t t5) (.v (.int .i64 8)), none, none⟩,
   ⟨(some t6), oMov (.t t11), none, none⟩])
 (xCond (.t t6)
 xSkip
 (xSeq (xOps [⟨(some t12), oBin (int2 (cmpO eqI)) (.t t5) (.v (.int .i64 10)), none, none⟩,
   ⟨(some t6), oMov (.t t12), none, none⟩])
 (xCond (.t t6)
 xSkip
 (xOps [⟨(some t13), oBin (int2 (cmpO eqI)) (.t t5) (.v (.int .i64 12)), none, none⟩,
   ⟨(some t6), oMov (.t t13), none, none⟩])))))))))))))
 (xCond (.t t6)
 (xSeq (xOps [⟨(some t4), oMov (.v (.int .i64 31)), none, none⟩])
 xRet)
 (xSeq (xSeq (xOps [⟨(some t15), oBin (int2 (cmpO eqI)) (.t t5) (.v (.int .i64 4)), none, none⟩,
   ⟨(some t14), oMov (.t t15), none, none⟩])
 (xCond (.t t14)
 xSkip
 (xSeq (xOps [⟨(some t16), oBin (int2 (cmpO eqI)) (.t t5) (.v (.int .i64 6)), none, none⟩,
   ⟨(some t14), oMov (.t t16), none, none⟩])
 (xCond (.t t14)
 xSkip
 (xSeq (xOps [⟨(some t17), oBin (int2 (cmpO eqI)) (.t t5) (.v (.int .i64 9)), none, none⟩,
   ⟨(some t14), oMov (.t t17), none, none⟩])
 (xCond (.t t14)
 xSkip
 (xOps [⟨(some t18), oBin (int2 (cmpO eqI)) (.t t5) (.v (.int .i64 11)), none, none⟩,
   ⟨(some t14), oMov (.t t18), none, none⟩])))))))
 (xCond (.t t14)
 (xSeq (xOps [⟨(some t4), oMov (.v (.int .i64 30)), none, none⟩])
 xRet)
 (xSeq (xOps [⟨(some t20), oBin (int2 (cmpO eqI)) (.t t5) (.v (.int .i64 2)), none, none⟩,
   ⟨(some t19), oMov (.t t20), none, none⟩])
 (xCond (.t t19)
 (xSeq (xSeq (xOps [⟨(some t21), oMov (.t t0), none, none⟩,
   ⟨(some t22), oCall 23 [(.t t21)], none, none⟩])
 (xCond (.t t22)
 (xSeq (xOps [⟨(some t4), oMov (.v (.int .i64 29)), none, none⟩])
 xRet)
 xSkip))
 (xSeq (xOps [⟨(some t4), oMov (.v (.int .i64 28)), none, none⟩])
 xRet))
 xSkip))))))))
 (xSeq (xOps [⟨(some t4), oMov (.v (.int .i64 0)), none, none⟩])
 xRet)))⟩
theorem ok24 : cFunc Tryd.prog gl ex Tryd.f24 = some c24 := by kernel_rfl
-- publican/publicanref1.ReadDay
def c25_l0 : X := (xSeq (xSeq (xOps [⟨(some t21), oMov (.t t5), none, none⟩,
   ⟨(some t22), oBin (int2 (cmpO ltI)) (.t t21) (.v (.int .i64 10)), none, none⟩])
 (xCond (.t t22)
 xSkip
 (xExit 0)))
 (xSeq (xBlock 1 (xSeq (xSeq (xOps [⟨(some t25), oMov (.t t5), none, none⟩,
   ⟨(some t26), oBin (int2 (cmpO eqI)) (.t t25) (.v (.int .i64 4)), none, none⟩,
   ⟨(some t27), oMov (.t t26), none, none⟩,
   ⟨(some t28), oMov (.t t5), (some (t27, false)), none⟩,
   ⟨(some t29), oBin (int2 (cmpO eqI)) (.t t28) (.v (.int .i64 7)), (some (t27, false)), none⟩,
   ⟨(some t30), oPick (.t t27) (.v (.bool true)) (.t t29), none, none⟩])
 (xCond (.t t30)
 (xExit 1)
 xSkip))
 (xSeq (xSeq (xOps [⟨(some t31), oMov (.t t0), none, none⟩,
   ⟨(some t32), oMov (.t t5), none, none⟩,
   ⟨(some t33), oIdxS (.t t31) (.t t32), none, none⟩,
   ⟨(some t34), oBin (int2 (cmpO ltI)) (.t t33) (.v (.int .u8 48)), none, none⟩,
   ⟨(some t35), oMov (.t t34), none, none⟩,
   ⟨(some t36), oMov (.t t0), (some (t35, false)), none⟩,
   ⟨(some t37), oMov (.t t5), (some (t35, false)), none⟩,
   ⟨(some t38), oIdxS (.t t36) (.t t37), (some (t35, false)), none⟩,
   ⟨(some t39), oBin (int2 (cmpO gtI)) (.t t38) (.v (.int .u8 57)), (some (t35, false)), none⟩,
   ⟨(some t40), oPick (.t t35) (.v (.bool true)) (.t t39), none, none⟩])
 (xCond (.t t40)
 (xSeq (xOps [⟨(some t2), oMov (.v (.int .i64 0)), none, none⟩,
   ⟨(some t3), oMov (.v (.bool false)), none, none⟩])
 xRet)
 xSkip))
 (xSeq (xOps [⟨(some t6), oMov (.v (.int .i64 0)), none, none⟩])
 (xSeq (xSeq (xOps [⟨(some t41), oMov (.t t5), none, none⟩,
   ⟨(some t42), oBin (int2 (cmpO gtI)) (.t t41) (.v (.int .i64 4)), none, none⟩])
 (xCond (.t t42)
 (xOps [⟨(some t6), oMov (.v (.int .i64 1)), none, none⟩])
 xSkip))
 (xSeq (xSeq (xOps [⟨(some t43), oMov (.t t5), none, none⟩,
   ⟨(some t44), oBin (int2 (cmpO gtI)) (.t t43) (.v (.int .i64 7)), none, none⟩])
 (xCond (.t t44)
 (xOps [⟨(some t6), oMov (.v (.int .i64 2)), none, none⟩])
 xSkip))
 (xReg [⟨(some t45), oMov (.t t4), none, none⟩,
   ⟨(some t46), oMov (.t t6), none, none⟩,
   ⟨(some t47), oMov (.t t4), none, none⟩,
   ⟨(some t48), oMov (.t t6), none, none⟩,
   ⟨(some t49), oIdxAddrL 1 (.t t47) (.t t48), none, none⟩,
   ⟨(some t50), oLoad1 (.t t49), none, (some (.t t49))⟩,
   ⟨(some t51), oBin (int2 mulO) (.v (.int .i64 10)) (.t t50), none, none⟩,
   ⟨(some t52), oMov (.t t0), none, none⟩,
   ⟨(some t53), oMov (.t t5), none, none⟩,
   ⟨(some t54), oIdxS (.t t52) (.t t53), none, none⟩,
   ⟨(some t55), oBin (int2 subO) (.t t54) (.v (.int .u8 48)), none, none⟩,
   ⟨(some t56), oConv .i64 (.t t55), none, none⟩,
   ⟨(some t57), oBin (int2 addO) (.t t51) (.t t56), none, none⟩,
   ⟨(some t58), oIdxAddrL 1 (.t t45) (.t t46), none, none⟩,
   ⟨none, oStore 1 (.t t58) (.t t57), none, none⟩] [(0, 1), (0, 2), (1, 2), (0, 3), (1, 3), (2, 3), (0, 4), (1, 4), (0, 5), (1, 5), (0, 6), (1, 6), (0, 7), (1, 7), (2, 7), (3, 7), (4, 7), (5, 7), (6, 7), (0, 8), (1, 8), (2, 8), (3, 8), (4, 8), (5, 8), (6, 8), (7, 8), (0, 9), (1, 9), (2, 9), (3, 9), (4, 9), (5, 9), (6, 9), (0, 10), (1, 10), (2, 10), (3, 10), (4, 10), (5, 10), (6, 10), (0, 11), (1, 11), (2, 11), (3, 11), (4, 11), (5, 11), (6, 11), (0, 12), (1, 12)])))))))
 (xOps [⟨(some t23), oMov (.t t5), none, none⟩,
   ⟨(some t24), oBin (int2 addO) (.t t23) (.v (.int .i64 1)), none, none⟩,
   ⟨(some t5), oMov (.t t24), none, none⟩])))
def c25_r0 : X := (xSeq (xReg [⟨(some t59), oMov (.t t4), none, none⟩,
   ⟨(some t60), oIdxAddrL 1 (.t t59) (.v (.int .i64 0)), none, none⟩,
   ⟨(some t61), oLoad1 (.t t60), none, (some (.t t60))⟩,
   ⟨(some t62), oMov (.t t4), none, none⟩,
   ⟨(some t63), oIdxAddrL 1 (.t t62) (.v (.int .i64 1)), none, none⟩,
   ⟨(some t64), oLoad1 (.t t63), none, (some (.t t63))⟩,
   ⟨(some t65), oMov (.t t4), none, none⟩,
   ⟨(some t66), oIdxAddrL 1 (.t t65) (.v (.int .i64 2)), none, none⟩,
   ⟨(some t67), oLoad1 (.t t66), none, (some (.t t66))⟩,
   ⟨(some t68), oCall 19 [(.t t61), (.t t64), (.t t67)], none, none⟩,
   ⟨(some t69), oExtract (.t t68) 0, none, none⟩,
   ⟨(some t70), oExtract (.t t68) 1, none, none⟩,
   ⟨(some t2), oMov (.t t69), none, none⟩,
   ⟨(some t3), oMov (.t t70), none, none⟩] [(0, 3), (1, 3), (2, 3), (0, 4), (1, 4), (2, 4), (0, 5), (1, 5), (2, 5), (0, 6), (1, 6), (2, 6), (3, 6), (4, 6), (5, 6), (0, 7), (1, 7), (2, 7), (3, 7), (4, 7), (5, 7), (0, 8), (1, 8), (2, 8), (3, 8), (4, 8), (5, 8), (10, 11)])
 xRet)
def c25 : AFunc := ⟨71, [.tmp t2, .tmp t3],
 (xSeq (xOps [⟨(some t2), oMov (.v (.int .i64 0)), none, none⟩,
   ⟨(some t3), oMov (.v (.bool false)), none, none⟩])
 (xSeq (xSeq (xOps [⟨(some t7), oMov (.t t0), none, none⟩,
   ⟨(some t8), oLenS (.t t7), none, none⟩,
   ⟨(some t9), oBin (int2 (cmpO neI)) (.t t8) (.v (.int .i64 10)), none, none⟩,
   ⟨(some t10), oMov (.t t9), none, none⟩,
   ⟨(some t11), oMov (.t t0), (some (t10, false)), none⟩,
   ⟨(some t12), oIdxS (.t t11) (.v (.int .i64 4)), (some (t10, false)), none⟩,
   ⟨(some t13), oBin (int2 (cmpO neI)) (.t t12) (.v (.int .u8 45)), (some (t10, false)), none⟩,
   ⟨(some t14), oPick (.t t10) (.v (.bool true)) (.t t13), none, none⟩,
   ⟨(some t15), oMov (.t t14), none, none⟩,
   ⟨(some t16), oMov (.t t0), (some (t15, false)), none⟩,
   ⟨(some t17), oIdxS (.t t16) (.v (.int .i64 7)), (some (t15, false)), none⟩,
   ⟨(some t18), oBin (int2 (cmpO neI)) (.t t17) (.v (.int .u8 45)), (some (t15, false)), none⟩,
   ⟨(some t19), oPick (.t t15) (.v (.bool true)) (.t t18), none, none⟩])
 (xCond (.t t19)
 (xSeq (xOps [⟨(some t2), oMov (.v (.int .i64 0)), none, none⟩,
   ⟨(some t3), oMov (.v (.bool false)), none, none⟩])
 xRet)
 xSkip))
 (xSeq (xOps [⟨(some t20), oBuildSlice 3 [(.int .i64 0), (.int .i64 0), (.int .i64 0)] [(0, 1, (.v (.int .i64 0))), (1, 1, (.v (.int .i64 0))), (2, 1, (.v (.int .i64 0)))], none, none⟩,
   ⟨(some t4), oMov (.t t20), none, none⟩])
 (xSeq (xSeq (xOps [⟨(some t5), oMov (.v (.int .i64 0)), none, none⟩])
 (xBlock 0 (xLoop c25_l0)))
 c25_r0))))⟩
theorem ok25 : cFunc Tryd.prog gl ex Tryd.f25 = some c25 := by kernel_rfl
-- publican/cal.before
def c26 : AFunc := ⟨25, [.tmp t2],
 (xSeq (xOps [⟨(some t2), oMov (.v (.int .i64 0)), none, none⟩])
 (xSeq (xOps [⟨(some t5), oMov (.t t0), none, none⟩,
   ⟨(some t6), oBin (int2 subO) (.t t5) (.v (.int .i64 1900)), none, none⟩,
   ⟨(some t3), oMov (.t t6), none, none⟩])
 (xSeq (xOps [⟨(some t7), oMov (.t t0), none, none⟩,
   ⟨(some t8), oBin (int2 subO) (.t t7) (.v (.int .i64 1)), none, none⟩,
   ⟨(some t9), oBin (int2 quoO) (.t t8) (.v (.int .i64 4)), none, none⟩,
   ⟨(some t10), oBin (int2 subO) (.t t9) (.v (.int .i64 474)), none, none⟩,
   ⟨(some t11), oMov (.t t0), none, none⟩,
   ⟨(some t12), oBin (int2 subO) (.t t11) (.v (.int .i64 1)), none, none⟩,
   ⟨(some t13), oBin (int2 quoO) (.t t12) (.v (.int .i64 100)), none, none⟩,
   ⟨(some t14), oBin (int2 subO) (.t t13) (.v (.int .i64 18)), none, none⟩,
   ⟨(some t15), oBin (int2 subO) (.t t10) (.t t14), none, none⟩,
   ⟨(some t16), oMov (.t t0), none, none⟩,
   ⟨(some t17), oBin (int2 subO) (.t t16) (.v (.int .i64 1)), none, none⟩,
   ⟨(some t18), oBin (int2 quoO) (.t t17) (.v (.int .i64 400)), none, none⟩,
   ⟨(some t19), oBin (int2 subO) (.t t18) (.v (.int .i64 4)), none, none⟩,
   ⟨(some t20), oBin (int2 addO) (.t t15) (.t t19), none, none⟩,
   ⟨(some t4), oMov (.t t20), none, none⟩])
 (xSeq (xOps [⟨(some t21), oMov (.t t3), none, none⟩,
   ⟨(some t22), oBin (int2 mulO) (.t t21) (.v (.int .i64 365)), none, none⟩,
   ⟨(some t23), oMov (.t t4), none, none⟩,
   ⟨(some t24), oBin (int2 addO) (.t t22) (.t t23), none, none⟩,
   ⟨(some t2), oMov (.t t24), none, none⟩])
 xRet))))⟩
theorem ok26 : cFunc Tryd.prog gl ex Tryd.f26 = some c26 := by kernel_rfl
-- publican/cal.number
def c27_l0 : X := (xSeq (xOps [⟨(some t10), oBin (int2 (cmpO ltI)) (.t t9) (.t t8), none, none⟩])
 (xSeq (xCond (.t t10)
 xSkip
 (xExit 0))
 (xSeq (xBlock 1 (xSeq (xOps [⟨(some t11), oIdxAddrL 1 (.t t7) (.t t9), none, none⟩,
   ⟨(some t12), oLoad1 (.t t11), none, (some (.t t11))⟩,
   ⟨(some t5), oMov (.t t12), none, none⟩])
 (xSeq (xSeq (xOps [⟨(some t13), oMov (.t t5), none, none⟩,
   ⟨(some t14), oBin (int2 (cmpO ltI)) (.t t13) (.v (.int .u8 48)), none, none⟩,
   ⟨(some t15), oMov (.t t14), none, none⟩,
   ⟨(some t16), oMov (.t t5), (some (t15, false)), none⟩,
   ⟨(some t17), oBin (int2 (cmpO gtI)) (.t t16) (.v (.int .u8 57)), (some (t15, false)), none⟩,
   ⟨(some t18), oPick (.t t15) (.v (.bool true)) (.t t17), none, none⟩])
 (xCond (.t t18)
 (xSeq (xOps [⟨(some t2), oMov (.v (.int .i64 (-1))), none, none⟩])
 xRet)
 xSkip))
 (xOps [⟨(some t19), oMov (.t t3), none, none⟩,
   ⟨(some t20), oBin (int2 mulO) (.t t19) (.v (.int .i64 10)), none, none⟩,
   ⟨(some t21), oMov (.t t5), none, none⟩,
   ⟨(some t22), oBin (int2 subO) (.t t21) (.v (.int .u8 48)), none, none⟩,
   ⟨(some t23), oConv .i64 (.t t22), none, none⟩,
   ⟨(some t24), oBin (int2 addO) (.t t20) (.t t23), none, none⟩,
   ⟨(some t3), oMov (.t t24), none, none⟩]))))
 (xOps [⟨(some t25), oBin (int2 addO) (.t t9) (.v (.int .i64 1)), none, none⟩,
   ⟨(some t9), oMov (.t t25), none, none⟩]))))
def c27_r0 : X := (xSeq (xOps [⟨(some t26), oMov (.t t3), none, none⟩,
   ⟨(some t2), oMov (.t t26), none, none⟩])
 xRet)
def c27 : AFunc := ⟨27, [.tmp t2],
 (xSeq (xOps [⟨(some t2), oMov (.v (.int .i64 0)), none, none⟩])
 (xSeq (xOps [⟨(some t3), oMov (.v (.int .i64 0)), none, none⟩])
 (xSeq (xSeq (xOps [⟨(some t6), oMov (.t t0), none, none⟩,
   ⟨(some t7), oStrBytes (.t t6), none, none⟩,
   ⟨(some t8), oLenL (.t t7), none, none⟩,
   ⟨(some t9), oMov (.v (.int .i64 0)), none, none⟩])
 (xBlock 0 (xLoop c27_l0)))
 c27_r0)))⟩
theorem ok27 : cFunc Tryd.prog gl ex Tryd.f27 = some c27 := by kernel_rfl
end
end Go.Proofs.YtdfmhjbmenfaeaaDoor.AbsCalD
