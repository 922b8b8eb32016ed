import Derived.Test.YthjhammjankekaaRows
import Derived.Test.YthjhammjankekaaAbsRatOT
import Derived.KernelRfl
namespace Go.Proofs.Ythjhammjankekaa.AbsRatO
open Go Go.Abs Go.Proofs
set_option maxRecDepth 100000
set_option linter.unusedVariables false
noncomputable section
-- publican/publicanlaw19.RateSays
def c4_l0 : X := (xSeq (xSeq (xOps [⟨(some t22), oMov (.t t11), none, none⟩,
   ⟨(some t23), oMov (.t t0), none, none⟩,
   ⟨(some t24), oLenL (.t t23), none, none⟩,
   ⟨(some t25), oBin (int2 (cmpO ltI)) (.t t22) (.t t24), none, none⟩])
 (xCond (.t t25)
 xSkip
 (xExit 0)))
 (xSeq (xBlock 1 (xSeq (xReg [⟨(some t29), oMov (.t t10), none, none⟩,
   ⟨(some t30), oMov (.t t0), none, none⟩,
   ⟨(some t31), oMov (.t t11), none, none⟩,
   ⟨(some t32), oIdxAddrL 2 (.t t30) (.t t31), none, none⟩,
   ⟨(some t33), oFieldAddr 0 (.t t32), none, none⟩,
   ⟨(some t34), oLoad1 (.t t33), none, (some (.t t33))⟩,
   ⟨(some t35), oMov (.t t0), none, none⟩,
   ⟨(some t36), oMov (.t t11), none, none⟩,
   ⟨(some t37), oIdxAddrL 2 (.t t35) (.t t36), none, none⟩,
   ⟨(some t38), oFieldAddr 1 (.t t37), none, none⟩,
   ⟨(some t39), oLoad1 (.t t38), none, (some (.t t38))⟩,
   ⟨(some t40), oCall 17 [(.t t29), (.t t34), (.t t39)], none, none⟩,
   ⟨(some t28), oMov (.t t40), none, none⟩,
   ⟨(some t41), oExtract (.t t28) 0, none, none⟩,
   ⟨(some t42), oExtract (.t t28) 1, none, none⟩,
   ⟨(some t12), oMov (.t t41), none, none⟩,
   ⟨(some t13), oMov (.t t42), none, none⟩] [(0, 1), (0, 2), (1, 2), (0, 3), (0, 4), (0, 5), (0, 6), (1, 6), (2, 6), (3, 6), (4, 6), (5, 6), (0, 7), (1, 7), (2, 7), (3, 7), (4, 7), (5, 7), (6, 7), (0, 8), (1, 8), (2, 8), (3, 8), (4, 8), (5, 8), (0, 9), (1, 9), (2, 9), (3, 9), (4, 9), (5, 9), (0, 10), (1, 10), (2, 10), (3, 10), (4, 10), (5, 10), (13, 14), (14, 15)])
 (xSeq (xSeq (xReg [⟨(some t43), oMov (.t t9), none, none⟩,
   ⟨(some t44), oMov (.t t0), none, none⟩,
   ⟨(some t45), oMov (.t t11), none, none⟩,
   ⟨(some t46), oIdxAddrL 2 (.t t44) (.t t45), none, none⟩,
   ⟨(some t47), oFieldAddr 0 (.t t46), none, none⟩,
   ⟨(some t48), oLoad1 (.t t47), none, (some (.t t47))⟩,
   ⟨(some t49), oMov (.t t0), none, none⟩,
   ⟨(some t50), oMov (.t t11), none, none⟩,
   ⟨(some t51), oIdxAddrL 2 (.t t49) (.t t50), none, none⟩,
   ⟨(some t52), oFieldAddr 1 (.t t51), none, none⟩,
   ⟨(some t53), oLoad1 (.t t52), none, (some (.t t52))⟩,
   ⟨(some t54), oCall 14 [(.t t43), (.t t48), (.t t53)], none, none⟩,
   ⟨(some t55), oMov (.t t13), none, none⟩,
   ⟨(some t56), oBin (int2 (cmpO neI)) (.t t54) (.t t55), none, none⟩] [(0, 1), (0, 2), (1, 2), (0, 3), (0, 4), (0, 5), (0, 6), (1, 6), (2, 6), (3, 6), (4, 6), (5, 6), (0, 7), (1, 7), (2, 7), (3, 7), (4, 7), (5, 7), (6, 7), (0, 8), (1, 8), (2, 8), (3, 8), (4, 8), (5, 8), (0, 9), (1, 9), (2, 9), (3, 9), (4, 9), (5, 9), (0, 10), (1, 10), (2, 10), (3, 10), (4, 10), (5, 10), (0, 12), (1, 12), (2, 12), (3, 12), (4, 12), (5, 12), (6, 12), (7, 12), (8, 12), (9, 12), (10, 12), (11, 12)])
 (xCond (.t t56)
 (xSeq (xOps [⟨(some t8), oMov (.v (.bool false)), none, none⟩])
 xRet)
 xSkip))
 (xOps [⟨(some t57), oMov (.t t12), none, none⟩,
   ⟨(some t10), oMov (.t t57), none, none⟩]))))
 (xOps [⟨(some t26), oMov (.t t11), none, none⟩,
   ⟨(some t27), oBin (int2 addO) (.t t26) (.v (.int .i64 1)), none, none⟩,
   ⟨(some t11), oMov (.t t27), none, none⟩])))
def c4_l1 : X := (xSeq (xSeq (xOps [⟨(some t65), oMov (.t t15), none, none⟩,
   ⟨(some t66), oMov (.t t14), none, none⟩,
   ⟨(some t67), oLenL (.t t66), none, none⟩,
   ⟨(some t68), oBin (int2 (cmpO ltI)) (.t t65) (.t t67), none, none⟩])
 (xCond (.t t68)
 xSkip
 (xExit 2)))
 (xSeq (xBlock 3 (xSeq (xReg [⟨(some t71), oMov (.t t14), none, none⟩,
   ⟨(some t72), oMov (.t t15), none, none⟩,
   ⟨(some t73), oIdxAddrL 2 (.t t71) (.t t72), none, none⟩,
   ⟨(some t74), oFieldAddr 0 (.t t73), none, none⟩,
   ⟨(some t75), oLoad1 (.t t74), none, (some (.t t74))⟩,
   ⟨(some t76), oMov (.t t10), none, none⟩,
   ⟨(some t77), oMov (.t t15), none, none⟩,
   ⟨(some t78), oIdxAddrL 2 (.t t76) (.t t77), none, none⟩,
   ⟨(some t79), oFieldAddr 0 (.t t78), none, none⟩,
   ⟨(some t80), oLoad1 (.t t79), none, (some (.t t79))⟩,
   ⟨(some t81), oBin (int2 (cmpO neI)) (.t t75) (.t t80), none, none⟩,
   ⟨(some t82), oMov (.t t81), none, none⟩,
   ⟨(some t83), oMov (.t t14), (some (t82, false)), none⟩,
   ⟨(some t84), oMov (.t t15), (some (t82, false)), none⟩,
   ⟨(some t85), oIdxAddrL 2 (.t t83) (.t t84), (some (t82, false)), none⟩,
   ⟨(some t86), oFieldAddr 1 (.t t85), (some (t82, false)), none⟩,
   ⟨(some t87), oLoad1 (.t t86), (some (t82, false)), (some (.t t86))⟩,
   ⟨(some t88), oMov (.t t10), (some (t82, false)), none⟩,
   ⟨(some t89), oMov (.t t15), (some (t82, false)), none⟩,
   ⟨(some t90), oIdxAddrL 2 (.t t88) (.t t89), (some (t82, false)), none⟩,
   ⟨(some t91), oFieldAddr 1 (.t t90), (some (t82, false)), none⟩,
   ⟨(some t92), oLoad1 (.t t91), (some (t82, false)), (some (.t t91))⟩,
   ⟨(some t93), oBin (int2 (cmpO neI)) (.t t87) (.t t92), (some (t82, false)), none⟩,
   ⟨(some t94), oPick (.t t82) (.v (.bool true)) (.t t93), none, none⟩] [(0, 1), (0, 5), (1, 5), (2, 5), (3, 5), (4, 5), (0, 6), (1, 6), (2, 6), (3, 6), (4, 6), (5, 6), (0, 7), (1, 7), (2, 7), (3, 7), (4, 7), (0, 8), (1, 8), (2, 8), (3, 8), (4, 8), (0, 9), (1, 9), (2, 9), (3, 9), (4, 9), (12, 13), (12, 17), (13, 17), (14, 17), (15, 17), (16, 17), (12, 18), (13, 18), (14, 18), (15, 18), (16, 18), (17, 18), (12, 19), (13, 19), (14, 19), (15, 19), (16, 19), (12, 20), (13, 20), (14, 20), (15, 20), (16, 20), (12, 21), (13, 21), (14, 21), (15, 21), (16, 21)])
 (xCond (.t t94)
 (xSeq (xOps [⟨(some t8), oMov (.v (.bool false)), none, none⟩])
 xRet)
 xSkip)))
 (xOps [⟨(some t69), oMov (.t t15), none, none⟩,
   ⟨(some t70), oBin (int2 addO) (.t t69) (.v (.int .i64 1)), none, none⟩,
   ⟨(some t15), oMov (.t t70), none, none⟩])))
def c4_r0 : X := (xSeq (xOps [⟨(some t95), oMov (.t t9), none, none⟩,
   ⟨(some t96), oMov (.t t1), none, none⟩,
   ⟨(some t97), oCall 15 [(.t t95), (.t t96)], none, none⟩,
   ⟨(some t98), oMov (.t t10), none, none⟩,
   ⟨(some t99), oMov (.t t1), none, none⟩,
   ⟨(some t100), oCall 19 [(.t t98), (.t t99)], none, none⟩,
   ⟨(some t101), oBin (int2 (cmpO eqI)) (.t t97) (.t t100), none, none⟩,
   ⟨(some t102), oMov (.t t101), none, none⟩,
   ⟨(some t103), oMov (.t t9), (some (t102, true)), none⟩,
   ⟨(some t104), oMov (.t t2), (some (t102, true)), none⟩,
   ⟨(some t105), oMov (.t t3), (some (t102, true)), none⟩,
   ⟨(some t106), oCall 16 [(.t t103), (.t t104), (.t t105)], (some (t102, true)), none⟩,
   ⟨(some t107), oMov (.t t10), (some (t102, true)), none⟩,
   ⟨(some t108), oMov (.t t2), (some (t102, true)), none⟩,
   ⟨(some t109), oMov (.t t3), (some (t102, true)), none⟩,
   ⟨(some t110), oCall 20 [(.t t107), (.t t108), (.t t109)], (some (t102, true)), none⟩,
   ⟨(some t111), oBin (int2 (cmpO eqI)) (.t t106) (.t t110), (some (t102, true)), none⟩,
   ⟨(some t112), oPick (.t t102) (.t t111) (.v (.bool false)), none, none⟩,
   ⟨(some t8), oMov (.t t112), none, none⟩])
 xRet)
def c4_r1 : X := (xSeq (xOps [⟨(some t58), oMov (.t t9), none, none⟩,
   ⟨(some t59), oCall 18 [(.t t58)], none, none⟩,
   ⟨(some t14), oMov (.t t59), none, none⟩])
 (xSeq (xSeq (xOps [⟨(some t60), oMov (.t t14), none, none⟩,
   ⟨(some t61), oLenL (.t t60), none, none⟩,
   ⟨(some t62), oMov (.t t10), none, none⟩,
   ⟨(some t63), oLenL (.t t62), none, none⟩,
   ⟨(some t64), oBin (int2 (cmpO neI)) (.t t61) (.t t63), none, none⟩])
 (xCond (.t t64)
 (xSeq (xOps [⟨(some t8), oMov (.v (.bool false)), none, none⟩])
 xRet)
 xSkip))
 (xSeq (xSeq (xOps [⟨(some t15), oMov (.v (.int .i64 0)), none, none⟩])
 (xBlock 2 (xLoop c4_l1)))
 c4_r0)))
def c4 : AFunc := ⟨113, [.tmp t8],
 (xSeq (xOps [⟨(some t8), oMov (.v (.bool false)), none, none⟩])
 (xSeq (xSeq (xOps [⟨(some t16), oCall 12 [], none, none⟩,
   ⟨(some t17), oNot (.t t16), none, none⟩])
 (xCond (.t t17)
 (xSeq (xOps [⟨(some t8), oMov (.v (.bool false)), none, none⟩])
 xRet)
 xSkip))
 (xSeq (xSeq (xOps [⟨(some t18), oMov (.t t0), none, none⟩,
   ⟨(some t19), oLenL (.t t18), none, none⟩,
   ⟨(some t20), oBin (int2 (cmpO gtI)) (.t t19) (.v (.int .i64 60)), none, none⟩])
 (xCond (.t t20)
 (xSeq (xOps [⟨(some t8), oMov (.v (.bool true)), none, none⟩])
 xRet)
 xSkip))
 (xSeq (xOps [⟨(some t21), oCall 13 [], none, none⟩,
   ⟨(some t9), oMov (.t t21), none, none⟩])
 (xSeq (xOps [⟨(some t10), oMov (.v (.slice none 0 0)), none, none⟩])
 (xSeq (xSeq (xOps [⟨(some t11), oMov (.v (.int .i64 0)), none, none⟩])
 (xBlock 0 (xLoop c4_l0)))
 c4_r1))))))⟩
theorem ok4 : cFunc Try.prog gl ex Try.f4 = some c4 := by kernel_rfl
-- publican/publicanlaw19.RateDays
def c5_l0 : X := (xSeq (xSeq (xOps [⟨(some t50), oMov (.t t10), none, none⟩,
   ⟨(some t51), oMov (.t t0), none, none⟩,
   ⟨(some t52), oLenL (.t t51), none, none⟩,
   ⟨(some t53), oBin (int2 (cmpO ltI)) (.t t50) (.t t52), none, none⟩])
 (xCond (.t t53)
 xSkip
 (xExit 0)))
 (xSeq (xBlock 1 (xReg [⟨(some t56), oMov (.t t9), none, none⟩,
   ⟨(some t57), oMov (.t t0), none, none⟩,
   ⟨(some t58), oMov (.t t10), none, none⟩,
   ⟨(some t59), oIdxAddrL 2 (.t t57) (.t t58), none, none⟩,
   ⟨(some t60), oFieldAddr 0 (.t t59), none, none⟩,
   ⟨(some t61), oLoad1 (.t t60), none, (some (.t t60))⟩,
   ⟨(some t62), oMov (.t t0), none, none⟩,
   ⟨(some t63), oMov (.t t10), none, none⟩,
   ⟨(some t64), oIdxAddrL 2 (.t t62) (.t t63), none, none⟩,
   ⟨(some t65), oFieldAddr 1 (.t t64), none, none⟩,
   ⟨(some t66), oLoad1 (.t t65), none, (some (.t t65))⟩,
   ⟨(some t67), oCall 14 [(.t t56), (.t t61), (.t t66)], none, none⟩] [(0, 1), (0, 2), (1, 2), (0, 3), (0, 4), (0, 5), (0, 6), (1, 6), (2, 6), (3, 6), (4, 6), (5, 6), (0, 7), (1, 7), (2, 7), (3, 7), (4, 7), (5, 7), (6, 7), (0, 8), (1, 8), (2, 8), (3, 8), (4, 8), (5, 8), (0, 9), (1, 9), (2, 9), (3, 9), (4, 9), (5, 9), (0, 10), (1, 10), (2, 10), (3, 10), (4, 10), (5, 10)]))
 (xOps [⟨(some t54), oMov (.t t10), none, none⟩,
   ⟨(some t55), oBin (int2 addO) (.t t54) (.v (.int .i64 1)), none, none⟩,
   ⟨(some t10), oMov (.t t55), none, none⟩])))
def c5_l1 : X := (xSeq (xSeq (xOps [⟨(some t68), oMov (.t t12), none, none⟩,
   ⟨(some t69), oMov (.t t2), none, none⟩,
   ⟨(some t70), oBin (int2 (cmpO ltI)) (.t t68) (.t t69), none, none⟩])
 (xCond (.t t70)
 xSkip
 (xExit 2)))
 (xSeq (xBlock 3 (xOps [⟨(some t73), oMov (.t t11), none, none⟩,
   ⟨(some t74), oMov (.t t9), none, none⟩,
   ⟨(some t75), oMov (.t t1), none, none⟩,
   ⟨(some t76), oMov (.t t12), none, none⟩,
   ⟨(some t77), oBin (int2 addO) (.t t75) (.t t76), none, none⟩,
   ⟨(some t78), oCall 15 [(.t t74), (.t t77)], none, none⟩,
   ⟨(some t79), oBin (int2 addO) (.t t73) (.t t78), none, none⟩,
   ⟨(some t11), oMov (.t t79), none, none⟩]))
 (xOps [⟨(some t71), oMov (.t t12), none, none⟩,
   ⟨(some t72), oBin (int2 addO) (.t t71) (.v (.int .i64 1)), none, none⟩,
   ⟨(some t12), oMov (.t t72), none, none⟩])))
def c5_r0 : X := (xSeq (xOps [⟨(some t80), oMov (.t t9), none, none⟩,
   ⟨(some t81), oMov (.t t1), none, none⟩,
   ⟨(some t82), oMov (.t t1), none, none⟩,
   ⟨(some t83), oMov (.t t2), none, none⟩,
   ⟨(some t84), oBin (int2 addO) (.t t82) (.t t83), none, none⟩,
   ⟨(some t85), oCall 16 [(.t t80), (.t t81), (.t t84)], none, none⟩,
   ⟨(some t86), oMov (.t t11), none, none⟩,
   ⟨(some t87), oBin (int2 (cmpO eqI)) (.t t85) (.t t86), none, none⟩,
   ⟨(some t88), oMov (.t t87), none, none⟩,
   ⟨(some t89), oMov (.t t9), (some (t88, true)), none⟩,
   ⟨(some t90), oMov (.t t1), (some (t88, true)), none⟩,
   ⟨(some t91), oMov (.t t1), (some (t88, true)), none⟩,
   ⟨(some t92), oMov (.t t3), (some (t88, true)), none⟩,
   ⟨(some t93), oBin (int2 addO) (.t t91) (.t t92), (some (t88, true)), none⟩,
   ⟨(some t94), oCall 16 [(.t t89), (.t t90), (.t t93)], (some (t88, true)), none⟩,
   ⟨(some t95), oMov (.t t9), (some (t88, true)), none⟩,
   ⟨(some t96), oMov (.t t1), (some (t88, true)), none⟩,
   ⟨(some t97), oMov (.t t3), (some (t88, true)), none⟩,
   ⟨(some t98), oBin (int2 addO) (.t t96) (.t t97), (some (t88, true)), none⟩,
   ⟨(some t99), oMov (.t t1), (some (t88, true)), none⟩,
   ⟨(some t100), oMov (.t t2), (some (t88, true)), none⟩,
   ⟨(some t101), oBin (int2 addO) (.t t99) (.t t100), (some (t88, true)), none⟩,
   ⟨(some t102), oCall 16 [(.t t95), (.t t98), (.t t101)], (some (t88, true)), none⟩,
   ⟨(some t103), oBin (int2 addO) (.t t94) (.t t102), (some (t88, true)), none⟩,
   ⟨(some t104), oMov (.t t11), (some (t88, true)), none⟩,
   ⟨(some t105), oBin (int2 (cmpO eqI)) (.t t103) (.t t104), (some (t88, true)), none⟩,
   ⟨(some t106), oPick (.t t88) (.t t105) (.v (.bool false)), none, none⟩,
   ⟨(some t8), oMov (.t t106), none, none⟩])
 xRet)
def c5_r1 : X := (xSeq (xOps [⟨(some t11), oMov (.v (.int .i64 0)), none, none⟩])
 (xSeq (xSeq (xOps [⟨(some t12), oMov (.v (.int .i64 0)), none, none⟩])
 (xBlock 2 (xLoop c5_l1)))
 c5_r0))
def c5 : AFunc := ⟨107, [.tmp t8],
 (xSeq (xOps [⟨(some t8), oMov (.v (.bool false)), none, none⟩])
 (xSeq (xSeq (xOps [⟨(some t13), oCall 12 [], none, none⟩,
   ⟨(some t14), oNot (.t t13), none, none⟩])
 (xCond (.t t14)
 (xSeq (xOps [⟨(some t8), oMov (.v (.bool false)), none, none⟩])
 xRet)
 xSkip))
 (xSeq (xSeq (xOps [⟨(some t15), oMov (.t t0), none, none⟩,
   ⟨(some t16), oLenL (.t t15), none, none⟩,
   ⟨(some t17), oBin (int2 (cmpO gtI)) (.t t16) (.v (.int .i64 40)), none, none⟩,
   ⟨(some t18), oMov (.t t17), none, none⟩,
   ⟨(some t19), oMov (.t t1), (some (t18, false)), none⟩,
   ⟨(some t20), oBin (int2 (cmpO ltI)) (.t t19) (.v (.int .i64 0)), (some (t18, false)), none⟩,
   ⟨(some t21), oPick (.t t18) (.v (.bool true)) (.t t20), none, none⟩,
   ⟨(some t22), oMov (.t t21), none, none⟩,
   ⟨(some t23), oMov (.t t1), (some (t22, false)), none⟩,
   ⟨(some t24), oBin (int2 (cmpO gtI)) (.t t23) (.v (.int .i64 109572)), (some (t22, false)), none⟩,
   ⟨(some t25), oPick (.t t22) (.v (.bool true)) (.t t24), none, none⟩,
   ⟨(some t26), oMov (.t t25), none, none⟩,
   ⟨(some t27), oMov (.t t2), (some (t26, false)), none⟩,
   ⟨(some t28), oBin (int2 (cmpO ltI)) (.t t27) (.v (.int .i64 0)), (some (t26, false)), none⟩,
   ⟨(some t29), oPick (.t t26) (.v (.bool true)) (.t t28), none, none⟩,
   ⟨(some t30), oMov (.t t29), none, none⟩,
   ⟨(some t31), oMov (.t t2), (some (t30, false)), none⟩,
   ⟨(some t32), oBin (int2 (cmpO gtI)) (.t t31) (.v (.int .i64 400)), (some (t30, false)), none⟩,
   ⟨(some t33), oPick (.t t30) (.v (.bool true)) (.t t32), none, none⟩,
   ⟨(some t34), oMov (.t t33), none, none⟩,
   ⟨(some t35), oMov (.t t2), (some (t34, false)), none⟩,
   ⟨(some t36), oMov (.t t1), (some (t34, false)), none⟩,
   ⟨(some t37), oBin (int2 subO) (.v (.int .i64 109572)) (.t t36), (some (t34, false)), none⟩,
   ⟨(some t38), oBin (int2 (cmpO gtI)) (.t t35) (.t t37), (some (t34, false)), none⟩,
   ⟨(some t39), oPick (.t t34) (.v (.bool true)) (.t t38), none, none⟩,
   ⟨(some t40), oMov (.t t39), none, none⟩,
   ⟨(some t41), oMov (.t t3), (some (t40, false)), none⟩,
   ⟨(some t42), oBin (int2 (cmpO ltI)) (.t t41) (.v (.int .i64 0)), (some (t40, false)), none⟩,
   ⟨(some t43), oPick (.t t40) (.v (.bool true)) (.t t42), none, none⟩,
   ⟨(some t44), oMov (.t t43), none, none⟩,
   ⟨(some t45), oMov (.t t3), (some (t44, false)), none⟩,
   ⟨(some t46), oMov (.t t2), (some (t44, false)), none⟩,
   ⟨(some t47), oBin (int2 (cmpO gtI)) (.t t45) (.t t46), (some (t44, false)), none⟩,
   ⟨(some t48), oPick (.t t44) (.v (.bool true)) (.t t47), none, none⟩])
 (xCond (.t t48)
 (xSeq (xOps [⟨(some t8), oMov (.v (.bool true)), none, none⟩])
 xRet)
 xSkip))
 (xSeq (xOps [⟨(some t49), oCall 13 [], none, none⟩,
   ⟨(some t9), oMov (.t t49), none, none⟩])
 (xSeq (xSeq (xOps [⟨(some t10), oMov (.v (.int .i64 0)), none, none⟩])
 (xBlock 0 (xLoop c5_l0)))
 c5_r1)))))⟩
theorem ok5 : cFunc Try.prog gl ex Try.f5 = some c5 := by kernel_rfl
-- publican/publicanlaw19.RateReplaces
def c6_l0 : X := (xSeq (xSeq (xOps [⟨(some t48), oMov (.t t10), none, none⟩,
   ⟨(some t49), oMov (.t t9), none, none⟩,
   ⟨(some t50), oBin (int2 (cmpO ltI)) (.t t48) (.t t49), none, none⟩])
 (xCond (.t t50)
 xSkip
 (xExit 2)))
 (xSeq (xBlock 3 (xSeq (xReg [⟨(some t53), oMov (.t t0), none, none⟩,
   ⟨(some t54), oMov (.t t10), none, none⟩,
   ⟨(some t55), oIdxAddrL 2 (.t t53) (.t t54), none, none⟩,
   ⟨(some t56), oFieldAddr 0 (.t t55), none, none⟩,
   ⟨(some t57), oLoad1 (.t t56), none, (some (.t t56))⟩,
   ⟨(some t58), oMov (.t t0), none, none⟩,
   ⟨(some t59), oMov (.t t9), none, none⟩,
   ⟨(some t60), oIdxAddrL 2 (.t t58) (.t t59), none, none⟩,
   ⟨(some t61), oFieldAddr 0 (.t t60), none, none⟩,
   ⟨(some t62), oLoad1 (.t t61), none, (some (.t t61))⟩,
   ⟨(some t63), oBin (int2 (cmpO eqI)) (.t t57) (.t t62), none, none⟩] [(0, 1), (0, 5), (1, 5), (2, 5), (3, 5), (4, 5), (0, 6), (1, 6), (2, 6), (3, 6), (4, 6), (5, 6), (0, 7), (1, 7), (2, 7), (3, 7), (4, 7), (0, 8), (1, 8), (2, 8), (3, 8), (4, 8), (0, 9), (1, 9), (2, 9), (3, 9), (4, 9)])
 (xCond (.t t63)
 (xSeq (xOps [⟨(some t6), oMov (.v (.bool true)), none, none⟩])
 xRet)
 xSkip)))
 (xOps [⟨(some t51), oMov (.t t10), none, none⟩,
   ⟨(some t52), oBin (int2 addO) (.t t51) (.v (.int .i64 1)), none, none⟩,
   ⟨(some t10), oMov (.t t52), none, none⟩])))
def c6_r0 : X := (xOps [⟨(some t46), oMov (.t t9), none, none⟩,
   ⟨(some t47), oBin (int2 addO) (.t t46) (.v (.int .i64 1)), none, none⟩,
   ⟨(some t9), oMov (.t t47), none, none⟩])
def c6_l1 : X := (xSeq (xSeq (xOps [⟨(some t42), oMov (.t t9), none, none⟩,
   ⟨(some t43), oMov (.t t0), none, none⟩,
   ⟨(some t44), oLenL (.t t43), none, none⟩,
   ⟨(some t45), oBin (int2 (cmpO ltI)) (.t t42) (.t t44), none, none⟩])
 (xCond (.t t45)
 xSkip
 (xExit 0)))
 (xSeq (xBlock 1 (xSeq (xOps [⟨(some t10), oMov (.v (.int .i64 0)), none, none⟩])
 (xBlock 2 (xLoop c6_l0))))
 c6_r0))
def c6_l2 : X := (xSeq (xSeq (xOps [⟨(some t64), oMov (.t t11), none, none⟩,
   ⟨(some t65), oMov (.t t0), none, none⟩,
   ⟨(some t66), oLenL (.t t65), none, none⟩,
   ⟨(some t67), oBin (int2 (cmpO ltI)) (.t t64) (.t t66), none, none⟩])
 (xCond (.t t67)
 xSkip
 (xExit 4)))
 (xSeq (xBlock 5 (xSeq (xReg [⟨(some t70), oMov (.t t7), none, none⟩,
   ⟨(some t71), oMov (.t t0), none, none⟩,
   ⟨(some t72), oMov (.t t11), none, none⟩,
   ⟨(some t73), oIdxAddrL 2 (.t t71) (.t t72), none, none⟩,
   ⟨(some t74), oFieldAddr 0 (.t t73), none, none⟩,
   ⟨(some t75), oLoad1 (.t t74), none, (some (.t t74))⟩,
   ⟨(some t76), oMov (.t t0), none, none⟩,
   ⟨(some t77), oMov (.t t11), none, none⟩,
   ⟨(some t78), oIdxAddrL 2 (.t t76) (.t t77), none, none⟩,
   ⟨(some t79), oFieldAddr 1 (.t t78), none, none⟩,
   ⟨(some t80), oLoad1 (.t t79), none, (some (.t t79))⟩,
   ⟨(some t81), oCall 14 [(.t t70), (.t t75), (.t t80)], none, none⟩] [(0, 1), (0, 2), (1, 2), (0, 3), (0, 4), (0, 5), (0, 6), (1, 6), (2, 6), (3, 6), (4, 6), (5, 6), (0, 7), (1, 7), (2, 7), (3, 7), (4, 7), (5, 7), (6, 7), (0, 8), (1, 8), (2, 8), (3, 8), (4, 8), (5, 8), (0, 9), (1, 9), (2, 9), (3, 9), (4, 9), (5, 9), (0, 10), (1, 10), (2, 10), (3, 10), (4, 10), (5, 10)])
 (xSeq (xOps [⟨(some t82), oMov (.t t0), none, none⟩,
   ⟨(some t83), oLenL (.t t82), none, none⟩,
   ⟨(some t84), oBin (int2 subO) (.t t83) (.v (.int .i64 1)), none, none⟩,
   ⟨(some t85), oMov (.t t11), none, none⟩,
   ⟨(some t86), oBin (int2 subO) (.t t84) (.t t85), none, none⟩,
   ⟨(some t12), oMov (.t t86), none, none⟩])
 (xReg [⟨(some t87), oMov (.t t8), none, none⟩,
   ⟨(some t88), oMov (.t t0), none, none⟩,
   ⟨(some t89), oMov (.t t12), none, none⟩,
   ⟨(some t90), oIdxAddrL 2 (.t t88) (.t t89), none, none⟩,
   ⟨(some t91), oFieldAddr 0 (.t t90), none, none⟩,
   ⟨(some t92), oLoad1 (.t t91), none, (some (.t t91))⟩,
   ⟨(some t93), oMov (.t t0), none, none⟩,
   ⟨(some t94), oMov (.t t12), none, none⟩,
   ⟨(some t95), oIdxAddrL 2 (.t t93) (.t t94), none, none⟩,
   ⟨(some t96), oFieldAddr 1 (.t t95), none, none⟩,
   ⟨(some t97), oLoad1 (.t t96), none, (some (.t t96))⟩,
   ⟨(some t98), oCall 14 [(.t t87), (.t t92), (.t t97)], none, none⟩] [(0, 1), (0, 2), (1, 2), (0, 3), (0, 4), (0, 5), (0, 6), (1, 6), (2, 6), (3, 6), (4, 6), (5, 6), (0, 7), (1, 7), (2, 7), (3, 7), (4, 7), (5, 7), (6, 7), (0, 8), (1, 8), (2, 8), (3, 8), (4, 8), (5, 8), (0, 9), (1, 9), (2, 9), (3, 9), (4, 9), (5, 9), (0, 10), (1, 10), (2, 10), (3, 10), (4, 10), (5, 10)]))))
 (xOps [⟨(some t68), oMov (.t t11), none, none⟩,
   ⟨(some t69), oBin (int2 addO) (.t t68) (.v (.int .i64 1)), none, none⟩,
   ⟨(some t11), oMov (.t t69), none, none⟩])))
def c6_l3 : X := (xSeq (xSeq (xOps [⟨(some t108), oMov (.t t15), none, none⟩,
   ⟨(some t109), oMov (.t t13), none, none⟩,
   ⟨(some t110), oLenL (.t t109), none, none⟩,
   ⟨(some t111), oBin (int2 (cmpO ltI)) (.t t108) (.t t110), none, none⟩])
 (xCond (.t t111)
 xSkip
 (xExit 6)))
 (xSeq (xBlock 7 (xSeq (xReg [⟨(some t114), oMov (.t t13), none, none⟩,
   ⟨(some t115), oMov (.t t15), none, none⟩,
   ⟨(some t116), oIdxAddrL 2 (.t t114) (.t t115), none, none⟩,
   ⟨(some t117), oLoadN 2 (.t t116), none, none⟩,
   ⟨(some t118), oMov (.t t14), none, none⟩,
   ⟨(some t119), oMov (.t t15), none, none⟩,
   ⟨(some t120), oIdxAddrL 2 (.t t118) (.t t119), none, none⟩,
   ⟨(some t121), oLoadN 2 (.t t120), none, none⟩,
   ⟨(some t122), oEqs true [(0, eqN), (1, eqN)] (.t t117) (.t t121), none, none⟩] [(0, 1), (0, 4), (1, 4), (2, 4), (3, 4), (0, 5), (1, 5), (2, 5), (3, 5), (4, 5), (0, 6), (1, 6), (2, 6), (3, 6), (0, 7), (1, 7), (2, 7), (3, 7)])
 (xCond (.t t122)
 (xSeq (xOps [⟨(some t6), oMov (.v (.bool false)), none, none⟩])
 xRet)
 xSkip)))
 (xOps [⟨(some t112), oMov (.t t15), none, none⟩,
   ⟨(some t113), oBin (int2 addO) (.t t112) (.v (.int .i64 1)), none, none⟩,
   ⟨(some t15), oMov (.t t113), none, none⟩])))
def c6_r1 : X := (xSeq (xOps [⟨(some t123), oMov (.t t7), none, none⟩,
   ⟨(some t124), oCall 21 [(.t t123)], none, none⟩,
   ⟨(some t16), oMov (.t t124), none, none⟩])
 (xSeq (xOps [⟨(some t125), oMov (.t t16), none, none⟩,
   ⟨(some t126), oMov (.t t1), none, none⟩,
   ⟨(some t127), oMov (.t t2), none, none⟩,
   ⟨(some t128), oCall 14 [(.t t125), (.t t126), (.t t127)], none, none⟩,
   ⟨(some t17), oMov (.t t128), none, none⟩])
 (xSeq (xOps [⟨(some t129), oMov (.t t16), none, none⟩,
   ⟨(some t130), oMov (.t t1), none, none⟩,
   ⟨(some t131), oMov (.t t2), none, none⟩,
   ⟨(some t132), oBin (int2 quoO) (.t t131) (.v (.int .i64 2)), none, none⟩,
   ⟨(some t133), oCall 14 [(.t t129), (.t t130), (.t t132)], none, none⟩,
   ⟨(some t18), oMov (.t t133), none, none⟩])
 (xSeq (xOps [⟨(some t134), oMov (.t t17), none, none⟩,
   ⟨(some t135), oBin (int2 (cmpO eqI)) (.t t134) (.v (.int .i64 0)), none, none⟩,
   ⟨(some t136), oMov (.t t135), none, none⟩,
   ⟨(some t137), oMov (.t t18), (some (t136, true)), none⟩,
   ⟨(some t138), oBin (int2 (cmpO eqI)) (.t t137) (.v (.int .i64 0)), (some (t136, true)), none⟩,
   ⟨(some t139), oPick (.t t136) (.t t138) (.v (.bool false)), none, none⟩,
   ⟨(some t140), oMov (.t t139), none, none⟩,
   ⟨(some t141), oMov (.t t16), (some (t140, true)), none⟩,
   ⟨(some t142), oMov (.t t1), (some (t140, true)), none⟩,
   ⟨(some t143), oCall 15 [(.t t141), (.t t142)], (some (t140, true)), none⟩,
   ⟨(some t144), oMov (.t t2), (some (t140, true)), none⟩,
   ⟨(some t145), oBin (int2 quoO) (.t t144) (.v (.int .i64 2)), (some (t140, true)), none⟩,
   ⟨(some t146), oBin (int2 (cmpO eqI)) (.t t143) (.t t145), (some (t140, true)), none⟩,
   ⟨(some t147), oPick (.t t140) (.t t146) (.v (.bool false)), none, none⟩,
   ⟨(some t148), oMov (.t t147), none, none⟩,
   ⟨(some t149), oMov (.t t7), (some (t148, true)), none⟩,
   ⟨(some t150), oCall 18 [(.t t149)], (some (t148, true)), none⟩,
   ⟨(some t151), oLenL (.t t150), (some (t148, true)), none⟩,
   ⟨(some t152), oMov (.t t13), (some (t148, true)), none⟩,
   ⟨(some t153), oLenL (.t t152), (some (t148, true)), none⟩,
   ⟨(some t154), oBin (int2 (cmpO eqI)) (.t t151) (.t t153), (some (t148, true)), none⟩,
   ⟨(some t155), oPick (.t t148) (.t t154) (.v (.bool false)), none, none⟩,
   ⟨(some t6), oMov (.t t155), none, none⟩])
 xRet))))
def c6_r2 : X := (xSeq (xOps [⟨(some t99), oMov (.t t7), none, none⟩,
   ⟨(some t100), oCall 18 [(.t t99)], none, none⟩,
   ⟨(some t101), oMov (.t t8), none, none⟩,
   ⟨(some t102), oCall 18 [(.t t101)], none, none⟩,
   ⟨(some t13), oMov (.t t100), none, none⟩,
   ⟨(some t14), oMov (.t t102), none, none⟩])
 (xSeq (xSeq (xOps [⟨(some t103), oMov (.t t13), none, none⟩,
   ⟨(some t104), oLenL (.t t103), none, none⟩,
   ⟨(some t105), oMov (.t t14), none, none⟩,
   ⟨(some t106), oLenL (.t t105), none, none⟩,
   ⟨(some t107), oBin (int2 (cmpO neI)) (.t t104) (.t t106), none, none⟩])
 (xCond (.t t107)
 (xSeq (xOps [⟨(some t6), oMov (.v (.bool false)), none, none⟩])
 xRet)
 xSkip))
 (xSeq (xSeq (xOps [⟨(some t15), oMov (.v (.int .i64 0)), none, none⟩])
 (xBlock 6 (xLoop c6_l3)))
 c6_r1)))
def c6_r3 : X := (xSeq (xSeq (xOps [⟨(some t11), oMov (.v (.int .i64 0)), none, none⟩])
 (xBlock 4 (xLoop c6_l2)))
 c6_r2)
def c6 : AFunc := ⟨156, [.tmp t6],
 (xSeq (xOps [⟨(some t6), oMov (.v (.bool false)), none, none⟩])
 (xSeq (xSeq (xOps [⟨(some t19), oCall 12 [], none, none⟩,
   ⟨(some t20), oNot (.t t19), none, none⟩])
 (xCond (.t t20)
 (xSeq (xOps [⟨(some t6), oMov (.v (.bool false)), none, none⟩])
 xRet)
 xSkip))
 (xSeq (xSeq (xOps [⟨(some t21), oMov (.t t0), none, none⟩,
   ⟨(some t22), oLenL (.t t21), none, none⟩,
   ⟨(some t23), oBin (int2 (cmpO gtI)) (.t t22) (.v (.int .i64 30)), none, none⟩,
   ⟨(some t24), oMov (.t t23), none, none⟩,
   ⟨(some t25), oMov (.t t1), (some (t24, false)), none⟩,
   ⟨(some t26), oBin (int2 (cmpO ltI)) (.t t25) (.v (.int .i64 0)), (some (t24, false)), none⟩,
   ⟨(some t27), oPick (.t t24) (.v (.bool true)) (.t t26), none, none⟩,
   ⟨(some t28), oMov (.t t27), none, none⟩,
   ⟨(some t29), oMov (.t t1), (some (t28, false)), none⟩,
   ⟨(some t30), oBin (int2 (cmpO gtI)) (.t t29) (.v (.int .i64 100000)), (some (t28, false)), none⟩,
   ⟨(some t31), oPick (.t t28) (.v (.bool true)) (.t t30), none, none⟩,
   ⟨(some t32), oMov (.t t31), none, none⟩,
   ⟨(some t33), oMov (.t t2), (some (t32, false)), none⟩,
   ⟨(some t34), oBin (int2 (cmpO ltI)) (.t t33) (.v (.int .i64 0)), (some (t32, false)), none⟩,
   ⟨(some t35), oPick (.t t32) (.v (.bool true)) (.t t34), none, none⟩,
   ⟨(some t36), oMov (.t t35), none, none⟩,
   ⟨(some t37), oMov (.t t2), (some (t36, false)), none⟩,
   ⟨(some t38), oBin (int2 (cmpO gtI)) (.t t37) (.v (.int .i64 1000000000)), (some (t36, false)), none⟩,
   ⟨(some t39), oPick (.t t36) (.v (.bool true)) (.t t38), none, none⟩])
 (xCond (.t t39)
 (xSeq (xOps [⟨(some t6), oMov (.v (.bool true)), none, none⟩])
 xRet)
 xSkip))
 (xSeq (xOps [⟨(some t40), oCall 13 [], none, none⟩,
   ⟨(some t41), oCall 13 [], none, none⟩,
   ⟨(some t7), oMov (.t t40), none, none⟩,
   ⟨(some t8), oMov (.t t41), none, none⟩])
 (xSeq (xSeq (xOps [⟨(some t9), oMov (.v (.int .i64 0)), none, none⟩])
 (xBlock 0 (xLoop c6_l1)))
 c6_r3)))))⟩
theorem ok6 : cFunc Try.prog gl ex Try.f6 = some c6 := by kernel_rfl
-- publican/publicanlaw19.awake
def c12 : AFunc := ⟨63, [.tmp t0],
 (xSeq (xOps [⟨(some t0), oMov (.v (.bool false)), none, none⟩])
 (xSeq (xOps [⟨(some t6), oCall 13 [], none, none⟩,
   ⟨(some t1), oMov (.t t6), none, none⟩])
 (xSeq (xSeq (xOps [⟨(some t7), oMov (.t t1), none, none⟩,
   ⟨(some t8), oEqv eqP false (.t t7) (.v (.pointer none)), none, none⟩])
 (xCond (.t t8)
 (xSeq (xOps [⟨(some t0), oMov (.v (.bool false)), none, none⟩])
 xRet)
 xSkip))
 (xSeq (xOps [⟨(some t9), oMov (.t t1), none, none⟩,
   ⟨(some t10), oCall 14 [(.t t9), (.v (.int .i64 20)), (.v (.int .i64 7))], none, none⟩,
   ⟨(some t2), oMov (.t t10), none, none⟩])
 (xSeq (xOps [⟨(some t11), oMov (.t t1), none, none⟩,
   ⟨(some t12), oCall 14 [(.t t11), (.v (.int .i64 10)), (.v (.int .i64 5))], none, none⟩,
   ⟨(some t3), oMov (.t t12), none, none⟩])
 (xSeq (xOps [⟨(some t13), oMov (.t t1), none, none⟩,
   ⟨(some t14), oCall 21 [(.t t13)], none, none⟩,
   ⟨(some t4), oMov (.t t14), none, none⟩])
 (xSeq (xOps [⟨(some t15), oMov (.t t1), none, none⟩,
   ⟨(some t16), oCall 14 [(.t t15), (.v (.int .i64 0)), (.v (.int .i64 1))], none, none⟩])
 (xSeq (xOps [⟨(some t17), oMov (.t t1), none, none⟩,
   ⟨(some t18), oCall 18 [(.t t17)], none, none⟩,
   ⟨(some t5), oMov (.t t18), none, none⟩])
 (xSeq (xOps [⟨(some t19), oMov (.t t2), none, none⟩,
   ⟨(some t20), oBin (int2 (cmpO eqI)) (.t t19) (.v (.int .i64 0)), none, none⟩,
   ⟨(some t21), oMov (.t t20), none, none⟩,
   ⟨(some t22), oMov (.t t3), (some (t21, true)), none⟩,
   ⟨(some t23), oBin (int2 (cmpO eqI)) (.t t22) (.v (.int .i64 0)), (some (t21, true)), none⟩,
   ⟨(some t24), oPick (.t t21) (.t t23) (.v (.bool false)), none, none⟩,
   ⟨(some t25), oMov (.t t24), none, none⟩,
   ⟨(some t26), oMov (.t t4), (some (t25, true)), none⟩,
   ⟨(some t27), oCall 16 [(.t t26), (.v (.int .i64 8)), (.v (.int .i64 22))], (some (t25, true)), none⟩,
   ⟨(some t28), oBin (int2 (cmpO eqI)) (.t t27) (.v (.int .i64 64)), (some (t25, true)), none⟩,
   ⟨(some t29), oPick (.t t25) (.t t28) (.v (.bool false)), none, none⟩,
   ⟨(some t30), oMov (.t t29), none, none⟩,
   ⟨(some t31), oMov (.t t4), (some (t30, true)), none⟩,
   ⟨(some t32), oCall 15 [(.t t31), (.v (.int .i64 9))], (some (t30, true)), none⟩,
   ⟨(some t33), oBin (int2 (cmpO eqI)) (.t t32) (.v (.int .i64 0)), (some (t30, true)), none⟩,
   ⟨(some t34), oPick (.t t30) (.t t33) (.v (.bool false)), none, none⟩,
   ⟨(some t35), oMov (.t t34), none, none⟩,
   ⟨(some t36), oMov (.t t4), (some (t35, true)), none⟩,
   ⟨(some t37), oCall 15 [(.t t36), (.v (.int .i64 20))], (some (t35, true)), none⟩,
   ⟨(some t38), oBin (int2 (cmpO eqI)) (.t t37) (.v (.int .i64 7)), (some (t35, true)), none⟩,
   ⟨(some t39), oPick (.t t35) (.t t38) (.v (.bool false)), none, none⟩,
   ⟨(some t40), oMov (.t t39), none, none⟩,
   ⟨(some t41), oMov (.t t4), (some (t40, true)), none⟩,
   ⟨(some t42), oCall 18 [(.t t41)], (some (t40, true)), none⟩,
   ⟨(some t43), oLenL (.t t42), (some (t40, true)), none⟩,
   ⟨(some t44), oBin (int2 (cmpO eqI)) (.t t43) (.v (.int .i64 2)), (some (t40, true)), none⟩,
   ⟨(some t45), oPick (.t t40) (.t t44) (.v (.bool false)), none, none⟩,
   ⟨(some t46), oMov (.t t45), none, none⟩,
   ⟨(some t47), oMov (.t t5), (some (t46, true)), none⟩,
   ⟨(some t48), oLenL (.t t47), (some (t46, true)), none⟩,
   ⟨(some t49), oBin (int2 (cmpO eqI)) (.t t48) (.v (.int .i64 3)), (some (t46, true)), none⟩,
   ⟨(some t50), oPick (.t t46) (.t t49) (.v (.bool false)), none, none⟩,
   ⟨(some t51), oMov (.t t50), none, none⟩,
   ⟨(some t52), oMov (.t t5), (some (t51, true)), none⟩,
   ⟨(some t53), oIdxAddrL 2 (.t t52) (.v (.int .i64 0)), (some (t51, true)), none⟩,
   ⟨(some t54), oLoadN 2 (.t t53), (some (t51, true)), none⟩,
   ⟨(some t55), oBuild [(.int .i64 0), (.int .i64 0)] [(1, 1, (.v (.int .i64 1)))], (some (t51, true)), none⟩,
   ⟨(some t56), oEqs false [(0, eqN), (1, eqN)] (.t t54) (.t t55), (some (t51, true)), none⟩,
   ⟨(some t57), oPick (.t t51) (.t t56) (.v (.bool false)), none, none⟩,
   ⟨(some t58), oMov (.t t57), none, none⟩,
   ⟨(some t59), oMov (.t t1), (some (t58, true)), none⟩,
   ⟨(some t60), oCall 15 [(.t t59), (.v (.int .i64 9))], (some (t58, true)), none⟩,
   ⟨(some t61), oBin (int2 (cmpO eqI)) (.t t60) (.v (.int .i64 1)), (some (t58, true)), none⟩,
   ⟨(some t62), oPick (.t t58) (.t t61) (.v (.bool false)), none, none⟩,
   ⟨(some t0), oMov (.t t62), none, none⟩])
 xRet)))))))))⟩
theorem ok12 : cFunc Try.prog gl ex Try.f12 = some c12 := by kernel_rfl
-- publican/rate.New
def c13 : AFunc := ⟨3, [.tmp t0],
 (xSeq (xOps [⟨(some t0), oMov (.v (.pointer none)), none, none⟩])
 (xSeq (xOps [⟨(some t1), oBuild [(.slice none 0 0)] [], none, none⟩,
   ⟨(some t2), oBox (.t t1), none, none⟩,
   ⟨(some t0), oMov (.t t2), none, none⟩])
 xRet))⟩
theorem ok13 : cFunc Try.prog gl ex Try.f13 = some c13 := by kernel_rfl
-- (*publican/rate.Table).Put
def c14 : AFunc := ⟨68, [.tmp t6],
 (xSeq (xOps [⟨(some t6), oMov (.v (.int .i64 0)), none, none⟩])
 (xSeq (xBlock 0 (xSeq (xOps [⟨(some t9), oMov (.t t1), none, none⟩,
   ⟨(some t10), oBin (int2 (cmpO ltI)) (.t t9) (.v (.int .i64 0)), none, none⟩,
   ⟨(some t11), oMov (.t t10), none, none⟩,
   ⟨(some t12), oMov (.t t1), (some (t11, false)), none⟩,
   ⟨(some t13), oBin (int2 (cmpO gtI)) (.t t12) (.v (.int .i64 109572)), (some (t11, false)), none⟩,
   ⟨(some t14), oPick (.t t11) (.v (.bool true)) (.t t13), none, none⟩,
   ⟨(some t8), oMov (.t t14), none, none⟩])
 (xCond (.t t8)
 (xSeq (xOps [⟨(some t6), oMov (.v (.int .i64 12)), none, none⟩])
 xRet)
 (xSeq (xOps [⟨(some t16), oMov (.t t2), none, none⟩,
   ⟨(some t17), oBin (int2 (cmpO ltI)) (.t t16) (.v (.int .i64 0)), none, none⟩,
   ⟨(some t18), oMov (.t t17), none, none⟩,
   ⟨(some t19), oMov (.t t2), (some (t18, false)), none⟩,
   ⟨(some t20), oBin (int2 (cmpO gtI)) (.t t19) (.v (.int .i64 1000000000)), (some (t18, false)), none⟩,
   ⟨(some t21), oPick (.t t18) (.v (.bool true)) (.t t20), none, none⟩,
   ⟨(some t15), oMov (.t t21), none, none⟩])
 (xCond (.t t15)
 (xSeq (xOps [⟨(some t6), oMov (.v (.int .i64 1)), none, none⟩])
 xRet)
 xSkip)))))
 (xSeq (xOps [⟨(some t22), oMov (.t t0), none, none⟩,
   ⟨(some t23), oMov (.t t1), none, none⟩,
   ⟨(some t24), oCall 43 [(.t t22), (.t t23)], none, none⟩,
   ⟨(some t7), oMov (.t t24), none, none⟩])
 (xSeq (xSeq (xOps [⟨(some t25), oMov (.t t7), none, none⟩,
   ⟨(some t26), oBin (int2 (cmpO gtI)) (.t t25) (.v (.int .i64 0)), none, none⟩,
   ⟨(some t27), oMov (.t t26), none, none⟩,
   ⟨(some t28), oMov (.t t0), (some (t27, true)), none⟩,
   ⟨(some t29), oNilCheck (.t t28), (some (t27, true)), none⟩,
   ⟨(some t30), oFieldAddr 0 (.t t29), (some (t27, true)), none⟩,
   ⟨(some t31), oLoad1 (.t t30), (some (t27, true)), (some (.t t30))⟩,
   ⟨(some t32), oMov (.t t7), (some (t27, true)), none⟩,
   ⟨(some t33), oBin (int2 subO) (.t t32) (.v (.int .i64 1)), (some (t27, true)), none⟩,
   ⟨(some t34), oIdxAddrL 2 (.t t31) (.t t33), (some (t27, true)), none⟩,
   ⟨(some t35), oFieldAddr 0 (.t t34), (some (t27, true)), none⟩,
   ⟨(some t36), oLoad1 (.t t35), (some (t27, true)), (some (.t t35))⟩,
   ⟨(some t37), oMov (.t t1), (some (t27, true)), none⟩,
   ⟨(some t38), oBin (int2 (cmpO eqI)) (.t t36) (.t t37), (some (t27, true)), none⟩,
   ⟨(some t39), oPick (.t t27) (.t t38) (.v (.bool false)), none, none⟩])
 (xCond (.t t39)
 (xSeq (xOps [⟨(some t40), oMov (.t t0), none, none⟩,
   ⟨(some t41), oNilCheck (.t t40), none, none⟩,
   ⟨(some t42), oFieldAddr 0 (.t t41), none, none⟩,
   ⟨(some t43), oLoad1 (.t t42), none, (some (.t t42))⟩,
   ⟨(some t44), oMov (.t t7), none, none⟩,
   ⟨(some t45), oBin (int2 subO) (.t t44) (.v (.int .i64 1)), none, none⟩,
   ⟨(some t46), oMov (.t t2), none, none⟩,
   ⟨(some t47), oIdxAddrL 2 (.t t43) (.t t45), none, none⟩,
   ⟨(some t48), oFieldAddr 1 (.t t47), none, none⟩,
   ⟨none, oStore 1 (.t t48) (.t t46), none, none⟩])
 (xSeq (xOps [⟨(some t6), oMov (.v (.int .i64 0)), none, none⟩])
 xRet))
 xSkip))
 (xSeq (xSeq (xOps [⟨(some t49), oMov (.t t0), none, none⟩,
   ⟨(some t50), oNilCheck (.t t49), none, none⟩,
   ⟨(some t51), oFieldAddr 0 (.t t50), none, none⟩,
   ⟨(some t52), oLoad1 (.t t51), none, (some (.t t51))⟩,
   ⟨(some t53), oLenL (.t t52), none, none⟩,
   ⟨(some t54), oBin (int2 (cmpO eqI)) (.t t53) (.v (.int .i64 256)), none, none⟩])
 (xCond (.t t54)
 (xSeq (xOps [⟨(some t6), oMov (.v (.int .i64 2)), none, none⟩])
 xRet)
 xSkip))
 (xSeq (xOps [⟨(some t55), oMov (.t t0), none, none⟩,
   ⟨(some t56), oMov (.t t0), none, none⟩,
   ⟨(some t57), oNilCheck (.t t56), none, none⟩,
   ⟨(some t58), oFieldAddr 0 (.t t57), none, none⟩,
   ⟨(some t59), oLoad1 (.t t58), none, (some (.t t58))⟩,
   ⟨(some t60), oMov (.t t7), none, none⟩,
   ⟨(some t61), oMov (.t t1), none, none⟩,
   ⟨(some t62), oMov (.t t2), none, none⟩,
   ⟨(some t63), oBuild [(.int .i64 0), (.int .i64 0)] [(0, 1, (.t t61)), (1, 1, (.t t62))], none, none⟩,
   ⟨(some t64), oBuildSlice 1 [(.int .i64 0), (.int .i64 0)] [(0, 2, (.t t63))], none, none⟩,
   ⟨(some t65), oCall 44 [(.t t59), (.t t60), (.t t64)], none, none⟩,
   ⟨(some t66), oNilCheck (.t t55), none, none⟩,
   ⟨(some t67), oFieldAddr 0 (.t t66), none, none⟩,
   ⟨none, oStore 1 (.t t67) (.t t65), none, none⟩])
 (xSeq (xOps [⟨(some t6), oMov (.v (.int .i64 0)), none, none⟩])
 xRet)))))))⟩
theorem ok14 : cFunc Try.prog gl ex Try.f14 = some c14 := by kernel_rfl
-- (*publican/rate.Table).At
def c15 : AFunc := ⟨20, [.tmp t4],
 (xSeq (xOps [⟨(some t4), oMov (.v (.int .i64 0)), none, none⟩])
 (xSeq (xOps [⟨(some t6), oMov (.t t0), none, none⟩,
   ⟨(some t7), oMov (.t t1), none, none⟩,
   ⟨(some t8), oCall 43 [(.t t6), (.t t7)], none, none⟩,
   ⟨(some t5), oMov (.t t8), none, none⟩])
 (xSeq (xSeq (xOps [⟨(some t9), oMov (.t t5), none, none⟩,
   ⟨(some t10), oBin (int2 (cmpO eqI)) (.t t9) (.v (.int .i64 0)), none, none⟩])
 (xCond (.t t10)
 (xSeq (xOps [⟨(some t4), oMov (.v (.int .i64 0)), none, none⟩])
 xRet)
 xSkip))
 (xSeq (xOps [⟨(some t11), oMov (.t t0), none, none⟩,
   ⟨(some t12), oNilCheck (.t t11), none, none⟩,
   ⟨(some t13), oFieldAddr 0 (.t t12), none, none⟩,
   ⟨(some t14), oLoad1 (.t t13), none, (some (.t t13))⟩,
   ⟨(some t15), oMov (.t t5), none, none⟩,
   ⟨(some t16), oBin (int2 subO) (.t t15) (.v (.int .i64 1)), none, none⟩,
   ⟨(some t17), oIdxAddrL 2 (.t t14) (.t t16), none, none⟩,
   ⟨(some t18), oFieldAddr 1 (.t t17), none, none⟩,
   ⟨(some t19), oLoad1 (.t t18), none, (some (.t t18))⟩,
   ⟨(some t4), oMov (.t t19), none, none⟩])
 xRet))))⟩
theorem ok15 : cFunc Try.prog gl ex Try.f15 = some c15 := by kernel_rfl
-- (*publican/rate.Table).Sum
def c16_l0 : X := (xSeq (xOps [⟨(some t24), oBin (int2 (cmpO ltI)) (.t t23) (.t t22), none, none⟩])
 (xSeq (xCond (.t t24)
 xSkip
 (xExit 0))
 (xSeq (xBlock 1 (xSeq (xOps [⟨(some t25), oMov (.t t23), none, none⟩,
   ⟨(some t26), oIdxAddrL 2 (.t t21) (.t t23), none, none⟩,
   ⟨(some t27), oLoadN 2 (.t t26), none, none⟩,
   ⟨(some t9), oNew [(.int .i64 0), (.int .i64 0)], none, none⟩,
   ⟨(some t8), oMov (.t t25), none, none⟩,
   ⟨none, oStore 2 (.t t9) (.t t27), none, none⟩])
 (xSeq (xOps [⟨(some t10), oMov (.v (.int .i64 109573)), none, none⟩])
 (xSeq (xSeq (xOps [⟨(some t28), oMov (.t t8), none, none⟩,
   ⟨(some t29), oMov (.t t0), none, none⟩,
   ⟨(some t30), oNilCheck (.t t29), none, none⟩,
   ⟨(some t31), oFieldAddr 0 (.t t30), none, none⟩,
   ⟨(some t32), oLoad1 (.t t31), none, (some (.t t31))⟩,
   ⟨(some t33), oLenL (.t t32), none, none⟩,
   ⟨(some t34), oBin (int2 subO) (.t t33) (.v (.int .i64 1)), none, none⟩,
   ⟨(some t35), oBin (int2 (cmpO ltI)) (.t t28) (.t t34), none, none⟩])
 (xCond (.t t35)
 (xOps [⟨(some t36), oMov (.t t0), none, none⟩,
   ⟨(some t37), oNilCheck (.t t36), none, none⟩,
   ⟨(some t38), oFieldAddr 0 (.t t37), none, none⟩,
   ⟨(some t39), oLoad1 (.t t38), none, (some (.t t38))⟩,
   ⟨(some t40), oMov (.t t8), none, none⟩,
   ⟨(some t41), oBin (int2 addO) (.t t40) (.v (.int .i64 1)), none, none⟩,
   ⟨(some t42), oIdxAddrL 2 (.t t39) (.t t41), none, none⟩,
   ⟨(some t43), oFieldAddr 0 (.t t42), none, none⟩,
   ⟨(some t44), oLoad1 (.t t43), none, (some (.t t43))⟩,
   ⟨(some t10), oMov (.t t44), none, none⟩])
 xSkip))
 (xSeq (xOps [⟨(some t45), oMov (.t t10), none, none⟩,
   ⟨(some t46), oMov (.t t2), none, none⟩,
   ⟨(some t47), oMM false (.t t45) [(.t t46)], none, none⟩,
   ⟨(some t48), oFieldAddr 0 (.t t9), none, none⟩,
   ⟨(some t49), oLoad1 (.t t48), none, (some (.t t48))⟩,
   ⟨(some t50), oMov (.t t1), none, none⟩,
   ⟨(some t51), oMM true (.t t49) [(.t t50)], none, none⟩,
   ⟨(some t52), oBin (int2 subO) (.t t47) (.t t51), none, none⟩,
   ⟨(some t11), oMov (.t t52), none, none⟩])
 (xSeq (xOps [⟨(some t53), oMov (.t t11), none, none⟩,
   ⟨(some t54), oBin (int2 (cmpO gtI)) (.t t53) (.v (.int .i64 0)), none, none⟩])
 (xCond (.t t54)
 (xOps [⟨(some t55), oMov (.t t7), none, none⟩,
   ⟨(some t56), oMov (.t t11), none, none⟩,
   ⟨(some t57), oFieldAddr 1 (.t t9), none, none⟩,
   ⟨(some t58), oLoad1 (.t t57), none, (some (.t t57))⟩,
   ⟨(some t59), oBin (int2 mulO) (.t t56) (.t t58), none, none⟩,
   ⟨(some t60), oBin (int2 addO) (.t t55) (.t t59), none, none⟩,
   ⟨(some t7), oMov (.t t60), none, none⟩])
 xSkip)))))))
 (xOps [⟨(some t61), oBin (int2 addO) (.t t23) (.v (.int .i64 1)), none, none⟩,
   ⟨(some t23), oMov (.t t61), none, none⟩]))))
def c16_r0 : X := (xSeq (xOps [⟨(some t62), oMov (.t t7), none, none⟩,
   ⟨(some t6), oMov (.t t62), none, none⟩])
 xRet)
def c16 : AFunc := ⟨63, [.tmp t6],
 (xSeq (xOps [⟨(some t6), oMov (.v (.int .i64 0)), none, none⟩])
 (xSeq (xOps [⟨(some t12), oMov (.t t1), none, none⟩,
   ⟨(some t13), oMM true (.t t12) [(.v (.int .i64 0))], none, none⟩,
   ⟨(some t14), oMM false (.t t13) [(.v (.int .i64 109573))], none, none⟩,
   ⟨(some t15), oMov (.t t2), none, none⟩,
   ⟨(some t16), oMM true (.t t15) [(.v (.int .i64 0))], none, none⟩,
   ⟨(some t17), oMM false (.t t16) [(.v (.int .i64 109573))], none, none⟩,
   ⟨(some t1), oMov (.t t14), none, none⟩,
   ⟨(some t2), oMov (.t t17), none, none⟩])
 (xSeq (xOps [⟨(some t7), oMov (.v (.int .i64 0)), none, none⟩])
 (xSeq (xSeq (xOps [⟨(some t18), oMov (.t t0), none, none⟩,
   ⟨(some t19), oNilCheck (.t t18), none, none⟩,
   ⟨(some t20), oFieldAddr 0 (.t t19), none, none⟩,
   ⟨(some t21), oLoad1 (.t t20), none, (some (.t t20))⟩,
   ⟨(some t22), oLenL (.t t21), none, none⟩,
   ⟨(some t23), oMov (.v (.int .i64 0)), none, none⟩])
 (xBlock 0 (xLoop c16_l0)))
 c16_r0))))⟩
theorem ok16 : cFunc Try.prog gl ex Try.f16 = some c16 := by kernel_rfl
-- publican/publicanref19.PutRate
def c17_l0 : X := (xSeq (xSeq (xOps [⟨(some t22), oMov (.t t8), none, none⟩,
   ⟨(some t23), oMov (.t t0), none, none⟩,
   ⟨(some t24), oLenL (.t t23), none, none⟩,
   ⟨(some t25), oBin (int2 (cmpO ltI)) (.t t22) (.t t24), none, none⟩,
   ⟨(some t26), oMov (.t t25), none, none⟩,
   ⟨(some t27), oMov (.t t0), (some (t26, true)), none⟩,
   ⟨(some t28), oMov (.t t8), (some (t26, true)), none⟩,
   ⟨(some t29), oIdxAddrL 2 (.t t27) (.t t28), (some (t26, true)), none⟩,
   ⟨(some t30), oFieldAddr 0 (.t t29), (some (t26, true)), none⟩,
   ⟨(some t31), oLoad1 (.t t30), (some (t26, true)), (some (.t t30))⟩,
   ⟨(some t32), oMov (.t t1), (some (t26, true)), none⟩,
   ⟨(some t33), oBin (int2 (cmpO ltI)) (.t t31) (.t t32), (some (t26, true)), none⟩,
   ⟨(some t34), oPick (.t t26) (.t t33) (.v (.bool false)), none, none⟩])
 (xCond (.t t34)
 xSkip
 (xExit 0)))
 (xBlock 1 (xOps [⟨(some t35), oMov (.t t8), none, none⟩,
   ⟨(some t36), oBin (int2 addO) (.t t35) (.v (.int .i64 1)), none, none⟩,
   ⟨(some t8), oMov (.t t36), none, none⟩])))
def c17_r0 : X := (xSeq (xSeq (xOps [⟨(some t37), oMov (.t t8), none, none⟩,
   ⟨(some t38), oMov (.t t0), none, none⟩,
   ⟨(some t39), oLenL (.t t38), none, none⟩,
   ⟨(some t40), oBin (int2 (cmpO ltI)) (.t t37) (.t t39), none, none⟩,
   ⟨(some t41), oMov (.t t40), none, none⟩,
   ⟨(some t42), oMov (.t t0), (some (t41, true)), none⟩,
   ⟨(some t43), oMov (.t t8), (some (t41, true)), none⟩,
   ⟨(some t44), oIdxAddrL 2 (.t t42) (.t t43), (some (t41, true)), none⟩,
   ⟨(some t45), oFieldAddr 0 (.t t44), (some (t41, true)), none⟩,
   ⟨(some t46), oLoad1 (.t t45), (some (t41, true)), (some (.t t45))⟩,
   ⟨(some t47), oMov (.t t1), (some (t41, true)), none⟩,
   ⟨(some t48), oBin (int2 (cmpO eqI)) (.t t46) (.t t47), (some (t41, true)), none⟩,
   ⟨(some t49), oPick (.t t41) (.t t48) (.v (.bool false)), none, none⟩])
 (xCond (.t t49)
 (xSeq (xOps [⟨(some t50), oBuildSlice 0 [] [], none, none⟩,
   ⟨(some t51), oMov (.t t0), none, none⟩,
   ⟨(some t52), oAppend 2 16 (.t t50) (.t t51), none, none⟩,
   ⟨(some t9), oMov (.t t52), none, none⟩])
 (xSeq (xOps [⟨(some t53), oMov (.t t9), none, none⟩,
   ⟨(some t54), oMov (.t t8), none, none⟩,
   ⟨(some t55), oMov (.t t2), none, none⟩,
   ⟨(some t56), oIdxAddrL 2 (.t t53) (.t t54), none, none⟩,
   ⟨(some t57), oFieldAddr 1 (.t t56), none, none⟩,
   ⟨none, oStore 1 (.t t57) (.t t55), none, none⟩])
 (xSeq (xOps [⟨(some t58), oMov (.t t9), none, none⟩,
   ⟨(some t6), oMov (.t t58), none, none⟩,
   ⟨(some t7), oMov (.v (.int .i64 0)), none, none⟩])
 xRet)))
 xSkip))
 (xSeq (xSeq (xOps [⟨(some t59), oMov (.t t0), none, none⟩,
   ⟨(some t60), oLenL (.t t59), none, none⟩,
   ⟨(some t61), oBin (int2 (cmpO geI)) (.t t60) (.v (.int .i64 256)), none, none⟩])
 (xCond (.t t61)
 (xSeq (xOps [⟨(some t62), oMov (.t t0), none, none⟩,
   ⟨(some t6), oMov (.t t62), none, none⟩,
   ⟨(some t7), oMov (.v (.int .i64 2)), none, none⟩])
 xRet)
 xSkip))
 (xSeq (xOps [⟨(some t63), oBuildSlice 0 [] [], none, none⟩,
   ⟨(some t64), oMov (.t t0), none, none⟩,
   ⟨(some t65), oMov (.t t8), none, none⟩,
   ⟨(some t66), oSliceL 2 (.t t64) none (some (.t t65)) none, none, none⟩,
   ⟨(some t67), oAppend 2 16 (.t t63) (.t t66), none, none⟩,
   ⟨(some t68), oMov (.t t1), none, none⟩,
   ⟨(some t69), oMov (.t t2), none, none⟩,
   ⟨(some t70), oBuild [(.int .i64 0), (.int .i64 0)] [(0, 1, (.t t68)), (1, 1, (.t t69))], none, none⟩,
   ⟨(some t71), oBuildSlice 1 [(.int .i64 0), (.int .i64 0)] [(0, 2, (.t t70))], none, none⟩,
   ⟨(some t72), oAppend 2 16 (.t t67) (.t t71), none, none⟩,
   ⟨(some t10), oMov (.t t72), none, none⟩])
 (xSeq (xOps [⟨(some t73), oMov (.t t10), none, none⟩,
   ⟨(some t74), oMov (.t t0), none, none⟩,
   ⟨(some t75), oMov (.t t8), none, none⟩,
   ⟨(some t76), oSliceL 2 (.t t74) (some (.t t75)) none none, none, none⟩,
   ⟨(some t77), oAppend 2 16 (.t t73) (.t t76), none, none⟩,
   ⟨(some t6), oMov (.t t77), none, none⟩,
   ⟨(some t7), oMov (.v (.int .i64 0)), none, none⟩])
 xRet))))
def c17 : AFunc := ⟨78, [.tmp t6, .tmp t7],
 (xSeq (xOps [⟨(some t6), oMov (.v (.slice none 0 0)), none, none⟩,
   ⟨(some t7), oMov (.v (.int .i64 0)), none, none⟩])
 (xSeq (xSeq (xOps [⟨(some t11), oMov (.t t1), none, none⟩,
   ⟨(some t12), oCall 45 [(.t t11)], none, none⟩,
   ⟨(some t13), oNot (.t t12), none, none⟩])
 (xCond (.t t13)
 (xSeq (xOps [⟨(some t14), oMov (.t t0), none, none⟩,
   ⟨(some t6), oMov (.t t14), none, none⟩,
   ⟨(some t7), oMov (.v (.int .i64 12)), none, none⟩])
 xRet)
 xSkip))
 (xSeq (xSeq (xOps [⟨(some t15), oMov (.t t2), none, none⟩,
   ⟨(some t16), oBin (int2 (cmpO ltI)) (.t t15) (.v (.int .i64 0)), none, none⟩,
   ⟨(some t17), oMov (.t t16), none, none⟩,
   ⟨(some t18), oMov (.t t2), (some (t17, false)), none⟩,
   ⟨(some t19), oBin (int2 (cmpO gtI)) (.t t18) (.v (.int .i64 1000000000)), (some (t17, false)), none⟩,
   ⟨(some t20), oPick (.t t17) (.v (.bool true)) (.t t19), none, none⟩])
 (xCond (.t t20)
 (xSeq (xOps [⟨(some t21), oMov (.t t0), none, none⟩,
   ⟨(some t6), oMov (.t t21), none, none⟩,
   ⟨(some t7), oMov (.v (.int .i64 1)), none, none⟩])
 xRet)
 xSkip))
 (xSeq (xOps [⟨(some t8), oMov (.v (.int .i64 0)), none, none⟩])
 (xSeq (xBlock 0 (xLoop c17_l0))
 c17_r0)))))⟩
theorem ok17 : cFunc Try.prog gl ex Try.f17 = some c17 := by kernel_rfl
-- (*publican/rate.Table).Steps
def c18 : AFunc := ⟨8, [.tmp t2],
 (xSeq (xOps [⟨(some t2), oMov (.v (.slice none 0 0)), none, none⟩])
 (xSeq (xOps [⟨(some t3), oMov (.t t0), none, none⟩,
   ⟨(some t4), oNilCheck (.t t3), none, none⟩,
   ⟨(some t5), oFieldAddr 0 (.t t4), none, none⟩,
   ⟨(some t6), oLoad1 (.t t5), none, (some (.t t5))⟩,
   ⟨(some t7), oCall 46 [(.t t6)], none, none⟩,
   ⟨(some t2), oMov (.t t7), none, none⟩])
 xRet))⟩
theorem ok18 : cFunc Try.prog gl ex Try.f18 = some c18 := by kernel_rfl
-- publican/publicanref19.RateAt
def c19_l0 : X := (xSeq (xSeq (xOps [⟨(some t7), oMov (.t t6), none, none⟩,
   ⟨(some t8), oMov (.t t0), none, none⟩,
   ⟨(some t9), oLenL (.t t8), none, none⟩,
   ⟨(some t10), oBin (int2 (cmpO ltI)) (.t t7) (.t t9), none, none⟩,
   ⟨(some t11), oMov (.t t10), none, none⟩,
   ⟨(some t12), oMov (.t t0), (some (t11, true)), none⟩,
   ⟨(some t13), oMov (.t t6), (some (t11, true)), none⟩,
   ⟨(some t14), oIdxAddrL 2 (.t t12) (.t t13), (some (t11, true)), none⟩,
   ⟨(some t15), oFieldAddr 0 (.t t14), (some (t11, true)), none⟩,
   ⟨(some t16), oLoad1 (.t t15), (some (t11, true)), (some (.t t15))⟩,
   ⟨(some t17), oMov (.t t1), (some (t11, true)), none⟩,
   ⟨(some t18), oBin (int2 (cmpO leI)) (.t t16) (.t t17), (some (t11, true)), none⟩,
   ⟨(some t19), oPick (.t t11) (.t t18) (.v (.bool false)), none, none⟩])
 (xCond (.t t19)
 xSkip
 (xExit 0)))
 (xSeq (xBlock 1 (xOps [⟨(some t22), oMov (.t t0), none, none⟩,
   ⟨(some t23), oMov (.t t6), none, none⟩,
   ⟨(some t24), oIdxAddrL 2 (.t t22) (.t t23), none, none⟩,
   ⟨(some t25), oFieldAddr 1 (.t t24), none, none⟩,
   ⟨(some t26), oLoad1 (.t t25), none, (some (.t t25))⟩,
   ⟨(some t5), oMov (.t t26), none, none⟩]))
 (xOps [⟨(some t20), oMov (.t t6), none, none⟩,
   ⟨(some t21), oBin (int2 addO) (.t t20) (.v (.int .i64 1)), none, none⟩,
   ⟨(some t6), oMov (.t t21), none, none⟩])))
def c19_r0 : X := (xSeq (xOps [⟨(some t27), oMov (.t t5), none, none⟩,
   ⟨(some t4), oMov (.t t27), none, none⟩])
 xRet)
def c19 : AFunc := ⟨28, [.tmp t4],
 (xSeq (xOps [⟨(some t4), oMov (.v (.int .i64 0)), none, none⟩])
 (xSeq (xOps [⟨(some t5), oMov (.v (.int .i64 0)), none, none⟩])
 (xSeq (xSeq (xOps [⟨(some t6), oMov (.v (.int .i64 0)), none, none⟩])
 (xBlock 0 (xLoop c19_l0)))
 c19_r0)))⟩
theorem ok19 : cFunc Try.prog gl ex Try.f19 = some c19 := by kernel_rfl
-- publican/publicanref19.RateSum
def c20_l0 : X := (xSeq (xSeq (xOps [⟨(some t15), oMov (.t t8), none, none⟩,
   ⟨(some t16), oMov (.t t0), none, none⟩,
   ⟨(some t17), oLenL (.t t16), none, none⟩,
   ⟨(some t18), oBin (int2 (cmpO ltI)) (.t t15) (.t t17), none, none⟩])
 (xCond (.t t18)
 xSkip
 (xExit 0)))
 (xSeq (xBlock 1 (xSeq (xOps [⟨(some t21), oMov (.t t0), none, none⟩,
   ⟨(some t22), oMov (.t t8), none, none⟩,
   ⟨(some t23), oIdxAddrL 2 (.t t21) (.t t22), none, none⟩,
   ⟨(some t24), oFieldAddr 0 (.t t23), none, none⟩,
   ⟨(some t25), oLoad1 (.t t24), none, (some (.t t24))⟩,
   ⟨(some t9), oMov (.t t25), none, none⟩,
   ⟨(some t10), oMov (.v (.int .i64 109573)), none, none⟩])
 (xSeq (xSeq (xOps [⟨(some t26), oMov (.t t8), none, none⟩,
   ⟨(some t27), oBin (int2 addO) (.t t26) (.v (.int .i64 1)), none, none⟩,
   ⟨(some t28), oMov (.t t0), none, none⟩,
   ⟨(some t29), oLenL (.t t28), none, none⟩,
   ⟨(some t30), oBin (int2 (cmpO ltI)) (.t t27) (.t t29), none, none⟩])
 (xCond (.t t30)
 (xOps [⟨(some t31), oMov (.t t0), none, none⟩,
   ⟨(some t32), oMov (.t t8), none, none⟩,
   ⟨(some t33), oBin (int2 addO) (.t t32) (.v (.int .i64 1)), none, none⟩,
   ⟨(some t34), oIdxAddrL 2 (.t t31) (.t t33), none, none⟩,
   ⟨(some t35), oFieldAddr 0 (.t t34), none, none⟩,
   ⟨(some t36), oLoad1 (.t t35), none, (some (.t t35))⟩,
   ⟨(some t10), oMov (.t t36), none, none⟩])
 xSkip))
 (xSeq (xSeq (xOps [⟨(some t37), oMov (.t t9), none, none⟩,
   ⟨(some t38), oMov (.t t1), none, none⟩,
   ⟨(some t39), oBin (int2 (cmpO ltI)) (.t t37) (.t t38), none, none⟩])
 (xCond (.t t39)
 (xOps [⟨(some t40), oMov (.t t1), none, none⟩,
   ⟨(some t9), oMov (.t t40), none, none⟩])
 xSkip))
 (xSeq (xSeq (xOps [⟨(some t41), oMov (.t t10), none, none⟩,
   ⟨(some t42), oMov (.t t2), none, none⟩,
   ⟨(some t43), oBin (int2 (cmpO gtI)) (.t t41) (.t t42), none, none⟩])
 (xCond (.t t43)
 (xOps [⟨(some t44), oMov (.t t2), none, none⟩,
   ⟨(some t10), oMov (.t t44), none, none⟩])
 xSkip))
 (xSeq (xOps [⟨(some t45), oMov (.t t10), none, none⟩,
   ⟨(some t46), oMov (.t t9), none, none⟩,
   ⟨(some t47), oBin (int2 (cmpO gtI)) (.t t45) (.t t46), none, none⟩])
 (xCond (.t t47)
 (xOps [⟨(some t48), oMov (.t t7), none, none⟩,
   ⟨(some t49), oMov (.t t10), none, none⟩,
   ⟨(some t50), oMov (.t t9), none, none⟩,
   ⟨(some t51), oBin (int2 subO) (.t t49) (.t t50), none, none⟩,
   ⟨(some t52), oMov (.t t0), none, none⟩,
   ⟨(some t53), oMov (.t t8), none, none⟩,
   ⟨(some t54), oIdxAddrL 2 (.t t52) (.t t53), none, none⟩,
   ⟨(some t55), oFieldAddr 1 (.t t54), none, none⟩,
   ⟨(some t56), oLoad1 (.t t55), none, (some (.t t55))⟩,
   ⟨(some t57), oBin (int2 mulO) (.t t51) (.t t56), none, none⟩,
   ⟨(some t58), oBin (int2 addO) (.t t48) (.t t57), none, none⟩,
   ⟨(some t7), oMov (.t t58), none, none⟩])
 xSkip)))))))
 (xOps [⟨(some t19), oMov (.t t8), none, none⟩,
   ⟨(some t20), oBin (int2 addO) (.t t19) (.v (.int .i64 1)), none, none⟩,
   ⟨(some t8), oMov (.t t20), none, none⟩])))
def c20_r0 : X := (xSeq (xOps [⟨(some t59), oMov (.t t7), none, none⟩,
   ⟨(some t6), oMov (.t t59), none, none⟩])
 xRet)
def c20 : AFunc := ⟨60, [.tmp t6],
 (xSeq (xOps [⟨(some t6), oMov (.v (.int .i64 0)), none, none⟩])
 (xSeq (xSeq (xOps [⟨(some t11), oMov (.t t1), none, none⟩,
   ⟨(some t12), oBin (int2 (cmpO ltI)) (.t t11) (.v (.int .i64 0)), none, none⟩])
 (xCond (.t t12)
 (xOps [⟨(some t1), oMov (.v (.int .i64 0)), none, none⟩])
 xSkip))
 (xSeq (xSeq (xOps [⟨(some t13), oMov (.t t2), none, none⟩,
   ⟨(some t14), oBin (int2 (cmpO gtI)) (.t t13) (.v (.int .i64 109573)), none, none⟩])
 (xCond (.t t14)
 (xOps [⟨(some t2), oMov (.v (.int .i64 109573)), none, none⟩])
 xSkip))
 (xSeq (xOps [⟨(some t7), oMov (.v (.int .i64 0)), none, none⟩])
 (xSeq (xSeq (xOps [⟨(some t8), oMov (.v (.int .i64 0)), none, none⟩])
 (xBlock 0 (xLoop c20_l0)))
 c20_r0)))))⟩
theorem ok20 : cFunc Try.prog gl ex Try.f20 = some c20 := by kernel_rfl
-- (*publican/rate.Table).Copy
def c21 : AFunc := ⟨10, [.tmp t2],
 (xSeq (xOps [⟨(some t2), oMov (.v (.pointer none)), none, none⟩])
 (xSeq (xOps [⟨(some t3), oMov (.t t0), none, none⟩,
   ⟨(some t4), oNilCheck (.t t3), none, none⟩,
   ⟨(some t5), oFieldAddr 0 (.t t4), none, none⟩,
   ⟨(some t6), oLoad1 (.t t5), none, (some (.t t5))⟩,
   ⟨(some t7), oCall 46 [(.t t6)], none, none⟩,
   ⟨(some t8), oBuild [(.slice none 0 0)] [(0, 1, (.t t7))], none, none⟩,
   ⟨(some t9), oBox (.t t8), none, none⟩,
   ⟨(some t2), oMov (.t t9), none, none⟩])
 xRet))⟩
theorem ok21 : cFunc Try.prog gl ex Try.f21 = some c21 := by kernel_rfl
-- (*publican/rate.Table).behind
def c43 : AFunc := ⟨12, [.tmp t4],
 (xSeq (xOps [⟨(some t2), oBox (.t t0), none, none⟩,
   ⟨(some t3), oBox (.t t1), none, none⟩,
   ⟨(some t4), oMov (.v (.int .i64 0)), none, none⟩])
 (xSeq (xOps [⟨(some t5), oLoad1 (.t t2), none, (some (.t t2))⟩,
   ⟨(some t6), oNilCheck (.t t5), none, none⟩,
   ⟨(some t7), oFieldAddr 0 (.t t6), none, none⟩,
   ⟨(some t8), oLoad1 (.t t7), none, (some (.t t7))⟩,
   ⟨(some t9), oLenL (.t t8), none, none⟩,
   ⟨(some t10), oFunc (.func 59) [] [(.t t2), (.t t3)], none, none⟩,
   ⟨(some t11), oCall 58 [(.t t9), (.t t10)], none, none⟩,
   ⟨(some t4), oMov (.t t11), none, none⟩])
 xRet))⟩
theorem ok43 : cFunc Try.prog gl ex Try.f43 = some c43 := by kernel_rfl
-- slices.Insert[[]publican/rate.Step,publican/rate.Step]
def c44 : AFunc := ⟨95, [.tmp t6],
 (xSeq (xOps [⟨(some t6), oMov (.v (.slice none 0 0)), none, none⟩])
 (xSeq (xOps [⟨(some t10), oMov (.t t0), none, none⟩,
   ⟨(some t11), oMov (.t t1), none, none⟩,
   ⟨(some t12), oSliceL 2 (.t t10) (some (.t t11)) none none, none, none⟩])
 (xSeq (xOps [⟨(some t13), oMov (.t t2), none, none⟩,
   ⟨(some t14), oLenL (.t t13), none, none⟩,
   ⟨(some t7), oMov (.t t14), none, none⟩])
 (xSeq (xSeq (xOps [⟨(some t15), oMov (.t t7), none, none⟩,
   ⟨(some t16), oBin (int2 (cmpO eqI)) (.t t15) (.v (.int .i64 0)), none, none⟩])
 (xCond (.t t16)
 (xSeq (xOps [⟨(some t17), oMov (.t t0), none, none⟩,
   ⟨(some t6), oMov (.t t17), none, none⟩])
 xRet)
 xSkip))
 (xSeq (xOps [⟨(some t18), oMov (.t t0), none, none⟩,
   ⟨(some t19), oLenL (.t t18), none, none⟩,
   ⟨(some t8), oMov (.t t19), none, none⟩])
 (xSeq (xSeq (xOps [⟨(some t20), oMov (.t t1), none, none⟩,
   ⟨(some t21), oMov (.t t8), none, none⟩,
   ⟨(some t22), oBin (int2 (cmpO eqI)) (.t t20) (.t t21), none, none⟩])
 (xCond (.t t22)
 (xSeq (xOps [⟨(some t23), oMov (.t t0), none, none⟩,
   ⟨(some t24), oMov (.t t2), none, none⟩,
   ⟨(some t25), oAppend 2 16 (.t t23) (.t t24), none, none⟩,
   ⟨(some t6), oMov (.t t25), none, none⟩])
 xRet)
 xSkip))
 (xSeq (xSeq (xOps [⟨(some t26), oMov (.t t8), none, none⟩,
   ⟨(some t27), oMov (.t t7), none, none⟩,
   ⟨(some t28), oBin (int2 addO) (.t t26) (.t t27), none, none⟩,
   ⟨(some t29), oMov (.t t0), none, none⟩,
   ⟨(some t30), oCap (.t t29), none, none⟩,
   ⟨(some t31), oBin (int2 (cmpO gtI)) (.t t28) (.t t30), none, none⟩])
 (xCond (.t t31)
 (xSeq (xOps [⟨(some t32), oMov (.t t0), none, none⟩,
   ⟨(some t33), oMov (.t t1), none, none⟩,
   ⟨(some t34), oSliceL 2 (.t t32) none (some (.t t33)) none, none, none⟩,
   ⟨(some t35), oMov (.t t8), none, none⟩,
   ⟨(some t36), oMov (.t t7), none, none⟩,
   ⟨(some t37), oBin (int2 addO) (.t t35) (.t t36), none, none⟩,
   ⟨(some t38), oMov (.t t1), none, none⟩,
   ⟨(some t39), oBin (int2 subO) (.t t37) (.t t38), none, none⟩,
   ⟨(some t40), oBad, none, none⟩,
   ⟨(some t9), oMov (.t t40), none, none⟩])
 (xSeq (xOps [⟨(some t41), oMov (.t t9), none, none⟩,
   ⟨(some t42), oMov (.t t1), none, none⟩,
   ⟨(some t43), oSliceL 2 (.t t41) (some (.t t42)) none none, none, none⟩,
   ⟨(some t44), oMov (.t t2), none, none⟩,
   ⟨(some t45), oCopy 2 (.t t43) (.t t44), none, none⟩])
 (xSeq (xReg [⟨(some t46), oMov (.t t9), none, none⟩,
   ⟨(some t47), oMov (.t t1), none, none⟩,
   ⟨(some t48), oMov (.t t7), none, none⟩,
   ⟨(some t49), oBin (int2 addO) (.t t47) (.t t48), none, none⟩,
   ⟨(some t50), oSliceL 2 (.t t46) (some (.t t49)) none none, none, none⟩,
   ⟨(some t51), oMov (.t t0), none, none⟩,
   ⟨(some t52), oMov (.t t1), none, none⟩,
   ⟨(some t53), oSliceL 2 (.t t51) (some (.t t52)) none none, none, none⟩,
   ⟨(some t54), oCopy 2 (.t t50) (.t t53), none, none⟩] [(0, 1), (0, 2), (1, 2), (0, 3), (0, 5), (1, 5), (2, 5), (3, 5), (4, 5), (0, 6), (1, 6), (2, 6), (3, 6), (4, 6), (5, 6), (0, 7), (1, 7), (2, 7), (3, 7), (4, 7)])
 (xSeq (xOps [⟨(some t55), oMov (.t t9), none, none⟩,
   ⟨(some t6), oMov (.t t55), none, none⟩])
 xRet))))
 xSkip))
 (xSeq (xOps [⟨(some t56), oMov (.t t0), none, none⟩,
   ⟨(some t57), oMov (.t t8), none, none⟩,
   ⟨(some t58), oMov (.t t7), none, none⟩,
   ⟨(some t59), oBin (int2 addO) (.t t57) (.t t58), none, none⟩,
   ⟨(some t60), oSliceL 2 (.t t56) none (some (.t t59)) none, none, none⟩,
   ⟨(some t0), oMov (.t t60), none, none⟩])
 (xSeq (xSeq (xOps [⟨(some t61), oMov (.t t2), none, none⟩,
   ⟨(some t62), oMov (.t t0), none, none⟩,
   ⟨(some t63), oMov (.t t1), none, none⟩,
   ⟨(some t64), oMov (.t t7), none, none⟩,
   ⟨(some t65), oBin (int2 addO) (.t t63) (.t t64), none, none⟩,
   ⟨(some t66), oSliceL 2 (.t t62) (some (.t t65)) none none, none, none⟩,
   ⟨(some t67), oCall 60 [(.t t61), (.t t66)], none, none⟩,
   ⟨(some t68), oNot (.t t67), none, none⟩])
 (xCond (.t t68)
 (xSeq (xReg [⟨(some t69), oMov (.t t0), none, none⟩,
   ⟨(some t70), oMov (.t t1), none, none⟩,
   ⟨(some t71), oMov (.t t7), none, none⟩,
   ⟨(some t72), oBin (int2 addO) (.t t70) (.t t71), none, none⟩,
   ⟨(some t73), oSliceL 2 (.t t69) (some (.t t72)) none none, none, none⟩,
   ⟨(some t74), oMov (.t t0), none, none⟩,
   ⟨(some t75), oMov (.t t1), none, none⟩,
   ⟨(some t76), oSliceL 2 (.t t74) (some (.t t75)) none none, none, none⟩,
   ⟨(some t77), oCopy 2 (.t t73) (.t t76), none, none⟩] [(0, 1), (0, 2), (1, 2), (0, 3), (0, 5), (1, 5), (2, 5), (3, 5), (4, 5), (0, 6), (1, 6), (2, 6), (3, 6), (4, 6), (5, 6), (0, 7), (1, 7), (2, 7), (3, 7), (4, 7)])
 (xSeq (xOps [⟨(some t78), oMov (.t t0), none, none⟩,
   ⟨(some t79), oMov (.t t1), none, none⟩,
   ⟨(some t80), oSliceL 2 (.t t78) (some (.t t79)) none none, none, none⟩,
   ⟨(some t81), oMov (.t t2), none, none⟩,
   ⟨(some t82), oCopy 2 (.t t80) (.t t81), none, none⟩])
 (xSeq (xOps [⟨(some t83), oMov (.t t0), none, none⟩,
   ⟨(some t6), oMov (.t t83), none, none⟩])
 xRet)))
 xSkip))
 (xSeq (xOps [⟨(some t84), oMov (.t t0), none, none⟩,
   ⟨(some t85), oMov (.t t8), none, none⟩,
   ⟨(some t86), oSliceL 2 (.t t84) (some (.t t85)) none none, none, none⟩,
   ⟨(some t87), oMov (.t t2), none, none⟩,
   ⟨(some t88), oCopy 2 (.t t86) (.t t87), none, none⟩])
 (xSeq (xOps [⟨(some t89), oMov (.t t0), none, none⟩,
   ⟨(some t90), oMov (.t t1), none, none⟩,
   ⟨(some t91), oSliceL 2 (.t t89) (some (.t t90)) none none, none, none⟩,
   ⟨(some t92), oMov (.t t7), none, none⟩,
   ⟨(some t93), oCall 61 [(.t t91), (.t t92)], none, none⟩])
 (xSeq (xOps [⟨(some t94), oMov (.t t0), none, none⟩,
   ⟨(some t6), oMov (.t t94), none, none⟩])
 xRet))))))))))))⟩
theorem ok44 : cFunc Try.prog gl ex Try.f44 = some c44 := by kernel_rfl
-- publican/publicanref19.Day
def c45 : AFunc := ⟨9, [.tmp t2],
 (xSeq (xOps [⟨(some t2), oMov (.v (.bool false)), none, none⟩])
 (xSeq (xOps [⟨(some t3), oMov (.t t0), none, none⟩,
   ⟨(some t4), oBin (int2 (cmpO geI)) (.t t3) (.v (.int .i64 0)), none, none⟩,
   ⟨(some t5), oMov (.t t4), none, none⟩,
   ⟨(some t6), oMov (.t t0), (some (t5, true)), none⟩,
   ⟨(some t7), oBin (int2 (cmpO leI)) (.t t6) (.v (.int .i64 109572)), (some (t5, true)), none⟩,
   ⟨(some t8), oPick (.t t5) (.t t7) (.v (.bool false)), none, none⟩,
   ⟨(some t2), oMov (.t t8), none, none⟩])
 xRet))⟩
theorem ok45 : cFunc Try.prog gl ex Try.f45 = some c45 := by kernel_rfl
-- slices.Clone[[]publican/rate.Step,publican/rate.Step]
def c46 : AFunc := ⟨8, [.tmp t2],
 (xSeq (xOps [⟨(some t2), oMov (.v (.slice none 0 0)), none, none⟩])
 (xSeq (xSeq (xOps [⟨(some t3), oMov (.t t0), none, none⟩,
   ⟨(some t4), oEqv eqL false (.t t3) (.v (.slice none 0 0)), none, none⟩])
 (xCond (.t t4)
 (xSeq (xOps [⟨(some t2), oMov (.v (.slice none 0 0)), none, none⟩])
 xRet)
 xSkip))
 (xSeq (xOps [⟨(some t5), oBuildSlice 0 [] [], none, none⟩,
   ⟨(some t6), oMov (.t t0), none, none⟩,
   ⟨(some t7), oAppend 2 16 (.t t5) (.t t6), none, none⟩,
   ⟨(some t2), oMov (.t t7), none, none⟩])
 xRet)))⟩
theorem ok46 : cFunc Try.prog gl ex Try.f46 = some c46 := by kernel_rfl
end
end Go.Proofs.Ythjhammjankekaa.AbsRatO
