import Derived.Test.YtikdjhlcbkkkfaaRows
import Derived.Test.YtikdjhlcbkkkfaaAbsLexNT
import Derived.KernelRfl
namespace Go.Proofs.Ytikdjhlcbkkkfaa.AbsLexN
open Go Go.Abs Go.Proofs
set_option maxRecDepth 100000
set_option linter.unusedVariables false
noncomputable section
-- publican/publicanlaw9.LexNames
def c6 : AFunc := ⟨13, [.tmp t2],
 (xSeq (xOps [⟨(some t2), oMov (.v (.bool false)), none, none⟩])
 (xSeq (xSeq (xOps [⟨(some t3), oCall 8 [], none, none⟩,
   ⟨(some t4), oNot (.t t3), none, none⟩])
 (xCond (.t t4)
 (xSeq (xOps [⟨(some t2), oMov (.v (.bool false)), none, none⟩])
 xRet)
 xSkip))
 (xSeq (xSeq (xOps [⟨(some t5), oMov (.t t0), none, none⟩,
   ⟨(some t6), oLenS (.t t5), none, none⟩,
   ⟨(some t7), oBin (int2 (cmpO gtI)) (.t t6) (.v (.int .i64 100)), none, none⟩])
 (xCond (.t t7)
 (xSeq (xOps [⟨(some t2), oMov (.v (.bool true)), none, none⟩])
 xRet)
 xSkip))
 (xSeq (xOps [⟨(some t8), oMov (.t t0), none, none⟩,
   ⟨(some t9), oCall 12 [(.t t8)], none, none⟩,
   ⟨(some t10), oMov (.t t0), none, none⟩,
   ⟨(some t11), oCall 13 [(.t t10)], none, none⟩,
   ⟨(some t12), oEqv eqB false (.t t9) (.t t11), none, none⟩,
   ⟨(some t2), oMov (.t t12), none, none⟩])
 xRet))))⟩
theorem ok6 : cFunc Try.prog gl ex Try.f6 = some c6 := by kernel_rfl
-- publican/publicanlaw9.awake
def c8 : AFunc := ⟨98, [.tmp t0],
 (xSeq (xOps [⟨(some t0), oMov (.v (.bool false)), none, none⟩])
 (xSeq (xOps [⟨(some t14), oCall 9 [(.v (.string ⟨⟨[36, 49, 46, 53, 48]⟩⟩))], none, none⟩,
   ⟨(some t13), oMov (.t t14), none, none⟩,
   ⟨(some t15), oExtract (.t t13) 0, none, none⟩,
   ⟨(some t16), oExtract (.t t13) 1, none, none⟩,
   ⟨(some t17), oExtract (.t t13) 2, none, none⟩,
   ⟨(some t1), oMov (.t t15), none, none⟩,
   ⟨(some t2), oMov (.t t16), none, none⟩,
   ⟨(some t3), oMov (.t t17), none, none⟩])
 (xSeq (xOps [⟨(some t19), oCall 9 [(.v (.string ⟨⟨[52, 46, 53, 37]⟩⟩))], none, none⟩,
   ⟨(some t18), oMov (.t t19), none, none⟩,
   ⟨(some t20), oExtract (.t t18) 0, none, none⟩,
   ⟨(some t21), oExtract (.t t18) 1, none, none⟩,
   ⟨(some t22), oExtract (.t t18) 2, none, none⟩,
   ⟨(some t4), oMov (.t t20), none, none⟩,
   ⟨(some t5), oMov (.t t21), none, none⟩,
   ⟨(some t6), oMov (.t t22), none, none⟩])
 (xSeq (xOps [⟨(some t24), oCall 9 [(.v (.string ⟨⟨[50, 48, 50, 52, 45, 48, 49, 45, 48, 49]⟩⟩))], none, none⟩,
   ⟨(some t23), oMov (.t t24), none, none⟩,
   ⟨(some t25), oExtract (.t t23) 0, none, none⟩,
   ⟨(some t26), oExtract (.t t23) 1, none, none⟩,
   ⟨(some t27), oExtract (.t t23) 2, none, none⟩,
   ⟨(some t7), oMov (.t t25), none, none⟩,
   ⟨(some t8), oMov (.t t26), none, none⟩,
   ⟨(some t9), oMov (.t t27), none, none⟩])
 (xSeq (xOps [⟨(some t29), oCall 9 [(.v (.string ⟨⟨[32, 64]⟩⟩))], none, none⟩,
   ⟨(some t28), oMov (.t t29), none, none⟩,
   ⟨(some t30), oExtract (.t t28) 0, none, none⟩,
   ⟨(some t31), oExtract (.t t28) 1, none, none⟩,
   ⟨(some t32), oExtract (.t t28) 2, none, none⟩,
   ⟨(some t10), oMov (.t t30), none, none⟩,
   ⟨(some t11), oMov (.t t31), none, none⟩,
   ⟨(some t12), oMov (.t t32), none, none⟩])
 (xSeq (xOps [⟨(some t33), oMov (.t t3), none, none⟩,
   ⟨(some t34), oBin (int2 (cmpO eqI)) (.t t33) (.v (.int .i64 0)), none, none⟩,
   ⟨(some t35), oMov (.t t34), none, none⟩,
   ⟨(some t36), oMov (.t t1), (some (t35, true)), none⟩,
   ⟨(some t37), oLenL (.t t36), (some (t35, true)), none⟩,
   ⟨(some t38), oBin (int2 (cmpO eqI)) (.t t37) (.v (.int .i64 2)), (some (t35, true)), none⟩,
   ⟨(some t39), oPick (.t t35) (.t t38) (.v (.bool false)), none, none⟩,
   ⟨(some t40), oMov (.t t39), none, none⟩,
   ⟨(some t41), oMov (.t t1), (some (t40, true)), none⟩,
   ⟨(some t42), oIdxAddrL 4 (.t t41) (.v (.int .i64 0)), (some (t40, true)), none⟩,
   ⟨(some t43), oLoadN 4 (.t t42), (some (t40, true)), none⟩,
   ⟨(some t44), oBuild [(.int .i64 0), (.string ⟨⟨[]⟩⟩), (.int .i64 0), (.int .i64 0)] [(0, 1, (.v (.int .i64 4))), (1, 1, (.v (.string ⟨⟨[36, 49, 46, 53, 48]⟩⟩))), (2, 1, (.v (.int .i64 150)))], (some (t40, true)), none⟩,
   ⟨(some t45), oEqs false [(0, eqN), (1, eqT), (2, eqN), (3, eqN)] (.t t43) (.t t44), (some (t40, true)), none⟩,
   ⟨(some t46), oPick (.t t40) (.t t45) (.v (.bool false)), none, none⟩,
   ⟨(some t47), oMov (.t t46), none, none⟩,
   ⟨(some t48), oMov (.t t6), (some (t47, true)), none⟩,
   ⟨(some t49), oBin (int2 (cmpO eqI)) (.t t48) (.v (.int .i64 0)), (some (t47, true)), none⟩,
   ⟨(some t50), oPick (.t t47) (.t t49) (.v (.bool false)), none, none⟩,
   ⟨(some t51), oMov (.t t50), none, none⟩,
   ⟨(some t52), oMov (.t t4), (some (t51, true)), none⟩,
   ⟨(some t53), oIdxAddrL 4 (.t t52) (.v (.int .i64 0)), (some (t51, true)), none⟩,
   ⟨(some t54), oFieldAddr 2 (.t t53), (some (t51, true)), none⟩,
   ⟨(some t55), oLoad1 (.t t54), (some (t51, true)), (some (.t t54))⟩,
   ⟨(some t56), oBin (int2 (cmpO eqI)) (.t t55) (.v (.int .i64 45000)), (some (t51, true)), none⟩,
   ⟨(some t57), oPick (.t t51) (.t t56) (.v (.bool false)), none, none⟩,
   ⟨(some t58), oMov (.t t57), none, none⟩,
   ⟨(some t59), oMov (.t t4), (some (t58, true)), none⟩,
   ⟨(some t60), oIdxAddrL 4 (.t t59) (.v (.int .i64 0)), (some (t58, true)), none⟩,
   ⟨(some t61), oFieldAddr 0 (.t t60), (some (t58, true)), none⟩,
   ⟨(some t62), oLoad1 (.t t61), (some (t58, true)), (some (.t t61))⟩,
   ⟨(some t63), oBin (int2 (cmpO eqI)) (.t t62) (.v (.int .i64 5)), (some (t58, true)), none⟩,
   ⟨(some t64), oPick (.t t58) (.t t63) (.v (.bool false)), none, none⟩,
   ⟨(some t65), oMov (.t t64), none, none⟩,
   ⟨(some t66), oMov (.t t9), (some (t65, true)), none⟩,
   ⟨(some t67), oBin (int2 (cmpO eqI)) (.t t66) (.v (.int .i64 0)), (some (t65, true)), none⟩,
   ⟨(some t68), oPick (.t t65) (.t t67) (.v (.bool false)), none, none⟩,
   ⟨(some t69), oMov (.t t68), none, none⟩,
   ⟨(some t70), oMov (.t t7), (some (t69, true)), none⟩,
   ⟨(some t71), oIdxAddrL 4 (.t t70) (.v (.int .i64 0)), (some (t69, true)), none⟩,
   ⟨(some t72), oFieldAddr 0 (.t t71), (some (t69, true)), none⟩,
   ⟨(some t73), oLoad1 (.t t72), (some (t69, true)), (some (.t t72))⟩,
   ⟨(some t74), oBin (int2 (cmpO eqI)) (.t t73) (.v (.int .i64 6)), (some (t69, true)), none⟩,
   ⟨(some t75), oPick (.t t69) (.t t74) (.v (.bool false)), none, none⟩,
   ⟨(some t76), oMov (.t t75), none, none⟩,
   ⟨(some t77), oMov (.t t7), (some (t76, true)), none⟩,
   ⟨(some t78), oIdxAddrL 4 (.t t77) (.v (.int .i64 0)), (some (t76, true)), none⟩,
   ⟨(some t79), oFieldAddr 2 (.t t78), (some (t76, true)), none⟩,
   ⟨(some t80), oLoad1 (.t t79), (some (t76, true)), (some (.t t79))⟩,
   ⟨(some t81), oBin (int2 (cmpO eqI)) (.t t80) (.v (.int .i64 45290)), (some (t76, true)), none⟩,
   ⟨(some t82), oPick (.t t76) (.t t81) (.v (.bool false)), none, none⟩,
   ⟨(some t83), oMov (.t t82), none, none⟩,
   ⟨(some t84), oMov (.t t12), (some (t83, true)), none⟩,
   ⟨(some t85), oBin (int2 (cmpO eqI)) (.t t84) (.v (.int .i64 7)), (some (t83, true)), none⟩,
   ⟨(some t86), oPick (.t t83) (.t t85) (.v (.bool false)), none, none⟩,
   ⟨(some t87), oMov (.t t86), none, none⟩,
   ⟨(some t88), oMov (.t t11), (some (t87, true)), none⟩,
   ⟨(some t89), oBin (int2 (cmpO eqI)) (.t t88) (.v (.int .i64 1)), (some (t87, true)), none⟩,
   ⟨(some t90), oPick (.t t87) (.t t89) (.v (.bool false)), none, none⟩,
   ⟨(some t91), oMov (.t t90), none, none⟩,
   ⟨(some t92), oCall 12 [(.v (.string ⟨⟨[109, 111, 110, 101, 121, 115]⟩⟩))], (some (t91, true)), none⟩,
   ⟨(some t93), oPick (.t t91) (.t t92) (.v (.bool false)), none, none⟩,
   ⟨(some t94), oMov (.t t93), none, none⟩,
   ⟨(some t95), oCall 12 [(.v (.string ⟨⟨[116, 97, 120]⟩⟩))], (some (t94, true)), none⟩,
   ⟨(some t96), oNot (.t t95), (some (t94, true)), none⟩,
   ⟨(some t97), oPick (.t t94) (.t t96) (.v (.bool false)), none, none⟩,
   ⟨(some t0), oMov (.t t97), none, none⟩])
 xRet))))))⟩
theorem ok8 : cFunc Try.prog gl ex Try.f8 = some c8 := by kernel_rfl
-- publican/lex.Cut
def c9_l0 : X := (xSeq (xSeq (xOps [⟨(some t13), oMov (.t t6), none, none⟩,
   ⟨(some t14), oMov (.t t0), none, none⟩,
   ⟨(some t15), oLenS (.t t14), none, none⟩,
   ⟨(some t16), oBin (int2 (cmpO ltI)) (.t t13) (.t t15), none, none⟩])
 (xCond (.t t16)
 xSkip
 (xExit 0)))
 (xSeq (xBlock 1 (xSeq (xOps [⟨(some t23), oMov (.t t0), none, none⟩,
   ⟨(some t24), oMov (.t t6), none, none⟩,
   ⟨(some t25), oSliceS (.t t23) (some (.t t24)) none, none, none⟩,
   ⟨(some t26), oCall 15 [(.t t25)], none, none⟩,
   ⟨(some t7), oNew [(.int .i64 0), (.string ⟨⟨[]⟩⟩), (.int .i64 0), (.int .i64 0)], none, none⟩,
   ⟨none, oStore 4 (.t t7) (.t t26), none, none⟩])
 (xSeq (xSeq (xOps [⟨(some t27), oFieldAddr 0 (.t t7), none, none⟩,
   ⟨(some t28), oLoad1 (.t t27), none, (some (.t t27))⟩,
   ⟨(some t29), oBin (int2 (cmpO eqI)) (.t t28) (.v (.int .i64 0)), none, none⟩])
 (xCond (.t t29)
 (xSeq (xOps [⟨(some t30), oMov (.t t6), none, none⟩,
   ⟨(some t2), oMov (.v (.slice none 0 0)), none, none⟩,
   ⟨(some t3), oMov (.t t30), none, none⟩,
   ⟨(some t4), oMov (.v (.int .i64 7)), none, none⟩])
 xRet)
 xSkip))
 (xSeq (xOps [⟨(some t31), oMov (.t t6), none, none⟩,
   ⟨(some t32), oFieldAddr 3 (.t t7), none, none⟩,
   ⟨none, oStore 1 (.t t32) (.t t31), none, none⟩])
 (xSeq (xOps [⟨(some t33), oMov (.t t5), none, none⟩,
   ⟨(some t34), oLoadN 4 (.t t7), none, none⟩,
   ⟨(some t35), oBuildSlice 1 [(.int .i64 0), (.string ⟨⟨[]⟩⟩), (.int .i64 0), (.int .i64 0)] [(0, 4, (.t t34))], none, none⟩,
   ⟨(some t36), oAppend 4 40 (.t t33) (.t t35), none, none⟩,
   ⟨(some t5), oMov (.t t36), none, none⟩])
 (xOps [⟨(some t37), oMov (.t t6), none, none⟩,
   ⟨(some t38), oFieldAddr 1 (.t t7), none, none⟩,
   ⟨(some t39), oLoad1 (.t t38), none, (some (.t t38))⟩,
   ⟨(some t40), oLenS (.t t39), none, none⟩,
   ⟨(some t41), oBin (int2 addO) (.t t37) (.t t40), none, none⟩,
   ⟨(some t6), oMov (.t t41), none, none⟩]))))))
 (xOps [⟨(some t17), oMov (.t t6), none, none⟩,
   ⟨(some t18), oMov (.t t0), none, none⟩,
   ⟨(some t19), oMov (.t t6), none, none⟩,
   ⟨(some t20), oSliceS (.t t18) (some (.t t19)) none, none, none⟩,
   ⟨(some t21), oCall 14 [(.t t20)], none, none⟩,
   ⟨(some t22), oBin (int2 addO) (.t t17) (.t t21), none, none⟩,
   ⟨(some t6), oMov (.t t22), none, none⟩])))
def c9_r0 : X := (xSeq (xOps [⟨(some t42), oMov (.t t5), none, none⟩,
   ⟨(some t43), oMov (.t t0), none, none⟩,
   ⟨(some t44), oLenS (.t t43), none, none⟩,
   ⟨(some t45), oBuild [(.int .i64 0), (.string ⟨⟨[]⟩⟩), (.int .i64 0), (.int .i64 0)] [(3, 1, (.t t44))], none, none⟩,
   ⟨(some t46), oBuildSlice 1 [(.int .i64 0), (.string ⟨⟨[]⟩⟩), (.int .i64 0), (.int .i64 0)] [(0, 4, (.t t45))], none, none⟩,
   ⟨(some t47), oAppend 4 40 (.t t42) (.t t46), none, none⟩,
   ⟨(some t2), oMov (.t t47), none, none⟩,
   ⟨(some t3), oMov (.v (.int .i64 0)), none, none⟩,
   ⟨(some t4), oMov (.v (.int .i64 0)), none, none⟩])
 xRet)
def c9 : AFunc := ⟨48, [.tmp t2, .tmp t3, .tmp t4],
 (xSeq (xOps [⟨(some t2), oMov (.v (.slice none 0 0)), none, none⟩,
   ⟨(some t3), oMov (.v (.int .i64 0)), none, none⟩,
   ⟨(some t4), oMov (.v (.int .i64 0)), none, none⟩])
 (xSeq (xSeq (xOps [⟨(some t8), oMov (.t t0), none, none⟩,
   ⟨(some t9), oLenS (.t t8), none, none⟩,
   ⟨(some t10), oBin (int2 (cmpO gtI)) (.t t9) (.v (.int .i64 8192)), none, none⟩])
 (xCond (.t t10)
 (xSeq (xOps [⟨(some t2), oMov (.v (.slice none 0 0)), none, none⟩,
   ⟨(some t3), oMov (.v (.int .i64 0)), none, none⟩,
   ⟨(some t4), oMov (.v (.int .i64 2)), none, none⟩])
 xRet)
 xSkip))
 (xSeq (xOps [⟨(some t5), oMov (.v (.slice none 0 0)), none, none⟩])
 (xSeq (xSeq (xOps [⟨(some t11), oMov (.t t0), none, none⟩,
   ⟨(some t12), oCall 14 [(.t t11)], none, none⟩,
   ⟨(some t6), oMov (.t t12), none, none⟩])
 (xBlock 0 (xLoop c9_l0)))
 c9_r0))))⟩
theorem ok9 : cFunc Try.prog gl ex Try.f9 = some c9 := by kernel_rfl
-- publican/lex.Kept
def c12 : AFunc := ⟨28, [.tmp t2],
 (xSeq (xOps [⟨(some t2), oMov (.v (.bool false)), none, none⟩])
 (xSeq (xSeq (xOps [⟨(some t3), oMov (.t t0), none, none⟩])
 (xBlock 0 (xSeq (xSeq (xOps [⟨(some t5), oBin (str2 (cmpS eqBytes)) (.t t3) (.v (.string ⟨⟨[105, 110, 112, 117, 116]⟩⟩)), none, none⟩,
   ⟨(some t4), oMov (.t t5), none, none⟩])
 (xCond (.t t4)
 xSkip
 (xSeq (xOps [⟨(some t6), oBin (str2 (cmpS eqBytes)) (.t t3) (.v (.string ⟨⟨[114, 117, 108, 101]⟩⟩)), none, none⟩,
   ⟨(some t4), oMov (.t t6), none, none⟩])
 (xCond (.t t4)
 xSkip
 (xSeq (xOps [⟨(some t7), oBin (str2 (cmpS eqBytes)) (.t t3) (.v (.string ⟨⟨[116, 97, 98, 108, 101]⟩⟩)), none, none⟩,
   ⟨(some t4), oMov (.t t7), none, none⟩])
 (xCond (.t t4)
 xSkip
 (xSeq (xOps [⟨(some t8), oBin (str2 (cmpS eqBytes)) (.t t3) (.v (.string ⟨⟨[98, 111, 111, 108]⟩⟩)), none, none⟩,
   ⟨(some t4), oMov (.t t8), none, none⟩])
 (xCond (.t t4)
 xSkip
 (xSeq (xOps [⟨(some t9), oBin (str2 (cmpS eqBytes)) (.t t3) (.v (.string ⟨⟨[99, 111, 117, 110, 116]⟩⟩)), none, none⟩,
   ⟨(some t4), oMov (.t t9), none, none⟩])
 (xCond (.t t4)
 xSkip
 (xSeq (xOps [⟨(some t10), oBin (str2 (cmpS eqBytes)) (.t t3) (.v (.string ⟨⟨[109, 111, 110, 101, 121]⟩⟩)), none, none⟩,
   ⟨(some t4), oMov (.t t10), none, none⟩])
 (xCond (.t t4)
 xSkip
 (xSeq (xOps [⟨(some t11), oBin (str2 (cmpS eqBytes)) (.t t3) (.v (.string ⟨⟨[114, 97, 116, 101]⟩⟩)), none, none⟩,
   ⟨(some t4), oMov (.t t11), none, none⟩])
 (xCond (.t t4)
 xSkip
 (xSeq (xOps [⟨(some t12), oBin (str2 (cmpS eqBytes)) (.t t3) (.v (.string ⟨⟨[100, 97, 116, 101]⟩⟩)), none, none⟩,
   ⟨(some t4), oMov (.t t12), none, none⟩])
 (xCond (.t t4)
 xSkip
 (xSeq (xOps [⟨(some t13), oBin (str2 (cmpS eqBytes)) (.t t3) (.v (.string ⟨⟨[109, 111, 110, 101, 121, 115]⟩⟩)), none, none⟩,
   ⟨(some t4), oMov (.t t13), none, none⟩])
 (xCond (.t t4)
 xSkip
 (xSeq (xOps [⟨(some t14), oBin (str2 (cmpS eqBytes)) (.t t3) (.v (.string ⟨⟨[105, 102]⟩⟩)), none, none⟩,
   ⟨(some t4), oMov (.t t14), none, none⟩])
 (xCond (.t t4)
 xSkip
 (xSeq (xOps [⟨(some t15), oBin (str2 (cmpS eqBytes)) (.t t3) (.v (.string ⟨⟨[116, 104, 101, 110]⟩⟩)), none, none⟩,
   ⟨(some t4), oMov (.t t15), none, none⟩])
 (xCond (.t t4)
 xSkip
 (xSeq (xOps [⟨(some t16), oBin (str2 (cmpS eqBytes)) (.t t3) (.v (.string ⟨⟨[101, 108, 115, 101]⟩⟩)), none, none⟩,
   ⟨(some t4), oMov (.t t16), none, none⟩])
 (xCond (.t t4)
 xSkip
 (xSeq (xOps [⟨(some t17), oBin (str2 (cmpS eqBytes)) (.t t3) (.v (.string ⟨⟨[97, 110, 100]⟩⟩)), none, none⟩,
   ⟨(some t4), oMov (.t t17), none, none⟩])
 (xCond (.t t4)
 xSkip
 (xSeq (xOps [⟨(some t18), oBin (str2 (cmpS eqBytes)) (.t t3) (.v (.string ⟨⟨[111, 114]⟩⟩)), none, none⟩,
   ⟨(some t4), oMov (.t t18), none, none⟩])
 (xCond (.t t4)
 xSkip
 (xSeq (xOps [⟨(some t19), oBin (str2 (cmpS eqBytes)) (.t t3) (.v (.string ⟨⟨[110, 111, 116]⟩⟩)), none, none⟩,
   ⟨(some t4), oMov (.t t19), none, none⟩])
 (xCond (.t t4)
 xSkip
 (xSeq (xOps [⟨(some t20), oBin (str2 (cmpS eqBytes)) (.t t3) (.v (.string ⟨⟨[109, 105, 110]⟩⟩)), none, none⟩,
   ⟨(some t4), oMov (.t t20), none, none⟩])
 (xCond (.t t4)
 xSkip
 (xSeq (xOps [⟨(some t21), oBin (str2 (cmpS eqBytes)) (.t t3) (.v (.string ⟨⟨[109, 97, 120]⟩⟩)), none, none⟩,
   ⟨(some t4), oMov (.t t21), none, none⟩])
 (xCond (.t t4)
 xSkip
 (xSeq (xOps [⟨(some t22), oBin (str2 (cmpS eqBytes)) (.t t3) (.v (.string ⟨⟨[115, 117, 109]⟩⟩)), none, none⟩,
   ⟨(some t4), oMov (.t t22), none, none⟩])
 (xCond (.t t4)
 xSkip
 (xSeq (xOps [⟨(some t23), oBin (str2 (cmpS eqBytes)) (.t t3) (.v (.string ⟨⟨[105, 110]⟩⟩)), none, none⟩,
   ⟨(some t4), oMov (.t t23), none, none⟩])
 (xCond (.t t4)
 xSkip
 (xSeq (xOps [⟨(some t24), oBin (str2 (cmpS eqBytes)) (.t t3) (.v (.string ⟨⟨[108, 101, 110]⟩⟩)), none, none⟩,
   ⟨(some t4), oMov (.t t24), none, none⟩])
 (xCond (.t t4)
 xSkip
 (xSeq (xOps [⟨(some t25), oBin (str2 (cmpS eqBytes)) (.t t3) (.v (.string ⟨⟨[97, 116]⟩⟩)), none, none⟩,
   ⟨(some t4), oMov (.t t25), none, none⟩])
 (xCond (.t t4)
 xSkip
 (xSeq (xOps [⟨(some t26), oBin (str2 (cmpS eqBytes)) (.t t3) (.v (.string ⟨⟨[116, 114, 117, 101]⟩⟩)), none, none⟩,
   ⟨(some t4), oMov (.t t26), none, none⟩])
 (xCond (.t t4)
 xSkip
 (xOps [⟨(some t27), oBin (str2 (cmpS eqBytes)) (.t t3) (.v (.string ⟨⟨[102, 97, 108, 115, 101]⟩⟩)), none, none⟩,
   ⟨(some t4), oMov (.t t27), none, none⟩])))))))))))))))))))))))))))))))))))))))))))))
 (xCond (.t t4)
 (xSeq (xOps [⟨(some t2), oMov (.v (.bool true)), none, none⟩])
 xRet)
 xSkip))))
 (xSeq (xOps [⟨(some t2), oMov (.v (.bool false)), none, none⟩])
 xRet)))⟩
theorem ok12 : cFunc Try.prog gl ex Try.f12 = some c12 := by kernel_rfl
-- publican/publicanref9.Kept
def c13_l0 : X := (xSeq (xSeq (xOps [⟨(some t6), oMov (.t t4), none, none⟩,
   ⟨(some t7), oMov (.t t3), none, none⟩,
   ⟨(some t8), oLenL (.t t7), none, none⟩,
   ⟨(some t9), oBin (int2 (cmpO ltI)) (.t t6) (.t t8), none, none⟩])
 (xCond (.t t9)
 xSkip
 (xExit 0)))
 (xSeq (xBlock 1 (xSeq (xOps [⟨(some t12), oMov (.t t3), none, none⟩,
   ⟨(some t13), oMov (.t t4), none, none⟩,
   ⟨(some t14), oIdxAddrL 1 (.t t12) (.t t13), none, none⟩,
   ⟨(some t15), oLoad1 (.t t14), none, (some (.t t14))⟩,
   ⟨(some t16), oMov (.t t0), none, none⟩,
   ⟨(some t17), oBin (str2 (cmpS eqBytes)) (.t t15) (.t t16), none, none⟩])
 (xCond (.t t17)
 (xSeq (xOps [⟨(some t2), oMov (.v (.bool true)), none, none⟩])
 xRet)
 xSkip)))
 (xOps [⟨(some t10), oMov (.t t4), none, none⟩,
   ⟨(some t11), oBin (int2 addO) (.t t10) (.v (.int .i64 1)), none, none⟩,
   ⟨(some t4), oMov (.t t11), none, none⟩])))
def c13_r0 : X := (xSeq (xOps [⟨(some t2), oMov (.v (.bool false)), none, none⟩])
 xRet)
def c13 : AFunc := ⟨18, [.tmp t2],
 (xSeq (xOps [⟨(some t2), oMov (.v (.bool false)), none, none⟩])
 (xSeq (xOps [⟨(some t5), oBuildSlice 23 (rep 23 [(.string ⟨⟨[]⟩⟩)]) [(0, 1, (.v (.string ⟨⟨[105, 110, 112, 117, 116]⟩⟩))), (1, 1, (.v (.string ⟨⟨[114, 117, 108, 101]⟩⟩))), (2, 1, (.v (.string ⟨⟨[116, 97, 98, 108, 101]⟩⟩))), (3, 1, (.v (.string ⟨⟨[98, 111, 111, 108]⟩⟩))), (4, 1, (.v (.string ⟨⟨[99, 111, 117, 110, 116]⟩⟩))), (5, 1, (.v (.string ⟨⟨[109, 111, 110, 101, 121]⟩⟩))), (6, 1, (.v (.string ⟨⟨[114, 97, 116, 101]⟩⟩))), (7, 1, (.v (.string ⟨⟨[100, 97, 116, 101]⟩⟩))), (8, 1, (.v (.string ⟨⟨[109, 111, 110, 101, 121, 115]⟩⟩))), (9, 1, (.v (.string ⟨⟨[105, 102]⟩⟩))), (10, 1, (.v (.string ⟨⟨[116, 104, 101, 110]⟩⟩))), (11, 1, (.v (.string ⟨⟨[101, 108, 115, 101]⟩⟩))), (12, 1, (.v (.string ⟨⟨[97, 110, 100]⟩⟩))), (13, 1, (.v (.string ⟨⟨[111, 114]⟩⟩))), (14, 1, (.v (.string ⟨⟨[110, 111, 116]⟩⟩))), (15, 1, (.v (.string ⟨⟨[109, 105, 110]⟩⟩))), (16, 1, (.v (.string ⟨⟨[109, 97, 120]⟩⟩))), (17, 1, (.v (.string ⟨⟨[115, 117, 109]⟩⟩))), (18, 1, (.v (.string ⟨⟨[105, 110]⟩⟩))), (19, 1, (.v (.string ⟨⟨[108, 101, 110]⟩⟩))), (20, 1, (.v (.string ⟨⟨[97, 116]⟩⟩))), (21, 1, (.v (.string ⟨⟨[116, 114, 117, 101]⟩⟩))), (22, 1, (.v (.string ⟨⟨[102, 97, 108, 115, 101]⟩⟩)))], none, none⟩,
   ⟨(some t3), oMov (.t t5), none, none⟩])
 (xSeq (xSeq (xOps [⟨(some t4), oMov (.v (.int .i64 0)), none, none⟩])
 (xBlock 0 (xLoop c13_l0)))
 c13_r0)))⟩
theorem ok13 : cFunc Try.prog gl ex Try.f13 = some c13 := by kernel_rfl
-- publican/lex.blanks
def c14_l0 : X := (xSeq (xSeq (xOps [⟨(some t5), oMov (.t t3), none, none⟩,
   ⟨(some t6), oMov (.t t0), none, none⟩,
   ⟨(some t7), oLenS (.t t6), none, none⟩,
   ⟨(some t8), oBin (int2 (cmpO ltI)) (.t t5) (.t t7), none, none⟩])
 (xCond (.t t8)
 xSkip
 (xExit 0)))
 (xBlock 1 (xSeq (xOps [⟨(some t9), oMov (.t t0), none, none⟩,
   ⟨(some t10), oMov (.t t3), none, none⟩,
   ⟨(some t11), oIdxS (.t t9) (.t t10), none, none⟩,
   ⟨(some t4), oMov (.t t11), none, none⟩])
 (xBlock 2 (xSeq (xOps [⟨(some t13), oMov (.t t4), none, none⟩,
   ⟨(some t14), oBin (int2 (cmpO eqI)) (.t t13) (.v (.int .u8 32)), none, none⟩,
   ⟨(some t15), oMov (.t t14), none, none⟩,
   ⟨(some t16), oMov (.t t4), (some (t15, false)), none⟩,
   ⟨(some t17), oBin (int2 (cmpO eqI)) (.t t16) (.v (.int .u8 9)), (some (t15, false)), none⟩,
   ⟨(some t18), oPick (.t t15) (.v (.bool true)) (.t t17), none, none⟩,
   ⟨(some t19), oMov (.t t18), none, none⟩,
   ⟨(some t20), oMov (.t t4), (some (t19, false)), none⟩,
   ⟨(some t21), oBin (int2 (cmpO eqI)) (.t t20) (.v (.int .u8 10)), (some (t19, false)), none⟩,
   ⟨(some t22), oPick (.t t19) (.v (.bool true)) (.t t21), none, none⟩,
   ⟨(some t23), oMov (.t t22), none, none⟩,
   ⟨(some t24), oMov (.t t4), (some (t23, false)), none⟩,
   ⟨(some t25), oBin (int2 (cmpO eqI)) (.t t24) (.v (.int .u8 13)), (some (t23, false)), none⟩,
   ⟨(some t26), oPick (.t t23) (.v (.bool true)) (.t t25), none, none⟩,
   ⟨(some t12), oMov (.t t26), none, none⟩])
 (xCond (.t t12)
 (xOps [⟨(some t27), oMov (.t t3), none, none⟩,
   ⟨(some t28), oBin (int2 addO) (.t t27) (.v (.int .i64 1)), none, none⟩,
   ⟨(some t3), oMov (.t t28), none, none⟩])
 (xSeq (xOps [⟨(some t30), oMov (.t t4), none, none⟩,
   ⟨(some t31), oBin (int2 (cmpO eqI)) (.t t30) (.v (.int .u8 35)), none, none⟩,
   ⟨(some t29), oMov (.t t31), none, none⟩])
 (xCond (.t t29)
 (xOps [⟨(some t32), oMov (.t t3), none, none⟩,
   ⟨(some t33), oMov (.t t0), none, none⟩,
   ⟨(some t34), oMov (.t t3), none, none⟩,
   ⟨(some t35), oSliceS (.t t33) (some (.t t34)) none, none, none⟩,
   ⟨(some t36), oCall 25 [(.t t35), (.v (.func (.func 26) #[] #[]))], none, none⟩,
   ⟨(some t37), oBin (int2 addO) (.t t32) (.t t36), none, none⟩,
   ⟨(some t3), oMov (.t t37), none, none⟩])
 (xExit 0)))))))))
def c14_r0 : X := (xSeq (xOps [⟨(some t38), oMov (.t t3), none, none⟩,
   ⟨(some t2), oMov (.t t38), none, none⟩])
 xRet)
def c14 : AFunc := ⟨39, [.tmp t2],
 (xSeq (xOps [⟨(some t2), oMov (.v (.int .i64 0)), none, none⟩])
 (xSeq (xOps [⟨(some t3), oMov (.v (.int .i64 0)), none, none⟩])
 (xSeq xSkip
 (xSeq (xBlock 0 (xLoop c14_l0))
 c14_r0))))⟩
theorem ok14 : cFunc Try.prog gl ex Try.f14 = some c14 := by kernel_rfl
-- publican/lex.word
def c15_l0 : X := (xSeq (xOps [⟨(some t42), oBin (int2 (cmpO ltI)) (.t t41) (.t t40), none, none⟩])
 (xSeq (xCond (.t t42)
 xSkip
 (xExit 1))
 (xSeq (xBlock 2 (xSeq (xOps [⟨(some t43), oIdxAddrL 1 (.t t39) (.t t41), none, none⟩,
   ⟨(some t44), oLoad1 (.t t43), none, (some (.t t43))⟩,
   ⟨(some t5), oMov (.t t44), none, none⟩])
 (xSeq (xOps [⟨(some t46), oMov (.t t0), none, none⟩,
   ⟨(some t47), oMov (.t t5), none, none⟩,
   ⟨(some t48), oCall 31 [(.t t46), (.t t47)], none, none⟩,
   ⟨(some t45), oMov (.t t48), none, none⟩,
   ⟨(some t49), oExtract (.t t45) 0, none, none⟩,
   ⟨(some t50), oExtract (.t t45) 1, none, none⟩,
   ⟨(some t6), oMov (.t t49), none, none⟩,
   ⟨(some t7), oMov (.t t50), none, none⟩])
 (xSeq (xOps [⟨(some t51), oMov (.t t6), none, none⟩,
   ⟨(some t52), oBin (int2 (cmpO gtI)) (.t t51) (.v (.int .i64 0)), none, none⟩])
 (xCond (.t t52)
 (xSeq (xOps [⟨(some t53), oMov (.t t0), none, none⟩,
   ⟨(some t54), oMov (.t t5), none, none⟩,
   ⟨(some t55), oCall 29 [(.t t53), (.t t54)], none, none⟩,
   ⟨none, oStore 4 (.t t2) (.t t55), none, none⟩])
 xRet)
 xSkip)))))
 (xOps [⟨(some t56), oBin (int2 addO) (.t t41) (.v (.int .i64 1)), none, none⟩,
   ⟨(some t41), oMov (.t t56), none, none⟩]))))
def c15_l1 : X := (xSeq (xOps [⟨(some t60), oBin (int2 (cmpO ltI)) (.t t59) (.t t58), none, none⟩])
 (xSeq (xCond (.t t60)
 xSkip
 (xExit 3))
 (xSeq (xBlock 4 (xSeq (xOps [⟨(some t61), oIdxAddrL 1 (.t t57) (.t t59), none, none⟩,
   ⟨(some t62), oLoad1 (.t t61), none, (some (.t t61))⟩,
   ⟨(some t9), oMov (.t t62), none, none⟩])
 (xSeq (xOps [⟨(some t63), oMov (.t t0), none, none⟩,
   ⟨(some t64), oMov (.t t9), none, none⟩,
   ⟨(some t65), oCall 33 [(.t t63), (.t t64)], none, none⟩])
 (xCond (.t t65)
 (xSeq (xOps [⟨(some t66), oMov (.t t9), none, none⟩,
   ⟨(some t67), oBuild [(.int .i64 0), (.string ⟨⟨[]⟩⟩), (.int .i64 0), (.int .i64 0)] [(0, 1, (.v (.int .i64 7))), (1, 1, (.t t66))], none, none⟩,
   ⟨none, oStore 4 (.t t2) (.t t67), none, none⟩])
 xRet)
 xSkip))))
 (xOps [⟨(some t68), oBin (int2 addO) (.t t59) (.v (.int .i64 1)), none, none⟩,
   ⟨(some t59), oMov (.t t68), none, none⟩]))))
def c15_r0 : X := (xSeq (xOps [⟨(some t69), oBuild [(.int .i64 0), (.string ⟨⟨[]⟩⟩), (.int .i64 0), (.int .i64 0)] [], none, none⟩,
   ⟨none, oStore 4 (.t t2) (.t t69), none, none⟩])
 xRet)
def c15_r1 : X := (xSeq (xSeq (xOps [⟨(some t57), oCall 32 [], none, none⟩,
   ⟨(some t58), oLenL (.t t57), none, none⟩,
   ⟨(some t59), oMov (.v (.int .i64 0)), none, none⟩])
 (xBlock 3 (xLoop c15_l1)))
 c15_r0)
def c15 : AFunc := ⟨70, [.cell t2 (some 4)],
 (xSeq (xOps [⟨(some t2), oNew [(.int .i64 0), (.string ⟨⟨[]⟩⟩), (.int .i64 0), (.int .i64 0)], none, none⟩])
 (xSeq (xBlock 0 (xSeq (xOps [⟨(some t11), oMov (.t t0), none, none⟩,
   ⟨(some t12), oIdxS (.t t11) (.v (.int .i64 0)), none, none⟩,
   ⟨(some t13), oCall 27 [(.t t12)], none, none⟩,
   ⟨(some t10), oMov (.t t13), none, none⟩])
 (xCond (.t t10)
 (xSeq (xOps [⟨(some t14), oMov (.t t0), none, none⟩,
   ⟨(some t15), oMov (.t t0), none, none⟩,
   ⟨(some t16), oCall 25 [(.t t15), (.v (.func (.func 28) #[] #[]))], none, none⟩,
   ⟨(some t17), oSliceS (.t t14) none (some (.t t16)), none, none⟩,
   ⟨(some t18), oBuild [(.int .i64 0), (.string ⟨⟨[]⟩⟩), (.int .i64 0), (.int .i64 0)] [(0, 1, (.v (.int .i64 1))), (1, 1, (.t t17))], none, none⟩,
   ⟨(some t3), oNew [(.int .i64 0), (.string ⟨⟨[]⟩⟩), (.int .i64 0), (.int .i64 0)], none, none⟩,
   ⟨none, oStore 4 (.t t3) (.t t18), none, none⟩])
 (xSeq (xSeq (xOps [⟨(some t19), oFieldAddr 1 (.t t3), none, none⟩,
   ⟨(some t20), oLoad1 (.t t19), none, (some (.t t19))⟩,
   ⟨(some t21), oCall 12 [(.t t20)], none, none⟩])
 (xCond (.t t21)
 (xOps [⟨(some t22), oFieldAddr 0 (.t t3), none, none⟩,
   ⟨none, oStore 1 (.t t22) (.v (.int .i64 2)), none, none⟩])
 xSkip))
 (xSeq (xSeq (xOps [⟨(some t23), oFieldAddr 1 (.t t3), none, none⟩,
   ⟨(some t24), oLoad1 (.t t23), none, (some (.t t23))⟩,
   ⟨(some t25), oLenS (.t t24), none, none⟩,
   ⟨(some t26), oBin (int2 (cmpO gtI)) (.t t25) (.v (.int .i64 32)), none, none⟩])
 (xCond (.t t26)
 (xSeq (xOps [⟨(some t27), oBuild [(.int .i64 0), (.string ⟨⟨[]⟩⟩), (.int .i64 0), (.int .i64 0)] [], none, none⟩,
   ⟨none, oStore 4 (.t t2) (.t t27), none, none⟩])
 xRet)
 xSkip))
 (xSeq (xOps [⟨(some t28), oLoadN 4 (.t t3), none, none⟩,
   ⟨none, oStore 4 (.t t2) (.t t28), none, none⟩])
 xRet))))
 (xSeq (xOps [⟨(some t30), oMov (.t t0), none, none⟩,
   ⟨(some t31), oIdxS (.t t30) (.v (.int .i64 0)), none, none⟩,
   ⟨(some t32), oBin (int2 (cmpO eqI)) (.t t31) (.v (.int .u8 36)), none, none⟩,
   ⟨(some t29), oMov (.t t32), none, none⟩])
 (xCond (.t t29)
 (xSeq (xOps [⟨(some t33), oMov (.t t0), none, none⟩,
   ⟨(some t34), oCall 29 [(.t t33), (.v (.int .i64 4))], none, none⟩,
   ⟨none, oStore 4 (.t t2) (.t t34), none, none⟩])
 xRet)
 (xSeq (xOps [⟨(some t36), oMov (.t t0), none, none⟩,
   ⟨(some t37), oIdxS (.t t36) (.v (.int .i64 0)), none, none⟩,
   ⟨(some t38), oCall 30 [(.t t37)], none, none⟩,
   ⟨(some t35), oMov (.t t38), none, none⟩])
 (xCond (.t t35)
 (xSeq (xOps [⟨(some t39), oBuildSlice 3 [(.int .i64 0), (.int .i64 0), (.int .i64 0)] [(0, 1, (.v (.int .i64 6))), (1, 1, (.v (.int .i64 5))), (2, 1, (.v (.int .i64 3)))], none, none⟩,
   ⟨(some t40), oLenL (.t t39), none, none⟩,
   ⟨(some t41), oMov (.v (.int .i64 0)), none, none⟩])
 (xBlock 1 (xLoop c15_l0)))
 xSkip)))))))
 c15_r1))⟩
theorem ok15 : cFunc Try.prog gl ex Try.f15 = some c15 := by kernel_rfl
-- publican/lex.while
def c25_l0 : X := (xSeq (xSeq (xOps [⟨(some t6), oMov (.t t5), none, none⟩,
   ⟨(some t7), oMov (.t t0), none, none⟩,
   ⟨(some t8), oLenS (.t t7), none, none⟩,
   ⟨(some t9), oBin (int2 (cmpO ltI)) (.t t6) (.t t8), none, none⟩,
   ⟨(some t10), oMov (.t t9), none, none⟩,
   ⟨(some t11), oMov (.t t1), (some (t10, true)), none⟩,
   ⟨(some t12), oMov (.t t0), (some (t10, true)), none⟩,
   ⟨(some t13), oMov (.t t5), (some (t10, true)), none⟩,
   ⟨(some t14), oIdxS (.t t12) (.t t13), (some (t10, true)), none⟩,
   ⟨(some t15), oCallV (.t t11) [(.t t14)], (some (t10, true)), none⟩,
   ⟨(some t16), oPick (.t t10) (.t t15) (.v (.bool false)), none, none⟩])
 (xCond (.t t16)
 xSkip
 (xExit 0)))
 (xBlock 1 (xOps [⟨(some t17), oMov (.t t5), none, none⟩,
   ⟨(some t18), oBin (int2 addO) (.t t17) (.v (.int .i64 1)), none, none⟩,
   ⟨(some t5), oMov (.t t18), none, none⟩])))
def c25_r0 : X := (xSeq (xOps [⟨(some t19), oMov (.t t5), none, none⟩,
   ⟨(some t4), oMov (.t t19), none, none⟩])
 xRet)
def c25 : AFunc := ⟨20, [.tmp t4],
 (xSeq (xOps [⟨(some t4), oMov (.v (.int .i64 0)), none, none⟩])
 (xSeq (xOps [⟨(some t5), oMov (.v (.int .i64 0)), none, none⟩])
 (xSeq (xBlock 0 (xLoop c25_l0))
 c25_r0)))⟩
theorem ok25 : cFunc Try.prog gl ex Try.f25 = some c25 := by kernel_rfl
-- publican/lex.blanks$1
def c26 : AFunc := ⟨5, [.tmp t2],
 (xSeq (xOps [⟨(some t2), oMov (.v (.bool false)), none, none⟩])
 (xSeq (xOps [⟨(some t3), oMov (.t t0), none, none⟩,
   ⟨(some t4), oBin (int2 (cmpO neI)) (.t t3) (.v (.int .u8 10)), none, none⟩,
   ⟨(some t2), oMov (.t t4), none, none⟩])
 xRet))⟩
theorem ok26 : cFunc Try.prog gl ex Try.f26 = some c26 := by kernel_rfl
-- publican/lex.letter
def c27 : AFunc := ⟨9, [.tmp t2],
 (xSeq (xOps [⟨(some t2), oMov (.v (.bool false)), none, none⟩])
 (xSeq (xOps [⟨(some t3), oMov (.t t0), none, none⟩,
   ⟨(some t4), oBin (int2 (cmpO geI)) (.t t3) (.v (.int .u8 97)), none, none⟩,
   ⟨(some t5), oMov (.t t4), none, none⟩,
   ⟨(some t6), oMov (.t t0), (some (t5, true)), none⟩,
   ⟨(some t7), oBin (int2 (cmpO leI)) (.t t6) (.v (.int .u8 122)), (some (t5, true)), none⟩,
   ⟨(some t8), oPick (.t t5) (.t t7) (.v (.bool false)), none, none⟩,
   ⟨(some t2), oMov (.t t8), none, none⟩])
 xRet))⟩
theorem ok27 : cFunc Try.prog gl ex Try.f27 = some c27 := by kernel_rfl
-- publican/lex.inName
def c28 : AFunc := ⟨13, [.tmp t2],
 (xSeq (xOps [⟨(some t2), oMov (.v (.bool false)), none, none⟩])
 (xSeq (xOps [⟨(some t3), oMov (.t t0), none, none⟩,
   ⟨(some t4), oCall 27 [(.t t3)], none, none⟩,
   ⟨(some t5), oMov (.t t4), none, none⟩,
   ⟨(some t6), oMov (.t t0), (some (t5, false)), none⟩,
   ⟨(some t7), oCall 30 [(.t t6)], (some (t5, false)), none⟩,
   ⟨(some t8), oPick (.t t5) (.v (.bool true)) (.t t7), none, none⟩,
   ⟨(some t9), oMov (.t t8), none, none⟩,
   ⟨(some t10), oMov (.t t0), (some (t9, false)), none⟩,
   ⟨(some t11), oBin (int2 (cmpO eqI)) (.t t10) (.v (.int .u8 95)), (some (t9, false)), none⟩,
   ⟨(some t12), oPick (.t t9) (.v (.bool true)) (.t t11), none, none⟩,
   ⟨(some t2), oMov (.t t12), none, none⟩])
 xRet))⟩
theorem ok28 : cFunc Try.prog gl ex Try.f28 = some c28 := by kernel_rfl
-- publican/lex.made
def c29 : AFunc := ⟨26, [.cell t4 (some 4)],
 (xSeq (xOps [⟨(some t4), oNew [(.int .i64 0), (.string ⟨⟨[]⟩⟩), (.int .i64 0), (.int .i64 0)], none, none⟩])
 (xSeq (xOps [⟨(some t8), oMov (.t t0), none, none⟩,
   ⟨(some t9), oMov (.t t1), none, none⟩,
   ⟨(some t10), oCall 31 [(.t t8), (.t t9)], none, none⟩,
   ⟨(some t7), oMov (.t t10), none, none⟩,
   ⟨(some t11), oExtract (.t t7) 0, none, none⟩,
   ⟨(some t12), oExtract (.t t7) 1, none, none⟩,
   ⟨(some t5), oMov (.t t11), none, none⟩,
   ⟨(some t6), oMov (.t t12), none, none⟩])
 (xSeq (xSeq (xOps [⟨(some t13), oMov (.t t5), none, none⟩,
   ⟨(some t14), oBin (int2 (cmpO eqI)) (.t t13) (.v (.int .i64 0)), none, none⟩,
   ⟨(some t15), oMov (.t t14), none, none⟩,
   ⟨(some t16), oMov (.t t6), (some (t15, false)), none⟩,
   ⟨(some t17), oBin (int2 (cmpO ltI)) (.t t16) (.v (.int .i64 0)), (some (t15, false)), none⟩,
   ⟨(some t18), oPick (.t t15) (.v (.bool true)) (.t t17), none, none⟩])
 (xCond (.t t18)
 (xSeq (xOps [⟨(some t19), oBuild [(.int .i64 0), (.string ⟨⟨[]⟩⟩), (.int .i64 0), (.int .i64 0)] [], none, none⟩,
   ⟨none, oStore 4 (.t t4) (.t t19), none, none⟩])
 xRet)
 xSkip))
 (xSeq (xOps [⟨(some t20), oMov (.t t1), none, none⟩,
   ⟨(some t21), oMov (.t t0), none, none⟩,
   ⟨(some t22), oMov (.t t5), none, none⟩,
   ⟨(some t23), oSliceS (.t t21) none (some (.t t22)), none, none⟩,
   ⟨(some t24), oMov (.t t6), none, none⟩,
   ⟨(some t25), oBuild [(.int .i64 0), (.string ⟨⟨[]⟩⟩), (.int .i64 0), (.int .i64 0)] [(0, 1, (.t t20)), (1, 1, (.t t23)), (2, 1, (.t t24))], none, none⟩,
   ⟨none, oStore 4 (.t t4) (.t t25), none, none⟩])
 xRet))))⟩
theorem ok29 : cFunc Try.prog gl ex Try.f29 = some c29 := by kernel_rfl
-- publican/lex.digit
def c30 : AFunc := ⟨9, [.tmp t2],
 (xSeq (xOps [⟨(some t2), oMov (.v (.bool false)), none, none⟩])
 (xSeq (xOps [⟨(some t3), oMov (.t t0), none, none⟩,
   ⟨(some t4), oBin (int2 (cmpO geI)) (.t t3) (.v (.int .u8 48)), none, none⟩,
   ⟨(some t5), oMov (.t t4), none, none⟩,
   ⟨(some t6), oMov (.t t0), (some (t5, true)), none⟩,
   ⟨(some t7), oBin (int2 (cmpO leI)) (.t t6) (.v (.int .u8 57)), (some (t5, true)), none⟩,
   ⟨(some t8), oPick (.t t5) (.t t7) (.v (.bool false)), none, none⟩,
   ⟨(some t2), oMov (.t t8), none, none⟩])
 xRet))⟩
theorem ok30 : cFunc Try.prog gl ex Try.f30 = some c30 := by kernel_rfl
-- publican/lex.read
def c31 : AFunc := ⟨33, [.tmp t4, .tmp t5],
 (xSeq (xOps [⟨(some t4), oMov (.v (.int .i64 0)), none, none⟩,
   ⟨(some t5), oMov (.v (.int .i64 0)), none, none⟩])
 (xSeq (xSeq (xOps [⟨(some t7), oMov (.t t1), none, none⟩])
 (xBlock 0 (xSeq (xOps [⟨(some t9), oBin (int2 (cmpO eqI)) (.t t7) (.v (.int .i64 4)), none, none⟩,
   ⟨(some t8), oMov (.t t9), none, none⟩])
 (xCond (.t t8)
 (xSeq (xOps [⟨(some t10), oMov (.t t0), none, none⟩,
   ⟨(some t11), oCall 39 [(.t t10)], none, none⟩,
   ⟨(some t12), oExtract (.t t11) 0, none, none⟩,
   ⟨(some t13), oExtract (.t t11) 1, none, none⟩,
   ⟨(some t4), oMov (.t t12), none, none⟩,
   ⟨(some t5), oMov (.t t13), none, none⟩])
 xRet)
 (xSeq (xOps [⟨(some t15), oBin (int2 (cmpO eqI)) (.t t7) (.v (.int .i64 5)), none, none⟩,
   ⟨(some t14), oMov (.t t15), none, none⟩])
 (xCond (.t t14)
 (xSeq (xOps [⟨(some t16), oMov (.t t0), none, none⟩,
   ⟨(some t17), oCall 40 [(.t t16)], none, none⟩,
   ⟨(some t18), oExtract (.t t17) 0, none, none⟩,
   ⟨(some t19), oExtract (.t t17) 1, none, none⟩,
   ⟨(some t4), oMov (.t t18), none, none⟩,
   ⟨(some t5), oMov (.t t19), none, none⟩])
 xRet)
 (xSeq (xOps [⟨(some t21), oBin (int2 (cmpO eqI)) (.t t7) (.v (.int .i64 6)), none, none⟩,
   ⟨(some t20), oMov (.t t21), none, none⟩])
 (xCond (.t t20)
 (xSeq (xOps [⟨(some t22), oMov (.t t0), none, none⟩,
   ⟨(some t23), oCall 41 [(.t t22)], none, none⟩,
   ⟨(some t24), oExtract (.t t23) 0, none, none⟩,
   ⟨(some t25), oExtract (.t t23) 1, none, none⟩,
   ⟨(some t4), oMov (.t t24), none, none⟩,
   ⟨(some t5), oMov (.t t25), none, none⟩])
 xRet)
 xSkip))))))))
 (xSeq (xOps [⟨(some t26), oMov (.t t0), none, none⟩,
   ⟨(some t27), oCall 25 [(.t t26), (.v (.func (.func 30) #[] #[]))], none, none⟩,
   ⟨(some t6), oMov (.t t27), none, none⟩])
 (xSeq (xOps [⟨(some t28), oMov (.t t6), none, none⟩,
   ⟨(some t29), oMov (.t t0), none, none⟩,
   ⟨(some t30), oMov (.t t6), none, none⟩,
   ⟨(some t31), oSliceS (.t t29) none (some (.t t30)), none, none⟩,
   ⟨(some t32), oCall 42 [(.t t31), (.v (.int .i64 4503599627370496))], none, none⟩,
   ⟨(some t4), oMov (.t t28), none, none⟩,
   ⟨(some t5), oMov (.t t32), none, none⟩])
 xRet))))⟩
theorem ok31 : cFunc Try.prog gl ex Try.f31 = some c31 := by kernel_rfl
-- publican/lex.signs
def c32 : AFunc := ⟨2, [.tmp t0],
 (xSeq (xOps [⟨(some t0), oMov (.v (.slice none 0 0)), none, none⟩])
 (xSeq (xOps [⟨(some t1), oBuildSlice 20 (rep 20 [(.string ⟨⟨[]⟩⟩)]) [(0, 1, (.v (.string ⟨⟨[60, 61]⟩⟩))), (1, 1, (.v (.string ⟨⟨[62, 61]⟩⟩))), (2, 1, (.v (.string ⟨⟨[61, 61]⟩⟩))), (3, 1, (.v (.string ⟨⟨[33, 61]⟩⟩))), (4, 1, (.v (.string ⟨⟨[40]⟩⟩))), (5, 1, (.v (.string ⟨⟨[41]⟩⟩))), (6, 1, (.v (.string ⟨⟨[123]⟩⟩))), (7, 1, (.v (.string ⟨⟨[125]⟩⟩))), (8, 1, (.v (.string ⟨⟨[91]⟩⟩))), (9, 1, (.v (.string ⟨⟨[93]⟩⟩))), (10, 1, (.v (.string ⟨⟨[44]⟩⟩))), (11, 1, (.v (.string ⟨⟨[59]⟩⟩))), (12, 1, (.v (.string ⟨⟨[58]⟩⟩))), (13, 1, (.v (.string ⟨⟨[61]⟩⟩))), (14, 1, (.v (.string ⟨⟨[43]⟩⟩))), (15, 1, (.v (.string ⟨⟨[45]⟩⟩))), (16, 1, (.v (.string ⟨⟨[42]⟩⟩))), (17, 1, (.v (.string ⟨⟨[47]⟩⟩))), (18, 1, (.v (.string ⟨⟨[60]⟩⟩))), (19, 1, (.v (.string ⟨⟨[62]⟩⟩)))], none, none⟩,
   ⟨(some t0), oMov (.t t1), none, none⟩])
 xRet))⟩
theorem ok32 : cFunc Try.prog gl ex Try.f32 = some c32 := by kernel_rfl
-- strings.HasPrefix
def c33 : AFunc := ⟨8, [.tmp t4],
 (xSeq (xOps [⟨(some t4), oMov (.v (.bool false)), none, none⟩])
 (xSeq (xOps [⟨(some t5), oMov (.t t0), none, none⟩,
   ⟨(some t6), oMov (.t t1), none, none⟩,
   ⟨(some t7), oCall 43 [(.t t5), (.t t6)], none, none⟩,
   ⟨(some t4), oMov (.t t7), none, none⟩])
 xRet))⟩
theorem ok33 : cFunc Try.prog gl ex Try.f33 = some c33 := by kernel_rfl
-- publican/lex.money
def c39 : AFunc := ⟨49, [.tmp t2, .tmp t3],
 (xSeq (xOps [⟨(some t2), oMov (.v (.int .i64 0)), none, none⟩,
   ⟨(some t3), oMov (.v (.int .i64 0)), none, none⟩])
 (xSeq (xOps [⟨(some t6), oMov (.t t0), none, none⟩,
   ⟨(some t7), oSliceS (.t t6) (some (.v (.int .i64 1))) none, none, none⟩,
   ⟨(some t8), oCall 25 [(.t t7), (.v (.func (.func 30) #[] #[]))], none, none⟩,
   ⟨(some t9), oBin (int2 addO) (.v (.int .i64 1)) (.t t8), none, none⟩,
   ⟨(some t4), oMov (.t t9), none, none⟩])
 (xSeq (xSeq (xOps [⟨(some t10), oMov (.t t0), none, none⟩,
   ⟨(some t11), oIdxS (.t t10) (.v (.int .i64 0)), none, none⟩,
   ⟨(some t12), oBin (int2 (cmpO neI)) (.t t11) (.v (.int .u8 36)), none, none⟩,
   ⟨(some t13), oMov (.t t12), none, none⟩,
   ⟨(some t14), oMov (.t t4), (some (t13, false)), none⟩,
   ⟨(some t15), oBin (int2 (cmpO eqI)) (.t t14) (.v (.int .i64 1)), (some (t13, false)), none⟩,
   ⟨(some t16), oPick (.t t13) (.v (.bool true)) (.t t15), none, none⟩])
 (xCond (.t t16)
 (xSeq (xOps [⟨(some t2), oMov (.v (.int .i64 0)), none, none⟩,
   ⟨(some t3), oMov (.v (.int .i64 0)), none, none⟩])
 xRet)
 xSkip))
 (xSeq (xOps [⟨(some t17), oMov (.t t0), none, none⟩,
   ⟨(some t18), oMov (.t t4), none, none⟩,
   ⟨(some t19), oSliceS (.t t17) (some (.v (.int .i64 1))) (some (.t t18)), none, none⟩,
   ⟨(some t20), oCall 42 [(.t t19), (.v (.int .i64 4503599627370496))], none, none⟩,
   ⟨(some t5), oMov (.t t20), none, none⟩])
 (xSeq (xSeq (xOps [⟨(some t21), oMov (.t t0), none, none⟩,
   ⟨(some t22), oMov (.t t4), none, none⟩,
   ⟨(some t23), oSliceS (.t t21) (some (.t t22)) none, none, none⟩,
   ⟨(some t24), oCall 47 [(.t t23), (.v (.int .i64 2))], none, none⟩,
   ⟨(some t25), oBin (int2 (cmpO eqI)) (.t t24) (.v (.int .i64 2)), none, none⟩])
 (xCond (.t t25)
 (xSeq (xSeq (xOps [⟨(some t26), oMov (.t t5), none, none⟩,
   ⟨(some t27), oBin (int2 (cmpO geI)) (.t t26) (.v (.int .i64 0)), none, none⟩])
 (xCond (.t t27)
 (xOps [⟨(some t28), oMov (.t t5), none, none⟩,
   ⟨(some t29), oBin (int2 mulO) (.t t28) (.v (.int .i64 100)), none, none⟩,
   ⟨(some t30), oMov (.t t0), none, none⟩,
   ⟨(some t31), oMov (.t t4), none, none⟩,
   ⟨(some t32), oBin (int2 addO) (.t t31) (.v (.int .i64 1)), none, none⟩,
   ⟨(some t33), oMov (.t t4), none, none⟩,
   ⟨(some t34), oBin (int2 addO) (.t t33) (.v (.int .i64 3)), none, none⟩,
   ⟨(some t35), oSliceS (.t t30) (some (.t t32)) (some (.t t34)), none, none⟩,
   ⟨(some t36), oCall 42 [(.t t35), (.v (.int .i64 100))], none, none⟩,
   ⟨(some t37), oBin (int2 addO) (.t t29) (.t t36), none, none⟩,
   ⟨(some t5), oMov (.t t37), none, none⟩])
 xSkip))
 (xOps [⟨(some t38), oMov (.t t4), none, none⟩,
   ⟨(some t39), oBin (int2 addO) (.t t38) (.v (.int .i64 3)), none, none⟩,
   ⟨(some t4), oMov (.t t39), none, none⟩]))
 (xSeq (xOps [⟨(some t40), oMov (.t t5), none, none⟩,
   ⟨(some t41), oBin (int2 (cmpO geI)) (.t t40) (.v (.int .i64 0)), none, none⟩])
 (xCond (.t t41)
 (xOps [⟨(some t42), oMov (.t t5), none, none⟩,
   ⟨(some t43), oMM false (.t t42) [(.v (.int .i64 4503599627370496))], none, none⟩,
   ⟨(some t44), oBin (int2 mulO) (.t t43) (.v (.int .i64 100)), none, none⟩,
   ⟨(some t5), oMov (.t t44), none, none⟩])
 xSkip))))
 (xSeq (xSeq (xOps [⟨(some t45), oMov (.t t5), none, none⟩,
   ⟨(some t46), oBin (int2 (cmpO gtI)) (.t t45) (.v (.int .i64 4503599627370496)), none, none⟩])
 (xCond (.t t46)
 (xOps [⟨(some t5), oMov (.v (.int .i64 (-1))), none, none⟩])
 xSkip))
 (xSeq (xOps [⟨(some t47), oMov (.t t4), none, none⟩,
   ⟨(some t48), oMov (.t t5), none, none⟩,
   ⟨(some t2), oMov (.t t47), none, none⟩,
   ⟨(some t3), oMov (.t t48), none, none⟩])
 xRet)))))))⟩
theorem ok39 : cFunc Try.prog gl ex Try.f39 = some c39 := by kernel_rfl
-- publican/lex.rate
def c40 : AFunc := ⟨66, [.tmp t2, .tmp t3],
 (xSeq (xOps [⟨(some t2), oMov (.v (.int .i64 0)), none, none⟩,
   ⟨(some t3), oMov (.v (.int .i64 0)), none, none⟩])
 (xSeq (xOps [⟨(some t8), oMov (.t t0), none, none⟩,
   ⟨(some t9), oCall 25 [(.t t8), (.v (.func (.func 30) #[] #[]))], none, none⟩,
   ⟨(some t4), oMov (.t t9), none, none⟩])
 (xSeq (xOps [⟨(some t10), oMov (.t t0), none, none⟩,
   ⟨(some t11), oMov (.t t4), none, none⟩,
   ⟨(some t12), oSliceS (.t t10) (some (.t t11)) none, none, none⟩,
   ⟨(some t13), oCall 47 [(.t t12), (.v (.int .i64 4))], none, none⟩,
   ⟨(some t5), oMov (.t t13), none, none⟩])
 (xSeq (xOps [⟨(some t14), oMov (.t t4), none, none⟩,
   ⟨(some t6), oMov (.t t14), none, none⟩])
 (xSeq (xSeq (xOps [⟨(some t15), oMov (.t t5), none, none⟩,
   ⟨(some t16), oBin (int2 (cmpO gtI)) (.t t15) (.v (.int .i64 0)), none, none⟩])
 (xCond (.t t16)
 (xOps [⟨(some t17), oMov (.t t6), none, none⟩,
   ⟨(some t18), oMov (.t t5), none, none⟩,
   ⟨(some t19), oBin (int2 addO) (.v (.int .i64 1)) (.t t18), none, none⟩,
   ⟨(some t20), oBin (int2 addO) (.t t17) (.t t19), none, none⟩,
   ⟨(some t6), oMov (.t t20), none, none⟩])
 xSkip))
 (xSeq (xSeq (xOps [⟨(some t21), oMov (.t t4), none, none⟩,
   ⟨(some t22), oBin (int2 (cmpO eqI)) (.t t21) (.v (.int .i64 0)), none, none⟩,
   ⟨(some t23), oMov (.t t22), none, none⟩,
   ⟨(some t24), oMov (.t t6), (some (t23, false)), none⟩,
   ⟨(some t25), oMov (.t t0), (some (t23, false)), none⟩,
   ⟨(some t26), oLenS (.t t25), (some (t23, false)), none⟩,
   ⟨(some t27), oBin (int2 (cmpO geI)) (.t t24) (.t t26), (some (t23, false)), none⟩,
   ⟨(some t28), oPick (.t t23) (.v (.bool true)) (.t t27), none, none⟩,
   ⟨(some t29), oMov (.t t28), none, none⟩,
   ⟨(some t30), oMov (.t t0), (some (t29, false)), none⟩,
   ⟨(some t31), oMov (.t t6), (some (t29, false)), none⟩,
   ⟨(some t32), oIdxS (.t t30) (.t t31), (some (t29, false)), none⟩,
   ⟨(some t33), oBin (int2 (cmpO neI)) (.t t32) (.v (.int .u8 37)), (some (t29, false)), none⟩,
   ⟨(some t34), oPick (.t t29) (.v (.bool true)) (.t t33), none, none⟩])
 (xCond (.t t34)
 (xSeq (xOps [⟨(some t2), oMov (.v (.int .i64 0)), none, none⟩,
   ⟨(some t3), oMov (.v (.int .i64 0)), none, none⟩])
 xRet)
 xSkip))
 (xSeq (xOps [⟨(some t35), oMov (.t t0), none, none⟩,
   ⟨(some t36), oMov (.t t4), none, none⟩,
   ⟨(some t37), oSliceS (.t t35) none (some (.t t36)), none, none⟩,
   ⟨(some t38), oCall 42 [(.t t37), (.v (.int .i64 1000000000000))], none, none⟩,
   ⟨(some t7), oMov (.t t38), none, none⟩])
 (xSeq (xSeq (xOps [⟨(some t39), oMov (.t t7), none, none⟩,
   ⟨(some t40), oBin (int2 (cmpO geI)) (.t t39) (.v (.int .i64 0)), none, none⟩])
 (xCond (.t t40)
 (xSeq (xOps [⟨(some t41), oMov (.t t7), none, none⟩,
   ⟨(some t42), oBin (int2 mulO) (.t t41) (.v (.int .i64 10000)), none, none⟩,
   ⟨(some t7), oMov (.t t42), none, none⟩])
 (xSeq (xOps [⟨(some t43), oMov (.t t7), none, none⟩,
   ⟨(some t44), oBin (int2 (cmpO leI)) (.t t43) (.v (.int .i64 1000000000000)), none, none⟩,
   ⟨(some t45), oMov (.t t44), none, none⟩,
   ⟨(some t46), oMov (.t t5), (some (t45, true)), none⟩,
   ⟨(some t47), oBin (int2 (cmpO gtI)) (.t t46) (.v (.int .i64 0)), (some (t45, true)), none⟩,
   ⟨(some t48), oPick (.t t45) (.t t47) (.v (.bool false)), none, none⟩])
 (xCond (.t t48)
 (xReg [⟨(some t49), oMov (.t t7), none, none⟩,
   ⟨(some t50), oMov (.t t0), none, none⟩,
   ⟨(some t51), oMov (.t t4), none, none⟩,
   ⟨(some t52), oBin (int2 addO) (.t t51) (.v (.int .i64 1)), none, none⟩,
   ⟨(some t53), oMov (.t t6), none, none⟩,
   ⟨(some t54), oSliceS (.t t50) (some (.t t52)) (some (.t t53)), none, none⟩,
   ⟨(some t55), oMov (.t t5), none, none⟩,
   ⟨(some t56), oBin (int2 subO) (.v (.int .i64 4)) (.t t55), none, none⟩,
   ⟨(some t57), oCall 48 [(.v (.string ⟨⟨[48]⟩⟩)), (.t t56)], none, none⟩,
   ⟨(some t58), oBin (str2 catO) (.t t54) (.t t57), none, none⟩,
   ⟨(some t59), oCall 42 [(.t t58), (.v (.int .i64 10000))], none, none⟩,
   ⟨(some t60), oBin (int2 addO) (.t t49) (.t t59), none, none⟩,
   ⟨(some t7), oMov (.t t60), none, none⟩] [(0, 1), (0, 2), (1, 2), (0, 3), (1, 3), (0, 4), (1, 4), (2, 4), (3, 4), (0, 5), (0, 6), (1, 6), (2, 6), (3, 6), (4, 6), (5, 6), (0, 7), (1, 7), (2, 7), (3, 7), (4, 7), (5, 7), (0, 8), (1, 8), (2, 8), (3, 8), (4, 8), (5, 8), (0, 9), (0, 10)])
 xSkip)))
 xSkip))
 (xSeq (xSeq (xOps [⟨(some t61), oMov (.t t7), none, none⟩,
   ⟨(some t62), oBin (int2 (cmpO gtI)) (.t t61) (.v (.int .i64 1000000000000)), none, none⟩])
 (xCond (.t t62)
 (xOps [⟨(some t7), oMov (.v (.int .i64 (-1))), none, none⟩])
 xSkip))
 (xSeq (xOps [⟨(some t63), oMov (.t t6), none, none⟩,
   ⟨(some t64), oBin (int2 addO) (.t t63) (.v (.int .i64 1)), none, none⟩,
   ⟨(some t65), oMov (.t t7), none, none⟩,
   ⟨(some t2), oMov (.t t64), none, none⟩,
   ⟨(some t3), oMov (.t t65), none, none⟩])
 xRet))))))))))⟩
theorem ok40 : cFunc Try.prog gl ex Try.f40 = some c40 := by kernel_rfl
-- publican/lex.day
def c41 : AFunc := ⟨28, [.tmp t2, .tmp t3],
 (xSeq (xOps [⟨(some t2), oMov (.v (.int .i64 0)), none, none⟩,
   ⟨(some t3), oMov (.v (.int .i64 0)), none, none⟩])
 (xSeq (xSeq (xOps [⟨(some t6), oMov (.t t0), none, none⟩,
   ⟨(some t7), oLenS (.t t6), none, none⟩,
   ⟨(some t8), oBin (int2 (cmpO ltI)) (.t t7) (.v (.int .i64 10)), none, none⟩,
   ⟨(some t9), oMov (.t t8), none, none⟩,
   ⟨(some t10), oMov (.t t0), (some (t9, false)), none⟩,
   ⟨(some t11), oLenS (.t t10), (some (t9, false)), none⟩,
   ⟨(some t12), oBin (int2 (cmpO gtI)) (.t t11) (.v (.int .i64 10)), (some (t9, false)), none⟩,
   ⟨(some t13), oMov (.t t12), (some (t9, false)), none⟩,
   ⟨(some t14), oMov (.t t0), (some (t13, true)), none⟩,
   ⟨(some t15), oIdxS (.t t14) (.v (.int .i64 10)), (some (t13, true)), none⟩,
   ⟨(some t16), oCall 30 [(.t t15)], (some (t13, true)), none⟩,
   ⟨(some t17), oPick (.t t13) (.t t16) (.v (.bool false)), (some (t9, false)), none⟩,
   ⟨(some t18), oPick (.t t9) (.v (.bool true)) (.t t17), none, none⟩])
 (xCond (.t t18)
 (xSeq (xOps [⟨(some t2), oMov (.v (.int .i64 0)), none, none⟩,
   ⟨(some t3), oMov (.v (.int .i64 0)), none, none⟩])
 xRet)
 xSkip))
 (xSeq (xOps [⟨(some t20), oMov (.t t0), none, none⟩,
   ⟨(some t21), oSliceS (.t t20) none (some (.v (.int .i64 10))), none, none⟩,
   ⟨(some t22), oCall 49 [(.t t21)], none, none⟩,
   ⟨(some t19), oMov (.t t22), none, none⟩,
   ⟨(some t23), oExtract (.t t19) 0, none, none⟩,
   ⟨(some t24), oExtract (.t t19) 1, none, none⟩,
   ⟨(some t4), oMov (.t t23), none, none⟩,
   ⟨(some t5), oMov (.t t24), none, none⟩])
 (xSeq (xSeq (xOps [⟨(some t25), oMov (.t t5), none, none⟩,
   ⟨(some t26), oNot (.t t25), none, none⟩])
 (xCond (.t t26)
 (xSeq (xOps [⟨(some t2), oMov (.v (.int .i64 0)), none, none⟩,
   ⟨(some t3), oMov (.v (.int .i64 0)), none, none⟩])
 xRet)
 xSkip))
 (xSeq (xOps [⟨(some t27), oMov (.t t4), none, none⟩,
   ⟨(some t2), oMov (.v (.int .i64 10)), none, none⟩,
   ⟨(some t3), oMov (.t t27), none, none⟩])
 xRet)))))⟩
theorem ok41 : cFunc Try.prog gl ex Try.f41 = some c41 := by kernel_rfl
-- publican/lex.number
def c42_l0 : X := (xSeq (xOps [⟨(some t12), oBin (int2 (cmpO ltI)) (.t t11) (.t t10), none, none⟩])
 (xSeq (xCond (.t t12)
 xSkip
 (xExit 0))
 (xSeq (xBlock 1 (xSeq (xOps [⟨(some t13), oIdxAddrL 1 (.t t9) (.t t11), none, none⟩,
   ⟨(some t14), oLoad1 (.t t13), none, (some (.t t13))⟩,
   ⟨(some t7), oMov (.t t14), none, none⟩])
 (xSeq (xOps [⟨(some t15), oMov (.t t5), none, none⟩,
   ⟨(some t16), oBin (int2 mulO) (.t t15) (.v (.int .i64 10)), none, none⟩,
   ⟨(some t17), oMov (.t t7), none, none⟩,
   ⟨(some t18), oBin (int2 subO) (.t t17) (.v (.int .u8 48)), none, none⟩,
   ⟨(some t19), oConv .i64 (.t t18), none, none⟩,
   ⟨(some t20), oBin (int2 addO) (.t t16) (.t t19), none, none⟩,
   ⟨(some t5), oMov (.t t20), none, none⟩])
 (xSeq (xOps [⟨(some t21), oMov (.t t5), none, none⟩,
   ⟨(some t22), oMov (.t t1), none, none⟩,
   ⟨(some t23), oBin (int2 (cmpO gtI)) (.t t21) (.t t22), none, none⟩])
 (xCond (.t t23)
 (xSeq (xOps [⟨(some t4), oMov (.v (.int .i64 (-1))), none, none⟩])
 xRet)
 xSkip)))))
 (xOps [⟨(some t24), oBin (int2 addO) (.t t11) (.v (.int .i64 1)), none, none⟩,
   ⟨(some t11), oMov (.t t24), none, none⟩]))))
def c42_r0 : X := (xSeq (xOps [⟨(some t25), oMov (.t t5), none, none⟩,
   ⟨(some t4), oMov (.t t25), none, none⟩])
 xRet)
def c42 : AFunc := ⟨26, [.tmp t4],
 (xSeq (xOps [⟨(some t4), oMov (.v (.int .i64 0)), none, none⟩])
 (xSeq (xOps [⟨(some t5), oMov (.v (.int .i64 0)), none, none⟩])
 (xSeq (xSeq (xOps [⟨(some t8), oMov (.t t0), none, none⟩,
   ⟨(some t9), oStrBytes (.t t8), none, none⟩,
   ⟨(some t10), oLenL (.t t9), none, none⟩,
   ⟨(some t11), oMov (.v (.int .i64 0)), none, none⟩])
 (xBlock 0 (xLoop c42_l0)))
 c42_r0)))⟩
theorem ok42 : cFunc Try.prog gl ex Try.f42 = some c42 := by kernel_rfl
-- internal/stringslite.HasPrefix
def c43 : AFunc := ⟨18, [.tmp t4],
 (xSeq (xOps [⟨(some t4), oMov (.v (.bool false)), none, none⟩])
 (xSeq (xOps [⟨(some t5), oMov (.t t0), none, none⟩,
   ⟨(some t6), oLenS (.t t5), none, none⟩,
   ⟨(some t7), oMov (.t t1), none, none⟩,
   ⟨(some t8), oLenS (.t t7), none, none⟩,
   ⟨(some t9), oBin (int2 (cmpO geI)) (.t t6) (.t t8), none, none⟩,
   ⟨(some t10), oMov (.t t9), none, none⟩,
   ⟨(some t11), oMov (.t t0), (some (t10, true)), none⟩,
   ⟨(some t12), oMov (.t t1), (some (t10, true)), none⟩,
   ⟨(some t13), oLenS (.t t12), (some (t10, true)), none⟩,
   ⟨(some t14), oSliceS (.t t11) none (some (.t t13)), (some (t10, true)), none⟩,
   ⟨(some t15), oMov (.t t1), (some (t10, true)), none⟩,
   ⟨(some t16), oBin (str2 (cmpS eqBytes)) (.t t14) (.t t15), (some (t10, true)), none⟩,
   ⟨(some t17), oPick (.t t10) (.t t16) (.v (.bool false)), none, none⟩,
   ⟨(some t4), oMov (.t t17), none, none⟩])
 xRet))⟩
theorem ok43 : cFunc Try.prog gl ex Try.f43 = some c43 := by kernel_rfl
-- publican/lex.places
def c47 : AFunc := ⟨20, [.tmp t4],
 (xSeq (xOps [⟨(some t4), oMov (.v (.int .i64 0)), none, none⟩])
 (xSeq (xSeq (xOps [⟨(some t6), oMov (.t t0), none, none⟩,
   ⟨(some t7), oBin (str2 (cmpS eqBytes)) (.t t6) (.v (.string ⟨⟨[]⟩⟩)), none, none⟩,
   ⟨(some t8), oMov (.t t7), none, none⟩,
   ⟨(some t9), oMov (.t t0), (some (t8, false)), none⟩,
   ⟨(some t10), oIdxS (.t t9) (.v (.int .i64 0)), (some (t8, false)), none⟩,
   ⟨(some t11), oBin (int2 (cmpO neI)) (.t t10) (.v (.int .u8 46)), (some (t8, false)), none⟩,
   ⟨(some t12), oPick (.t t8) (.v (.bool true)) (.t t11), none, none⟩])
 (xCond (.t t12)
 (xSeq (xOps [⟨(some t4), oMov (.v (.int .i64 0)), none, none⟩])
 xRet)
 xSkip))
 (xSeq (xSeq (xOps [⟨(some t13), oMov (.t t0), none, none⟩,
   ⟨(some t14), oSliceS (.t t13) (some (.v (.int .i64 1))) none, none, none⟩,
   ⟨(some t15), oCall 25 [(.t t14), (.v (.func (.func 30) #[] #[]))], none, none⟩,
   ⟨(some t5), oMov (.t t15), none, none⟩])
 (xSeq (xOps [⟨(some t16), oMov (.t t5), none, none⟩,
   ⟨(some t17), oMov (.t t1), none, none⟩,
   ⟨(some t18), oBin (int2 (cmpO leI)) (.t t16) (.t t17), none, none⟩])
 (xCond (.t t18)
 (xSeq (xOps [⟨(some t19), oMov (.t t5), none, none⟩,
   ⟨(some t4), oMov (.t t19), none, none⟩])
 xRet)
 xSkip)))
 (xSeq (xOps [⟨(some t4), oMov (.v (.int .i64 0)), none, none⟩])
 xRet))))⟩
theorem ok47 : cFunc Try.prog gl ex Try.f47 = some c47 := by kernel_rfl
-- publican/cal.Read
def c49 : AFunc := ⟨29, [.tmp t2, .tmp t3],
 (xSeq (xOps [⟨(some t2), oMov (.v (.int .i64 0)), none, none⟩,
   ⟨(some t3), oMov (.v (.bool false)), none, none⟩])
 (xSeq (xSeq (xOps [⟨(some t4), oMov (.t t0), none, none⟩,
   ⟨(some t5), oLenS (.t t4), none, none⟩,
   ⟨(some t6), oBin (int2 (cmpO neI)) (.t t5) (.v (.int .i64 10)), none, none⟩,
   ⟨(some t7), oMov (.t t6), none, none⟩,
   ⟨(some t8), oMov (.t t0), (some (t7, false)), none⟩,
   ⟨(some t9), oIdxS (.t t8) (.v (.int .i64 4)), (some (t7, false)), none⟩,
   ⟨(some t10), oBin (int2 (cmpO neI)) (.t t9) (.v (.int .u8 45)), (some (t7, false)), none⟩,
   ⟨(some t11), oPick (.t t7) (.v (.bool true)) (.t t10), none, none⟩,
   ⟨(some t12), oMov (.t t11), none, none⟩,
   ⟨(some t13), oMov (.t t0), (some (t12, false)), none⟩,
   ⟨(some t14), oIdxS (.t t13) (.v (.int .i64 7)), (some (t12, false)), none⟩,
   ⟨(some t15), oBin (int2 (cmpO neI)) (.t t14) (.v (.int .u8 45)), (some (t12, false)), none⟩,
   ⟨(some t16), oPick (.t t12) (.v (.bool true)) (.t t15), none, none⟩])
 (xCond (.t t16)
 (xSeq (xOps [⟨(some t2), oMov (.v (.int .i64 0)), none, none⟩,
   ⟨(some t3), oMov (.v (.bool false)), none, none⟩])
 xRet)
 xSkip))
 (xSeq (xReg [⟨(some t17), oMov (.t t0), none, none⟩,
   ⟨(some t18), oSliceS (.t t17) none (some (.v (.int .i64 4))), none, none⟩,
   ⟨(some t19), oCall 56 [(.t t18)], none, none⟩,
   ⟨(some t20), oMov (.t t0), none, none⟩,
   ⟨(some t21), oSliceS (.t t20) (some (.v (.int .i64 5))) (some (.v (.int .i64 7))), none, none⟩,
   ⟨(some t22), oCall 56 [(.t t21)], none, none⟩,
   ⟨(some t23), oMov (.t t0), none, none⟩,
   ⟨(some t24), oSliceS (.t t23) (some (.v (.int .i64 8))) none, none, none⟩,
   ⟨(some t25), oCall 56 [(.t t24)], none, none⟩,
   ⟨(some t26), oCall 55 [(.t t19), (.t t22), (.t t25)], none, none⟩,
   ⟨(some t27), oExtract (.t t26) 0, none, none⟩,
   ⟨(some t28), oExtract (.t t26) 1, none, none⟩,
   ⟨(some t2), oMov (.t t27), none, none⟩,
   ⟨(some t3), oMov (.t t28), none, none⟩] [(0, 3), (1, 3), (2, 3), (0, 4), (1, 4), (2, 4), (0, 6), (1, 6), (2, 6), (3, 6), (4, 6), (5, 6), (0, 7), (1, 7), (2, 7), (3, 7), (4, 7), (5, 7), (10, 11)])
 xRet)))⟩
theorem ok49 : cFunc Try.prog gl ex Try.f49 = some c49 := by kernel_rfl
-- publican/cal.Of
def c55_l0 : X := (xSeq (xSeq (xOps [⟨(some t29), oMov (.t t9), none, none⟩,
   ⟨(some t30), oMov (.t t1), none, none⟩,
   ⟨(some t31), oBin (int2 (cmpO ltI)) (.t t29) (.t t30), none, none⟩])
 (xCond (.t t31)
 xSkip
 (xExit 0)))
 (xSeq (xBlock 1 (xOps [⟨(some t34), oMov (.t t8), none, none⟩,
   ⟨(some t35), oMov (.t t0), none, none⟩,
   ⟨(some t36), oMov (.t t9), none, none⟩,
   ⟨(some t37), oCall 61 [(.t t35), (.t t36)], none, none⟩,
   ⟨(some t38), oBin (int2 addO) (.t t34) (.t t37), none, none⟩,
   ⟨(some t8), oMov (.t t38), none, none⟩]))
 (xOps [⟨(some t32), oMov (.t t9), none, none⟩,
   ⟨(some t33), oBin (int2 addO) (.t t32) (.v (.int .i64 1)), none, none⟩,
   ⟨(some t9), oMov (.t t33), none, none⟩])))
def c55_r0 : X := (xSeq (xOps [⟨(some t39), oMov (.t t8), none, none⟩,
   ⟨(some t40), oMov (.t t2), none, none⟩,
   ⟨(some t41), oBin (int2 addO) (.t t39) (.t t40), none, none⟩,
   ⟨(some t42), oBin (int2 subO) (.t t41) (.v (.int .i64 1)), none, none⟩,
   ⟨(some t6), oMov (.t t42), none, none⟩,
   ⟨(some t7), oMov (.v (.bool true)), none, none⟩])
 xRet)
def c55 : AFunc := ⟨43, [.tmp t6, .tmp t7],
 (xSeq (xOps [⟨(some t6), oMov (.v (.int .i64 0)), none, none⟩,
   ⟨(some t7), oMov (.v (.bool false)), none, none⟩])
 (xSeq (xSeq (xOps [⟨(some t10), oMov (.t t0), none, none⟩,
   ⟨(some t11), oBin (int2 (cmpO ltI)) (.t t10) (.v (.int .i64 1900)), none, none⟩,
   ⟨(some t12), oMov (.t t11), none, none⟩,
   ⟨(some t13), oMov (.t t0), (some (t12, false)), none⟩,
   ⟨(some t14), oBin (int2 (cmpO gtI)) (.t t13) (.v (.int .i64 2199)), (some (t12, false)), none⟩,
   ⟨(some t15), oPick (.t t12) (.v (.bool true)) (.t t14), none, none⟩,
   ⟨(some t16), oMov (.t t15), none, none⟩,
   ⟨(some t17), oMov (.t t2), (some (t16, false)), none⟩,
   ⟨(some t18), oBin (int2 (cmpO ltI)) (.t t17) (.v (.int .i64 1)), (some (t16, false)), none⟩,
   ⟨(some t19), oPick (.t t16) (.v (.bool true)) (.t t18), none, none⟩,
   ⟨(some t20), oMov (.t t19), none, none⟩,
   ⟨(some t21), oMov (.t t2), (some (t20, false)), none⟩,
   ⟨(some t22), oMov (.t t0), (some (t20, false)), none⟩,
   ⟨(some t23), oMov (.t t1), (some (t20, false)), none⟩,
   ⟨(some t24), oCall 61 [(.t t22), (.t t23)], (some (t20, false)), none⟩,
   ⟨(some t25), oBin (int2 (cmpO gtI)) (.t t21) (.t t24), (some (t20, false)), none⟩,
   ⟨(some t26), oPick (.t t20) (.v (.bool true)) (.t t25), none, none⟩])
 (xCond (.t t26)
 (xSeq (xOps [⟨(some t6), oMov (.v (.int .i64 0)), none, none⟩,
   ⟨(some t7), oMov (.v (.bool false)), none, none⟩])
 xRet)
 xSkip))
 (xSeq (xOps [⟨(some t27), oMov (.t t0), none, none⟩,
   ⟨(some t28), oCall 62 [(.t t27)], none, none⟩,
   ⟨(some t8), oMov (.t t28), none, none⟩])
 (xSeq (xSeq (xOps [⟨(some t9), oMov (.v (.int .i64 1)), none, none⟩])
 (xBlock 0 (xLoop c55_l0)))
 c55_r0))))⟩
theorem ok55 : cFunc Try.prog gl ex Try.f55 = some c55 := by kernel_rfl
-- publican/cal.number
def c56_l0 : X := (xSeq (xOps [⟨(some t10), oBin (int2 (cmpO ltI)) (.t t9) (.t t8), none, none⟩])
 (xSeq (xCond (.t t10)
 xSkip
 (xExit 0))
 (xSeq (xBlock 1 (xSeq (xOps [⟨(some t11), oIdxAddrL 1 (.t t7) (.t t9), none, none⟩,
   ⟨(some t12), oLoad1 (.t t11), none, (some (.t t11))⟩,
   ⟨(some t5), oMov (.t t12), none, none⟩])
 (xSeq (xSeq (xOps [⟨(some t13), oMov (.t t5), none, none⟩,
   ⟨(some t14), oBin (int2 (cmpO ltI)) (.t t13) (.v (.int .u8 48)), none, none⟩,
   ⟨(some t15), oMov (.t t14), none, none⟩,
   ⟨(some t16), oMov (.t t5), (some (t15, false)), none⟩,
   ⟨(some t17), oBin (int2 (cmpO gtI)) (.t t16) (.v (.int .u8 57)), (some (t15, false)), none⟩,
   ⟨(some t18), oPick (.t t15) (.v (.bool true)) (.t t17), none, none⟩])
 (xCond (.t t18)
 (xSeq (xOps [⟨(some t2), oMov (.v (.int .i64 (-1))), none, none⟩])
 xRet)
 xSkip))
 (xOps [⟨(some t19), oMov (.t t3), none, none⟩,
   ⟨(some t20), oBin (int2 mulO) (.t t19) (.v (.int .i64 10)), none, none⟩,
   ⟨(some t21), oMov (.t t5), none, none⟩,
   ⟨(some t22), oBin (int2 subO) (.t t21) (.v (.int .u8 48)), none, none⟩,
   ⟨(some t23), oConv .i64 (.t t22), none, none⟩,
   ⟨(some t24), oBin (int2 addO) (.t t20) (.t t23), none, none⟩,
   ⟨(some t3), oMov (.t t24), none, none⟩]))))
 (xOps [⟨(some t25), oBin (int2 addO) (.t t9) (.v (.int .i64 1)), none, none⟩,
   ⟨(some t9), oMov (.t t25), none, none⟩]))))
def c56_r0 : X := (xSeq (xOps [⟨(some t26), oMov (.t t3), none, none⟩,
   ⟨(some t2), oMov (.t t26), none, none⟩])
 xRet)
def c56 : AFunc := ⟨27, [.tmp t2],
 (xSeq (xOps [⟨(some t2), oMov (.v (.int .i64 0)), none, none⟩])
 (xSeq (xOps [⟨(some t3), oMov (.v (.int .i64 0)), none, none⟩])
 (xSeq (xSeq (xOps [⟨(some t6), oMov (.t t0), none, none⟩,
   ⟨(some t7), oStrBytes (.t t6), none, none⟩,
   ⟨(some t8), oLenL (.t t7), none, none⟩,
   ⟨(some t9), oMov (.v (.int .i64 0)), none, none⟩])
 (xBlock 0 (xLoop c56_l0)))
 c56_r0)))⟩
theorem ok56 : cFunc Try.prog gl ex Try.f56 = some c56 := by kernel_rfl
-- publican/cal.Days
def c61 : AFunc := ⟨23, [.tmp t4],
 (xSeq (xOps [⟨(some t4), oMov (.v (.int .i64 0)), none, none⟩])
 (xSeq (xSeq (xOps [⟨(some t5), oMov (.t t1), none, none⟩])
 (xBlock 0 (xSeq (xOps [⟨(some t7), oBin (int2 (cmpO eqI)) (.t t5) (.v (.int .i64 2)), none, none⟩,
   ⟨(some t6), oMov (.t t7), none, none⟩])
 (xCond (.t t6)
 (xSeq (xSeq (xOps [⟨(some t8), oMov (.t t0), none, none⟩,
   ⟨(some t9), oCall 65 [(.t t8)], none, none⟩])
 (xCond (.t t9)
 (xSeq (xOps [⟨(some t4), oMov (.v (.int .i64 29)), none, none⟩])
 xRet)
 xSkip))
 (xSeq (xOps [⟨(some t4), oMov (.v (.int .i64 28)), none, none⟩])
 xRet))
 (xSeq (xSeq (xOps [⟨(some t11), oBin (int2 (cmpO eqI)) (.t t5) (.v (.int .i64 4)), none, none⟩,
   ⟨(some t10), oMov (.t t11), none, none⟩])
 (xCond (.t t10)
 xSkip
 (xSeq (xOps [⟨(some t12), oBin (int2 (cmpO eqI)) (.t t5) (.v (.int .i64 6)), none, none⟩,
   ⟨(some t10), oMov (.t t12), none, none⟩])
 (xCond (.t t10)
 xSkip
 (xSeq (xOps [⟨(some t13), oBin (int2 (cmpO eqI)) (.t t5) (.v (.int .i64 9)), none, none⟩,
   ⟨(some t10), oMov (.t t13), none, none⟩])
 (xCond (.t t10)
 xSkip
 (xOps [⟨(some t14), oBin (int2 (cmpO eqI)) (.t t5) (.v (.int .i64 11)), none, none⟩,
   ⟨(some t10), oMov (.t t14), none, none⟩])))))))
 (xCond (.t t10)
 (xSeq (xOps [⟨(some t4), oMov (.v (.int .i64 30)), none, none⟩])
 xRet)
 (xSeq (xSeq (xOps [⟨(some t16), oBin (int2 (cmpO eqI)) (.t t5) (.v (.int .i64 1)), none, none⟩,
   ⟨(some t15), oMov (.t t16), none, none⟩])
 (xCond (.t t15)
 xSkip
 (xSeq (xOps [⟨(some t17), oBin (int2 (cmpO eqI)) (.t t5) (.v (.int .i64 3)), none, none⟩,
   ⟨(some t15), oMov (.t t17), none, none⟩])
 (xCond (.t t15)
 xSkip
 (xSeq (xOps [⟨(some t18), oBin (int2 (cmpO eqI)) (.t t5) (.v (.int .i64 5)), none, none⟩,
   ⟨(some t15), oMov (.t t18), none, none⟩])
 (xCond (.t t15)
 xSkip
 (xSeq (xOps [⟨(some t19), oBin (int2 (cmpO eqI)) (.t t5) (.v (.int .i64 7)), none, none⟩,
   ⟨(some t15), oMov (.t t19), none, none⟩])
 (xCond (.t t15)
 xSkip
 (xSeq (xOps [⟨(some t20), oBin (int2 (cmpO eqI)) (.t t5) (.v (.int .i64 8)), none, none⟩,
   ⟨(some t15), oMov (.t t20), none, none⟩])
 (xCond (.t t15)
 xSkip
 (xSeq (xOps [⟨(some t21), oBin (int2 (cmpO eqI)) (.t t5) (.v (.int .i64 10)), none, none⟩,
   ⟨(some t15), oMov (.t t21), none, none⟩])
 (xCond (.t t15)
 xSkip
 (xOps [⟨(some t22), oBin (int2 (cmpO eqI)) (.t t5) (.v (.int .i64 12)), none, none⟩,
   ⟨(some t15), oMov (.t t22), none, none⟩])))))))))))))
 (xCond (.t t15)
 (xSeq (xOps [⟨(some t4), oMov (.v (.int .i64 31)), none, none⟩])
 xRet)
 xSkip))))))))
 (xSeq (xOps [⟨(some t4), oMov (.v (.int .i64 0)), none, none⟩])
 xRet)))⟩
theorem ok61 : cFunc Try.prog gl ex Try.f61 = some c61 := by kernel_rfl
end
end Go.Proofs.Ytikdjhlcbkkkfaa.AbsLexN
