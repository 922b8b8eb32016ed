import Derived.Test.YtcjamnbbedpebaaRows
import Derived.Test.YtcjamnbbedpebaaAbsTypKT
import Derived.KernelRfl
namespace Go.Proofs.Ytcjamnbbedpebaa.AbsTypK
open Go Go.Abs Go.Proofs
set_option maxRecDepth 100000
set_option linter.unusedVariables false
noncomputable section
/-- publican/publicanref17.Back -/
def c22 : AFunc := ⟨35, [.cell t2 (some 6)],
 (xSeq (xOps [⟨(some t1), oBox (.t t0), none, none⟩,
   ⟨(some t2), oNew [(.string ⟨⟨[]⟩⟩), (.string ⟨⟨[]⟩⟩), (.int .i64 0), (.int .i64 0), (.int .i64 0), (.slice none 0 0)], none, none⟩])
 (xSeq (xOps [⟨(some t5), oFieldAddr 0 (.t t1), none, none⟩,
   ⟨(some t6), oLoad1 (.t t5), none, (some (.t t5))⟩,
   ⟨(some t7), oFieldAddr 1 (.t t1), none, none⟩,
   ⟨(some t8), oLoad1 (.t t7), none, (some (.t t7))⟩,
   ⟨(some t9), oFieldAddr 2 (.t t1), none, none⟩,
   ⟨(some t10), oLoad1 (.t t9), none, (some (.t t9))⟩,
   ⟨(some t11), oFieldAddr 3 (.t t1), none, none⟩,
   ⟨(some t12), oLoad1 (.t t11), none, (some (.t t11))⟩,
   ⟨(some t13), oFieldAddr 4 (.t t1), none, none⟩,
   ⟨(some t14), oLoad1 (.t t13), none, (some (.t t13))⟩,
   ⟨(some t15), oBuild [(.string ⟨⟨[]⟩⟩), (.string ⟨⟨[]⟩⟩), (.int .i64 0), (.int .i64 0), (.int .i64 0), (.slice none 0 0)] [(0, 1, (.t t6)), (1, 1, (.t t8)), (2, 1, (.t t10)), (3, 1, (.t t12)), (4, 1, (.t t14))], none, none⟩,
   ⟨(some t3), oNew [(.string ⟨⟨[]⟩⟩), (.string ⟨⟨[]⟩⟩), (.int .i64 0), (.int .i64 0), (.int .i64 0), (.slice none 0 0)], none, none⟩,
   ⟨none, oStore 6 (.t t3) (.t t15), none, none⟩])
 (xSeq (xSeq (xOps [⟨(some t4), oMov (.v (.int .i64 0)), none, none⟩])
 (xBlock 0 (xLoop (xSeq (xSeq (xOps [⟨(some t16), oMov (.t t4), none, none⟩,
   ⟨(some t17), oFieldAddr 5 (.t t1), none, none⟩,
   ⟨(some t18), oLoad1 (.t t17), none, (some (.t t17))⟩,
   ⟨(some t19), oLenL (.t t18), none, none⟩,
   ⟨(some t20), oBin (int2 (cmpO ltI)) (.t t16) (.t t19), none, none⟩])
 (xCond (.t t20)
 xSkip
 (xExit 0)))
 (xSeq (xBlock 1 (xReg [⟨(some t23), oFieldAddr 5 (.t t3), none, none⟩,
   ⟨(some t24), oLoad1 (.t t23), none, (some (.t t23))⟩,
   ⟨(some t25), oFieldAddr 5 (.t t1), none, none⟩,
   ⟨(some t26), oLoad1 (.t t25), none, (some (.t t25))⟩,
   ⟨(some t27), oMov (.t t4), none, none⟩,
   ⟨(some t28), oIdxAddrL 6 (.t t26) (.t t27), none, none⟩,
   ⟨(some t29), oLoadN 6 (.t t28), none, none⟩,
   ⟨(some t30), oCall 22 [(.t t29)], none, none⟩,
   ⟨(some t31), oBuildSlice 1 [(.string ⟨⟨[]⟩⟩), (.string ⟨⟨[]⟩⟩), (.int .i64 0), (.int .i64 0), (.int .i64 0), (.slice none 0 0)] [(0, 6, (.t t30))], none, none⟩,
   ⟨(some t32), oAppend 6 80 (.t t24) (.t t31), none, none⟩,
   ⟨(some t33), oFieldAddr 5 (.t t3), none, none⟩,
   ⟨none, oStore 1 (.t t33) (.t t32), none, none⟩] [(0, 2), (1, 2), (0, 3), (1, 3), (0, 4), (1, 4), (2, 4), (3, 4), (0, 5), (1, 5), (0, 6), (1, 6), (0, 7), (1, 7), (0, 8), (1, 8)]))
 (xOps [⟨(some t21), oMov (.t t4), none, none⟩,
   ⟨(some t22), oBin (int2 addO) (.t t21) (.v (.int .i64 1)), none, none⟩,
   ⟨(some t4), oMov (.t t22), none, none⟩]))))))
 (xSeq (xOps [⟨(some t34), oLoadN 6 (.t t3), none, none⟩,
   ⟨none, oStore 6 (.t t2) (.t t34), none, none⟩])
 xRet))))⟩
theorem ok22 : cFunc Try.prog gl ex Try.f22 = some c22 := by kernel_rfl
/-- (*publican/typ.checker).must -/
def c23 : AFunc := ⟨22, [],
 (xSeq (xOps [⟨(some t6), oMov (.t t1), none, none⟩,
   ⟨(some t7), oNot (.t t6), none, none⟩,
   ⟨(some t8), oMov (.t t7), none, none⟩,
   ⟨(some t9), oMov (.t t0), (some (t8, true)), none⟩,
   ⟨(some t10), oNilCheck (.t t9), (some (t8, true)), none⟩,
   ⟨(some t11), oFieldAddr 7 (.t t10), (some (t8, true)), none⟩,
   ⟨(some t12), oLoad1 (.t t11), (some (t8, true)), (some (.t t11))⟩,
   ⟨(some t13), oNot (.t t12), (some (t8, true)), none⟩,
   ⟨(some t14), oPick (.t t8) (.t t13) (.v (.bool false)), none, none⟩])
 (xCond (.t t14)
 (xOps [⟨(some t15), oMov (.t t0), none, none⟩,
   ⟨(some t16), oMov (.t t0), none, none⟩,
   ⟨(some t17), oMov (.t t2), none, none⟩,
   ⟨(some t18), oNilCheck (.t t15), none, none⟩,
   ⟨(some t19), oFieldAddr 7 (.t t18), none, none⟩,
   ⟨none, oStore 1 (.t t19) (.v (.bool true)), none, none⟩,
   ⟨(some t20), oNilCheck (.t t16), none, none⟩,
   ⟨(some t21), oFieldAddr 8 (.t t20), none, none⟩,
   ⟨none, oStore 1 (.t t21) (.t t17), none, none⟩])
 xSkip))⟩
theorem ok23 : cFunc Try.prog gl ex Try.f23 = some c23 := by kernel_rfl
/-- (*publican/typ.checker).table -/
def c24 : AFunc := ⟨94, [],
 (xSeq (xOps [⟨(some t3), oBox (.t t1), none, none⟩])
 (xSeq (xOps [⟨(some t9), oFieldAddr 3 (.t t3), none, none⟩,
   ⟨(some t10), oLoad1 (.t t9), none, (some (.t t9))⟩,
   ⟨(some t4), oMov (.t t10), none, none⟩])
 (xSeq (xOps [⟨(some t11), oMov (.t t0), none, none⟩,
   ⟨(some t12), oMov (.t t4), none, none⟩,
   ⟨(some t13), oBin (int2 (cmpO eqI)) (.t t12) (.v (.int .i64 2)), none, none⟩,
   ⟨(some t14), oMov (.t t13), none, none⟩,
   ⟨(some t15), oMov (.t t4), (some (t14, false)), none⟩,
   ⟨(some t16), oBin (int2 (cmpO eqI)) (.t t15) (.v (.int .i64 3)), (some (t14, false)), none⟩,
   ⟨(some t17), oPick (.t t14) (.v (.bool true)) (.t t16), none, none⟩,
   ⟨(some t18), oMov (.t t17), none, none⟩,
   ⟨(some t19), oMov (.t t4), (some (t18, false)), none⟩,
   ⟨(some t20), oBin (int2 (cmpO eqI)) (.t t19) (.v (.int .i64 5)), (some (t18, false)), none⟩,
   ⟨(some t21), oPick (.t t18) (.v (.bool true)) (.t t20), none, none⟩,
   ⟨(some t22), oMov (.t t21), none, none⟩,
   ⟨(some t23), oFieldAddr 2 (.t t3), (some (t22, true)), none⟩,
   ⟨(some t24), oLoad1 (.t t23), (some (t22, true)), (some (.t t23))⟩,
   ⟨(some t25), oBin (int2 (cmpO neI)) (.t t24) (.v (.int .i64 6)), (some (t22, true)), none⟩,
   ⟨(some t26), oPick (.t t22) (.t t25) (.v (.bool false)), none, none⟩,
   ⟨(some t27), oFieldAddr 4 (.t t3), none, none⟩,
   ⟨(some t28), oLoad1 (.t t27), none, (some (.t t27))⟩,
   ⟨(some t29), oCall 23 [(.t t11), (.t t26), (.t t28)], none, none⟩])
 (xSeq (xOps [⟨(some t30), oFieldAddr 5 (.t t3), none, none⟩,
   ⟨(some t31), oLoad1 (.t t30), none, (some (.t t30))⟩,
   ⟨(some t32), oLenL (.t t31), none, none⟩,
   ⟨(some t33), oMov (.v (.int .i64 0)), none, none⟩])
 (xBlock 0 (xLoop (xSeq (xOps [⟨(some t34), oBin (int2 (cmpO ltI)) (.t t33) (.t t32), none, none⟩])
 (xSeq (xCond (.t t34)
 xSkip
 (xExit 0))
 (xSeq (xBlock 1 (xSeq (xOps [⟨(some t35), oMov (.t t33), none, none⟩,
   ⟨(some t36), oIdxAddrL 6 (.t t31) (.t t33), none, none⟩,
   ⟨(some t37), oLoadN 6 (.t t36), none, none⟩,
   ⟨(some t6), oNew [(.string ⟨⟨[]⟩⟩), (.string ⟨⟨[]⟩⟩), (.int .i64 0), (.int .i64 0), (.int .i64 0), (.slice none 0 0)], none, none⟩,
   ⟨(some t5), oMov (.t t35), none, none⟩,
   ⟨none, oStore 6 (.t t6) (.t t37), none, none⟩])
 (xSeq (xOps [⟨(some t38), oFieldAddr 5 (.t t6), none, none⟩,
   ⟨(some t39), oLoad1 (.t t38), none, (some (.t t38))⟩,
   ⟨(some t40), oFieldAddr 5 (.t t6), none, none⟩,
   ⟨(some t41), oLoad1 (.t t40), none, (some (.t t40))⟩,
   ⟨(some t42), oLenL (.t t41), none, none⟩,
   ⟨(some t43), oBin (int2 subO) (.t t42) (.v (.int .i64 1)), none, none⟩,
   ⟨(some t44), oIdxAddrL 6 (.t t39) (.t t43), none, none⟩,
   ⟨(some t45), oLoadN 6 (.t t44), none, none⟩,
   ⟨(some t7), oNew [(.string ⟨⟨[]⟩⟩), (.string ⟨⟨[]⟩⟩), (.int .i64 0), (.int .i64 0), (.int .i64 0), (.slice none 0 0)], none, none⟩,
   ⟨none, oStore 6 (.t t7) (.t t45), none, none⟩])
 (xSeq (xSeq (xOps [⟨(some t46), oFieldAddr 5 (.t t6), none, none⟩,
   ⟨(some t47), oLoad1 (.t t46), none, (some (.t t46))⟩,
   ⟨(some t48), oLenL (.t t47), none, none⟩,
   ⟨(some t49), oBin (int2 (cmpO eqI)) (.t t48) (.v (.int .i64 2)), none, none⟩])
 (xCond (.t t49)
 (xSeq (xReg [⟨(some t50), oMov (.t t5), none, none⟩,
   ⟨(some t51), oBin (int2 (cmpO eqI)) (.t t50) (.v (.int .i64 0)), none, none⟩,
   ⟨(some t52), oMov (.t t51), none, none⟩,
   ⟨(some t53), oFieldAddr 5 (.t t6), (some (t52, false)), none⟩,
   ⟨(some t54), oLoad1 (.t t53), (some (t52, false)), (some (.t t53))⟩,
   ⟨(some t55), oIdxAddrL 6 (.t t54) (.v (.int .i64 0)), (some (t52, false)), none⟩,
   ⟨(some t56), oFieldAddr 3 (.t t55), (some (t52, false)), none⟩,
   ⟨(some t57), oLoad1 (.t t56), (some (t52, false)), (some (.t t56))⟩,
   ⟨(some t58), oFieldAddr 5 (.t t3), (some (t52, false)), none⟩,
   ⟨(some t59), oLoad1 (.t t58), (some (t52, false)), (some (.t t58))⟩,
   ⟨(some t60), oMov (.t t5), (some (t52, false)), none⟩,
   ⟨(some t61), oBin (int2 subO) (.t t60) (.v (.int .i64 1)), (some (t52, false)), none⟩,
   ⟨(some t62), oIdxAddrL 6 (.t t59) (.t t61), (some (t52, false)), none⟩,
   ⟨(some t63), oFieldAddr 5 (.t t62), (some (t52, false)), none⟩,
   ⟨(some t64), oLoad1 (.t t63), (some (t52, false)), (some (.t t63))⟩,
   ⟨(some t65), oIdxAddrL 6 (.t t64) (.v (.int .i64 0)), (some (t52, false)), none⟩,
   ⟨(some t66), oFieldAddr 3 (.t t65), (some (t52, false)), none⟩,
   ⟨(some t67), oLoad1 (.t t66), (some (t52, false)), (some (.t t66))⟩,
   ⟨(some t68), oBin (int2 (cmpO gtI)) (.t t57) (.t t67), (some (t52, false)), none⟩,
   ⟨(some t69), oPick (.t t52) (.v (.bool true)) (.t t68), none, none⟩,
   ⟨(some t8), oMov (.t t69), none, none⟩] [(3, 8), (4, 8), (5, 8), (6, 8), (7, 8), (3, 9), (4, 9), (5, 9), (6, 9), (7, 9), (3, 10), (4, 10), (5, 10), (6, 10), (7, 10), (8, 10), (9, 10), (3, 11), (4, 11), (5, 11), (6, 11), (7, 11), (8, 11), (9, 11), (3, 12), (4, 12), (5, 12), (6, 12), (7, 12), (3, 13), (4, 13), (5, 13), (6, 13), (7, 13), (3, 14), (4, 14), (5, 14), (6, 14), (7, 14), (3, 15), (4, 15), (5, 15), (6, 15), (7, 15), (3, 16), (4, 16), (5, 16), (6, 16), (7, 16), (3, 17), (4, 17), (5, 17), (6, 17), (7, 17)])
 (xReg [⟨(some t70), oMov (.t t0), none, none⟩,
   ⟨(some t71), oFieldAddr 5 (.t t6), none, none⟩,
   ⟨(some t72), oLoad1 (.t t71), none, (some (.t t71))⟩,
   ⟨(some t73), oIdxAddrL 6 (.t t72) (.v (.int .i64 0)), none, none⟩,
   ⟨(some t74), oFieldAddr 2 (.t t73), none, none⟩,
   ⟨(some t75), oLoad1 (.t t74), none, (some (.t t74))⟩,
   ⟨(some t76), oMov (.t t4), none, none⟩,
   ⟨(some t77), oBin (int2 (cmpO eqI)) (.t t75) (.t t76), none, none⟩,
   ⟨(some t78), oMov (.t t77), none, none⟩,
   ⟨(some t79), oMov (.t t8), (some (t78, true)), none⟩,
   ⟨(some t80), oPick (.t t78) (.t t79) (.v (.bool false)), none, none⟩,
   ⟨(some t81), oFieldAddr 4 (.t t6), none, none⟩,
   ⟨(some t82), oLoad1 (.t t81), none, (some (.t t81))⟩,
   ⟨(some t83), oCall 23 [(.t t70), (.t t80), (.t t82)], none, none⟩] [(0, 1), (0, 2), (0, 3), (0, 4), (0, 5), (0, 6), (1, 6), (2, 6), (3, 6), (4, 6), (5, 6), (0, 7), (0, 8), (0, 9), (0, 10), (0, 11), (1, 11), (2, 11), (3, 11), (4, 11), (5, 11), (6, 11), (7, 11), (8, 11), (9, 11), (10, 11), (0, 12), (1, 12), (2, 12), (3, 12), (4, 12), (5, 12), (6, 12), (7, 12), (8, 12), (9, 12), (10, 12)]))
 xSkip))
 (xOps [⟨(some t84), oMov (.t t0), none, none⟩,
   ⟨(some t85), oFieldAddr 2 (.t t7), none, none⟩,
   ⟨(some t86), oLoad1 (.t t85), none, (some (.t t85))⟩,
   ⟨(some t87), oFieldAddr 2 (.t t3), none, none⟩,
   ⟨(some t88), oLoad1 (.t t87), none, (some (.t t87))⟩,
   ⟨(some t89), oBin (int2 (cmpO eqI)) (.t t86) (.t t88), none, none⟩,
   ⟨(some t90), oFieldAddr 4 (.t t6), none, none⟩,
   ⟨(some t91), oLoad1 (.t t90), none, (some (.t t90))⟩,
   ⟨(some t92), oCall 23 [(.t t84), (.t t89), (.t t91)], none, none⟩])))))
 (xOps [⟨(some t93), oBin (int2 addO) (.t t33) (.v (.int .i64 1)), none, none⟩,
   ⟨(some t33), oMov (.t t93), none, none⟩]))))))))))⟩
theorem ok24 : cFunc Try.prog gl ex Try.f24 = some c24 := by kernel_rfl
/-- (*publican/typ.checker).expr -/
def c25 : AFunc := ⟨41, [.tmp t4],
 (xSeq (xOps [⟨(some t3), oBox (.t t1), none, none⟩,
   ⟨(some t4), oMov (.v (.int .i64 0)), none, none⟩])
 (xSeq (xSeq (xOps [⟨(some t9), oMov (.t t0), none, none⟩,
   ⟨(some t10), oNilCheck (.t t9), none, none⟩,
   ⟨(some t11), oFieldAddr 7 (.t t10), none, none⟩,
   ⟨(some t12), oLoad1 (.t t11), none, (some (.t t11))⟩])
 (xCond (.t t12)
 (xSeq (xOps [⟨(some t4), oMov (.v (.int .i64 0)), none, none⟩])
 xRet)
 xSkip))
 (xSeq (xOps [⟨(some t5), oMov (.v (.slice none 0 0)), none, none⟩])
 (xSeq (xSeq (xOps [⟨(some t13), oFieldAddr 0 (.t t3), none, none⟩,
   ⟨(some t14), oLoad1 (.t t13), none, (some (.t t13))⟩,
   ⟨(some t15), oBin (str2 (cmpS neBytes)) (.t t14) (.v (.string ⟨⟨[115, 117, 109]⟩⟩)), none, none⟩])
 (xCond (.t t15)
 (xSeq (xOps [⟨(some t16), oFieldAddr 5 (.t t3), none, none⟩,
   ⟨(some t17), oLoad1 (.t t16), none, (some (.t t16))⟩,
   ⟨(some t18), oLenL (.t t17), none, none⟩,
   ⟨(some t19), oMov (.v (.int .i64 0)), none, none⟩])
 (xBlock 0 (xLoop (xSeq (xOps [⟨(some t20), oBin (int2 (cmpO ltI)) (.t t19) (.t t18), none, none⟩])
 (xSeq (xCond (.t t20)
 xSkip
 (xExit 0))
 (xSeq (xBlock 1 (xSeq (xOps [⟨(some t21), oIdxAddrL 6 (.t t17) (.t t19), none, none⟩,
   ⟨(some t22), oLoadN 6 (.t t21), none, none⟩,
   ⟨(some t7), oNew [(.string ⟨⟨[]⟩⟩), (.string ⟨⟨[]⟩⟩), (.int .i64 0), (.int .i64 0), (.int .i64 0), (.slice none 0 0)], none, none⟩,
   ⟨none, oStore 6 (.t t7) (.t t22), none, none⟩])
 (xOps [⟨(some t23), oMov (.t t5), none, none⟩,
   ⟨(some t24), oMov (.t t0), none, none⟩,
   ⟨(some t25), oLoadN 6 (.t t7), none, none⟩,
   ⟨(some t26), oCall 25 [(.t t24), (.t t25)], none, none⟩,
   ⟨(some t27), oBuildSlice 1 [(.int .i64 0)] [(0, 1, (.t t26))], none, none⟩,
   ⟨(some t28), oAppend 1 8 (.t t23) (.t t27), none, none⟩,
   ⟨(some t5), oMov (.t t28), none, none⟩])))
 (xOps [⟨(some t29), oBin (int2 addO) (.t t19) (.v (.int .i64 1)), none, none⟩,
   ⟨(some t19), oMov (.t t29), none, none⟩])))))))
 xSkip))
 (xSeq (xOps [⟨(some t30), oMov (.t t0), none, none⟩,
   ⟨(some t31), oLoadN 6 (.t t3), none, none⟩,
   ⟨(some t32), oMov (.t t5), none, none⟩,
   ⟨(some t33), oCall 41 [(.t t30), (.t t31), (.t t32)], none, none⟩,
   ⟨(some t8), oMov (.t t33), none, none⟩])
 (xSeq (xOps [⟨(some t34), oMov (.t t0), none, none⟩,
   ⟨(some t35), oMov (.t t8), none, none⟩,
   ⟨(some t36), oBin (int2 (cmpO neI)) (.t t35) (.v (.int .i64 0)), none, none⟩,
   ⟨(some t37), oFieldAddr 4 (.t t3), none, none⟩,
   ⟨(some t38), oLoad1 (.t t37), none, (some (.t t37))⟩,
   ⟨(some t39), oCall 23 [(.t t34), (.t t36), (.t t38)], none, none⟩])
 (xSeq (xOps [⟨(some t40), oMov (.t t8), none, none⟩,
   ⟨(some t4), oMov (.t t40), none, none⟩])
 xRet)))))))⟩
theorem ok25 : cFunc Try.prog gl ex Try.f25 = some c25 := by kernel_rfl
/-- slices.Clone[[]publican/typ.Field,publican/typ.Field] -/
def c26 : AFunc := ⟨8, [.tmp t2],
 (xSeq (xOps [⟨(some t2), oMov (.v (.slice none 0 0)), none, none⟩])
 (xSeq (xSeq (xOps [⟨(some t3), oMov (.t t0), none, none⟩,
   ⟨(some t4), oEqv eqL false (.t t3) (.v (.slice none 0 0)), none, none⟩])
 (xCond (.t t4)
 (xSeq (xOps [⟨(some t2), oMov (.v (.slice none 0 0)), none, none⟩])
 xRet)
 xSkip))
 (xSeq (xOps [⟨(some t5), oBuildSlice 0 [] [], none, none⟩,
   ⟨(some t6), oMov (.t t0), none, none⟩,
   ⟨(some t7), oAppend 2 24 (.t t5) (.t t6), none, none⟩,
   ⟨(some t2), oMov (.t t7), none, none⟩])
 xRet)))⟩
theorem ok26 : cFunc Try.prog gl ex Try.f26 = some c26 := by kernel_rfl
/-- publican/typ.fields -/
def c27 : AFunc := ⟨29, [.tmp t4],
 (xSeq (xOps [⟨(some t2), oBox (.t t0), none, none⟩,
   ⟨(some t4), oMov (.v (.slice none 0 0)), none, none⟩])
 (xSeq (xOps [⟨(some t5), oMov (.v (.slice none 0 0)), none, none⟩])
 (xSeq (xSeq (xOps [⟨(some t8), oFieldAddr 5 (.t t2), none, none⟩,
   ⟨(some t9), oLoad1 (.t t8), none, (some (.t t8))⟩,
   ⟨(some t10), oLenL (.t t9), none, none⟩,
   ⟨(some t11), oMov (.v (.int .i64 0)), none, none⟩])
 (xBlock 0 (xLoop (xSeq (xOps [⟨(some t12), oBin (int2 (cmpO ltI)) (.t t11) (.t t10), none, none⟩])
 (xSeq (xCond (.t t12)
 xSkip
 (xExit 0))
 (xSeq (xBlock 1 (xSeq (xOps [⟨(some t13), oIdxAddrL 6 (.t t9) (.t t11), none, none⟩,
   ⟨(some t14), oLoadN 6 (.t t13), none, none⟩,
   ⟨(some t7), oNew [(.string ⟨⟨[]⟩⟩), (.string ⟨⟨[]⟩⟩), (.int .i64 0), (.int .i64 0), (.int .i64 0), (.slice none 0 0)], none, none⟩,
   ⟨none, oStore 6 (.t t7) (.t t14), none, none⟩])
 (xSeq (xOps [⟨(some t15), oFieldAddr 0 (.t t7), none, none⟩,
   ⟨(some t16), oLoad1 (.t t15), none, (some (.t t15))⟩,
   ⟨(some t17), oMov (.t t1), none, none⟩,
   ⟨(some t18), oBin (str2 (cmpS eqBytes)) (.t t16) (.t t17), none, none⟩])
 (xCond (.t t18)
 (xOps [⟨(some t19), oMov (.t t5), none, none⟩,
   ⟨(some t20), oFieldAddr 1 (.t t7), none, none⟩,
   ⟨(some t21), oLoad1 (.t t20), none, (some (.t t20))⟩,
   ⟨(some t22), oFieldAddr 2 (.t t7), none, none⟩,
   ⟨(some t23), oLoad1 (.t t22), none, (some (.t t22))⟩,
   ⟨(some t24), oBuild [(.string ⟨⟨[]⟩⟩), (.int .i64 0)] [(0, 1, (.t t21)), (1, 1, (.t t23))], none, none⟩,
   ⟨(some t25), oBuildSlice 1 [(.string ⟨⟨[]⟩⟩), (.int .i64 0)] [(0, 2, (.t t24))], none, none⟩,
   ⟨(some t26), oAppend 2 24 (.t t19) (.t t25), none, none⟩,
   ⟨(some t5), oMov (.t t26), none, none⟩])
 xSkip))))
 (xOps [⟨(some t27), oBin (int2 addO) (.t t11) (.v (.int .i64 1)), none, none⟩,
   ⟨(some t11), oMov (.t t27), none, none⟩])))))))
 (xSeq (xOps [⟨(some t28), oMov (.t t5), none, none⟩,
   ⟨(some t4), oMov (.t t28), none, none⟩])
 xRet))))⟩
theorem ok27 : cFunc Try.prog gl ex Try.f27 = some c27 := by kernel_rfl
/-- publican/publicanref9.letter -/
def c30 : AFunc := ⟨9, [.tmp t2],
 (xSeq (xOps [⟨(some t2), oMov (.v (.bool false)), none, none⟩])
 (xSeq (xOps [⟨(some t3), oMov (.t t0), none, none⟩,
   ⟨(some t4), oBin (int2 (cmpO geI)) (.t t3) (.v (.int .u8 97)), none, none⟩,
   ⟨(some t5), oMov (.t t4), none, none⟩,
   ⟨(some t6), oMov (.t t0), (some (t5, true)), none⟩,
   ⟨(some t7), oBin (int2 (cmpO leI)) (.t t6) (.v (.int .u8 122)), (some (t5, true)), none⟩,
   ⟨(some t8), oPick (.t t5) (.t t7) (.v (.bool false)), none, none⟩,
   ⟨(some t2), oMov (.t t8), none, none⟩])
 xRet))⟩
theorem ok30 : cFunc Try.prog gl ex Try.f30 = some c30 := by kernel_rfl
/-- publican/publicanref9.digit -/
def c31 : AFunc := ⟨9, [.tmp t2],
 (xSeq (xOps [⟨(some t2), oMov (.v (.bool false)), none, none⟩])
 (xSeq (xOps [⟨(some t3), oMov (.t t0), none, none⟩,
   ⟨(some t4), oBin (int2 (cmpO geI)) (.t t3) (.v (.int .u8 48)), none, none⟩,
   ⟨(some t5), oMov (.t t4), none, none⟩,
   ⟨(some t6), oMov (.t t0), (some (t5, true)), none⟩,
   ⟨(some t7), oBin (int2 (cmpO leI)) (.t t6) (.v (.int .u8 57)), (some (t5, true)), none⟩,
   ⟨(some t8), oPick (.t t5) (.t t7) (.v (.bool false)), none, none⟩,
   ⟨(some t2), oMov (.t t8), none, none⟩])
 xRet))⟩
theorem ok31 : cFunc Try.prog gl ex Try.f31 = some c31 := by kernel_rfl
/-- publican/publicanref9.Kept -/
def c32 : AFunc := ⟨18, [.tmp t2],
 (xSeq (xOps [⟨(some t2), oMov (.v (.bool false)), none, none⟩])
 (xSeq (xOps [⟨(some t5), oBuildSlice 23 (rep 23 [(.string ⟨⟨[]⟩⟩)]) [(0, 1, (.v (.string ⟨⟨[105, 110, 112, 117, 116]⟩⟩))), (1, 1, (.v (.string ⟨⟨[114, 117, 108, 101]⟩⟩))), (2, 1, (.v (.string ⟨⟨[116, 97, 98, 108, 101]⟩⟩))), (3, 1, (.v (.string ⟨⟨[98, 111, 111, 108]⟩⟩))), (4, 1, (.v (.string ⟨⟨[99, 111, 117, 110, 116]⟩⟩))), (5, 1, (.v (.string ⟨⟨[109, 111, 110, 101, 121]⟩⟩))), (6, 1, (.v (.string ⟨⟨[114, 97, 116, 101]⟩⟩))), (7, 1, (.v (.string ⟨⟨[100, 97, 116, 101]⟩⟩))), (8, 1, (.v (.string ⟨⟨[109, 111, 110, 101, 121, 115]⟩⟩))), (9, 1, (.v (.string ⟨⟨[105, 102]⟩⟩))), (10, 1, (.v (.string ⟨⟨[116, 104, 101, 110]⟩⟩))), (11, 1, (.v (.string ⟨⟨[101, 108, 115, 101]⟩⟩))), (12, 1, (.v (.string ⟨⟨[97, 110, 100]⟩⟩))), (13, 1, (.v (.string ⟨⟨[111, 114]⟩⟩))), (14, 1, (.v (.string ⟨⟨[110, 111, 116]⟩⟩))), (15, 1, (.v (.string ⟨⟨[109, 105, 110]⟩⟩))), (16, 1, (.v (.string ⟨⟨[109, 97, 120]⟩⟩))), (17, 1, (.v (.string ⟨⟨[115, 117, 109]⟩⟩))), (18, 1, (.v (.string ⟨⟨[105, 110]⟩⟩))), (19, 1, (.v (.string ⟨⟨[108, 101, 110]⟩⟩))), (20, 1, (.v (.string ⟨⟨[97, 116]⟩⟩))), (21, 1, (.v (.string ⟨⟨[116, 114, 117, 101]⟩⟩))), (22, 1, (.v (.string ⟨⟨[102, 97, 108, 115, 101]⟩⟩)))], none, none⟩,
   ⟨(some t3), oMov (.t t5), none, none⟩])
 (xSeq (xSeq (xOps [⟨(some t4), oMov (.v (.int .i64 0)), none, none⟩])
 (xBlock 0 (xLoop (xSeq (xSeq (xOps [⟨(some t6), oMov (.t t4), none, none⟩,
   ⟨(some t7), oMov (.t t3), none, none⟩,
   ⟨(some t8), oLenL (.t t7), none, none⟩,
   ⟨(some t9), oBin (int2 (cmpO ltI)) (.t t6) (.t t8), none, none⟩])
 (xCond (.t t9)
 xSkip
 (xExit 0)))
 (xSeq (xBlock 1 (xSeq (xOps [⟨(some t12), oMov (.t t3), none, none⟩,
   ⟨(some t13), oMov (.t t4), none, none⟩,
   ⟨(some t14), oIdxAddrL 1 (.t t12) (.t t13), none, none⟩,
   ⟨(some t15), oLoad1 (.t t14), none, (some (.t t14))⟩,
   ⟨(some t16), oMov (.t t0), none, none⟩,
   ⟨(some t17), oBin (str2 (cmpS eqBytes)) (.t t15) (.t t16), none, none⟩])
 (xCond (.t t17)
 (xSeq (xOps [⟨(some t2), oMov (.v (.bool true)), none, none⟩])
 xRet)
 xSkip)))
 (xOps [⟨(some t10), oMov (.t t4), none, none⟩,
   ⟨(some t11), oBin (int2 addO) (.t t10) (.v (.int .i64 1)), none, none⟩,
   ⟨(some t4), oMov (.t t11), none, none⟩]))))))
 (xSeq (xOps [⟨(some t2), oMov (.v (.bool false)), none, none⟩])
 xRet))))⟩
theorem ok32 : cFunc Try.prog gl ex Try.f32 = some c32 := by kernel_rfl
/-- publican/publicanref9.digits -/
def c33 : AFunc := ⟨151, [.cell t4 (some 4), .tmp t5],
 (xSeq (xOps [⟨(some t4), oNew [(.int .i64 0), (.string ⟨⟨[]⟩⟩), (.int .i64 0), (.int .i64 0)], none, none⟩,
   ⟨(some t5), oMov (.v (.int .i64 0)), none, none⟩])
 (xSeq (xSeq (xOps [⟨(some t16), oMov (.t t1), none, none⟩,
   ⟨(some t17), oBin (int2 addO) (.t t16) (.v (.int .i64 10)), none, none⟩,
   ⟨(some t18), oMov (.t t0), none, none⟩,
   ⟨(some t19), oLenS (.t t18), none, none⟩,
   ⟨(some t20), oBin (int2 (cmpO leI)) (.t t17) (.t t19), none, none⟩,
   ⟨(some t21), oMov (.t t20), none, none⟩,
   ⟨(some t22), oMov (.t t1), (some (t21, true)), none⟩,
   ⟨(some t23), oBin (int2 addO) (.t t22) (.v (.int .i64 10)), (some (t21, true)), none⟩,
   ⟨(some t24), oMov (.t t0), (some (t21, true)), none⟩,
   ⟨(some t25), oLenS (.t t24), (some (t21, true)), none⟩,
   ⟨(some t26), oBin (int2 (cmpO eqI)) (.t t23) (.t t25), (some (t21, true)), none⟩,
   ⟨(some t27), oMov (.t t26), (some (t21, true)), none⟩,
   ⟨(some t28), oMov (.t t0), (some (t27, false)), none⟩,
   ⟨(some t29), oMov (.t t1), (some (t27, false)), none⟩,
   ⟨(some t30), oBin (int2 addO) (.t t29) (.v (.int .i64 10)), (some (t27, false)), none⟩,
   ⟨(some t31), oIdxS (.t t28) (.t t30), (some (t27, false)), none⟩,
   ⟨(some t32), oCall 31 [(.t t31)], (some (t27, false)), none⟩,
   ⟨(some t33), oNot (.t t32), (some (t27, false)), none⟩,
   ⟨(some t34), oPick (.t t27) (.v (.bool true)) (.t t33), (some (t21, true)), none⟩,
   ⟨(some t35), oPick (.t t21) (.t t34) (.v (.bool false)), none, none⟩])
 (xCond (.t t35)
 (xSeq (xOps [⟨(some t37), oMov (.t t0), none, none⟩,
   ⟨(some t38), oMov (.t t1), none, none⟩,
   ⟨(some t39), oMov (.t t1), none, none⟩,
   ⟨(some t40), oBin (int2 addO) (.t t39) (.v (.int .i64 10)), none, none⟩,
   ⟨(some t41), oSliceS (.t t37) (some (.t t38)) (some (.t t40)), none, none⟩,
   ⟨(some t42), oCall 46 [(.t t41)], none, none⟩,
   ⟨(some t36), oMov (.t t42), none, none⟩,
   ⟨(some t43), oExtract (.t t36) 0, none, none⟩,
   ⟨(some t44), oExtract (.t t36) 1, none, none⟩,
   ⟨(some t6), oMov (.t t43), none, none⟩,
   ⟨(some t7), oMov (.t t44), none, none⟩])
 (xSeq (xOps [⟨(some t45), oMov (.t t7), none, none⟩])
 (xCond (.t t45)
 (xSeq (xOps [⟨(some t46), oMov (.t t0), none, none⟩,
   ⟨(some t47), oMov (.t t1), none, none⟩,
   ⟨(some t48), oMov (.t t1), none, none⟩,
   ⟨(some t49), oBin (int2 addO) (.t t48) (.v (.int .i64 10)), none, none⟩,
   ⟨(some t50), oSliceS (.t t46) (some (.t t47)) (some (.t t49)), none, none⟩,
   ⟨(some t51), oMov (.t t6), none, none⟩,
   ⟨(some t52), oMov (.t t1), none, none⟩,
   ⟨(some t53), oBuild [(.int .i64 0), (.string ⟨⟨[]⟩⟩), (.int .i64 0), (.int .i64 0)] [(0, 1, (.v (.int .i64 6))), (1, 1, (.t t50)), (2, 1, (.t t51)), (3, 1, (.t t52))], none, none⟩,
   ⟨none, oStore 4 (.t t4) (.t t53), none, none⟩,
   ⟨(some t5), oMov (.v (.int .i64 10)), none, none⟩])
 xRet)
 xSkip)))
 xSkip))
 (xSeq (xOps [⟨(some t54), oMov (.t t0), none, none⟩,
   ⟨(some t55), oMov (.t t1), none, none⟩,
   ⟨(some t56), oCall 34 [(.t t54), (.t t55)], none, none⟩,
   ⟨(some t8), oMov (.t t56), none, none⟩])
 (xSeq (xOps [⟨(some t57), oMov (.t t1), none, none⟩,
   ⟨(some t58), oMov (.t t8), none, none⟩,
   ⟨(some t59), oBin (int2 addO) (.t t57) (.t t58), none, none⟩,
   ⟨(some t9), oMov (.v (.string ⟨⟨[]⟩⟩)), none, none⟩,
   ⟨(some t10), oMov (.t t59), none, none⟩])
 (xSeq (xSeq (xOps [⟨(some t60), oMov (.t t10), none, none⟩,
   ⟨(some t61), oMov (.t t0), none, none⟩,
   ⟨(some t62), oLenS (.t t61), none, none⟩,
   ⟨(some t63), oBin (int2 (cmpO ltI)) (.t t60) (.t t62), none, none⟩,
   ⟨(some t64), oMov (.t t63), none, none⟩,
   ⟨(some t65), oMov (.t t0), (some (t64, true)), none⟩,
   ⟨(some t66), oMov (.t t10), (some (t64, true)), none⟩,
   ⟨(some t67), oIdxS (.t t65) (.t t66), (some (t64, true)), none⟩,
   ⟨(some t68), oBin (int2 (cmpO eqI)) (.t t67) (.v (.int .u8 46)), (some (t64, true)), none⟩,
   ⟨(some t69), oPick (.t t64) (.t t68) (.v (.bool false)), none, none⟩])
 (xCond (.t t69)
 (xSeq (xOps [⟨(some t70), oMov (.t t0), none, none⟩,
   ⟨(some t71), oMov (.t t10), none, none⟩,
   ⟨(some t72), oBin (int2 addO) (.t t71) (.v (.int .i64 1)), none, none⟩,
   ⟨(some t73), oCall 34 [(.t t70), (.t t72)], none, none⟩,
   ⟨(some t11), oMov (.t t73), none, none⟩])
 (xSeq (xOps [⟨(some t74), oMov (.t t11), none, none⟩,
   ⟨(some t75), oBin (int2 (cmpO geI)) (.t t74) (.v (.int .i64 1)), none, none⟩,
   ⟨(some t76), oMov (.t t75), none, none⟩,
   ⟨(some t77), oMov (.t t11), (some (t76, true)), none⟩,
   ⟨(some t78), oBin (int2 (cmpO leI)) (.t t77) (.v (.int .i64 4)), (some (t76, true)), none⟩,
   ⟨(some t79), oPick (.t t76) (.t t78) (.v (.bool false)), none, none⟩])
 (xCond (.t t79)
 (xSeq (xOps [⟨(some t80), oMov (.t t0), none, none⟩,
   ⟨(some t81), oMov (.t t10), none, none⟩,
   ⟨(some t82), oBin (int2 addO) (.t t81) (.v (.int .i64 1)), none, none⟩,
   ⟨(some t83), oMov (.t t10), none, none⟩,
   ⟨(some t84), oBin (int2 addO) (.t t83) (.v (.int .i64 1)), none, none⟩,
   ⟨(some t85), oMov (.t t11), none, none⟩,
   ⟨(some t86), oBin (int2 addO) (.t t84) (.t t85), none, none⟩,
   ⟨(some t87), oSliceS (.t t80) (some (.t t82)) (some (.t t86)), none, none⟩,
   ⟨(some t9), oMov (.t t87), none, none⟩])
 (xOps [⟨(some t88), oMov (.t t10), none, none⟩,
   ⟨(some t89), oBin (int2 addO) (.t t88) (.v (.int .i64 1)), none, none⟩,
   ⟨(some t90), oMov (.t t11), none, none⟩,
   ⟨(some t91), oBin (int2 addO) (.t t89) (.t t90), none, none⟩,
   ⟨(some t10), oMov (.t t91), none, none⟩]))
 xSkip)))
 xSkip))
 (xSeq (xSeq (xOps [⟨(some t92), oMov (.t t10), none, none⟩,
   ⟨(some t93), oMov (.t t0), none, none⟩,
   ⟨(some t94), oLenS (.t t93), none, none⟩,
   ⟨(some t95), oBin (int2 (cmpO ltI)) (.t t92) (.t t94), none, none⟩,
   ⟨(some t96), oMov (.t t95), none, none⟩,
   ⟨(some t97), oMov (.t t0), (some (t96, true)), none⟩,
   ⟨(some t98), oMov (.t t10), (some (t96, true)), none⟩,
   ⟨(some t99), oIdxS (.t t97) (.t t98), (some (t96, true)), none⟩,
   ⟨(some t100), oBin (int2 (cmpO eqI)) (.t t99) (.v (.int .u8 37)), (some (t96, true)), none⟩,
   ⟨(some t101), oPick (.t t96) (.t t100) (.v (.bool false)), none, none⟩])
 (xCond (.t t101)
 (xSeq (xOps [⟨(some t103), oMov (.t t0), none, none⟩,
   ⟨(some t104), oMov (.t t1), none, none⟩,
   ⟨(some t105), oMov (.t t1), none, none⟩,
   ⟨(some t106), oMov (.t t8), none, none⟩,
   ⟨(some t107), oBin (int2 addO) (.t t105) (.t t106), none, none⟩,
   ⟨(some t108), oSliceS (.t t103) (some (.t t104)) (some (.t t107)), none, none⟩,
   ⟨(some t109), oMov (.t t9), none, none⟩,
   ⟨(some t110), oCall 47 [(.t t108), (.t t109)], none, none⟩,
   ⟨(some t102), oMov (.t t110), none, none⟩,
   ⟨(some t111), oExtract (.t t102) 0, none, none⟩,
   ⟨(some t112), oExtract (.t t102) 1, none, none⟩,
   ⟨(some t12), oMov (.t t111), none, none⟩,
   ⟨(some t13), oMov (.t t112), none, none⟩])
 (xSeq (xSeq (xOps [⟨(some t113), oMov (.t t13), none, none⟩,
   ⟨(some t114), oNot (.t t113), none, none⟩])
 (xCond (.t t114)
 (xSeq (xOps [⟨(some t115), oBuild [(.int .i64 0), (.string ⟨⟨[]⟩⟩), (.int .i64 0), (.int .i64 0)] [], none, none⟩,
   ⟨none, oStore 4 (.t t4) (.t t115), none, none⟩,
   ⟨(some t5), oMov (.v (.int .i64 0)), none, none⟩])
 xRet)
 xSkip))
 (xSeq (xOps [⟨(some t116), oMov (.t t0), none, none⟩,
   ⟨(some t117), oMov (.t t1), none, none⟩,
   ⟨(some t118), oMov (.t t10), none, none⟩,
   ⟨(some t119), oBin (int2 addO) (.t t118) (.v (.int .i64 1)), none, none⟩,
   ⟨(some t120), oSliceS (.t t116) (some (.t t117)) (some (.t t119)), none, none⟩,
   ⟨(some t121), oMov (.t t12), none, none⟩,
   ⟨(some t122), oMov (.t t1), none, none⟩,
   ⟨(some t123), oBuild [(.int .i64 0), (.string ⟨⟨[]⟩⟩), (.int .i64 0), (.int .i64 0)] [(0, 1, (.v (.int .i64 5))), (1, 1, (.t t120)), (2, 1, (.t t121)), (3, 1, (.t t122))], none, none⟩,
   ⟨(some t124), oMov (.t t10), none, none⟩,
   ⟨(some t125), oBin (int2 addO) (.t t124) (.v (.int .i64 1)), none, none⟩,
   ⟨(some t126), oMov (.t t1), none, none⟩,
   ⟨(some t127), oBin (int2 subO) (.t t125) (.t t126), none, none⟩,
   ⟨none, oStore 4 (.t t4) (.t t123), none, none⟩,
   ⟨(some t5), oMov (.t t127), none, none⟩])
 xRet)))
 xSkip))
 (xSeq (xOps [⟨(some t129), oMov (.t t0), none, none⟩,
   ⟨(some t130), oMov (.t t1), none, none⟩,
   ⟨(some t131), oMov (.t t1), none, none⟩,
   ⟨(some t132), oMov (.t t8), none, none⟩,
   ⟨(some t133), oBin (int2 addO) (.t t131) (.t t132), none, none⟩,
   ⟨(some t134), oSliceS (.t t129) (some (.t t130)) (some (.t t133)), none, none⟩,
   ⟨(some t135), oCall 48 [(.t t134), (.v (.int .i64 4503599627370496))], none, none⟩,
   ⟨(some t128), oMov (.t t135), none, none⟩,
   ⟨(some t136), oExtract (.t t128) 0, none, none⟩,
   ⟨(some t137), oExtract (.t t128) 1, none, none⟩,
   ⟨(some t14), oMov (.t t136), none, none⟩,
   ⟨(some t15), oMov (.t t137), none, none⟩])
 (xSeq (xSeq (xOps [⟨(some t138), oMov (.t t15), none, none⟩,
   ⟨(some t139), oNot (.t t138), none, none⟩])
 (xCond (.t t139)
 (xSeq (xOps [⟨(some t140), oBuild [(.int .i64 0), (.string ⟨⟨[]⟩⟩), (.int .i64 0), (.int .i64 0)] [], none, none⟩,
   ⟨none, oStore 4 (.t t4) (.t t140), none, none⟩,
   ⟨(some t5), oMov (.v (.int .i64 0)), none, none⟩])
 xRet)
 xSkip))
 (xSeq (xOps [⟨(some t141), oMov (.t t0), none, none⟩,
   ⟨(some t142), oMov (.t t1), none, none⟩,
   ⟨(some t143), oMov (.t t1), none, none⟩,
   ⟨(some t144), oMov (.t t8), none, none⟩,
   ⟨(some t145), oBin (int2 addO) (.t t143) (.t t144), none, none⟩,
   ⟨(some t146), oSliceS (.t t141) (some (.t t142)) (some (.t t145)), none, none⟩,
   ⟨(some t147), oMov (.t t14), none, none⟩,
   ⟨(some t148), oMov (.t t1), none, none⟩,
   ⟨(some t149), oBuild [(.int .i64 0), (.string ⟨⟨[]⟩⟩), (.int .i64 0), (.int .i64 0)] [(0, 1, (.v (.int .i64 3))), (1, 1, (.t t146)), (2, 1, (.t t147)), (3, 1, (.t t148))], none, none⟩,
   ⟨(some t150), oMov (.t t8), none, none⟩,
   ⟨none, oStore 4 (.t t4) (.t t149), none, none⟩,
   ⟨(some t5), oMov (.t t150), none, none⟩])
 xRet)))))))))⟩
theorem ok33 : cFunc Try.prog gl ex Try.f33 = some c33 := by kernel_rfl
/-- publican/publicanref9.run -/
def c34 : AFunc := ⟨23, [.tmp t4],
 (xSeq (xOps [⟨(some t4), oMov (.v (.int .i64 0)), none, none⟩])
 (xSeq (xOps [⟨(some t5), oMov (.v (.int .i64 0)), none, none⟩])
 (xSeq (xBlock 0 (xLoop (xSeq (xSeq (xOps [⟨(some t6), oMov (.t t1), none, none⟩,
   ⟨(some t7), oMov (.t t5), none, none⟩,
   ⟨(some t8), oBin (int2 addO) (.t t6) (.t t7), none, none⟩,
   ⟨(some t9), oMov (.t t0), none, none⟩,
   ⟨(some t10), oLenS (.t t9), none, none⟩,
   ⟨(some t11), oBin (int2 (cmpO ltI)) (.t t8) (.t t10), none, none⟩,
   ⟨(some t12), oMov (.t t11), none, none⟩,
   ⟨(some t13), oMov (.t t0), (some (t12, true)), none⟩,
   ⟨(some t14), oMov (.t t1), (some (t12, true)), none⟩,
   ⟨(some t15), oMov (.t t5), (some (t12, true)), none⟩,
   ⟨(some t16), oBin (int2 addO) (.t t14) (.t t15), (some (t12, true)), none⟩,
   ⟨(some t17), oIdxS (.t t13) (.t t16), (some (t12, true)), none⟩,
   ⟨(some t18), oCall 31 [(.t t17)], (some (t12, true)), none⟩,
   ⟨(some t19), oPick (.t t12) (.t t18) (.v (.bool false)), none, none⟩])
 (xCond (.t t19)
 xSkip
 (xExit 0)))
 (xBlock 1 (xOps [⟨(some t20), oMov (.t t5), none, none⟩,
   ⟨(some t21), oBin (int2 addO) (.t t20) (.v (.int .i64 1)), none, none⟩,
   ⟨(some t5), oMov (.t t21), none, none⟩])))))
 (xSeq (xOps [⟨(some t22), oMov (.t t5), none, none⟩,
   ⟨(some t4), oMov (.t t22), none, none⟩])
 xRet))))⟩
theorem ok34 : cFunc Try.prog gl ex Try.f34 = some c34 := by kernel_rfl
/-- publican/publicanref9.money -/
def c35 : AFunc := ⟨37, [.tmp t4, .tmp t5],
 (xSeq (xOps [⟨(some t4), oMov (.v (.int .i64 0)), none, none⟩,
   ⟨(some t5), oMov (.v (.bool false)), none, none⟩])
 (xSeq (xOps [⟨(some t11), oMov (.t t0), none, none⟩,
   ⟨(some t12), oCall 48 [(.t t11), (.v (.int .i64 4503599627370496))], none, none⟩,
   ⟨(some t10), oMov (.t t12), none, none⟩,
   ⟨(some t13), oExtract (.t t10) 0, none, none⟩,
   ⟨(some t14), oExtract (.t t10) 1, none, none⟩,
   ⟨(some t6), oMov (.t t13), none, none⟩,
   ⟨(some t7), oMov (.t t14), none, none⟩])
 (xSeq (xOps [⟨(some t16), oMov (.t t1), none, none⟩,
   ⟨(some t17), oCall 48 [(.t t16), (.v (.int .i64 99))], none, none⟩,
   ⟨(some t15), oMov (.t t17), none, none⟩,
   ⟨(some t18), oExtract (.t t15) 0, none, none⟩,
   ⟨(some t19), oExtract (.t t15) 1, none, none⟩,
   ⟨(some t8), oMov (.t t18), none, none⟩,
   ⟨(some t9), oMov (.t t19), none, none⟩])
 (xSeq (xSeq (xOps [⟨(some t20), oMov (.t t7), none, none⟩,
   ⟨(some t21), oNot (.t t20), none, none⟩,
   ⟨(some t22), oMov (.t t21), none, none⟩,
   ⟨(some t23), oMov (.t t6), (some (t22, false)), none⟩,
   ⟨(some t24), oBin (int2 (cmpO gtI)) (.t t23) (.v (.int .i64 45035996273704)), (some (t22, false)), none⟩,
   ⟨(some t25), oPick (.t t22) (.v (.bool true)) (.t t24), none, none⟩,
   ⟨(some t26), oMov (.t t25), none, none⟩,
   ⟨(some t27), oMov (.t t6), (some (t26, false)), none⟩,
   ⟨(some t28), oBin (int2 mulO) (.v (.int .i64 100)) (.t t27), (some (t26, false)), none⟩,
   ⟨(some t29), oMov (.t t8), (some (t26, false)), none⟩,
   ⟨(some t30), oBin (int2 addO) (.t t28) (.t t29), (some (t26, false)), none⟩,
   ⟨(some t31), oBin (int2 (cmpO gtI)) (.t t30) (.v (.int .i64 4503599627370496)), (some (t26, false)), none⟩,
   ⟨(some t32), oPick (.t t26) (.v (.bool true)) (.t t31), none, none⟩])
 (xCond (.t t32)
 (xSeq (xOps [⟨(some t4), oMov (.v (.int .i64 0)), none, none⟩,
   ⟨(some t5), oMov (.v (.bool false)), none, none⟩])
 xRet)
 xSkip))
 (xSeq (xOps [⟨(some t33), oMov (.t t6), none, none⟩,
   ⟨(some t34), oBin (int2 mulO) (.v (.int .i64 100)) (.t t33), none, none⟩,
   ⟨(some t35), oMov (.t t8), none, none⟩,
   ⟨(some t36), oBin (int2 addO) (.t t34) (.t t35), none, none⟩,
   ⟨(some t4), oMov (.t t36), none, none⟩,
   ⟨(some t5), oMov (.v (.bool true)), none, none⟩])
 xRet)))))⟩
theorem ok35 : cFunc Try.prog gl ex Try.f35 = some c35 := by kernel_rfl
/-- publican/publicanref9.sign -/
def c36 : AFunc := ⟨44, [.tmp t2],
 (xSeq (xOps [⟨(some t2), oMov (.v (.string ⟨⟨[]⟩⟩)), none, none⟩])
 (xSeq (xOps [⟨(some t7), oBuildSlice 4 [(.string ⟨⟨[]⟩⟩), (.string ⟨⟨[]⟩⟩), (.string ⟨⟨[]⟩⟩), (.string ⟨⟨[]⟩⟩)] [(0, 1, (.v (.string ⟨⟨[60, 61]⟩⟩))), (1, 1, (.v (.string ⟨⟨[62, 61]⟩⟩))), (2, 1, (.v (.string ⟨⟨[61, 61]⟩⟩))), (3, 1, (.v (.string ⟨⟨[33, 61]⟩⟩)))], none, none⟩,
   ⟨(some t3), oMov (.t t7), none, none⟩])
 (xSeq (xSeq (xOps [⟨(some t4), oMov (.v (.int .i64 0)), none, none⟩])
 (xBlock 0 (xLoop (xSeq (xSeq (xOps [⟨(some t8), oMov (.t t4), none, none⟩,
   ⟨(some t9), oMov (.t t3), none, none⟩,
   ⟨(some t10), oLenL (.t t9), none, none⟩,
   ⟨(some t11), oBin (int2 (cmpO ltI)) (.t t8) (.t t10), none, none⟩])
 (xCond (.t t11)
 xSkip
 (xExit 0)))
 (xSeq (xBlock 1 (xSeq (xReg [⟨(some t14), oMov (.t t0), none, none⟩,
   ⟨(some t15), oLenS (.t t14), none, none⟩,
   ⟨(some t16), oBin (int2 (cmpO geI)) (.t t15) (.v (.int .i64 2)), none, none⟩,
   ⟨(some t17), oMov (.t t16), none, none⟩,
   ⟨(some t18), oMov (.t t0), (some (t17, true)), none⟩,
   ⟨(some t19), oSliceS (.t t18) none (some (.v (.int .i64 2))), (some (t17, true)), none⟩,
   ⟨(some t20), oMov (.t t3), (some (t17, true)), none⟩,
   ⟨(some t21), oMov (.t t4), (some (t17, true)), none⟩,
   ⟨(some t22), oIdxAddrL 1 (.t t20) (.t t21), (some (t17, true)), none⟩,
   ⟨(some t23), oLoad1 (.t t22), (some (t17, true)), (some (.t t22))⟩,
   ⟨(some t24), oBin (str2 (cmpS eqBytes)) (.t t19) (.t t23), (some (t17, true)), none⟩,
   ⟨(some t25), oPick (.t t17) (.t t24) (.v (.bool false)), none, none⟩] [(4, 6), (5, 6), (4, 7), (5, 7), (6, 7), (4, 8), (5, 8), (4, 9), (5, 9)])
 (xCond (.t t25)
 (xSeq (xOps [⟨(some t26), oMov (.t t3), none, none⟩,
   ⟨(some t27), oMov (.t t4), none, none⟩,
   ⟨(some t28), oIdxAddrL 1 (.t t26) (.t t27), none, none⟩,
   ⟨(some t29), oLoad1 (.t t28), none, (some (.t t28))⟩,
   ⟨(some t2), oMov (.t t29), none, none⟩])
 xRet)
 xSkip)))
 (xOps [⟨(some t12), oMov (.t t4), none, none⟩,
   ⟨(some t13), oBin (int2 addO) (.t t12) (.v (.int .i64 1)), none, none⟩,
   ⟨(some t4), oMov (.t t13), none, none⟩]))))))
 (xSeq (xOps [⟨(some t5), oMov (.v (.string ⟨⟨[40, 41, 123, 125, 91, 93, 44, 59, 58, 61, 43, 45, 42, 47, 60, 62]⟩⟩)), none, none⟩])
 (xSeq (xSeq (xOps [⟨(some t6), oMov (.v (.int .i64 0)), none, none⟩])
 (xBlock 2 (xLoop (xSeq (xSeq (xOps [⟨(some t30), oMov (.t t6), none, none⟩,
   ⟨(some t31), oMov (.t t5), none, none⟩,
   ⟨(some t32), oLenS (.t t31), none, none⟩,
   ⟨(some t33), oBin (int2 (cmpO ltI)) (.t t30) (.t t32), none, none⟩])
 (xCond (.t t33)
 xSkip
 (xExit 2)))
 (xSeq (xBlock 3 (xSeq (xReg [⟨(some t36), oMov (.t t0), none, none⟩,
   ⟨(some t37), oIdxS (.t t36) (.v (.int .i64 0)), none, none⟩,
   ⟨(some t38), oMov (.t t5), none, none⟩,
   ⟨(some t39), oMov (.t t6), none, none⟩,
   ⟨(some t40), oIdxS (.t t38) (.t t39), none, none⟩,
   ⟨(some t41), oBin (int2 (cmpO eqI)) (.t t37) (.t t40), none, none⟩] [(0, 2), (1, 2), (0, 3), (1, 3), (2, 3), (0, 4), (1, 4)])
 (xCond (.t t41)
 (xSeq (xOps [⟨(some t42), oMov (.t t0), none, none⟩,
   ⟨(some t43), oSliceS (.t t42) none (some (.v (.int .i64 1))), none, none⟩,
   ⟨(some t2), oMov (.t t43), none, none⟩])
 xRet)
 xSkip)))
 (xOps [⟨(some t34), oMov (.t t6), none, none⟩,
   ⟨(some t35), oBin (int2 addO) (.t t34) (.v (.int .i64 1)), none, none⟩,
   ⟨(some t6), oMov (.t t35), none, none⟩]))))))
 (xSeq (xOps [⟨(some t2), oMov (.v (.string ⟨⟨[]⟩⟩)), none, none⟩])
 xRet))))))⟩
theorem ok36 : cFunc Try.prog gl ex Try.f36 = some c36 := by kernel_rfl
/-- (*publican/publicanref9.parser).decl -/
def c40 : AFunc := ⟨135, [.cell t2 (some 6)],
 (xSeq (xOps [⟨(some t2), oNew [(.string ⟨⟨[]⟩⟩), (.string ⟨⟨[]⟩⟩), (.int .i64 0), (.int .i64 0), (.int .i64 0), (.slice none 0 0)], none, none⟩])
 (xSeq (xOps [⟨(some t11), oMov (.t t0), none, none⟩,
   ⟨(some t12), oCall 51 [(.t t11)], none, none⟩,
   ⟨(some t13), oField none 3 (.t t12), none, none⟩,
   ⟨(some t3), oMov (.t t13), none, none⟩])
 (xSeq (xOps [⟨(some t14), oMov (.t t3), none, none⟩,
   ⟨(some t15), oBuild [(.string ⟨⟨[]⟩⟩), (.string ⟨⟨[]⟩⟩), (.int .i64 0), (.int .i64 0), (.int .i64 0), (.slice none 0 0)] [(4, 1, (.t t14))], none, none⟩,
   ⟨(some t4), oNew [(.string ⟨⟨[]⟩⟩), (.string ⟨⟨[]⟩⟩), (.int .i64 0), (.int .i64 0), (.int .i64 0), (.slice none 0 0)], none, none⟩,
   ⟨none, oStore 6 (.t t4) (.t t15), none, none⟩])
 (xSeq (xBlock 0 (xSeq (xOps [⟨(some t19), oMov (.t t0), none, none⟩,
   ⟨(some t20), oCall 52 [(.t t19), (.v (.string ⟨⟨[105, 110, 112, 117, 116]⟩⟩))], none, none⟩,
   ⟨(some t18), oMov (.t t20), none, none⟩])
 (xCond (.t t18)
 (xSeq (xOps [⟨(some t21), oFieldAddr 0 (.t t4), none, none⟩,
   ⟨none, oStore 1 (.t t21) (.v (.string ⟨⟨[105, 110, 112, 117, 116]⟩⟩)), none, none⟩])
 (xSeq (xOps [⟨(some t22), oMov (.t t0), none, none⟩,
   ⟨(some t23), oCall 53 [(.t t22)], none, none⟩,
   ⟨(some t24), oFieldAddr 1 (.t t4), none, none⟩,
   ⟨none, oStore 1 (.t t24) (.t t23), none, none⟩])
 (xSeq (xOps [⟨(some t25), oMov (.t t0), none, none⟩,
   ⟨(some t26), oCall 54 [(.t t25)], none, none⟩,
   ⟨(some t27), oFieldAddr 2 (.t t4), none, none⟩,
   ⟨none, oStore 1 (.t t27) (.t t26), none, none⟩])
 (xOps [⟨(some t28), oMov (.t t0), none, none⟩,
   ⟨(some t29), oCall 55 [(.t t28), (.v (.string ⟨⟨[59]⟩⟩))], none, none⟩]))))
 (xSeq (xOps [⟨(some t31), oMov (.t t0), none, none⟩,
   ⟨(some t32), oCall 52 [(.t t31), (.v (.string ⟨⟨[114, 117, 108, 101]⟩⟩))], none, none⟩,
   ⟨(some t30), oMov (.t t32), none, none⟩])
 (xCond (.t t30)
 (xSeq (xOps [⟨(some t33), oFieldAddr 0 (.t t4), none, none⟩,
   ⟨none, oStore 1 (.t t33) (.v (.string ⟨⟨[114, 117, 108, 101]⟩⟩)), none, none⟩])
 (xSeq (xOps [⟨(some t34), oMov (.t t0), none, none⟩,
   ⟨(some t35), oCall 53 [(.t t34)], none, none⟩,
   ⟨(some t36), oFieldAddr 1 (.t t4), none, none⟩,
   ⟨none, oStore 1 (.t t36) (.t t35), none, none⟩])
 (xSeq (xOps [⟨(some t37), oMov (.t t0), none, none⟩,
   ⟨(some t38), oCall 54 [(.t t37)], none, none⟩,
   ⟨(some t39), oFieldAddr 2 (.t t4), none, none⟩,
   ⟨none, oStore 1 (.t t39) (.t t38), none, none⟩])
 (xSeq (xOps [⟨(some t40), oMov (.t t0), none, none⟩,
   ⟨(some t41), oCall 55 [(.t t40), (.v (.string ⟨⟨[61]⟩⟩))], none, none⟩])
 (xSeq (xOps [⟨(some t42), oMov (.t t0), none, none⟩,
   ⟨(some t43), oCall 56 [(.t t42)], none, none⟩,
   ⟨(some t5), oNew [(.string ⟨⟨[]⟩⟩), (.string ⟨⟨[]⟩⟩), (.int .i64 0), (.int .i64 0), (.int .i64 0), (.slice none 0 0)], none, none⟩,
   ⟨none, oStore 6 (.t t5) (.t t43), none, none⟩])
 (xSeq (xOps [⟨(some t44), oLoadN 6 (.t t5), none, none⟩,
   ⟨(some t45), oBuildSlice 1 [(.string ⟨⟨[]⟩⟩), (.string ⟨⟨[]⟩⟩), (.int .i64 0), (.int .i64 0), (.int .i64 0), (.slice none 0 0)] [(0, 6, (.t t44))], none, none⟩,
   ⟨(some t46), oFieldAddr 5 (.t t4), none, none⟩,
   ⟨none, oStore 1 (.t t46) (.t t45), none, none⟩])
 (xOps [⟨(some t47), oMov (.t t0), none, none⟩,
   ⟨(some t48), oCall 55 [(.t t47), (.v (.string ⟨⟨[59]⟩⟩))], none, none⟩])))))))
 (xSeq (xOps [⟨(some t50), oMov (.t t0), none, none⟩,
   ⟨(some t51), oCall 52 [(.t t50), (.v (.string ⟨⟨[116, 97, 98, 108, 101]⟩⟩))], none, none⟩,
   ⟨(some t49), oMov (.t t51), none, none⟩])
 (xCond (.t t49)
 (xSeq (xOps [⟨(some t52), oFieldAddr 0 (.t t4), none, none⟩,
   ⟨none, oStore 1 (.t t52) (.v (.string ⟨⟨[116, 97, 98, 108, 101]⟩⟩)), none, none⟩])
 (xSeq (xOps [⟨(some t53), oMov (.t t0), none, none⟩,
   ⟨(some t54), oCall 53 [(.t t53)], none, none⟩,
   ⟨(some t55), oFieldAddr 1 (.t t4), none, none⟩,
   ⟨none, oStore 1 (.t t55) (.t t54), none, none⟩])
 (xSeq (xOps [⟨(some t56), oMov (.t t0), none, none⟩,
   ⟨(some t57), oCall 54 [(.t t56)], none, none⟩,
   ⟨(some t58), oFieldAddr 3 (.t t4), none, none⟩,
   ⟨none, oStore 1 (.t t58) (.t t57), none, none⟩])
 (xSeq (xOps [⟨(some t59), oMov (.t t0), none, none⟩,
   ⟨(some t60), oCall 54 [(.t t59)], none, none⟩,
   ⟨(some t61), oFieldAddr 2 (.t t4), none, none⟩,
   ⟨none, oStore 1 (.t t61) (.t t60), none, none⟩])
 (xSeq (xOps [⟨(some t62), oMov (.t t0), none, none⟩,
   ⟨(some t63), oCall 55 [(.t t62), (.v (.string ⟨⟨[123]⟩⟩))], none, none⟩])
 (xSeq (xBlock 1 (xLoop (xSeq (xSeq (xOps [⟨(some t64), oMov (.t t0), none, none⟩,
   ⟨(some t65), oNilCheck (.t t64), none, none⟩,
   ⟨(some t66), oFieldAddr 2 (.t t65), none, none⟩,
   ⟨(some t67), oLoad1 (.t t66), none, (some (.t t66))⟩,
   ⟨(some t68), oBin (int2 (cmpO ltI)) (.t t67) (.v (.int .i64 0)), none, none⟩,
   ⟨(some t69), oMov (.t t68), none, none⟩,
   ⟨(some t70), oMov (.t t0), (some (t69, true)), none⟩,
   ⟨(some t71), oCall 57 [(.t t70), (.v (.string ⟨⟨[101, 108, 115, 101]⟩⟩))], (some (t69, true)), none⟩,
   ⟨(some t72), oNot (.t t71), (some (t69, true)), none⟩,
   ⟨(some t73), oPick (.t t69) (.t t72) (.v (.bool false)), none, none⟩])
 (xCond (.t t73)
 xSkip
 (xExit 1)))
 (xBlock 2 (xSeq (xSeq (xOps [⟨(some t74), oFieldAddr 5 (.t t4), none, none⟩,
   ⟨(some t75), oLoad1 (.t t74), none, (some (.t t74))⟩,
   ⟨(some t76), oLenL (.t t75), none, none⟩,
   ⟨(some t77), oBin (int2 (cmpO eqI)) (.t t76) (.v (.int .i64 32)), none, none⟩])
 (xCond (.t t77)
 (xSeq (xOps [⟨(some t78), oMov (.t t0), none, none⟩,
   ⟨(some t79), oCall 58 [(.t t78)], none, none⟩])
 (xExit 1))
 xSkip))
 (xSeq (xOps [⟨(some t80), oMov (.t t0), none, none⟩,
   ⟨(some t81), oCall 51 [(.t t80)], none, none⟩,
   ⟨(some t82), oField none 3 (.t t81), none, none⟩,
   ⟨(some t83), oBuild [(.string ⟨⟨[]⟩⟩), (.string ⟨⟨[]⟩⟩), (.int .i64 0), (.int .i64 0), (.int .i64 0), (.slice none 0 0)] [(0, 1, (.v (.string ⟨⟨[114, 111, 119]⟩⟩))), (4, 1, (.t t82))], none, none⟩,
   ⟨(some t6), oNew [(.string ⟨⟨[]⟩⟩), (.string ⟨⟨[]⟩⟩), (.int .i64 0), (.int .i64 0), (.int .i64 0), (.slice none 0 0)], none, none⟩,
   ⟨none, oStore 6 (.t t6) (.t t83), none, none⟩])
 (xSeq (xOps [⟨(some t84), oMov (.t t0), none, none⟩,
   ⟨(some t85), oCall 59 [(.t t84)], none, none⟩,
   ⟨(some t7), oNew [(.string ⟨⟨[]⟩⟩), (.string ⟨⟨[]⟩⟩), (.int .i64 0), (.int .i64 0), (.int .i64 0), (.slice none 0 0)], none, none⟩,
   ⟨none, oStore 6 (.t t7) (.t t85), none, none⟩])
 (xSeq (xOps [⟨(some t86), oMov (.t t0), none, none⟩,
   ⟨(some t87), oCall 55 [(.t t86), (.v (.string ⟨⟨[58]⟩⟩))], none, none⟩])
 (xSeq (xOps [⟨(some t88), oMov (.t t0), none, none⟩,
   ⟨(some t89), oCall 59 [(.t t88)], none, none⟩,
   ⟨(some t8), oNew [(.string ⟨⟨[]⟩⟩), (.string ⟨⟨[]⟩⟩), (.int .i64 0), (.int .i64 0), (.int .i64 0), (.slice none 0 0)], none, none⟩,
   ⟨none, oStore 6 (.t t8) (.t t89), none, none⟩])
 (xSeq (xOps [⟨(some t90), oMov (.t t0), none, none⟩,
   ⟨(some t91), oCall 55 [(.t t90), (.v (.string ⟨⟨[44]⟩⟩))], none, none⟩])
 (xSeq (xOps [⟨(some t92), oLoadN 6 (.t t7), none, none⟩,
   ⟨(some t93), oLoadN 6 (.t t8), none, none⟩,
   ⟨(some t94), oBuildSlice 2 [(.string ⟨⟨[]⟩⟩), (.string ⟨⟨[]⟩⟩), (.int .i64 0), (.int .i64 0), (.int .i64 0), (.slice none 0 0), (.string ⟨⟨[]⟩⟩), (.string ⟨⟨[]⟩⟩), (.int .i64 0), (.int .i64 0), (.int .i64 0), (.slice none 0 0)] [(0, 6, (.t t92)), (6, 6, (.t t93))], none, none⟩,
   ⟨(some t95), oFieldAddr 5 (.t t6), none, none⟩,
   ⟨none, oStore 1 (.t t95) (.t t94), none, none⟩])
 (xOps [⟨(some t96), oFieldAddr 5 (.t t4), none, none⟩,
   ⟨(some t97), oLoad1 (.t t96), none, (some (.t t96))⟩,
   ⟨(some t98), oLoadN 6 (.t t6), none, none⟩,
   ⟨(some t99), oBuildSlice 1 [(.string ⟨⟨[]⟩⟩), (.string ⟨⟨[]⟩⟩), (.int .i64 0), (.int .i64 0), (.int .i64 0), (.slice none 0 0)] [(0, 6, (.t t98))], none, none⟩,
   ⟨(some t100), oAppend 6 80 (.t t97) (.t t99), none, none⟩,
   ⟨(some t101), oFieldAddr 5 (.t t4), none, none⟩,
   ⟨none, oStore 1 (.t t101) (.t t100), none, none⟩]))))))))))))
 (xSeq (xSeq (xOps [⟨(some t102), oMov (.t t0), none, none⟩,
   ⟨(some t103), oNilCheck (.t t102), none, none⟩,
   ⟨(some t104), oFieldAddr 2 (.t t103), none, none⟩,
   ⟨(some t105), oLoad1 (.t t104), none, (some (.t t104))⟩,
   ⟨(some t106), oBin (int2 (cmpO ltI)) (.t t105) (.v (.int .i64 0)), none, none⟩,
   ⟨(some t107), oMov (.t t106), none, none⟩,
   ⟨(some t108), oFieldAddr 5 (.t t4), (some (t107, true)), none⟩,
   ⟨(some t109), oLoad1 (.t t108), (some (t107, true)), (some (.t t108))⟩,
   ⟨(some t110), oLenL (.t t109), (some (t107, true)), none⟩,
   ⟨(some t111), oBin (int2 (cmpO eqI)) (.t t110) (.v (.int .i64 32)), (some (t107, true)), none⟩,
   ⟨(some t112), oPick (.t t107) (.t t111) (.v (.bool false)), none, none⟩])
 (xCond (.t t112)
 (xOps [⟨(some t113), oMov (.t t0), none, none⟩,
   ⟨(some t114), oCall 58 [(.t t113)], none, none⟩])
 xSkip))
 (xSeq (xOps [⟨(some t115), oMov (.t t0), none, none⟩,
   ⟨(some t116), oCall 51 [(.t t115)], none, none⟩,
   ⟨(some t117), oField none 3 (.t t116), none, none⟩,
   ⟨(some t118), oBuild [(.string ⟨⟨[]⟩⟩), (.string ⟨⟨[]⟩⟩), (.int .i64 0), (.int .i64 0), (.int .i64 0), (.slice none 0 0)] [(0, 1, (.v (.string ⟨⟨[114, 111, 119]⟩⟩))), (4, 1, (.t t117))], none, none⟩,
   ⟨(some t9), oNew [(.string ⟨⟨[]⟩⟩), (.string ⟨⟨[]⟩⟩), (.int .i64 0), (.int .i64 0), (.int .i64 0), (.slice none 0 0)], none, none⟩,
   ⟨none, oStore 6 (.t t9) (.t t118), none, none⟩])
 (xSeq (xOps [⟨(some t119), oMov (.t t0), none, none⟩,
   ⟨(some t120), oCall 55 [(.t t119), (.v (.string ⟨⟨[101, 108, 115, 101]⟩⟩))], none, none⟩])
 (xSeq (xOps [⟨(some t121), oMov (.t t0), none, none⟩,
   ⟨(some t122), oCall 59 [(.t t121)], none, none⟩,
   ⟨(some t10), oNew [(.string ⟨⟨[]⟩⟩), (.string ⟨⟨[]⟩⟩), (.int .i64 0), (.int .i64 0), (.int .i64 0), (.slice none 0 0)], none, none⟩,
   ⟨none, oStore 6 (.t t10) (.t t122), none, none⟩])
 (xSeq (xOps [⟨(some t123), oLoadN 6 (.t t10), none, none⟩,
   ⟨(some t124), oBuildSlice 1 [(.string ⟨⟨[]⟩⟩), (.string ⟨⟨[]⟩⟩), (.int .i64 0), (.int .i64 0), (.int .i64 0), (.slice none 0 0)] [(0, 6, (.t t123))], none, none⟩,
   ⟨(some t125), oFieldAddr 5 (.t t9), none, none⟩,
   ⟨none, oStore 1 (.t t125) (.t t124), none, none⟩])
 (xSeq (xOps [⟨(some t126), oFieldAddr 5 (.t t4), none, none⟩,
   ⟨(some t127), oLoad1 (.t t126), none, (some (.t t126))⟩,
   ⟨(some t128), oLoadN 6 (.t t9), none, none⟩,
   ⟨(some t129), oBuildSlice 1 [(.string ⟨⟨[]⟩⟩), (.string ⟨⟨[]⟩⟩), (.int .i64 0), (.int .i64 0), (.int .i64 0), (.slice none 0 0)] [(0, 6, (.t t128))], none, none⟩,
   ⟨(some t130), oAppend 6 80 (.t t127) (.t t129), none, none⟩,
   ⟨(some t131), oFieldAddr 5 (.t t4), none, none⟩,
   ⟨none, oStore 1 (.t t131) (.t t130), none, none⟩])
 (xOps [⟨(some t132), oMov (.t t0), none, none⟩,
   ⟨(some t133), oCall 55 [(.t t132), (.v (.string ⟨⟨[125]⟩⟩))], none, none⟩])))))))))))))
 (xOps [⟨(some t16), oMov (.t t0), none, none⟩,
   ⟨(some t17), oCall 60 [(.t t16)], none, none⟩]))))))))
 (xSeq (xOps [⟨(some t134), oLoadN 6 (.t t4), none, none⟩,
   ⟨none, oStore 6 (.t t2) (.t t134), none, none⟩])
 xRet)))))⟩
theorem ok40 : cFunc Try.prog gl ex Try.f40 = some c40 := by kernel_rfl
/-- (*publican/typ.checker).kind -/
def c41 : AFunc := ⟨95, [.tmp t6],
 (xSeq (xOps [⟨(some t4), oBox (.t t1), none, none⟩,
   ⟨(some t6), oMov (.v (.int .i64 0)), none, none⟩])
 (xSeq (xSeq (xOps [⟨(some t9), oFieldAddr 0 (.t t4), none, none⟩,
   ⟨(some t10), oLoad1 (.t t9), none, (some (.t t9))⟩])
 (xBlock 0 (xSeq (xOps [⟨(some t21), oBin (str2 (cmpS eqBytes)) (.t t10) (.v (.string ⟨⟨[108, 105, 116]⟩⟩)), none, none⟩,
   ⟨(some t20), oMov (.t t21), none, none⟩])
 (xCond (.t t20)
 (xSeq (xOps [⟨(some t22), oFieldAddr 2 (.t t4), none, none⟩,
   ⟨(some t23), oLoad1 (.t t22), none, (some (.t t22))⟩,
   ⟨(some t6), oMov (.t t23), none, none⟩])
 xRet)
 (xSeq (xOps [⟨(some t25), oBin (str2 (cmpS eqBytes)) (.t t10) (.v (.string ⟨⟨[110, 97, 109, 101]⟩⟩)), none, none⟩,
   ⟨(some t24), oMov (.t t25), none, none⟩])
 (xCond (.t t24)
 (xSeq (xOps [⟨(some t26), oMov (.t t0), none, none⟩,
   ⟨(some t27), oFieldAddr 1 (.t t4), none, none⟩,
   ⟨(some t28), oLoad1 (.t t27), none, (some (.t t27))⟩,
   ⟨(some t29), oCall 61 [(.t t26), (.t t28)], none, none⟩,
   ⟨(some t6), oMov (.t t29), none, none⟩])
 xRet)
 (xSeq (xSeq (xOps [⟨(some t31), oBin (str2 (cmpS eqBytes)) (.t t10) (.v (.string ⟨⟨[110, 101, 103]⟩⟩)), none, none⟩,
   ⟨(some t30), oMov (.t t31), none, none⟩])
 (xCond (.t t30)
 xSkip
 (xOps [⟨(some t32), oBin (str2 (cmpS eqBytes)) (.t t10) (.v (.string ⟨⟨[110, 111, 116]⟩⟩)), none, none⟩,
   ⟨(some t30), oMov (.t t32), none, none⟩])))
 (xCond (.t t30)
 (xSeq (xReg [⟨(some t33), oFieldAddr 0 (.t t4), none, none⟩,
   ⟨(some t34), oLoad1 (.t t33), none, (some (.t t33))⟩,
   ⟨(some t35), oMov (.t t2), none, none⟩,
   ⟨(some t36), oIdxAddrL 1 (.t t35) (.v (.int .i64 0)), none, none⟩,
   ⟨(some t37), oLoad1 (.t t36), none, (some (.t t36))⟩,
   ⟨(some t38), oCall 62 [(.t t34), (.t t37)], none, none⟩,
   ⟨(some t6), oMov (.t t38), none, none⟩] [(0, 2), (1, 2), (0, 3), (1, 3), (0, 4), (1, 4)])
 xRet)
 (xSeq (xOps [⟨(some t40), oBin (str2 (cmpS eqBytes)) (.t t10) (.v (.string ⟨⟨[105, 102]⟩⟩)), none, none⟩,
   ⟨(some t39), oMov (.t t40), none, none⟩])
 (xCond (.t t39)
 (xSeq (xReg [⟨(some t41), oMov (.t t2), none, none⟩,
   ⟨(some t42), oIdxAddrL 1 (.t t41) (.v (.int .i64 0)), none, none⟩,
   ⟨(some t43), oLoad1 (.t t42), none, (some (.t t42))⟩,
   ⟨(some t44), oBin (int2 (cmpO eqI)) (.t t43) (.v (.int .i64 1)), none, none⟩,
   ⟨(some t45), oMov (.t t44), none, none⟩,
   ⟨(some t46), oMov (.t t2), (some (t45, true)), none⟩,
   ⟨(some t47), oIdxAddrL 1 (.t t46) (.v (.int .i64 1)), (some (t45, true)), none⟩,
   ⟨(some t48), oLoad1 (.t t47), (some (t45, true)), (some (.t t47))⟩,
   ⟨(some t49), oMov (.t t2), (some (t45, true)), none⟩,
   ⟨(some t50), oIdxAddrL 1 (.t t49) (.v (.int .i64 2)), (some (t45, true)), none⟩,
   ⟨(some t51), oLoad1 (.t t50), (some (t45, true)), (some (.t t50))⟩,
   ⟨(some t52), oBin (int2 (cmpO eqI)) (.t t48) (.t t51), (some (t45, true)), none⟩,
   ⟨(some t53), oPick (.t t45) (.t t52) (.v (.bool false)), none, none⟩,
   ⟨(some t54), oMov (.t t53), none, none⟩,
   ⟨(some t55), oMov (.t t2), (some (t54, true)), none⟩,
   ⟨(some t56), oIdxAddrL 1 (.t t55) (.v (.int .i64 1)), (some (t54, true)), none⟩,
   ⟨(some t57), oLoad1 (.t t56), (some (t54, true)), (some (.t t56))⟩,
   ⟨(some t58), oBin (int2 (cmpO neI)) (.t t57) (.v (.int .i64 6)), (some (t54, true)), none⟩,
   ⟨(some t59), oPick (.t t54) (.t t58) (.v (.bool false)), none, none⟩] [(5, 8), (6, 8), (7, 8), (5, 9), (6, 9), (7, 9), (5, 10), (6, 10), (7, 10)])
 (xCond (.t t59)
 (xSeq (xOps [⟨(some t60), oMov (.t t2), none, none⟩,
   ⟨(some t61), oIdxAddrL 1 (.t t60) (.v (.int .i64 1)), none, none⟩,
   ⟨(some t62), oLoad1 (.t t61), none, (some (.t t61))⟩,
   ⟨(some t6), oMov (.t t62), none, none⟩])
 xRet)
 xSkip))
 (xSeq (xOps [⟨(some t64), oBin (str2 (cmpS eqBytes)) (.t t10) (.v (.string ⟨⟨[108, 101, 110]⟩⟩)), none, none⟩,
   ⟨(some t63), oMov (.t t64), none, none⟩])
 (xCond (.t t63)
 (xSeq (xOps [⟨(some t65), oMov (.t t2), none, none⟩,
   ⟨(some t66), oIdxAddrL 1 (.t t65) (.v (.int .i64 0)), none, none⟩,
   ⟨(some t67), oLoad1 (.t t66), none, (some (.t t66))⟩,
   ⟨(some t68), oBin (int2 (cmpO eqI)) (.t t67) (.v (.int .i64 6)), none, none⟩])
 (xCond (.t t68)
 (xSeq (xOps [⟨(some t6), oMov (.v (.int .i64 2)), none, none⟩])
 xRet)
 xSkip))
 (xSeq (xOps [⟨(some t70), oBin (str2 (cmpS eqBytes)) (.t t10) (.v (.string ⟨⟨[97, 116]⟩⟩)), none, none⟩,
   ⟨(some t69), oMov (.t t70), none, none⟩])
 (xCond (.t t69)
 (xSeq (xOps [⟨(some t72), oMov (.t t0), none, none⟩,
   ⟨(some t73), oFieldAddr 1 (.t t4), none, none⟩,
   ⟨(some t74), oLoad1 (.t t73), none, (some (.t t73))⟩,
   ⟨(some t75), oBuildSlice 1 [(.string ⟨⟨[]⟩⟩)] [(0, 1, (.v (.string ⟨⟨[116, 97, 98, 108, 101]⟩⟩)))], none, none⟩,
   ⟨(some t76), oCall 63 [(.t t72), (.t t74), (.t t75)], none, none⟩,
   ⟨(some t71), oMov (.t t76), none, none⟩,
   ⟨(some t77), oExtract (.t t71) 0, none, none⟩,
   ⟨(some t78), oExtract (.t t71) 1, none, none⟩,
   ⟨(some t7), oNew [(.string ⟨⟨[]⟩⟩), (.string ⟨⟨[]⟩⟩), (.int .i64 0), (.int .i64 0), (.int .i64 0), (.slice none 0 0)], none, none⟩,
   ⟨none, oStore 6 (.t t7) (.t t77), none, none⟩,
   ⟨(some t8), oMov (.t t78), none, none⟩])
 (xSeq (xReg [⟨(some t79), oMov (.t t8), none, none⟩,
   ⟨(some t80), oMov (.t t79), none, none⟩,
   ⟨(some t81), oFieldAddr 3 (.t t7), (some (t80, true)), none⟩,
   ⟨(some t82), oLoad1 (.t t81), (some (t80, true)), (some (.t t81))⟩,
   ⟨(some t83), oMov (.t t2), (some (t80, true)), none⟩,
   ⟨(some t84), oIdxAddrL 1 (.t t83) (.v (.int .i64 0)), (some (t80, true)), none⟩,
   ⟨(some t85), oLoad1 (.t t84), (some (t80, true)), (some (.t t84))⟩,
   ⟨(some t86), oBin (int2 (cmpO eqI)) (.t t82) (.t t85), (some (t80, true)), none⟩,
   ⟨(some t87), oPick (.t t80) (.t t86) (.v (.bool false)), none, none⟩] [(2, 4), (3, 4), (2, 5), (3, 5), (2, 6), (3, 6)])
 (xCond (.t t87)
 (xSeq (xOps [⟨(some t88), oFieldAddr 2 (.t t7), none, none⟩,
   ⟨(some t89), oLoad1 (.t t88), none, (some (.t t88))⟩,
   ⟨(some t6), oMov (.t t89), none, none⟩])
 xRet)
 xSkip)))
 (xSeq (xOps [⟨(some t91), oBin (str2 (cmpS eqBytes)) (.t t10) (.v (.string ⟨⟨[115, 117, 109]⟩⟩)), none, none⟩,
   ⟨(some t90), oMov (.t t91), none, none⟩])
 (xCond (.t t90)
 (xSeq (xOps [⟨(some t92), oMov (.t t0), none, none⟩,
   ⟨(some t93), oLoadN 6 (.t t4), none, none⟩,
   ⟨(some t94), oCall 64 [(.t t92), (.t t93)], none, none⟩,
   ⟨(some t6), oMov (.t t94), none, none⟩])
 xRet)
 (xSeq (xReg [⟨(some t11), oFieldAddr 0 (.t t4), none, none⟩,
   ⟨(some t12), oLoad1 (.t t11), none, (some (.t t11))⟩,
   ⟨(some t13), oMov (.t t2), none, none⟩,
   ⟨(some t14), oIdxAddrL 1 (.t t13) (.v (.int .i64 0)), none, none⟩,
   ⟨(some t15), oLoad1 (.t t14), none, (some (.t t14))⟩,
   ⟨(some t16), oMov (.t t2), none, none⟩,
   ⟨(some t17), oIdxAddrL 1 (.t t16) (.v (.int .i64 1)), none, none⟩,
   ⟨(some t18), oLoad1 (.t t17), none, (some (.t t17))⟩,
   ⟨(some t19), oCall 65 [(.t t12), (.t t15), (.t t18)], none, none⟩,
   ⟨(some t6), oMov (.t t19), none, none⟩] [(0, 2), (1, 2), (0, 3), (1, 3), (0, 4), (1, 4), (0, 5), (1, 5), (2, 5), (3, 5), (4, 5), (0, 6), (1, 6), (2, 6), (3, 6), (4, 6), (0, 7), (1, 7), (2, 7), (3, 7), (4, 7)])
 xRet)))))))))))))))))
 (xSeq (xOps [⟨(some t6), oMov (.v (.int .i64 0)), none, none⟩])
 xRet)))⟩
theorem ok41 : cFunc Try.prog gl ex Try.f41 = some c41 := by kernel_rfl
/-- publican/publicanref1.ReadDay -/
def c46 : AFunc := ⟨71, [.tmp t2, .tmp t3],
 (xSeq (xOps [⟨(some t2), oMov (.v (.int .i64 0)), none, none⟩,
   ⟨(some t3), oMov (.v (.bool false)), none, none⟩])
 (xSeq (xSeq (xOps [⟨(some t7), oMov (.t t0), none, none⟩,
   ⟨(some t8), oLenS (.t t7), none, none⟩,
   ⟨(some t9), oBin (int2 (cmpO neI)) (.t t8) (.v (.int .i64 10)), none, none⟩,
   ⟨(some t10), oMov (.t t9), none, none⟩,
   ⟨(some t11), oMov (.t t0), (some (t10, false)), none⟩,
   ⟨(some t12), oIdxS (.t t11) (.v (.int .i64 4)), (some (t10, false)), none⟩,
   ⟨(some t13), oBin (int2 (cmpO neI)) (.t t12) (.v (.int .u8 45)), (some (t10, false)), none⟩,
   ⟨(some t14), oPick (.t t10) (.v (.bool true)) (.t t13), none, none⟩,
   ⟨(some t15), oMov (.t t14), none, none⟩,
   ⟨(some t16), oMov (.t t0), (some (t15, false)), none⟩,
   ⟨(some t17), oIdxS (.t t16) (.v (.int .i64 7)), (some (t15, false)), none⟩,
   ⟨(some t18), oBin (int2 (cmpO neI)) (.t t17) (.v (.int .u8 45)), (some (t15, false)), none⟩,
   ⟨(some t19), oPick (.t t15) (.v (.bool true)) (.t t18), none, none⟩])
 (xCond (.t t19)
 (xSeq (xOps [⟨(some t2), oMov (.v (.int .i64 0)), none, none⟩,
   ⟨(some t3), oMov (.v (.bool false)), none, none⟩])
 xRet)
 xSkip))
 (xSeq (xOps [⟨(some t20), oBuildSlice 3 [(.int .i64 0), (.int .i64 0), (.int .i64 0)] [(0, 1, (.v (.int .i64 0))), (1, 1, (.v (.int .i64 0))), (2, 1, (.v (.int .i64 0)))], none, none⟩,
   ⟨(some t4), oMov (.t t20), none, none⟩])
 (xSeq (xSeq (xOps [⟨(some t5), oMov (.v (.int .i64 0)), none, none⟩])
 (xBlock 0 (xLoop (xSeq (xSeq (xOps [⟨(some t21), oMov (.t t5), none, none⟩,
   ⟨(some t22), oBin (int2 (cmpO ltI)) (.t t21) (.v (.int .i64 10)), none, none⟩])
 (xCond (.t t22)
 xSkip
 (xExit 0)))
 (xSeq (xBlock 1 (xSeq (xSeq (xOps [⟨(some t25), oMov (.t t5), none, none⟩,
   ⟨(some t26), oBin (int2 (cmpO eqI)) (.t t25) (.v (.int .i64 4)), none, none⟩,
   ⟨(some t27), oMov (.t t26), none, none⟩,
   ⟨(some t28), oMov (.t t5), (some (t27, false)), none⟩,
   ⟨(some t29), oBin (int2 (cmpO eqI)) (.t t28) (.v (.int .i64 7)), (some (t27, false)), none⟩,
   ⟨(some t30), oPick (.t t27) (.v (.bool true)) (.t t29), none, none⟩])
 (xCond (.t t30)
 (xExit 1)
 xSkip))
 (xSeq (xSeq (xOps [⟨(some t31), oMov (.t t0), none, none⟩,
   ⟨(some t32), oMov (.t t5), none, none⟩,
   ⟨(some t33), oIdxS (.t t31) (.t t32), none, none⟩,
   ⟨(some t34), oBin (int2 (cmpO ltI)) (.t t33) (.v (.int .u8 48)), none, none⟩,
   ⟨(some t35), oMov (.t t34), none, none⟩,
   ⟨(some t36), oMov (.t t0), (some (t35, false)), none⟩,
   ⟨(some t37), oMov (.t t5), (some (t35, false)), none⟩,
   ⟨(some t38), oIdxS (.t t36) (.t t37), (some (t35, false)), none⟩,
   ⟨(some t39), oBin (int2 (cmpO gtI)) (.t t38) (.v (.int .u8 57)), (some (t35, false)), none⟩,
   ⟨(some t40), oPick (.t t35) (.v (.bool true)) (.t t39), none, none⟩])
 (xCond (.t t40)
 (xSeq (xOps [⟨(some t2), oMov (.v (.int .i64 0)), none, none⟩,
   ⟨(some t3), oMov (.v (.bool false)), none, none⟩])
 xRet)
 xSkip))
 (xSeq (xOps [⟨(some t6), oMov (.v (.int .i64 0)), none, none⟩])
 (xSeq (xSeq (xOps [⟨(some t41), oMov (.t t5), none, none⟩,
   ⟨(some t42), oBin (int2 (cmpO gtI)) (.t t41) (.v (.int .i64 4)), none, none⟩])
 (xCond (.t t42)
 (xOps [⟨(some t6), oMov (.v (.int .i64 1)), none, none⟩])
 xSkip))
 (xSeq (xSeq (xOps [⟨(some t43), oMov (.t t5), none, none⟩,
   ⟨(some t44), oBin (int2 (cmpO gtI)) (.t t43) (.v (.int .i64 7)), none, none⟩])
 (xCond (.t t44)
 (xOps [⟨(some t6), oMov (.v (.int .i64 2)), none, none⟩])
 xSkip))
 (xReg [⟨(some t45), oMov (.t t4), none, none⟩,
   ⟨(some t46), oMov (.t t6), none, none⟩,
   ⟨(some t47), oMov (.t t4), none, none⟩,
   ⟨(some t48), oMov (.t t6), none, none⟩,
   ⟨(some t49), oIdxAddrL 1 (.t t47) (.t t48), none, none⟩,
   ⟨(some t50), oLoad1 (.t t49), none, (some (.t t49))⟩,
   ⟨(some t51), oBin (int2 mulO) (.v (.int .i64 10)) (.t t50), none, none⟩,
   ⟨(some t52), oMov (.t t0), none, none⟩,
   ⟨(some t53), oMov (.t t5), none, none⟩,
   ⟨(some t54), oIdxS (.t t52) (.t t53), none, none⟩,
   ⟨(some t55), oBin (int2 subO) (.t t54) (.v (.int .u8 48)), none, none⟩,
   ⟨(some t56), oConv .i64 (.t t55), none, none⟩,
   ⟨(some t57), oBin (int2 addO) (.t t51) (.t t56), none, none⟩,
   ⟨(some t58), oIdxAddrL 1 (.t t45) (.t t46), none, none⟩,
   ⟨none, oStore 1 (.t t58) (.t t57), none, none⟩] [(0, 1), (0, 2), (1, 2), (0, 3), (1, 3), (2, 3), (0, 4), (1, 4), (0, 5), (1, 5), (0, 6), (1, 6), (0, 7), (1, 7), (2, 7), (3, 7), (4, 7), (5, 7), (6, 7), (0, 8), (1, 8), (2, 8), (3, 8), (4, 8), (5, 8), (6, 8), (7, 8), (0, 9), (1, 9), (2, 9), (3, 9), (4, 9), (5, 9), (6, 9), (0, 10), (1, 10), (2, 10), (3, 10), (4, 10), (5, 10), (6, 10), (0, 11), (1, 11), (2, 11), (3, 11), (4, 11), (5, 11), (6, 11), (0, 12), (1, 12)])))))))
 (xOps [⟨(some t23), oMov (.t t5), none, none⟩,
   ⟨(some t24), oBin (int2 addO) (.t t23) (.v (.int .i64 1)), none, none⟩,
   ⟨(some t5), oMov (.t t24), none, none⟩]))))))
 (xSeq (xReg [⟨(some t59), oMov (.t t4), none, none⟩,
   ⟨(some t60), oIdxAddrL 1 (.t t59) (.v (.int .i64 0)), none, none⟩,
   ⟨(some t61), oLoad1 (.t t60), none, (some (.t t60))⟩,
   ⟨(some t62), oMov (.t t4), none, none⟩,
   ⟨(some t63), oIdxAddrL 1 (.t t62) (.v (.int .i64 1)), none, none⟩,
   ⟨(some t64), oLoad1 (.t t63), none, (some (.t t63))⟩,
   ⟨(some t65), oMov (.t t4), none, none⟩,
   ⟨(some t66), oIdxAddrL 1 (.t t65) (.v (.int .i64 2)), none, none⟩,
   ⟨(some t67), oLoad1 (.t t66), none, (some (.t t66))⟩,
   ⟨(some t68), oCall 66 [(.t t61), (.t t64), (.t t67)], none, none⟩,
   ⟨(some t69), oExtract (.t t68) 0, none, none⟩,
   ⟨(some t70), oExtract (.t t68) 1, none, none⟩,
   ⟨(some t2), oMov (.t t69), none, none⟩,
   ⟨(some t3), oMov (.t t70), none, none⟩] [(0, 3), (1, 3), (2, 3), (0, 4), (1, 4), (2, 4), (0, 5), (1, 5), (2, 5), (0, 6), (1, 6), (2, 6), (3, 6), (4, 6), (5, 6), (0, 7), (1, 7), (2, 7), (3, 7), (4, 7), (5, 7), (0, 8), (1, 8), (2, 8), (3, 8), (4, 8), (5, 8), (10, 11)])
 xRet)))))⟩
theorem ok46 : cFunc Try.prog gl ex Try.f46 = some c46 := by kernel_rfl
end
end Go.Proofs.Ytcjamnbbedpebaa.AbsTypK
