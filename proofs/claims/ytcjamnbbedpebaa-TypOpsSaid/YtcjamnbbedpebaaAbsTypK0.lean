import Derived.Test.YtcjamnbbedpebaaRows
import Derived.Test.YtcjamnbbedpebaaAbsTypKT
import Derived.KernelRfl
namespace Go.Proofs.Ytcjamnbbedpebaa.AbsTypK
open Go Go.Abs Go.Proofs
set_option maxRecDepth 100000
set_option linter.unusedVariables false
noncomputable section
/-- publican/publicanlaw11.TypKnown -/
def c3 : AFunc := ⟨40, [.tmp t0],
 (xSeq (xOps [⟨(some t0), oMov (.v (.bool false)), none, none⟩])
 (xSeq (xSeq (xOps [⟨(some t6), oCall 8 [], none, none⟩,
   ⟨(some t7), oNot (.t t6), none, none⟩])
 (xCond (.t t7)
 (xSeq (xOps [⟨(some t0), oMov (.v (.bool false)), none, none⟩])
 xRet)
 xSkip))
 (xSeq (xOps [⟨(some t9), oCall 9 [(.v (.string ⟨⟨[105, 110, 112, 117, 116, 32, 108, 32, 109, 111, 110, 101, 121, 115, 59, 32, 114, 117, 108, 101, 32, 97, 32, 109, 111, 110, 101, 121, 32, 61, 32, 115, 117, 109, 40, 120, 32, 105, 110, 32, 108, 58, 32, 120, 41, 59, 32, 114, 117, 108, 101, 32, 98, 32, 114, 97, 116, 101, 32, 61, 32, 36, 49, 32, 47, 32, 36, 50, 59]⟩⟩))], none, none⟩,
   ⟨(some t8), oMov (.t t9), none, none⟩,
   ⟨(some t10), oExtract (.t t8) 0, none, none⟩,
   ⟨(some t11), oExtract (.t t8) 1, none, none⟩,
   ⟨(some t12), oExtract (.t t8) 2, none, none⟩,
   ⟨(some t1), oNew [(.string ⟨⟨[]⟩⟩), (.string ⟨⟨[]⟩⟩), (.int .i64 0), (.int .i64 0), (.int .i64 0), (.slice none 0 0)], none, none⟩,
   ⟨(some t2), oNew [(.string ⟨⟨[]⟩⟩), (.string ⟨⟨[]⟩⟩), (.int .i64 0), (.int .i64 0), (.int .i64 0), (.slice none 0 0)], none, none⟩,
   ⟨none, oStore 6 (.t t1) (.t t10), none, none⟩,
   ⟨none, oStore 6 (.t t2) (.t t11), none, none⟩,
   ⟨(some t3), oMov (.t t12), none, none⟩])
 (xSeq (xOps [⟨(some t14), oLoadN 6 (.t t1), none, none⟩,
   ⟨(some t15), oCall 10 [(.t t14)], none, none⟩,
   ⟨(some t13), oMov (.t t15), none, none⟩,
   ⟨(some t16), oExtract (.t t13) 0, none, none⟩,
   ⟨(some t17), oExtract (.t t13) 1, none, none⟩,
   ⟨(some t4), oMov (.t t16), none, none⟩,
   ⟨(some t5), oMov (.t t17), none, none⟩])
 (xSeq (xOps [⟨(some t18), oMov (.t t5), none, none⟩,
   ⟨(some t19), oBin (int2 (cmpO eqI)) (.t t18) (.v (.int .i64 0)), none, none⟩,
   ⟨(some t20), oMov (.t t19), none, none⟩,
   ⟨(some t21), oLoadN 6 (.t t1), (some (t20, true)), none⟩,
   ⟨(some t22), oBuild [(.string ⟨⟨[]⟩⟩), (.string ⟨⟨[]⟩⟩), (.int .i64 0), (.int .i64 0), (.int .i64 0), (.slice none 0 0)] [(0, 1, (.v (.string ⟨⟨[110, 97, 109, 101]⟩⟩))), (1, 1, (.v (.string ⟨⟨[120]⟩⟩)))], (some (t20, true)), none⟩,
   ⟨(some t23), oCall 11 [(.t t21), (.t t22), (.v (.slice none 0 0))], (some (t20, true)), none⟩,
   ⟨(some t24), oBin (int2 (cmpO eqI)) (.t t23) (.v (.int .i64 0)), (some (t20, true)), none⟩,
   ⟨(some t25), oPick (.t t20) (.t t24) (.v (.bool false)), none, none⟩,
   ⟨(some t26), oMov (.t t25), none, none⟩,
   ⟨(some t27), oLoadN 6 (.t t1), (some (t26, true)), none⟩,
   ⟨(some t28), oBuild [(.string ⟨⟨[]⟩⟩), (.string ⟨⟨[]⟩⟩), (.int .i64 0), (.int .i64 0), (.int .i64 0), (.slice none 0 0)] [(0, 1, (.v (.string ⟨⟨[110, 97, 109, 101]⟩⟩))), (1, 1, (.v (.string ⟨⟨[120]⟩⟩)))], (some (t26, true)), none⟩,
   ⟨(some t29), oBuild [(.string ⟨⟨[]⟩⟩), (.int .i64 0)] [(0, 1, (.v (.string ⟨⟨[120]⟩⟩))), (1, 1, (.v (.int .i64 3)))], (some (t26, true)), none⟩,
   ⟨(some t30), oBuildSlice 1 [(.string ⟨⟨[]⟩⟩), (.int .i64 0)] [(0, 2, (.t t29))], (some (t26, true)), none⟩,
   ⟨(some t31), oCall 11 [(.t t27), (.t t28), (.t t30)], (some (t26, true)), none⟩,
   ⟨(some t32), oBin (int2 (cmpO eqI)) (.t t31) (.v (.int .i64 3)), (some (t26, true)), none⟩,
   ⟨(some t33), oPick (.t t26) (.t t32) (.v (.bool false)), none, none⟩,
   ⟨(some t34), oMov (.t t33), none, none⟩,
   ⟨(some t35), oLoadN 6 (.t t1), (some (t34, true)), none⟩,
   ⟨(some t36), oCall 12 [(.t t35)], (some (t34, true)), none⟩,
   ⟨(some t37), oLenL (.t t36), (some (t34, true)), none⟩,
   ⟨(some t38), oBin (int2 (cmpO eqI)) (.t t37) (.v (.int .i64 2)), (some (t34, true)), none⟩,
   ⟨(some t39), oPick (.t t34) (.t t38) (.v (.bool false)), none, none⟩,
   ⟨(some t0), oMov (.t t39), none, none⟩])
 xRet)))))⟩
theorem ok3 : cFunc Try.prog gl ex Try.f3 = some c3 := by kernel_rfl
/-- publican/publicanlaw11.TypOps -/
def c5 : AFunc := ⟨91, [.tmp t6],
 (xSeq (xOps [⟨(some t6), oMov (.v (.bool false)), none, none⟩])
 (xSeq (xSeq (xOps [⟨(some t13), oCall 8 [], none, none⟩,
   ⟨(some t14), oNot (.t t13), none, none⟩])
 (xCond (.t t14)
 (xSeq (xOps [⟨(some t6), oMov (.v (.bool false)), none, none⟩])
 xRet)
 xSkip))
 (xSeq (xOps [⟨(some t15), oBuildSlice 12 (rep 12 [(.string ⟨⟨[]⟩⟩)]) [(0, 1, (.v (.string ⟨⟨[43]⟩⟩))), (1, 1, (.v (.string ⟨⟨[45]⟩⟩))), (2, 1, (.v (.string ⟨⟨[42]⟩⟩))), (3, 1, (.v (.string ⟨⟨[47]⟩⟩))), (4, 1, (.v (.string ⟨⟨[60]⟩⟩))), (5, 1, (.v (.string ⟨⟨[60, 61]⟩⟩))), (6, 1, (.v (.string ⟨⟨[62]⟩⟩))), (7, 1, (.v (.string ⟨⟨[62, 61]⟩⟩))), (8, 1, (.v (.string ⟨⟨[61, 61]⟩⟩))), (9, 1, (.v (.string ⟨⟨[33, 61]⟩⟩))), (10, 1, (.v (.string ⟨⟨[97, 110, 100]⟩⟩))), (11, 1, (.v (.string ⟨⟨[111, 114]⟩⟩)))], none, none⟩,
   ⟨(some t7), oMov (.t t15), none, none⟩])
 (xSeq (xSeq (xOps [⟨(some t16), oMov (.t t0), none, none⟩,
   ⟨(some t17), oBin (int2 (cmpO ltI)) (.t t16) (.v (.int .i64 0)), none, none⟩,
   ⟨(some t18), oMov (.t t17), none, none⟩,
   ⟨(some t19), oMov (.t t0), (some (t18, false)), none⟩,
   ⟨(some t20), oBin (int2 (cmpO gtI)) (.t t19) (.v (.int .i64 13)), (some (t18, false)), none⟩,
   ⟨(some t21), oPick (.t t18) (.v (.bool true)) (.t t20), none, none⟩,
   ⟨(some t22), oMov (.t t21), none, none⟩,
   ⟨(some t23), oMov (.t t1), (some (t22, false)), none⟩,
   ⟨(some t24), oBin (int2 (cmpO ltI)) (.t t23) (.v (.int .i64 1)), (some (t22, false)), none⟩,
   ⟨(some t25), oPick (.t t22) (.v (.bool true)) (.t t24), none, none⟩,
   ⟨(some t26), oMov (.t t25), none, none⟩,
   ⟨(some t27), oMov (.t t1), (some (t26, false)), none⟩,
   ⟨(some t28), oBin (int2 (cmpO gtI)) (.t t27) (.v (.int .i64 6)), (some (t26, false)), none⟩,
   ⟨(some t29), oPick (.t t26) (.v (.bool true)) (.t t28), none, none⟩,
   ⟨(some t30), oMov (.t t29), none, none⟩,
   ⟨(some t31), oMov (.t t2), (some (t30, false)), none⟩,
   ⟨(some t32), oBin (int2 (cmpO ltI)) (.t t31) (.v (.int .i64 1)), (some (t30, false)), none⟩,
   ⟨(some t33), oPick (.t t30) (.v (.bool true)) (.t t32), none, none⟩,
   ⟨(some t34), oMov (.t t33), none, none⟩,
   ⟨(some t35), oMov (.t t2), (some (t34, false)), none⟩,
   ⟨(some t36), oBin (int2 (cmpO gtI)) (.t t35) (.v (.int .i64 6)), (some (t34, false)), none⟩,
   ⟨(some t37), oPick (.t t34) (.v (.bool true)) (.t t36), none, none⟩])
 (xCond (.t t37)
 (xSeq (xOps [⟨(some t6), oMov (.v (.bool true)), none, none⟩])
 xRet)
 xSkip))
 (xSeq (xOps [⟨(some t8), oMov (.v (.string ⟨⟨[]⟩⟩)), none, none⟩,
   ⟨(some t9), oMov (.v (.string ⟨⟨[]⟩⟩)), none, none⟩])
 (xSeq (xSeq (xOps [⟨(some t38), oMov (.t t0), none, none⟩,
   ⟨(some t39), oBin (int2 (cmpO ltI)) (.t t38) (.v (.int .i64 12)), none, none⟩])
 (xCond (.t t39)
 (xSeq (xOps [⟨(some t40), oMov (.t t7), none, none⟩,
   ⟨(some t41), oMov (.t t0), none, none⟩,
   ⟨(some t42), oIdxAddrL 1 (.t t40) (.t t41), none, none⟩,
   ⟨(some t43), oLoad1 (.t t42), none, (some (.t t42))⟩,
   ⟨(some t8), oMov (.t t43), none, none⟩])
 (xOps [⟨(some t44), oMov (.t t8), none, none⟩,
   ⟨(some t45), oBin (str2 catO) (.v (.string ⟨⟨[120, 32]⟩⟩)) (.t t44), none, none⟩,
   ⟨(some t46), oBin (str2 catO) (.t t45) (.v (.string ⟨⟨[32, 121]⟩⟩)), none, none⟩,
   ⟨(some t9), oMov (.t t46), none, none⟩]))
 (xSeq (xOps [⟨(some t47), oBuildSlice 2 [(.string ⟨⟨[]⟩⟩), (.string ⟨⟨[]⟩⟩)] [(0, 1, (.v (.string ⟨⟨[109, 105, 110]⟩⟩))), (1, 1, (.v (.string ⟨⟨[109, 97, 120]⟩⟩)))], none, none⟩,
   ⟨(some t48), oMov (.t t0), none, none⟩,
   ⟨(some t49), oBin (int2 subO) (.t t48) (.v (.int .i64 12)), none, none⟩,
   ⟨(some t50), oIdxAddrL 1 (.t t47) (.t t49), none, none⟩,
   ⟨(some t51), oLoad1 (.t t50), none, (some (.t t50))⟩,
   ⟨(some t8), oMov (.t t51), none, none⟩])
 (xOps [⟨(some t52), oMov (.t t8), none, none⟩,
   ⟨(some t53), oBin (str2 catO) (.t t52) (.v (.string ⟨⟨[40, 120, 44, 32, 121, 41]⟩⟩)), none, none⟩,
   ⟨(some t9), oMov (.t t53), none, none⟩]))))
 (xSeq (xOps [⟨(some t55), oMov (.t t1), none, none⟩,
   ⟨(some t56), oCall 17 [(.t t55)], none, none⟩,
   ⟨(some t57), oBin (str2 catO) (.v (.string ⟨⟨[105, 110, 112, 117, 116, 32, 120, 32]⟩⟩)) (.t t56), none, none⟩,
   ⟨(some t58), oBin (str2 catO) (.t t57) (.v (.string ⟨⟨[59, 32, 105, 110, 112, 117, 116, 32, 121, 32]⟩⟩)), none, none⟩,
   ⟨(some t59), oMov (.t t2), none, none⟩,
   ⟨(some t60), oCall 17 [(.t t59)], none, none⟩,
   ⟨(some t61), oBin (str2 catO) (.t t58) (.t t60), none, none⟩,
   ⟨(some t62), oBin (str2 catO) (.t t61) (.v (.string ⟨⟨[59, 32, 114, 117, 108, 101, 32, 114, 32, 98, 111, 111, 108, 32, 61, 32]⟩⟩)), none, none⟩,
   ⟨(some t63), oMov (.t t9), none, none⟩,
   ⟨(some t64), oBin (str2 catO) (.t t62) (.t t63), none, none⟩,
   ⟨(some t65), oBin (str2 catO) (.t t64) (.v (.string ⟨⟨[59]⟩⟩)), none, none⟩,
   ⟨(some t66), oCall 9 [(.t t65)], none, none⟩,
   ⟨(some t54), oMov (.t t66), none, none⟩,
   ⟨(some t67), oExtract (.t t54) 0, none, none⟩,
   ⟨(some t68), oExtract (.t t54) 1, none, none⟩,
   ⟨(some t69), oExtract (.t t54) 2, none, none⟩,
   ⟨(some t10), oNew [(.string ⟨⟨[]⟩⟩), (.string ⟨⟨[]⟩⟩), (.int .i64 0), (.int .i64 0), (.int .i64 0), (.slice none 0 0)], none, none⟩,
   ⟨(some t11), oNew [(.string ⟨⟨[]⟩⟩), (.string ⟨⟨[]⟩⟩), (.int .i64 0), (.int .i64 0), (.int .i64 0), (.slice none 0 0)], none, none⟩,
   ⟨none, oStore 6 (.t t10) (.t t67), none, none⟩,
   ⟨none, oStore 6 (.t t11) (.t t68), none, none⟩,
   ⟨(some t12), oMov (.t t69), none, none⟩])
 (xSeq (xSeq (xOps [⟨(some t70), oMov (.t t12), none, none⟩,
   ⟨(some t71), oNot (.t t70), none, none⟩])
 (xCond (.t t71)
 (xSeq (xOps [⟨(some t6), oMov (.v (.bool false)), none, none⟩])
 xRet)
 xSkip))
 (xSeq (xReg [⟨(some t72), oLoadN 6 (.t t10), none, none⟩,
   ⟨(some t73), oFieldAddr 5 (.t t10), none, none⟩,
   ⟨(some t74), oLoad1 (.t t73), none, (some (.t t73))⟩,
   ⟨(some t75), oIdxAddrL 6 (.t t74) (.v (.int .i64 2)), none, none⟩,
   ⟨(some t76), oFieldAddr 5 (.t t75), none, none⟩,
   ⟨(some t77), oLoad1 (.t t76), none, (some (.t t76))⟩,
   ⟨(some t78), oIdxAddrL 6 (.t t77) (.v (.int .i64 0)), none, none⟩,
   ⟨(some t79), oLoadN 6 (.t t78), none, none⟩,
   ⟨(some t80), oCall 11 [(.t t72), (.t t79), (.v (.slice none 0 0))], none, none⟩,
   ⟨(some t81), oMov (.t t8), none, none⟩,
   ⟨(some t82), oMov (.t t1), none, none⟩,
   ⟨(some t83), oMov (.t t2), none, none⟩,
   ⟨(some t84), oCall 18 [(.t t81), (.t t82), (.t t83)], none, none⟩,
   ⟨(some t85), oBin (int2 (cmpO eqI)) (.t t80) (.t t84), none, none⟩,
   ⟨(some t86), oMov (.t t85), none, none⟩,
   ⟨(some t87), oFieldAddr 0 (.t t11), (some (t86, true)), none⟩,
   ⟨(some t88), oLoad1 (.t t87), (some (t86, true)), (some (.t t87))⟩,
   ⟨(some t89), oBin (str2 (cmpS eqBytes)) (.t t88) (.v (.string ⟨⟨[115, 116, 97, 116, 117, 116, 101]⟩⟩)), (some (t86, true)), none⟩,
   ⟨(some t90), oPick (.t t86) (.t t89) (.v (.bool false)), none, none⟩,
   ⟨(some t6), oMov (.t t90), none, none⟩] [(0, 1), (0, 2), (0, 3), (0, 4), (0, 5), (0, 6), (0, 7), (0, 9), (1, 9), (2, 9), (3, 9), (4, 9), (5, 9), (6, 9), (7, 9), (8, 9), (0, 10), (1, 10), (2, 10), (3, 10), (4, 10), (5, 10), (6, 10), (7, 10), (8, 10), (9, 10), (0, 11), (1, 11), (2, 11), (3, 11), (4, 11), (5, 11), (6, 11), (7, 11), (8, 11), (9, 11), (10, 11)])
 xRet)))))))))⟩
theorem ok5 : cFunc Try.prog gl ex Try.f5 = some c5 := by kernel_rfl
/-- publican/publicanlaw11.awake -/
def c8 : AFunc := ⟨103, [.tmp t0],
 (xSeq (xOps [⟨(some t0), oMov (.v (.bool false)), none, none⟩])
 (xSeq (xOps [⟨(some t15), oCall 9 [(.v (.string ⟨⟨[114, 117, 108, 101, 32, 97, 32, 109, 111, 110, 101, 121, 32, 61, 32, 36, 49, 32, 43, 32, 50, 59]⟩⟩))], none, none⟩,
   ⟨(some t14), oMov (.t t15), none, none⟩,
   ⟨(some t16), oExtract (.t t14) 0, none, none⟩,
   ⟨(some t17), oExtract (.t t14) 1, none, none⟩,
   ⟨(some t18), oExtract (.t t14) 2, none, none⟩,
   ⟨(some t1), oNew [(.string ⟨⟨[]⟩⟩), (.string ⟨⟨[]⟩⟩), (.int .i64 0), (.int .i64 0), (.int .i64 0), (.slice none 0 0)], none, none⟩,
   ⟨(some t2), oNew [(.string ⟨⟨[]⟩⟩), (.string ⟨⟨[]⟩⟩), (.int .i64 0), (.int .i64 0), (.int .i64 0), (.slice none 0 0)], none, none⟩,
   ⟨none, oStore 6 (.t t1) (.t t16), none, none⟩,
   ⟨none, oStore 6 (.t t2) (.t t17), none, none⟩,
   ⟨(some t3), oMov (.t t18), none, none⟩])
 (xSeq (xOps [⟨(some t20), oLoadN 6 (.t t1), none, none⟩,
   ⟨(some t21), oCall 10 [(.t t20)], none, none⟩,
   ⟨(some t19), oMov (.t t21), none, none⟩,
   ⟨(some t22), oExtract (.t t19) 0, none, none⟩,
   ⟨(some t23), oExtract (.t t19) 1, none, none⟩,
   ⟨(some t4), oMov (.t t22), none, none⟩,
   ⟨(some t5), oMov (.t t23), none, none⟩])
 (xSeq (xOps [⟨(some t25), oCall 9 [(.v (.string ⟨⟨[105, 110, 112, 117, 116, 32, 120, 32, 109, 111, 110, 101, 121, 59, 32, 114, 117, 108, 101, 32, 97, 32, 109, 111, 110, 101, 121, 32, 61, 32, 120, 32, 43, 32, 36, 50, 59]⟩⟩))], none, none⟩,
   ⟨(some t24), oMov (.t t25), none, none⟩,
   ⟨(some t26), oExtract (.t t24) 0, none, none⟩,
   ⟨(some t27), oExtract (.t t24) 1, none, none⟩,
   ⟨(some t28), oExtract (.t t24) 2, none, none⟩,
   ⟨(some t6), oNew [(.string ⟨⟨[]⟩⟩), (.string ⟨⟨[]⟩⟩), (.int .i64 0), (.int .i64 0), (.int .i64 0), (.slice none 0 0)], none, none⟩,
   ⟨(some t7), oNew [(.string ⟨⟨[]⟩⟩), (.string ⟨⟨[]⟩⟩), (.int .i64 0), (.int .i64 0), (.int .i64 0), (.slice none 0 0)], none, none⟩,
   ⟨none, oStore 6 (.t t6) (.t t26), none, none⟩,
   ⟨none, oStore 6 (.t t7) (.t t27), none, none⟩,
   ⟨(some t8), oMov (.t t28), none, none⟩])
 (xSeq (xOps [⟨(some t30), oLoadN 6 (.t t6), none, none⟩,
   ⟨(some t31), oCall 10 [(.t t30)], none, none⟩,
   ⟨(some t29), oMov (.t t31), none, none⟩,
   ⟨(some t32), oExtract (.t t29) 0, none, none⟩,
   ⟨(some t33), oExtract (.t t29) 1, none, none⟩,
   ⟨(some t9), oMov (.t t32), none, none⟩,
   ⟨(some t10), oMov (.t t33), none, none⟩])
 (xSeq (xOps [⟨(some t34), oLoadN 6 (.t t6), none, none⟩,
   ⟨(some t35), oCall 15 [(.t t34)], none, none⟩,
   ⟨(some t11), oMov (.t t35), none, none⟩])
 (xSeq (xOps [⟨(some t36), oLoadN 6 (.t t6), none, none⟩,
   ⟨(some t37), oCall 12 [(.t t36)], none, none⟩,
   ⟨(some t12), oMov (.t t37), none, none⟩])
 (xSeq (xOps [⟨(some t38), oLoadN 6 (.t t6), none, none⟩,
   ⟨(some t39), oCall 14 [(.t t38)], none, none⟩,
   ⟨(some t13), oMov (.t t39), none, none⟩])
 (xSeq (xReg [⟨(some t40), oMov (.t t3), none, none⟩,
   ⟨(some t41), oMov (.t t40), none, none⟩,
   ⟨(some t42), oMov (.t t5), (some (t41, true)), none⟩,
   ⟨(some t43), oBin (int2 (cmpO eqI)) (.t t42) (.v (.int .i64 8)), (some (t41, true)), none⟩,
   ⟨(some t44), oPick (.t t41) (.t t43) (.v (.bool false)), none, none⟩,
   ⟨(some t45), oMov (.t t44), none, none⟩,
   ⟨(some t46), oMov (.t t4), (some (t45, true)), none⟩,
   ⟨(some t47), oBin (int2 (cmpO eqI)) (.t t46) (.v (.int .i64 18)), (some (t45, true)), none⟩,
   ⟨(some t48), oPick (.t t45) (.t t47) (.v (.bool false)), none, none⟩,
   ⟨(some t49), oMov (.t t48), none, none⟩,
   ⟨(some t50), oMov (.t t8), (some (t49, true)), none⟩,
   ⟨(some t51), oPick (.t t49) (.t t50) (.v (.bool false)), none, none⟩,
   ⟨(some t52), oMov (.t t51), none, none⟩,
   ⟨(some t53), oMov (.t t10), (some (t52, true)), none⟩,
   ⟨(some t54), oBin (int2 (cmpO eqI)) (.t t53) (.v (.int .i64 0)), (some (t52, true)), none⟩,
   ⟨(some t55), oPick (.t t52) (.t t54) (.v (.bool false)), none, none⟩,
   ⟨(some t56), oMov (.t t55), none, none⟩,
   ⟨(some t57), oMov (.t t11), (some (t56, true)), none⟩,
   ⟨(some t58), oLenL (.t t57), (some (t56, true)), none⟩,
   ⟨(some t59), oBin (int2 (cmpO eqI)) (.t t58) (.v (.int .i64 1)), (some (t56, true)), none⟩,
   ⟨(some t60), oPick (.t t56) (.t t59) (.v (.bool false)), none, none⟩,
   ⟨(some t61), oMov (.t t60), none, none⟩,
   ⟨(some t62), oMov (.t t11), (some (t61, true)), none⟩,
   ⟨(some t63), oIdxAddrL 2 (.t t62) (.v (.int .i64 0)), (some (t61, true)), none⟩,
   ⟨(some t64), oLoadN 2 (.t t63), (some (t61, true)), none⟩,
   ⟨(some t65), oBuild [(.string ⟨⟨[]⟩⟩), (.int .i64 0)] [(0, 1, (.v (.string ⟨⟨[120]⟩⟩))), (1, 1, (.v (.int .i64 3)))], (some (t61, true)), none⟩,
   ⟨(some t66), oEqs false [(0, eqT), (1, eqN)] (.t t64) (.t t65), (some (t61, true)), none⟩,
   ⟨(some t67), oPick (.t t61) (.t t66) (.v (.bool false)), none, none⟩,
   ⟨(some t68), oMov (.t t67), none, none⟩,
   ⟨(some t69), oMov (.t t12), (some (t68, true)), none⟩,
   ⟨(some t70), oLenL (.t t69), (some (t68, true)), none⟩,
   ⟨(some t71), oBin (int2 (cmpO eqI)) (.t t70) (.v (.int .i64 1)), (some (t68, true)), none⟩,
   ⟨(some t72), oPick (.t t68) (.t t71) (.v (.bool false)), none, none⟩,
   ⟨(some t73), oMov (.t t72), none, none⟩,
   ⟨(some t74), oMov (.t t12), (some (t73, true)), none⟩,
   ⟨(some t75), oIdxAddrL 2 (.t t74) (.v (.int .i64 0)), (some (t73, true)), none⟩,
   ⟨(some t76), oFieldAddr 0 (.t t75), (some (t73, true)), none⟩,
   ⟨(some t77), oLoad1 (.t t76), (some (t73, true)), (some (.t t76))⟩,
   ⟨(some t78), oBin (str2 (cmpS eqBytes)) (.t t77) (.v (.string ⟨⟨[97]⟩⟩)), (some (t73, true)), none⟩,
   ⟨(some t79), oPick (.t t73) (.t t78) (.v (.bool false)), none, none⟩,
   ⟨(some t80), oMov (.t t79), none, none⟩,
   ⟨(some t81), oMov (.t t13), (some (t80, true)), none⟩,
   ⟨(some t82), oLenL (.t t81), (some (t80, true)), none⟩,
   ⟨(some t83), oBin (int2 (cmpO eqI)) (.t t82) (.v (.int .i64 2)), (some (t80, true)), none⟩,
   ⟨(some t84), oPick (.t t80) (.t t83) (.v (.bool false)), none, none⟩,
   ⟨(some t85), oMov (.t t84), none, none⟩,
   ⟨(some t86), oMov (.t t13), (some (t85, true)), none⟩,
   ⟨(some t87), oIdxAddrL 1 (.t t86) (.v (.int .i64 1)), (some (t85, true)), none⟩,
   ⟨(some t88), oLoad1 (.t t87), (some (t85, true)), (some (.t t87))⟩,
   ⟨(some t89), oBin (int2 (cmpO eqI)) (.t t88) (.v (.int .i64 3)), (some (t85, true)), none⟩,
   ⟨(some t90), oPick (.t t85) (.t t89) (.v (.bool false)), none, none⟩,
   ⟨(some t91), oMov (.t t90), none, none⟩,
   ⟨(some t92), oLoadN 6 (.t t6), (some (t91, true)), none⟩,
   ⟨(some t93), oFieldAddr 5 (.t t6), (some (t91, true)), none⟩,
   ⟨(some t94), oLoad1 (.t t93), (some (t91, true)), (some (.t t93))⟩,
   ⟨(some t95), oIdxAddrL 6 (.t t94) (.v (.int .i64 1)), (some (t91, true)), none⟩,
   ⟨(some t96), oFieldAddr 5 (.t t95), (some (t91, true)), none⟩,
   ⟨(some t97), oLoad1 (.t t96), (some (t91, true)), (some (.t t96))⟩,
   ⟨(some t98), oIdxAddrL 6 (.t t97) (.v (.int .i64 0)), (some (t91, true)), none⟩,
   ⟨(some t99), oLoadN 6 (.t t98), (some (t91, true)), none⟩,
   ⟨(some t100), oCall 11 [(.t t92), (.t t99), (.v (.slice none 0 0))], (some (t91, true)), none⟩,
   ⟨(some t101), oBin (int2 (cmpO eqI)) (.t t100) (.v (.int .i64 3)), (some (t91, true)), none⟩,
   ⟨(some t102), oPick (.t t91) (.t t101) (.v (.bool false)), none, none⟩,
   ⟨(some t0), oMov (.t t102), none, none⟩] [(22, 25), (23, 25), (24, 25), (52, 53), (52, 54), (52, 55), (52, 56), (52, 57), (52, 58), (52, 59)])
 xRet)))))))))⟩
theorem ok8 : cFunc Try.prog gl ex Try.f8 = some c8 := by kernel_rfl
/-- publican/publicanref17.Read -/
def c9 : AFunc := ⟨19, [.cell t2 (some 6), .cell t3 (some 6), .tmp t4],
 (xSeq (xOps [⟨(some t2), oNew [(.string ⟨⟨[]⟩⟩), (.string ⟨⟨[]⟩⟩), (.int .i64 0), (.int .i64 0), (.int .i64 0), (.slice none 0 0)], none, none⟩,
   ⟨(some t3), oNew [(.string ⟨⟨[]⟩⟩), (.string ⟨⟨[]⟩⟩), (.int .i64 0), (.int .i64 0), (.int .i64 0), (.slice none 0 0)], none, none⟩,
   ⟨(some t4), oMov (.v (.bool false)), none, none⟩])
 (xSeq (xOps [⟨(some t9), oMov (.t t0), none, none⟩,
   ⟨(some t10), oCall 21 [(.t t9)], none, none⟩,
   ⟨(some t8), oMov (.t t10), none, none⟩,
   ⟨(some t11), oExtract (.t t8) 0, none, none⟩,
   ⟨(some t12), oExtract (.t t8) 1, none, none⟩,
   ⟨(some t13), oExtract (.t t8) 2, none, none⟩,
   ⟨(some t5), oNew [(.string ⟨⟨[]⟩⟩), (.string ⟨⟨[]⟩⟩), (.int .i64 0), (.int .i64 0), (.int .i64 0), (.slice none 0 0)], none, none⟩,
   ⟨none, oStore 6 (.t t5) (.t t11), none, none⟩,
   ⟨(some t6), oMov (.t t12), none, none⟩,
   ⟨(some t7), oMov (.t t13), none, none⟩])
 (xSeq (xReg [⟨(some t14), oLoadN 6 (.t t5), none, none⟩,
   ⟨(some t15), oCall 22 [(.t t14)], none, none⟩,
   ⟨(some t16), oLoadN 6 (.t t5), none, none⟩,
   ⟨(some t17), oMov (.t t6), none, none⟩,
   ⟨(some t18), oBin (int2 (cmpO ltI)) (.t t17) (.v (.int .i64 0)), none, none⟩,
   ⟨none, oStore 6 (.t t2) (.t t15), none, none⟩,
   ⟨none, oStore 6 (.t t3) (.t t16), none, none⟩,
   ⟨(some t4), oMov (.t t18), none, none⟩] [(0, 2), (1, 2), (0, 3), (1, 3), (2, 3), (0, 4), (1, 4), (2, 4), (2, 5), (3, 5), (4, 5), (3, 6), (4, 6)])
 xRet)))⟩
theorem ok9 : cFunc Try.prog gl ex Try.f9 = some c9 := by kernel_rfl
/-- publican/typ.Check -/
def c10 : AFunc := ⟨103, [.tmp t2, .tmp t3],
 (xSeq (xOps [⟨(some t1), oBox (.t t0), none, none⟩,
   ⟨(some t2), oMov (.v (.int .i64 0)), none, none⟩,
   ⟨(some t3), oMov (.v (.int .i64 0)), none, none⟩])
 (xSeq (xOps [⟨(some t13), oLoadN 6 (.t t1), none, none⟩,
   ⟨(some t14), oBuild [(.string ⟨⟨[]⟩⟩), (.string ⟨⟨[]⟩⟩), (.int .i64 0), (.int .i64 0), (.int .i64 0), (.slice none 0 0), (.slice none 0 0), (.bool false), (.int .i64 0)] [(0, 6, (.t t13))], none, none⟩,
   ⟨(some t15), oBox (.t t14), none, none⟩,
   ⟨(some t4), oMov (.t t15), none, none⟩])
 (xSeq (xOps [⟨(some t16), oMakeMap, none, none⟩,
   ⟨(some t5), oMov (.t t16), none, none⟩])
 (xSeq (xSeq (xOps [⟨(some t17), oFieldAddr 5 (.t t1), none, none⟩,
   ⟨(some t18), oLoad1 (.t t17), none, (some (.t t17))⟩,
   ⟨(some t19), oLenL (.t t18), none, none⟩,
   ⟨(some t20), oMov (.v (.int .i64 0)), none, none⟩])
 (xBlock 0 (xLoop (xSeq (xOps [⟨(some t21), oBin (int2 (cmpO ltI)) (.t t20) (.t t19), none, none⟩])
 (xSeq (xCond (.t t21)
 xSkip
 (xExit 0))
 (xSeq (xBlock 1 (xSeq (xOps [⟨(some t22), oMov (.t t20), none, none⟩,
   ⟨(some t23), oIdxAddrL 6 (.t t18) (.t t20), none, none⟩,
   ⟨(some t24), oLoadN 6 (.t t23), none, none⟩,
   ⟨(some t7), oNew [(.string ⟨⟨[]⟩⟩), (.string ⟨⟨[]⟩⟩), (.int .i64 0), (.int .i64 0), (.int .i64 0), (.slice none 0 0)], none, none⟩,
   ⟨(some t6), oMov (.t t22), none, none⟩,
   ⟨none, oStore 6 (.t t7) (.t t24), none, none⟩])
 (xSeq (xOps [⟨(some t25), oMov (.t t4), none, none⟩,
   ⟨(some t26), oMov (.t t5), none, none⟩,
   ⟨(some t27), oFieldAddr 1 (.t t7), none, none⟩,
   ⟨(some t28), oLoad1 (.t t27), none, (some (.t t27))⟩,
   ⟨(some t29), oLookup none (.bool false) false (.t t26) (.t t28), none, none⟩,
   ⟨(some t30), oNot (.t t29), none, none⟩,
   ⟨(some t31), oMov (.t t30), none, none⟩,
   ⟨(some t32), oMov (.t t6), (some (t31, true)), none⟩,
   ⟨(some t33), oBin (int2 (cmpO ltI)) (.t t32) (.v (.int .i64 64)), (some (t31, true)), none⟩,
   ⟨(some t34), oPick (.t t31) (.t t33) (.v (.bool false)), none, none⟩,
   ⟨(some t35), oFieldAddr 4 (.t t7), none, none⟩,
   ⟨(some t36), oLoad1 (.t t35), none, (some (.t t35))⟩,
   ⟨(some t37), oCall 23 [(.t t25), (.t t34), (.t t36)], none, none⟩])
 (xOps [⟨(some t38), oMov (.t t5), none, none⟩,
   ⟨(some t39), oFieldAddr 1 (.t t7), none, none⟩,
   ⟨(some t40), oLoad1 (.t t39), none, (some (.t t39))⟩,
   ⟨none, oMapUpdate none (.t t38) (.t t40) (.v (.bool true)), none, none⟩]))))
 (xOps [⟨(some t41), oBin (int2 addO) (.t t20) (.v (.int .i64 1)), none, none⟩,
   ⟨(some t20), oMov (.t t41), none, none⟩])))))))
 (xSeq (xSeq (xOps [⟨(some t42), oFieldAddr 5 (.t t1), none, none⟩,
   ⟨(some t43), oLoad1 (.t t42), none, (some (.t t42))⟩,
   ⟨(some t44), oLenL (.t t43), none, none⟩,
   ⟨(some t45), oMov (.v (.int .i64 0)), none, none⟩])
 (xBlock 2 (xLoop (xSeq (xOps [⟨(some t46), oBin (int2 (cmpO ltI)) (.t t45) (.t t44), none, none⟩])
 (xSeq (xCond (.t t46)
 xSkip
 (xExit 2))
 (xSeq (xBlock 3 (xSeq (xOps [⟨(some t47), oIdxAddrL 6 (.t t43) (.t t45), none, none⟩,
   ⟨(some t48), oLoadN 6 (.t t47), none, none⟩,
   ⟨(some t9), oNew [(.string ⟨⟨[]⟩⟩), (.string ⟨⟨[]⟩⟩), (.int .i64 0), (.int .i64 0), (.int .i64 0), (.slice none 0 0)], none, none⟩,
   ⟨none, oStore 6 (.t t9) (.t t48), none, none⟩])
 (xSeq (xOps [⟨(some t49), oFieldAddr 0 (.t t9), none, none⟩,
   ⟨(some t50), oLoad1 (.t t49), none, (some (.t t49))⟩,
   ⟨(some t51), oBin (str2 (cmpS eqBytes)) (.t t50) (.v (.string ⟨⟨[116, 97, 98, 108, 101]⟩⟩)), none, none⟩])
 (xCond (.t t51)
 (xOps [⟨(some t52), oMov (.t t4), none, none⟩,
   ⟨(some t53), oLoadN 6 (.t t9), none, none⟩,
   ⟨(some t54), oCall 24 [(.t t52), (.t t53)], none, none⟩])
 xSkip))))
 (xOps [⟨(some t55), oBin (int2 addO) (.t t45) (.v (.int .i64 1)), none, none⟩,
   ⟨(some t45), oMov (.t t55), none, none⟩])))))))
 (xSeq (xSeq (xOps [⟨(some t56), oFieldAddr 5 (.t t1), none, none⟩,
   ⟨(some t57), oLoad1 (.t t56), none, (some (.t t56))⟩,
   ⟨(some t58), oLenL (.t t57), none, none⟩,
   ⟨(some t59), oMov (.v (.int .i64 0)), none, none⟩])
 (xBlock 4 (xLoop (xSeq (xOps [⟨(some t60), oBin (int2 (cmpO ltI)) (.t t59) (.t t58), none, none⟩])
 (xSeq (xCond (.t t60)
 xSkip
 (xExit 4))
 (xSeq (xBlock 5 (xSeq (xOps [⟨(some t61), oIdxAddrL 6 (.t t57) (.t t59), none, none⟩,
   ⟨(some t62), oLoadN 6 (.t t61), none, none⟩,
   ⟨(some t11), oNew [(.string ⟨⟨[]⟩⟩), (.string ⟨⟨[]⟩⟩), (.int .i64 0), (.int .i64 0), (.int .i64 0), (.slice none 0 0)], none, none⟩,
   ⟨none, oStore 6 (.t t11) (.t t62), none, none⟩])
 (xSeq (xOps [⟨(some t63), oFieldAddr 0 (.t t11), none, none⟩,
   ⟨(some t64), oLoad1 (.t t63), none, (some (.t t63))⟩,
   ⟨(some t65), oBin (str2 (cmpS eqBytes)) (.t t64) (.v (.string ⟨⟨[114, 117, 108, 101]⟩⟩)), none, none⟩,
   ⟨(some t66), oMov (.t t65), none, none⟩,
   ⟨(some t67), oMov (.t t4), (some (t66, true)), none⟩,
   ⟨(some t68), oNilCheck (.t t67), (some (t66, true)), none⟩,
   ⟨(some t69), oFieldAddr 7 (.t t68), (some (t66, true)), none⟩,
   ⟨(some t70), oLoad1 (.t t69), (some (t66, true)), (some (.t t69))⟩,
   ⟨(some t71), oNot (.t t70), (some (t66, true)), none⟩,
   ⟨(some t72), oPick (.t t66) (.t t71) (.v (.bool false)), none, none⟩])
 (xCond (.t t72)
 (xSeq (xOps [⟨(some t73), oMov (.t t4), none, none⟩,
   ⟨(some t74), oFieldAddr 2 (.t t11), none, none⟩,
   ⟨(some t75), oLoad1 (.t t74), none, (some (.t t74))⟩,
   ⟨(some t76), oBin (int2 (cmpO neI)) (.t t75) (.v (.int .i64 6)), none, none⟩,
   ⟨(some t77), oFieldAddr 4 (.t t11), none, none⟩,
   ⟨(some t78), oLoad1 (.t t77), none, (some (.t t77))⟩,
   ⟨(some t79), oCall 23 [(.t t73), (.t t76), (.t t78)], none, none⟩])
 (xSeq (xOps [⟨(some t80), oMov (.t t4), none, none⟩,
   ⟨(some t81), oFieldAddr 5 (.t t11), none, none⟩,
   ⟨(some t82), oLoad1 (.t t81), none, (some (.t t81))⟩,
   ⟨(some t83), oIdxAddrL 6 (.t t82) (.v (.int .i64 0)), none, none⟩,
   ⟨(some t84), oLoadN 6 (.t t83), none, none⟩,
   ⟨(some t85), oCall 25 [(.t t80), (.t t84)], none, none⟩,
   ⟨(some t12), oMov (.t t85), none, none⟩])
 (xOps [⟨(some t86), oMov (.t t4), none, none⟩,
   ⟨(some t87), oMov (.t t12), none, none⟩,
   ⟨(some t88), oFieldAddr 2 (.t t11), none, none⟩,
   ⟨(some t89), oLoad1 (.t t88), none, (some (.t t88))⟩,
   ⟨(some t90), oBin (int2 (cmpO eqI)) (.t t87) (.t t89), none, none⟩,
   ⟨(some t91), oFieldAddr 4 (.t t11), none, none⟩,
   ⟨(some t92), oLoad1 (.t t91), none, (some (.t t91))⟩,
   ⟨(some t93), oCall 23 [(.t t86), (.t t90), (.t t92)], none, none⟩])))
 xSkip))))
 (xOps [⟨(some t94), oBin (int2 addO) (.t t59) (.v (.int .i64 1)), none, none⟩,
   ⟨(some t59), oMov (.t t94), none, none⟩])))))))
 (xSeq (xSeq (xOps [⟨(some t95), oMov (.t t4), none, none⟩,
   ⟨(some t96), oNilCheck (.t t95), none, none⟩,
   ⟨(some t97), oFieldAddr 7 (.t t96), none, none⟩,
   ⟨(some t98), oLoad1 (.t t97), none, (some (.t t97))⟩])
 (xCond (.t t98)
 (xSeq (xOps [⟨(some t99), oMov (.t t4), none, none⟩,
   ⟨(some t100), oNilCheck (.t t99), none, none⟩,
   ⟨(some t101), oFieldAddr 8 (.t t100), none, none⟩,
   ⟨(some t102), oLoad1 (.t t101), none, (some (.t t101))⟩,
   ⟨(some t2), oMov (.t t102), none, none⟩,
   ⟨(some t3), oMov (.v (.int .i64 8)), none, none⟩])
 xRet)
 xSkip))
 (xSeq (xOps [⟨(some t2), oMov (.v (.int .i64 0)), none, none⟩,
   ⟨(some t3), oMov (.v (.int .i64 0)), none, none⟩])
 xRet))))))))⟩
theorem ok10 : cFunc Try.prog gl ex Try.f10 = some c10 := by kernel_rfl
/-- publican/typ.Of -/
def c11 : AFunc := ⟨22, [.tmp t6],
 (xSeq (xOps [⟨(some t3), oBox (.t t0), none, none⟩,
   ⟨(some t4), oBox (.t t1), none, none⟩,
   ⟨(some t6), oMov (.v (.int .i64 0)), none, none⟩])
 (xSeq (xReg [⟨(some t9), oLoadN 6 (.t t3), none, none⟩,
   ⟨(some t10), oMov (.t t2), none, none⟩,
   ⟨(some t11), oCall 26 [(.t t10)], none, none⟩,
   ⟨(some t12), oBuild [(.string ⟨⟨[]⟩⟩), (.string ⟨⟨[]⟩⟩), (.int .i64 0), (.int .i64 0), (.int .i64 0), (.slice none 0 0), (.slice none 0 0), (.bool false), (.int .i64 0)] [(0, 6, (.t t9)), (6, 1, (.t t11))], none, none⟩,
   ⟨(some t13), oBox (.t t12), none, none⟩,
   ⟨(some t7), oMov (.t t13), none, none⟩] [(0, 1), (0, 2)])
 (xSeq (xOps [⟨(some t14), oMov (.t t7), none, none⟩,
   ⟨(some t15), oLoadN 6 (.t t4), none, none⟩,
   ⟨(some t16), oCall 25 [(.t t14), (.t t15)], none, none⟩,
   ⟨(some t8), oMov (.t t16), none, none⟩])
 (xSeq (xSeq (xOps [⟨(some t17), oMov (.t t7), none, none⟩,
   ⟨(some t18), oNilCheck (.t t17), none, none⟩,
   ⟨(some t19), oFieldAddr 7 (.t t18), none, none⟩,
   ⟨(some t20), oLoad1 (.t t19), none, (some (.t t19))⟩])
 (xCond (.t t20)
 (xSeq (xOps [⟨(some t6), oMov (.v (.int .i64 0)), none, none⟩])
 xRet)
 xSkip))
 (xSeq (xOps [⟨(some t21), oMov (.t t8), none, none⟩,
   ⟨(some t6), oMov (.t t21), none, none⟩])
 xRet)))))⟩
theorem ok11 : cFunc Try.prog gl ex Try.f11 = some c11 := by kernel_rfl
/-- publican/typ.Rules -/
def c12 : AFunc := ⟨5, [.tmp t2],
 (xSeq (xOps [⟨(some t1), oBox (.t t0), none, none⟩,
   ⟨(some t2), oMov (.v (.slice none 0 0)), none, none⟩])
 (xSeq (xOps [⟨(some t3), oLoadN 6 (.t t1), none, none⟩,
   ⟨(some t4), oCall 27 [(.t t3), (.v (.string ⟨⟨[114, 117, 108, 101]⟩⟩))], none, none⟩,
   ⟨(some t2), oMov (.t t4), none, none⟩])
 xRet))⟩
theorem ok12 : cFunc Try.prog gl ex Try.f12 = some c12 := by kernel_rfl
/-- publican/typ.Kinds -/
def c14 : AFunc := ⟨20, [.tmp t2],
 (xSeq (xOps [⟨(some t1), oBox (.t t0), none, none⟩,
   ⟨(some t2), oMov (.v (.slice none 0 0)), none, none⟩])
 (xSeq (xOps [⟨(some t3), oMov (.v (.slice none 0 0)), none, none⟩])
 (xSeq (xSeq (xOps [⟨(some t6), oFieldAddr 5 (.t t1), none, none⟩,
   ⟨(some t7), oLoad1 (.t t6), none, (some (.t t6))⟩,
   ⟨(some t8), oLenL (.t t7), none, none⟩,
   ⟨(some t9), oMov (.v (.int .i64 0)), none, none⟩])
 (xBlock 0 (xLoop (xSeq (xOps [⟨(some t10), oBin (int2 (cmpO ltI)) (.t t9) (.t t8), none, none⟩])
 (xSeq (xCond (.t t10)
 xSkip
 (xExit 0))
 (xSeq (xBlock 1 (xSeq (xOps [⟨(some t11), oIdxAddrL 6 (.t t7) (.t t9), none, none⟩,
   ⟨(some t12), oLoadN 6 (.t t11), none, none⟩,
   ⟨(some t5), oNew [(.string ⟨⟨[]⟩⟩), (.string ⟨⟨[]⟩⟩), (.int .i64 0), (.int .i64 0), (.int .i64 0), (.slice none 0 0)], none, none⟩,
   ⟨none, oStore 6 (.t t5) (.t t12), none, none⟩])
 (xOps [⟨(some t13), oMov (.t t3), none, none⟩,
   ⟨(some t14), oFieldAddr 2 (.t t5), none, none⟩,
   ⟨(some t15), oLoad1 (.t t14), none, (some (.t t14))⟩,
   ⟨(some t16), oBuildSlice 1 [(.int .i64 0)] [(0, 1, (.t t15))], none, none⟩,
   ⟨(some t17), oAppend 1 8 (.t t13) (.t t16), none, none⟩,
   ⟨(some t3), oMov (.t t17), none, none⟩])))
 (xOps [⟨(some t18), oBin (int2 addO) (.t t9) (.v (.int .i64 1)), none, none⟩,
   ⟨(some t9), oMov (.t t18), none, none⟩])))))))
 (xSeq (xOps [⟨(some t19), oMov (.t t3), none, none⟩,
   ⟨(some t2), oMov (.t t19), none, none⟩])
 xRet))))⟩
theorem ok14 : cFunc Try.prog gl ex Try.f14 = some c14 := by kernel_rfl
/-- publican/typ.Inputs -/
def c15 : AFunc := ⟨5, [.tmp t2],
 (xSeq (xOps [⟨(some t1), oBox (.t t0), none, none⟩,
   ⟨(some t2), oMov (.v (.slice none 0 0)), none, none⟩])
 (xSeq (xOps [⟨(some t3), oLoadN 6 (.t t1), none, none⟩,
   ⟨(some t4), oCall 27 [(.t t3), (.v (.string ⟨⟨[105, 110, 112, 117, 116]⟩⟩))], none, none⟩,
   ⟨(some t2), oMov (.t t4), none, none⟩])
 xRet))⟩
theorem ok15 : cFunc Try.prog gl ex Try.f15 = some c15 := by kernel_rfl
/-- publican/publicanref9.KindName -/
def c17 : AFunc := ⟨13, [.tmp t2],
 (xSeq (xOps [⟨(some t2), oMov (.v (.string ⟨⟨[]⟩⟩)), none, none⟩])
 (xSeq (xSeq (xOps [⟨(some t3), oMov (.t t0), none, none⟩,
   ⟨(some t4), oBin (int2 (cmpO ltI)) (.t t3) (.v (.int .i64 1)), none, none⟩,
   ⟨(some t5), oMov (.t t4), none, none⟩,
   ⟨(some t6), oMov (.t t0), (some (t5, false)), none⟩,
   ⟨(some t7), oBin (int2 (cmpO gtI)) (.t t6) (.v (.int .i64 6)), (some (t5, false)), none⟩,
   ⟨(some t8), oPick (.t t5) (.v (.bool true)) (.t t7), none, none⟩])
 (xCond (.t t8)
 (xSeq (xOps [⟨(some t2), oMov (.v (.string ⟨⟨[]⟩⟩)), none, none⟩])
 xRet)
 xSkip))
 (xSeq (xOps [⟨(some t9), oBuildSlice 7 (rep 7 [(.string ⟨⟨[]⟩⟩)]) [(0, 1, (.v (.string ⟨⟨[]⟩⟩))), (1, 1, (.v (.string ⟨⟨[98, 111, 111, 108]⟩⟩))), (2, 1, (.v (.string ⟨⟨[99, 111, 117, 110, 116]⟩⟩))), (3, 1, (.v (.string ⟨⟨[109, 111, 110, 101, 121]⟩⟩))), (4, 1, (.v (.string ⟨⟨[114, 97, 116, 101]⟩⟩))), (5, 1, (.v (.string ⟨⟨[100, 97, 116, 101]⟩⟩))), (6, 1, (.v (.string ⟨⟨[109, 111, 110, 101, 121, 115]⟩⟩)))], none, none⟩,
   ⟨(some t10), oMov (.t t0), none, none⟩,
   ⟨(some t11), oIdxAddrL 1 (.t t9) (.t t10), none, none⟩,
   ⟨(some t12), oLoad1 (.t t11), none, (some (.t t11))⟩,
   ⟨(some t2), oMov (.t t12), none, none⟩])
 xRet)))⟩
theorem ok17 : cFunc Try.prog gl ex Try.f17 = some c17 := by kernel_rfl
/-- publican/publicanref11.Binary -/
def c18 : AFunc := ⟨148, [.tmp t6],
 (xSeq (xOps [⟨(some t6), oMov (.v (.int .i64 0)), none, none⟩])
 (xSeq (xOps [⟨(some t9), oMov (.t t1), none, none⟩,
   ⟨(some t10), oMov (.t t2), none, none⟩,
   ⟨(some t11), oBin (int2 (cmpO eqI)) (.t t9) (.t t10), none, none⟩,
   ⟨(some t7), oMov (.t t11), none, none⟩])
 (xSeq (xOps [⟨(some t12), oMov (.t t1), none, none⟩,
   ⟨(some t13), oBin (int2 (cmpO geI)) (.t t12) (.v (.int .i64 2)), none, none⟩,
   ⟨(some t14), oMov (.t t13), none, none⟩,
   ⟨(some t15), oMov (.t t1), (some (t14, true)), none⟩,
   ⟨(some t16), oBin (int2 (cmpO leI)) (.t t15) (.v (.int .i64 4)), (some (t14, true)), none⟩,
   ⟨(some t17), oPick (.t t14) (.t t16) (.v (.bool false)), none, none⟩,
   ⟨(some t8), oMov (.t t17), none, none⟩])
 (xSeq (xSeq (xOps [⟨(some t18), oMov (.t t0), none, none⟩])
 (xBlock 0 (xSeq (xOps [⟨(some t20), oBin (str2 (cmpS eqBytes)) (.t t18) (.v (.string ⟨⟨[43]⟩⟩)), none, none⟩,
   ⟨(some t19), oMov (.t t20), none, none⟩])
 (xCond (.t t19)
 (xSeq (xOps [⟨(some t21), oMov (.t t7), none, none⟩,
   ⟨(some t22), oMov (.t t21), none, none⟩,
   ⟨(some t23), oMov (.t t8), (some (t22, true)), none⟩,
   ⟨(some t24), oPick (.t t22) (.t t23) (.v (.bool false)), none, none⟩,
   ⟨(some t25), oMov (.t t24), none, none⟩,
   ⟨(some t26), oMov (.t t1), (some (t25, false)), none⟩,
   ⟨(some t27), oBin (int2 (cmpO eqI)) (.t t26) (.v (.int .i64 5)), (some (t25, false)), none⟩,
   ⟨(some t28), oMov (.t t27), (some (t25, false)), none⟩,
   ⟨(some t29), oMov (.t t2), (some (t28, true)), none⟩,
   ⟨(some t30), oBin (int2 (cmpO eqI)) (.t t29) (.v (.int .i64 2)), (some (t28, true)), none⟩,
   ⟨(some t31), oPick (.t t28) (.t t30) (.v (.bool false)), (some (t25, false)), none⟩,
   ⟨(some t32), oPick (.t t25) (.v (.bool true)) (.t t31), none, none⟩])
 (xCond (.t t32)
 (xSeq (xOps [⟨(some t33), oMov (.t t1), none, none⟩,
   ⟨(some t6), oMov (.t t33), none, none⟩])
 xRet)
 xSkip))
 (xSeq (xOps [⟨(some t35), oBin (str2 (cmpS eqBytes)) (.t t18) (.v (.string ⟨⟨[45]⟩⟩)), none, none⟩,
   ⟨(some t34), oMov (.t t35), none, none⟩])
 (xCond (.t t34)
 (xSeq (xSeq (xOps [⟨(some t36), oMov (.t t7), none, none⟩,
   ⟨(some t37), oMov (.t t36), none, none⟩,
   ⟨(some t38), oMov (.t t8), (some (t37, true)), none⟩,
   ⟨(some t39), oPick (.t t37) (.t t38) (.v (.bool false)), none, none⟩,
   ⟨(some t40), oMov (.t t39), none, none⟩,
   ⟨(some t41), oMov (.t t1), (some (t40, false)), none⟩,
   ⟨(some t42), oBin (int2 (cmpO eqI)) (.t t41) (.v (.int .i64 5)), (some (t40, false)), none⟩,
   ⟨(some t43), oMov (.t t42), (some (t40, false)), none⟩,
   ⟨(some t44), oMov (.t t2), (some (t43, true)), none⟩,
   ⟨(some t45), oBin (int2 (cmpO eqI)) (.t t44) (.v (.int .i64 2)), (some (t43, true)), none⟩,
   ⟨(some t46), oPick (.t t43) (.t t45) (.v (.bool false)), (some (t40, false)), none⟩,
   ⟨(some t47), oPick (.t t40) (.v (.bool true)) (.t t46), none, none⟩])
 (xCond (.t t47)
 (xSeq (xOps [⟨(some t48), oMov (.t t1), none, none⟩,
   ⟨(some t6), oMov (.t t48), none, none⟩])
 xRet)
 xSkip))
 (xSeq (xOps [⟨(some t49), oMov (.t t1), none, none⟩,
   ⟨(some t50), oBin (int2 (cmpO eqI)) (.t t49) (.v (.int .i64 5)), none, none⟩,
   ⟨(some t51), oMov (.t t50), none, none⟩,
   ⟨(some t52), oMov (.t t2), (some (t51, true)), none⟩,
   ⟨(some t53), oBin (int2 (cmpO eqI)) (.t t52) (.v (.int .i64 5)), (some (t51, true)), none⟩,
   ⟨(some t54), oPick (.t t51) (.t t53) (.v (.bool false)), none, none⟩])
 (xCond (.t t54)
 (xSeq (xOps [⟨(some t6), oMov (.v (.int .i64 2)), none, none⟩])
 xRet)
 xSkip)))
 (xSeq (xOps [⟨(some t56), oBin (str2 (cmpS eqBytes)) (.t t18) (.v (.string ⟨⟨[42]⟩⟩)), none, none⟩,
   ⟨(some t55), oMov (.t t56), none, none⟩])
 (xCond (.t t55)
 (xSeq (xSeq (xOps [⟨(some t57), oMov (.t t1), none, none⟩,
   ⟨(some t58), oMov (.t t2), none, none⟩,
   ⟨(some t59), oBin (int2 (cmpO gtI)) (.t t57) (.t t58), none, none⟩])
 (xCond (.t t59)
 (xOps [⟨(some t60), oMov (.t t2), none, none⟩,
   ⟨(some t61), oMov (.t t1), none, none⟩,
   ⟨(some t1), oMov (.t t60), none, none⟩,
   ⟨(some t2), oMov (.t t61), none, none⟩])
 xSkip))
 (xBlock 1 (xSeq (xOps [⟨(some t63), oMov (.t t1), none, none⟩,
   ⟨(some t64), oBin (int2 (cmpO eqI)) (.t t63) (.v (.int .i64 2)), none, none⟩,
   ⟨(some t65), oMov (.t t64), none, none⟩,
   ⟨(some t66), oMov (.t t2), (some (t65, true)), none⟩,
   ⟨(some t67), oBin (int2 (cmpO geI)) (.t t66) (.v (.int .i64 2)), (some (t65, true)), none⟩,
   ⟨(some t68), oPick (.t t65) (.t t67) (.v (.bool false)), none, none⟩,
   ⟨(some t69), oMov (.t t68), none, none⟩,
   ⟨(some t70), oMov (.t t2), (some (t69, true)), none⟩,
   ⟨(some t71), oBin (int2 (cmpO leI)) (.t t70) (.v (.int .i64 4)), (some (t69, true)), none⟩,
   ⟨(some t72), oPick (.t t69) (.t t71) (.v (.bool false)), none, none⟩,
   ⟨(some t62), oMov (.t t72), none, none⟩])
 (xCond (.t t62)
 (xSeq (xOps [⟨(some t73), oMov (.t t2), none, none⟩,
   ⟨(some t6), oMov (.t t73), none, none⟩])
 xRet)
 (xSeq (xOps [⟨(some t75), oMov (.t t1), none, none⟩,
   ⟨(some t76), oBin (int2 (cmpO eqI)) (.t t75) (.v (.int .i64 3)), none, none⟩,
   ⟨(some t77), oMov (.t t76), none, none⟩,
   ⟨(some t78), oMov (.t t2), (some (t77, true)), none⟩,
   ⟨(some t79), oBin (int2 (cmpO eqI)) (.t t78) (.v (.int .i64 4)), (some (t77, true)), none⟩,
   ⟨(some t80), oPick (.t t77) (.t t79) (.v (.bool false)), none, none⟩,
   ⟨(some t74), oMov (.t t80), none, none⟩])
 (xCond (.t t74)
 (xSeq (xOps [⟨(some t6), oMov (.v (.int .i64 3)), none, none⟩])
 xRet)
 xSkip))))))
 (xSeq (xOps [⟨(some t82), oBin (str2 (cmpS eqBytes)) (.t t18) (.v (.string ⟨⟨[47]⟩⟩)), none, none⟩,
   ⟨(some t81), oMov (.t t82), none, none⟩])
 (xCond (.t t81)
 (xSeq (xSeq (xOps [⟨(some t83), oMov (.t t2), none, none⟩,
   ⟨(some t84), oBin (int2 (cmpO eqI)) (.t t83) (.v (.int .i64 2)), none, none⟩,
   ⟨(some t85), oMov (.t t84), none, none⟩,
   ⟨(some t86), oMov (.t t1), (some (t85, true)), none⟩,
   ⟨(some t87), oBin (int2 (cmpO eqI)) (.t t86) (.v (.int .i64 2)), (some (t85, true)), none⟩,
   ⟨(some t88), oMov (.t t87), (some (t85, true)), none⟩,
   ⟨(some t89), oMov (.t t1), (some (t88, false)), none⟩,
   ⟨(some t90), oBin (int2 (cmpO eqI)) (.t t89) (.v (.int .i64 3)), (some (t88, false)), none⟩,
   ⟨(some t91), oPick (.t t88) (.v (.bool true)) (.t t90), (some (t85, true)), none⟩,
   ⟨(some t92), oPick (.t t85) (.t t91) (.v (.bool false)), none, none⟩])
 (xCond (.t t92)
 (xSeq (xOps [⟨(some t93), oMov (.t t1), none, none⟩,
   ⟨(some t6), oMov (.t t93), none, none⟩])
 xRet)
 xSkip))
 (xSeq (xOps [⟨(some t94), oMov (.t t1), none, none⟩,
   ⟨(some t95), oBin (int2 (cmpO eqI)) (.t t94) (.v (.int .i64 3)), none, none⟩,
   ⟨(some t96), oMov (.t t95), none, none⟩,
   ⟨(some t97), oMov (.t t2), (some (t96, true)), none⟩,
   ⟨(some t98), oBin (int2 (cmpO eqI)) (.t t97) (.v (.int .i64 3)), (some (t96, true)), none⟩,
   ⟨(some t99), oPick (.t t96) (.t t98) (.v (.bool false)), none, none⟩])
 (xCond (.t t99)
 (xSeq (xOps [⟨(some t6), oMov (.v (.int .i64 4)), none, none⟩])
 xRet)
 xSkip)))
 (xSeq (xSeq (xOps [⟨(some t101), oBin (str2 (cmpS eqBytes)) (.t t18) (.v (.string ⟨⟨[60]⟩⟩)), none, none⟩,
   ⟨(some t100), oMov (.t t101), none, none⟩])
 (xCond (.t t100)
 xSkip
 (xSeq (xOps [⟨(some t102), oBin (str2 (cmpS eqBytes)) (.t t18) (.v (.string ⟨⟨[60, 61]⟩⟩)), none, none⟩,
   ⟨(some t100), oMov (.t t102), none, none⟩])
 (xCond (.t t100)
 xSkip
 (xSeq (xOps [⟨(some t103), oBin (str2 (cmpS eqBytes)) (.t t18) (.v (.string ⟨⟨[62]⟩⟩)), none, none⟩,
   ⟨(some t100), oMov (.t t103), none, none⟩])
 (xCond (.t t100)
 xSkip
 (xOps [⟨(some t104), oBin (str2 (cmpS eqBytes)) (.t t18) (.v (.string ⟨⟨[62, 61]⟩⟩)), none, none⟩,
   ⟨(some t100), oMov (.t t104), none, none⟩])))))))
 (xCond (.t t100)
 (xSeq (xOps [⟨(some t105), oMov (.t t7), none, none⟩,
   ⟨(some t106), oMov (.t t105), none, none⟩,
   ⟨(some t107), oMov (.t t1), (some (t106, true)), none⟩,
   ⟨(some t108), oBin (int2 (cmpO geI)) (.t t107) (.v (.int .i64 2)), (some (t106, true)), none⟩,
   ⟨(some t109), oPick (.t t106) (.t t108) (.v (.bool false)), none, none⟩,
   ⟨(some t110), oMov (.t t109), none, none⟩,
   ⟨(some t111), oMov (.t t1), (some (t110, true)), none⟩,
   ⟨(some t112), oBin (int2 (cmpO leI)) (.t t111) (.v (.int .i64 5)), (some (t110, true)), none⟩,
   ⟨(some t113), oPick (.t t110) (.t t112) (.v (.bool false)), none, none⟩])
 (xCond (.t t113)
 (xSeq (xOps [⟨(some t6), oMov (.v (.int .i64 1)), none, none⟩])
 xRet)
 xSkip))
 (xSeq (xSeq (xOps [⟨(some t115), oBin (str2 (cmpS eqBytes)) (.t t18) (.v (.string ⟨⟨[61, 61]⟩⟩)), none, none⟩,
   ⟨(some t114), oMov (.t t115), none, none⟩])
 (xCond (.t t114)
 xSkip
 (xOps [⟨(some t116), oBin (str2 (cmpS eqBytes)) (.t t18) (.v (.string ⟨⟨[33, 61]⟩⟩)), none, none⟩,
   ⟨(some t114), oMov (.t t116), none, none⟩])))
 (xCond (.t t114)
 (xSeq (xOps [⟨(some t117), oMov (.t t7), none, none⟩,
   ⟨(some t118), oMov (.t t117), none, none⟩,
   ⟨(some t119), oMov (.t t1), (some (t118, true)), none⟩,
   ⟨(some t120), oBin (int2 (cmpO geI)) (.t t119) (.v (.int .i64 1)), (some (t118, true)), none⟩,
   ⟨(some t121), oPick (.t t118) (.t t120) (.v (.bool false)), none, none⟩,
   ⟨(some t122), oMov (.t t121), none, none⟩,
   ⟨(some t123), oMov (.t t1), (some (t122, true)), none⟩,
   ⟨(some t124), oBin (int2 (cmpO leI)) (.t t123) (.v (.int .i64 5)), (some (t122, true)), none⟩,
   ⟨(some t125), oPick (.t t122) (.t t124) (.v (.bool false)), none, none⟩])
 (xCond (.t t125)
 (xSeq (xOps [⟨(some t6), oMov (.v (.int .i64 1)), none, none⟩])
 xRet)
 xSkip))
 (xSeq (xSeq (xOps [⟨(some t127), oBin (str2 (cmpS eqBytes)) (.t t18) (.v (.string ⟨⟨[97, 110, 100]⟩⟩)), none, none⟩,
   ⟨(some t126), oMov (.t t127), none, none⟩])
 (xCond (.t t126)
 xSkip
 (xOps [⟨(some t128), oBin (str2 (cmpS eqBytes)) (.t t18) (.v (.string ⟨⟨[111, 114]⟩⟩)), none, none⟩,
   ⟨(some t126), oMov (.t t128), none, none⟩])))
 (xCond (.t t126)
 (xSeq (xOps [⟨(some t129), oMov (.t t1), none, none⟩,
   ⟨(some t130), oBin (int2 (cmpO eqI)) (.t t129) (.v (.int .i64 1)), none, none⟩,
   ⟨(some t131), oMov (.t t130), none, none⟩,
   ⟨(some t132), oMov (.t t2), (some (t131, true)), none⟩,
   ⟨(some t133), oBin (int2 (cmpO eqI)) (.t t132) (.v (.int .i64 1)), (some (t131, true)), none⟩,
   ⟨(some t134), oPick (.t t131) (.t t133) (.v (.bool false)), none, none⟩])
 (xCond (.t t134)
 (xSeq (xOps [⟨(some t6), oMov (.v (.int .i64 1)), none, none⟩])
 xRet)
 xSkip))
 (xSeq (xSeq (xOps [⟨(some t136), oBin (str2 (cmpS eqBytes)) (.t t18) (.v (.string ⟨⟨[109, 105, 110]⟩⟩)), none, none⟩,
   ⟨(some t135), oMov (.t t136), none, none⟩])
 (xCond (.t t135)
 xSkip
 (xOps [⟨(some t137), oBin (str2 (cmpS eqBytes)) (.t t18) (.v (.string ⟨⟨[109, 97, 120]⟩⟩)), none, none⟩,
   ⟨(some t135), oMov (.t t137), none, none⟩])))
 (xCond (.t t135)
 (xSeq (xOps [⟨(some t138), oMov (.t t7), none, none⟩,
   ⟨(some t139), oMov (.t t138), none, none⟩,
   ⟨(some t140), oMov (.t t1), (some (t139, true)), none⟩,
   ⟨(some t141), oBin (int2 (cmpO geI)) (.t t140) (.v (.int .i64 2)), (some (t139, true)), none⟩,
   ⟨(some t142), oPick (.t t139) (.t t141) (.v (.bool false)), none, none⟩,
   ⟨(some t143), oMov (.t t142), none, none⟩,
   ⟨(some t144), oMov (.t t1), (some (t143, true)), none⟩,
   ⟨(some t145), oBin (int2 (cmpO leI)) (.t t144) (.v (.int .i64 5)), (some (t143, true)), none⟩,
   ⟨(some t146), oPick (.t t143) (.t t145) (.v (.bool false)), none, none⟩])
 (xCond (.t t146)
 (xSeq (xOps [⟨(some t147), oMov (.t t1), none, none⟩,
   ⟨(some t6), oMov (.t t147), none, none⟩])
 xRet)
 xSkip))
 xSkip))))))))))))))))))
 (xSeq (xOps [⟨(some t6), oMov (.v (.int .i64 0)), none, none⟩])
 xRet)))))⟩
theorem ok18 : cFunc Try.prog gl ex Try.f18 = some c18 := by kernel_rfl
/-- publican/publicanref9.Cut -/
def c19 : AFunc := ⟨212, [.tmp t2, .tmp t3],
 (xSeq (xOps [⟨(some t2), oMov (.v (.slice none 0 0)), none, none⟩,
   ⟨(some t3), oMov (.v (.int .i64 0)), none, none⟩])
 (xSeq (xOps [⟨(some t13), oMakeSlice 4 40 [(.int .i64 0), (.string ⟨⟨[]⟩⟩), (.int .i64 0), (.int .i64 0)] (.v (.int .i64 0)) (.v (.int .i64 0)), none, none⟩,
   ⟨(some t4), oMov (.t t13), none, none⟩])
 (xSeq (xOps [⟨(some t5), oMov (.v (.int .i64 0)), none, none⟩])
 (xSeq (xBlock 0 (xLoop (xSeq (xSeq (xOps [⟨(some t14), oMov (.t t5), none, none⟩,
   ⟨(some t15), oMov (.t t0), none, none⟩,
   ⟨(some t16), oLenS (.t t15), none, none⟩,
   ⟨(some t17), oBin (int2 (cmpO ltI)) (.t t14) (.t t16), none, none⟩])
 (xCond (.t t17)
 xSkip
 (xExit 0)))
 (xBlock 1 (xSeq (xOps [⟨(some t18), oMov (.t t0), none, none⟩,
   ⟨(some t19), oMov (.t t5), none, none⟩,
   ⟨(some t20), oIdxS (.t t18) (.t t19), none, none⟩,
   ⟨(some t6), oMov (.t t20), none, none⟩])
 (xSeq (xSeq (xOps [⟨(some t21), oMov (.t t6), none, none⟩,
   ⟨(some t22), oBin (int2 (cmpO eqI)) (.t t21) (.v (.int .u8 32)), none, none⟩,
   ⟨(some t23), oMov (.t t22), none, none⟩,
   ⟨(some t24), oMov (.t t6), (some (t23, false)), none⟩,
   ⟨(some t25), oBin (int2 (cmpO eqI)) (.t t24) (.v (.int .u8 9)), (some (t23, false)), none⟩,
   ⟨(some t26), oPick (.t t23) (.v (.bool true)) (.t t25), none, none⟩,
   ⟨(some t27), oMov (.t t26), none, none⟩,
   ⟨(some t28), oMov (.t t6), (some (t27, false)), none⟩,
   ⟨(some t29), oBin (int2 (cmpO eqI)) (.t t28) (.v (.int .u8 10)), (some (t27, false)), none⟩,
   ⟨(some t30), oPick (.t t27) (.v (.bool true)) (.t t29), none, none⟩,
   ⟨(some t31), oMov (.t t30), none, none⟩,
   ⟨(some t32), oMov (.t t6), (some (t31, false)), none⟩,
   ⟨(some t33), oBin (int2 (cmpO eqI)) (.t t32) (.v (.int .u8 13)), (some (t31, false)), none⟩,
   ⟨(some t34), oPick (.t t31) (.v (.bool true)) (.t t33), none, none⟩])
 (xCond (.t t34)
 (xSeq (xOps [⟨(some t35), oMov (.t t5), none, none⟩,
   ⟨(some t36), oBin (int2 addO) (.t t35) (.v (.int .i64 1)), none, none⟩,
   ⟨(some t5), oMov (.t t36), none, none⟩])
 (xExit 1))
 xSkip))
 (xSeq (xSeq (xOps [⟨(some t37), oMov (.t t6), none, none⟩,
   ⟨(some t38), oBin (int2 (cmpO eqI)) (.t t37) (.v (.int .u8 35)), none, none⟩])
 (xCond (.t t38)
 (xSeq (xBlock 2 (xLoop (xSeq (xSeq (xOps [⟨(some t39), oMov (.t t5), none, none⟩,
   ⟨(some t40), oMov (.t t0), none, none⟩,
   ⟨(some t41), oLenS (.t t40), none, none⟩,
   ⟨(some t42), oBin (int2 (cmpO ltI)) (.t t39) (.t t41), none, none⟩,
   ⟨(some t43), oMov (.t t42), none, none⟩,
   ⟨(some t44), oMov (.t t0), (some (t43, true)), none⟩,
   ⟨(some t45), oMov (.t t5), (some (t43, true)), none⟩,
   ⟨(some t46), oIdxS (.t t44) (.t t45), (some (t43, true)), none⟩,
   ⟨(some t47), oBin (int2 (cmpO neI)) (.t t46) (.v (.int .u8 10)), (some (t43, true)), none⟩,
   ⟨(some t48), oPick (.t t43) (.t t47) (.v (.bool false)), none, none⟩])
 (xCond (.t t48)
 xSkip
 (xExit 2)))
 (xBlock 3 (xOps [⟨(some t49), oMov (.t t5), none, none⟩,
   ⟨(some t50), oBin (int2 addO) (.t t49) (.v (.int .i64 1)), none, none⟩,
   ⟨(some t5), oMov (.t t50), none, none⟩])))))
 (xExit 1))
 xSkip))
 (xSeq (xOps [⟨(some t51), oMov (.t t5), none, none⟩,
   ⟨(some t52), oBuild [(.int .i64 0), (.string ⟨⟨[]⟩⟩), (.int .i64 0), (.int .i64 0)] [(3, 1, (.t t51))], none, none⟩,
   ⟨(some t7), oNew [(.int .i64 0), (.string ⟨⟨[]⟩⟩), (.int .i64 0), (.int .i64 0)], none, none⟩,
   ⟨none, oStore 4 (.t t7) (.t t52), none, none⟩,
   ⟨(some t8), oMov (.v (.int .i64 0)), none, none⟩])
 (xSeq (xBlock 4 (xSeq (xOps [⟨(some t63), oMov (.t t6), none, none⟩,
   ⟨(some t64), oCall 30 [(.t t63)], none, none⟩,
   ⟨(some t62), oMov (.t t64), none, none⟩])
 (xCond (.t t62)
 (xSeq (xBlock 5 (xLoop (xSeq (xSeq (xOps [⟨(some t65), oMov (.t t5), none, none⟩,
   ⟨(some t66), oMov (.t t8), none, none⟩,
   ⟨(some t67), oBin (int2 addO) (.t t65) (.t t66), none, none⟩,
   ⟨(some t68), oMov (.t t0), none, none⟩,
   ⟨(some t69), oLenS (.t t68), none, none⟩,
   ⟨(some t70), oBin (int2 (cmpO ltI)) (.t t67) (.t t69), none, none⟩,
   ⟨(some t71), oMov (.t t70), none, none⟩,
   ⟨(some t72), oMov (.t t0), (some (t71, true)), none⟩,
   ⟨(some t73), oMov (.t t5), (some (t71, true)), none⟩,
   ⟨(some t74), oMov (.t t8), (some (t71, true)), none⟩,
   ⟨(some t75), oBin (int2 addO) (.t t73) (.t t74), (some (t71, true)), none⟩,
   ⟨(some t76), oIdxS (.t t72) (.t t75), (some (t71, true)), none⟩,
   ⟨(some t77), oCall 30 [(.t t76)], (some (t71, true)), none⟩,
   ⟨(some t78), oMov (.t t77), (some (t71, true)), none⟩,
   ⟨(some t79), oMov (.t t0), (some (t78, false)), none⟩,
   ⟨(some t80), oMov (.t t5), (some (t78, false)), none⟩,
   ⟨(some t81), oMov (.t t8), (some (t78, false)), none⟩,
   ⟨(some t82), oBin (int2 addO) (.t t80) (.t t81), (some (t78, false)), none⟩,
   ⟨(some t83), oIdxS (.t t79) (.t t82), (some (t78, false)), none⟩,
   ⟨(some t84), oCall 31 [(.t t83)], (some (t78, false)), none⟩,
   ⟨(some t85), oPick (.t t78) (.v (.bool true)) (.t t84), (some (t71, true)), none⟩,
   ⟨(some t86), oMov (.t t85), (some (t71, true)), none⟩,
   ⟨(some t87), oMov (.t t0), (some (t86, false)), none⟩,
   ⟨(some t88), oMov (.t t5), (some (t86, false)), none⟩,
   ⟨(some t89), oMov (.t t8), (some (t86, false)), none⟩,
   ⟨(some t90), oBin (int2 addO) (.t t88) (.t t89), (some (t86, false)), none⟩,
   ⟨(some t91), oIdxS (.t t87) (.t t90), (some (t86, false)), none⟩,
   ⟨(some t92), oBin (int2 (cmpO eqI)) (.t t91) (.v (.int .u8 95)), (some (t86, false)), none⟩,
   ⟨(some t93), oPick (.t t86) (.v (.bool true)) (.t t92), (some (t71, true)), none⟩,
   ⟨(some t94), oPick (.t t71) (.t t93) (.v (.bool false)), none, none⟩])
 (xCond (.t t94)
 xSkip
 (xExit 5)))
 (xBlock 6 (xOps [⟨(some t95), oMov (.t t8), none, none⟩,
   ⟨(some t96), oBin (int2 addO) (.t t95) (.v (.int .i64 1)), none, none⟩,
   ⟨(some t8), oMov (.t t96), none, none⟩])))))
 (xSeq (xOps [⟨(some t97), oFieldAddr 0 (.t t7), none, none⟩,
   ⟨none, oStore 1 (.t t97) (.v (.int .i64 1)), none, none⟩])
 (xSeq (xOps [⟨(some t98), oMov (.t t0), none, none⟩,
   ⟨(some t99), oMov (.t t5), none, none⟩,
   ⟨(some t100), oMov (.t t5), none, none⟩,
   ⟨(some t101), oMov (.t t8), none, none⟩,
   ⟨(some t102), oBin (int2 addO) (.t t100) (.t t101), none, none⟩,
   ⟨(some t103), oSliceS (.t t98) (some (.t t99)) (some (.t t102)), none, none⟩,
   ⟨(some t104), oFieldAddr 1 (.t t7), none, none⟩,
   ⟨none, oStore 1 (.t t104) (.t t103), none, none⟩])
 (xSeq (xSeq (xOps [⟨(some t105), oFieldAddr 1 (.t t7), none, none⟩,
   ⟨(some t106), oLoad1 (.t t105), none, (some (.t t105))⟩,
   ⟨(some t107), oCall 32 [(.t t106)], none, none⟩])
 (xCond (.t t107)
 (xOps [⟨(some t108), oFieldAddr 0 (.t t7), none, none⟩,
   ⟨none, oStore 1 (.t t108) (.v (.int .i64 2)), none, none⟩])
 xSkip))
 (xSeq (xOps [⟨(some t109), oMov (.t t8), none, none⟩,
   ⟨(some t110), oBin (int2 (cmpO gtI)) (.t t109) (.v (.int .i64 32)), none, none⟩])
 (xCond (.t t110)
 (xOps [⟨(some t8), oMov (.v (.int .i64 0)), none, none⟩])
 xSkip))))))
 (xSeq (xOps [⟨(some t112), oMov (.t t6), none, none⟩,
   ⟨(some t113), oCall 31 [(.t t112)], none, none⟩,
   ⟨(some t111), oMov (.t t113), none, none⟩])
 (xCond (.t t111)
 (xOps [⟨(some t115), oMov (.t t0), none, none⟩,
   ⟨(some t116), oMov (.t t5), none, none⟩,
   ⟨(some t117), oCall 33 [(.t t115), (.t t116)], none, none⟩,
   ⟨(some t114), oMov (.t t117), none, none⟩,
   ⟨(some t118), oExtract (.t t114) 0, none, none⟩,
   ⟨(some t119), oExtract (.t t114) 1, none, none⟩,
   ⟨none, oStore 4 (.t t7) (.t t118), none, none⟩,
   ⟨(some t8), oMov (.t t119), none, none⟩])
 (xSeq (xOps [⟨(some t121), oMov (.t t6), none, none⟩,
   ⟨(some t122), oBin (int2 (cmpO eqI)) (.t t121) (.v (.int .u8 36)), none, none⟩,
   ⟨(some t120), oMov (.t t122), none, none⟩])
 (xCond (.t t120)
 (xSeq (xOps [⟨(some t123), oMov (.t t0), none, none⟩,
   ⟨(some t124), oMov (.t t5), none, none⟩,
   ⟨(some t125), oBin (int2 addO) (.t t124) (.v (.int .i64 1)), none, none⟩,
   ⟨(some t126), oCall 34 [(.t t123), (.t t125)], none, none⟩,
   ⟨(some t9), oMov (.t t126), none, none⟩])
 (xSeq (xOps [⟨(some t10), oMov (.v (.string ⟨⟨[]⟩⟩)), none, none⟩])
 (xSeq (xOps [⟨(some t127), oMov (.t t9), none, none⟩,
   ⟨(some t128), oBin (int2 addO) (.v (.int .i64 1)) (.t t127), none, none⟩,
   ⟨(some t8), oMov (.t t128), none, none⟩])
 (xSeq (xSeq (xOps [⟨(some t129), oMov (.t t9), none, none⟩,
   ⟨(some t130), oBin (int2 (cmpO gtI)) (.t t129) (.v (.int .i64 0)), none, none⟩,
   ⟨(some t131), oMov (.t t130), none, none⟩,
   ⟨(some t132), oMov (.t t5), (some (t131, true)), none⟩,
   ⟨(some t133), oMov (.t t8), (some (t131, true)), none⟩,
   ⟨(some t134), oBin (int2 addO) (.t t132) (.t t133), (some (t131, true)), none⟩,
   ⟨(some t135), oMov (.t t0), (some (t131, true)), none⟩,
   ⟨(some t136), oLenS (.t t135), (some (t131, true)), none⟩,
   ⟨(some t137), oBin (int2 (cmpO ltI)) (.t t134) (.t t136), (some (t131, true)), none⟩,
   ⟨(some t138), oPick (.t t131) (.t t137) (.v (.bool false)), none, none⟩,
   ⟨(some t139), oMov (.t t138), none, none⟩,
   ⟨(some t140), oMov (.t t0), (some (t139, true)), none⟩,
   ⟨(some t141), oMov (.t t5), (some (t139, true)), none⟩,
   ⟨(some t142), oMov (.t t8), (some (t139, true)), none⟩,
   ⟨(some t143), oBin (int2 addO) (.t t141) (.t t142), (some (t139, true)), none⟩,
   ⟨(some t144), oIdxS (.t t140) (.t t143), (some (t139, true)), none⟩,
   ⟨(some t145), oBin (int2 (cmpO eqI)) (.t t144) (.v (.int .u8 46)), (some (t139, true)), none⟩,
   ⟨(some t146), oPick (.t t139) (.t t145) (.v (.bool false)), none, none⟩,
   ⟨(some t147), oMov (.t t146), none, none⟩,
   ⟨(some t148), oMov (.t t0), (some (t147, true)), none⟩,
   ⟨(some t149), oMov (.t t5), (some (t147, true)), none⟩,
   ⟨(some t150), oMov (.t t8), (some (t147, true)), none⟩,
   ⟨(some t151), oBin (int2 addO) (.t t149) (.t t150), (some (t147, true)), none⟩,
   ⟨(some t152), oBin (int2 addO) (.t t151) (.v (.int .i64 1)), (some (t147, true)), none⟩,
   ⟨(some t153), oCall 34 [(.t t148), (.t t152)], (some (t147, true)), none⟩,
   ⟨(some t154), oBin (int2 (cmpO eqI)) (.t t153) (.v (.int .i64 2)), (some (t147, true)), none⟩,
   ⟨(some t155), oPick (.t t147) (.t t154) (.v (.bool false)), none, none⟩])
 (xCond (.t t155)
 (xSeq (xOps [⟨(some t156), oMov (.t t0), none, none⟩,
   ⟨(some t157), oMov (.t t5), none, none⟩,
   ⟨(some t158), oMov (.t t8), none, none⟩,
   ⟨(some t159), oBin (int2 addO) (.t t157) (.t t158), none, none⟩,
   ⟨(some t160), oBin (int2 addO) (.t t159) (.v (.int .i64 1)), none, none⟩,
   ⟨(some t161), oMov (.t t5), none, none⟩,
   ⟨(some t162), oMov (.t t8), none, none⟩,
   ⟨(some t163), oBin (int2 addO) (.t t161) (.t t162), none, none⟩,
   ⟨(some t164), oBin (int2 addO) (.t t163) (.v (.int .i64 3)), none, none⟩,
   ⟨(some t165), oSliceS (.t t156) (some (.t t160)) (some (.t t164)), none, none⟩,
   ⟨(some t10), oMov (.t t165), none, none⟩])
 (xOps [⟨(some t166), oMov (.t t8), none, none⟩,
   ⟨(some t167), oBin (int2 addO) (.t t166) (.v (.int .i64 3)), none, none⟩,
   ⟨(some t8), oMov (.t t167), none, none⟩]))
 xSkip))
 (xSeq (xOps [⟨(some t169), oMov (.t t0), none, none⟩,
   ⟨(some t170), oMov (.t t5), none, none⟩,
   ⟨(some t171), oBin (int2 addO) (.t t170) (.v (.int .i64 1)), none, none⟩,
   ⟨(some t172), oMov (.t t5), none, none⟩,
   ⟨(some t173), oBin (int2 addO) (.t t172) (.v (.int .i64 1)), none, none⟩,
   ⟨(some t174), oMov (.t t9), none, none⟩,
   ⟨(some t175), oBin (int2 addO) (.t t173) (.t t174), none, none⟩,
   ⟨(some t176), oSliceS (.t t169) (some (.t t171)) (some (.t t175)), none, none⟩,
   ⟨(some t177), oMov (.t t10), none, none⟩,
   ⟨(some t178), oCall 35 [(.t t176), (.t t177)], none, none⟩,
   ⟨(some t168), oMov (.t t178), none, none⟩,
   ⟨(some t179), oExtract (.t t168) 0, none, none⟩,
   ⟨(some t180), oExtract (.t t168) 1, none, none⟩,
   ⟨(some t11), oMov (.t t179), none, none⟩,
   ⟨(some t12), oMov (.t t180), none, none⟩])
 (xSeq (xOps [⟨(some t181), oMov (.t t9), none, none⟩,
   ⟨(some t182), oBin (int2 (cmpO eqI)) (.t t181) (.v (.int .i64 0)), none, none⟩,
   ⟨(some t183), oMov (.t t182), none, none⟩,
   ⟨(some t184), oMov (.t t12), (some (t183, false)), none⟩,
   ⟨(some t185), oNot (.t t184), (some (t183, false)), none⟩,
   ⟨(some t186), oPick (.t t183) (.v (.bool true)) (.t t185), none, none⟩])
 (xCond (.t t186)
 (xOps [⟨(some t8), oMov (.v (.int .i64 0)), none, none⟩])
 (xOps [⟨(some t187), oMov (.t t0), none, none⟩,
   ⟨(some t188), oMov (.t t5), none, none⟩,
   ⟨(some t189), oMov (.t t5), none, none⟩,
   ⟨(some t190), oMov (.t t8), none, none⟩,
   ⟨(some t191), oBin (int2 addO) (.t t189) (.t t190), none, none⟩,
   ⟨(some t192), oSliceS (.t t187) (some (.t t188)) (some (.t t191)), none, none⟩,
   ⟨(some t193), oMov (.t t11), none, none⟩,
   ⟨(some t194), oMov (.t t5), none, none⟩,
   ⟨(some t195), oBuild [(.int .i64 0), (.string ⟨⟨[]⟩⟩), (.int .i64 0), (.int .i64 0)] [(0, 1, (.v (.int .i64 4))), (1, 1, (.t t192)), (2, 1, (.t t193)), (3, 1, (.t t194))], none, none⟩,
   ⟨none, oStore 4 (.t t7) (.t t195), none, none⟩]))))))))
 (xSeq (xOps [⟨(some t53), oFieldAddr 0 (.t t7), none, none⟩,
   ⟨none, oStore 1 (.t t53) (.v (.int .i64 7)), none, none⟩])
 (xSeq (xOps [⟨(some t54), oMov (.t t0), none, none⟩,
   ⟨(some t55), oMov (.t t5), none, none⟩,
   ⟨(some t56), oSliceS (.t t54) (some (.t t55)) none, none, none⟩,
   ⟨(some t57), oCall 36 [(.t t56)], none, none⟩,
   ⟨(some t58), oFieldAddr 1 (.t t7), none, none⟩,
   ⟨none, oStore 1 (.t t58) (.t t57), none, none⟩])
 (xOps [⟨(some t59), oFieldAddr 1 (.t t7), none, none⟩,
   ⟨(some t60), oLoad1 (.t t59), none, (some (.t t59))⟩,
   ⟨(some t61), oLenS (.t t60), none, none⟩,
   ⟨(some t8), oMov (.t t61), none, none⟩]))))))))))
 (xSeq (xSeq (xOps [⟨(some t196), oMov (.t t8), none, none⟩,
   ⟨(some t197), oBin (int2 (cmpO eqI)) (.t t196) (.v (.int .i64 0)), none, none⟩])
 (xCond (.t t197)
 (xSeq (xOps [⟨(some t198), oMov (.t t5), none, none⟩,
   ⟨(some t2), oMov (.v (.slice none 0 0)), none, none⟩,
   ⟨(some t3), oMov (.t t198), none, none⟩])
 xRet)
 xSkip))
 (xSeq (xOps [⟨(some t199), oMov (.t t4), none, none⟩,
   ⟨(some t200), oLoadN 4 (.t t7), none, none⟩,
   ⟨(some t201), oBuildSlice 1 [(.int .i64 0), (.string ⟨⟨[]⟩⟩), (.int .i64 0), (.int .i64 0)] [(0, 4, (.t t200))], none, none⟩,
   ⟨(some t202), oAppend 4 40 (.t t199) (.t t201), none, none⟩,
   ⟨(some t4), oMov (.t t202), none, none⟩])
 (xOps [⟨(some t203), oMov (.t t5), none, none⟩,
   ⟨(some t204), oMov (.t t8), none, none⟩,
   ⟨(some t205), oBin (int2 addO) (.t t203) (.t t204), none, none⟩,
   ⟨(some t5), oMov (.t t205), none, none⟩]))))))))))))
 (xSeq (xOps [⟨(some t206), oMov (.t t4), none, none⟩,
   ⟨(some t207), oMov (.t t0), none, none⟩,
   ⟨(some t208), oLenS (.t t207), none, none⟩,
   ⟨(some t209), oBuild [(.int .i64 0), (.string ⟨⟨[]⟩⟩), (.int .i64 0), (.int .i64 0)] [(3, 1, (.t t208))], none, none⟩,
   ⟨(some t210), oBuildSlice 1 [(.int .i64 0), (.string ⟨⟨[]⟩⟩), (.int .i64 0), (.int .i64 0)] [(0, 4, (.t t209))], none, none⟩,
   ⟨(some t211), oAppend 4 40 (.t t206) (.t t210), none, none⟩,
   ⟨(some t2), oMov (.t t211), none, none⟩,
   ⟨(some t3), oMov (.v (.int .i64 (-1))), none, none⟩])
 xRet)))))⟩
theorem ok19 : cFunc Try.prog gl ex Try.f19 = some c19 := by kernel_rfl
/-- publican/publicanref9.Parse -/
def c21 : AFunc := ⟨67, [.cell t2 (some 6), .tmp t3, .tmp t4],
 (xSeq (xOps [⟨(some t2), oNew [(.string ⟨⟨[]⟩⟩), (.string ⟨⟨[]⟩⟩), (.int .i64 0), (.int .i64 0), (.int .i64 0), (.slice none 0 0)], none, none⟩,
   ⟨(some t3), oMov (.v (.int .i64 0)), none, none⟩,
   ⟨(some t4), oMov (.v (.bool false)), none, none⟩])
 (xSeq (xOps [⟨(some t10), oMov (.t t0), none, none⟩,
   ⟨(some t11), oCall 19 [(.t t10)], none, none⟩,
   ⟨(some t9), oMov (.t t11), none, none⟩,
   ⟨(some t12), oExtract (.t t9) 0, none, none⟩,
   ⟨(some t13), oExtract (.t t9) 1, none, none⟩,
   ⟨(some t5), oMov (.t t12), none, none⟩,
   ⟨(some t6), oMov (.t t13), none, none⟩])
 (xSeq (xSeq (xOps [⟨(some t14), oMov (.t t6), none, none⟩,
   ⟨(some t15), oBin (int2 (cmpO geI)) (.t t14) (.v (.int .i64 0)), none, none⟩])
 (xCond (.t t15)
 (xSeq (xOps [⟨(some t16), oBuild [(.string ⟨⟨[]⟩⟩), (.string ⟨⟨[]⟩⟩), (.int .i64 0), (.int .i64 0), (.int .i64 0), (.slice none 0 0)] [], none, none⟩,
   ⟨(some t17), oMov (.t t6), none, none⟩,
   ⟨none, oStore 6 (.t t2) (.t t16), none, none⟩,
   ⟨(some t3), oMov (.t t17), none, none⟩,
   ⟨(some t4), oMov (.v (.bool false)), none, none⟩])
 xRet)
 xSkip))
 (xSeq (xOps [⟨(some t18), oMov (.t t5), none, none⟩,
   ⟨(some t19), oBuild [(.slice none 0 0), (.int .i64 0), (.int .i64 0), (.bool false), (.int .i64 0)] [(0, 1, (.t t18)), (2, 1, (.v (.int .i64 (-1))))], none, none⟩,
   ⟨(some t20), oBox (.t t19), none, none⟩,
   ⟨(some t7), oMov (.t t20), none, none⟩])
 (xSeq (xOps [⟨(some t21), oMov (.t t5), none, none⟩,
   ⟨(some t22), oIdxAddrL 4 (.t t21) (.v (.int .i64 0)), none, none⟩,
   ⟨(some t23), oFieldAddr 3 (.t t22), none, none⟩,
   ⟨(some t24), oLoad1 (.t t23), none, (some (.t t23))⟩,
   ⟨(some t25), oBuild [(.string ⟨⟨[]⟩⟩), (.string ⟨⟨[]⟩⟩), (.int .i64 0), (.int .i64 0), (.int .i64 0), (.slice none 0 0)] [(0, 1, (.v (.string ⟨⟨[115, 116, 97, 116, 117, 116, 101]⟩⟩))), (4, 1, (.t t24))], none, none⟩,
   ⟨(some t8), oNew [(.string ⟨⟨[]⟩⟩), (.string ⟨⟨[]⟩⟩), (.int .i64 0), (.int .i64 0), (.int .i64 0), (.slice none 0 0)], none, none⟩,
   ⟨none, oStore 6 (.t t8) (.t t25), none, none⟩])
 (xSeq (xBlock 0 (xLoop (xSeq (xSeq (xReg [⟨(some t26), oMov (.t t7), none, none⟩,
   ⟨(some t27), oNilCheck (.t t26), none, none⟩,
   ⟨(some t28), oFieldAddr 2 (.t t27), none, none⟩,
   ⟨(some t29), oLoad1 (.t t28), none, (some (.t t28))⟩,
   ⟨(some t30), oBin (int2 (cmpO ltI)) (.t t29) (.v (.int .i64 0)), none, none⟩,
   ⟨(some t31), oMov (.t t30), none, none⟩,
   ⟨(some t32), oMov (.t t7), (some (t31, true)), none⟩,
   ⟨(some t33), oNilCheck (.t t32), (some (t31, true)), none⟩,
   ⟨(some t34), oFieldAddr 0 (.t t33), (some (t31, true)), none⟩,
   ⟨(some t35), oLoad1 (.t t34), (some (t31, true)), (some (.t t34))⟩,
   ⟨(some t36), oMov (.t t7), (some (t31, true)), none⟩,
   ⟨(some t37), oNilCheck (.t t36), (some (t31, true)), none⟩,
   ⟨(some t38), oFieldAddr 1 (.t t37), (some (t31, true)), none⟩,
   ⟨(some t39), oLoad1 (.t t38), (some (t31, true)), (some (.t t38))⟩,
   ⟨(some t40), oIdxAddrL 4 (.t t35) (.t t39), (some (t31, true)), none⟩,
   ⟨(some t41), oFieldAddr 0 (.t t40), (some (t31, true)), none⟩,
   ⟨(some t42), oLoad1 (.t t41), (some (t31, true)), (some (.t t41))⟩,
   ⟨(some t43), oBin (int2 (cmpO neI)) (.t t42) (.v (.int .i64 0)), (some (t31, true)), none⟩,
   ⟨(some t44), oPick (.t t31) (.t t43) (.v (.bool false)), none, none⟩] [(6, 10), (7, 10), (8, 10), (9, 10), (6, 11), (7, 11), (8, 11), (9, 11), (6, 12), (7, 12), (8, 12), (9, 12), (6, 13), (7, 13), (8, 13), (9, 13)])
 (xCond (.t t44)
 xSkip
 (xExit 0)))
 (xBlock 1 (xReg [⟨(some t45), oFieldAddr 5 (.t t8), none, none⟩,
   ⟨(some t46), oLoad1 (.t t45), none, (some (.t t45))⟩,
   ⟨(some t47), oMov (.t t7), none, none⟩,
   ⟨(some t48), oCall 40 [(.t t47)], none, none⟩,
   ⟨(some t49), oBuildSlice 1 [(.string ⟨⟨[]⟩⟩), (.string ⟨⟨[]⟩⟩), (.int .i64 0), (.int .i64 0), (.int .i64 0), (.slice none 0 0)] [(0, 6, (.t t48))], none, none⟩,
   ⟨(some t50), oAppend 6 80 (.t t46) (.t t49), none, none⟩,
   ⟨(some t51), oFieldAddr 5 (.t t8), none, none⟩,
   ⟨none, oStore 1 (.t t51) (.t t50), none, none⟩] [(0, 2), (1, 2), (0, 3), (1, 3), (0, 4), (1, 4)])))))
 (xSeq (xSeq (xOps [⟨(some t52), oMov (.t t7), none, none⟩,
   ⟨(some t53), oNilCheck (.t t52), none, none⟩,
   ⟨(some t54), oFieldAddr 2 (.t t53), none, none⟩,
   ⟨(some t55), oLoad1 (.t t54), none, (some (.t t54))⟩,
   ⟨(some t56), oBin (int2 (cmpO geI)) (.t t55) (.v (.int .i64 0)), none, none⟩])
 (xCond (.t t56)
 (xSeq (xReg [⟨(some t57), oBuild [(.string ⟨⟨[]⟩⟩), (.string ⟨⟨[]⟩⟩), (.int .i64 0), (.int .i64 0), (.int .i64 0), (.slice none 0 0)] [], none, none⟩,
   ⟨(some t58), oMov (.t t7), none, none⟩,
   ⟨(some t59), oNilCheck (.t t58), none, none⟩,
   ⟨(some t60), oFieldAddr 2 (.t t59), none, none⟩,
   ⟨(some t61), oLoad1 (.t t60), none, (some (.t t60))⟩,
   ⟨(some t62), oMov (.t t7), none, none⟩,
   ⟨(some t63), oNilCheck (.t t62), none, none⟩,
   ⟨(some t64), oFieldAddr 3 (.t t63), none, none⟩,
   ⟨(some t65), oLoad1 (.t t64), none, (some (.t t64))⟩,
   ⟨none, oStore 6 (.t t2) (.t t57), none, none⟩,
   ⟨(some t3), oMov (.t t61), none, none⟩,
   ⟨(some t4), oMov (.t t65), none, none⟩] [(0, 1), (0, 2), (0, 3), (0, 4), (0, 5), (1, 5), (2, 5), (3, 5), (4, 5), (0, 6), (1, 6), (2, 6), (3, 6), (4, 6), (0, 7), (1, 7), (2, 7), (3, 7), (4, 7), (0, 8), (1, 8), (2, 8), (3, 8), (4, 8), (1, 9), (2, 9), (3, 9), (4, 9), (5, 9), (6, 9), (7, 9), (8, 9), (5, 10), (6, 10), (7, 10), (8, 10)])
 xRet)
 xSkip))
 (xSeq (xOps [⟨(some t66), oLoadN 6 (.t t8), none, none⟩,
   ⟨none, oStore 6 (.t t2) (.t t66), none, none⟩,
   ⟨(some t3), oMov (.v (.int .i64 (-1))), none, none⟩,
   ⟨(some t4), oMov (.v (.bool false)), none, none⟩])
 xRet))))))))⟩
theorem ok21 : cFunc Try.prog gl ex Try.f21 = some c21 := by kernel_rfl
end
end Go.Proofs.Ytcjamnbbedpebaa.AbsTypK
