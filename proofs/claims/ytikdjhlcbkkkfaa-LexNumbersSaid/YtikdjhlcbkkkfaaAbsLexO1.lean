import Derived.Test.YtikdjhlcbkkkfaaRows
import Derived.Test.YtikdjhlcbkkkfaaAbsLexOT
import Derived.KernelRfl
namespace Go.Proofs.Ytikdjhlcbkkkfaa.AbsLexO
open Go Go.Abs Go.Proofs
set_option maxRecDepth 100000
set_option linter.unusedVariables false
noncomputable section
-- publican/publicanref9.Kept
def c13_l0 : X := (xSeq (xSeq (xOps [⟨(some t6), oMov (.t t4), none, none⟩,
   ⟨(some t7), oMov (.t t3), none, none⟩,
   ⟨(some t8), oLenL (.t t7), none, none⟩,
   ⟨(some t9), oBin (int2 (cmpO ltI)) (.t t6) (.t t8), none, none⟩])
 (xCond (.t t9)
 xSkip
 (xExit 0)))
 (xSeq (xBlock 1 (xSeq (xOps [⟨(some t12), oMov (.t t3), none, none⟩,
   ⟨(some t13), oMov (.t t4), none, none⟩,
   ⟨(some t14), oIdxAddrL 1 (.t t12) (.t t13), none, none⟩,
   ⟨(some t15), oLoad1 (.t t14), none, (some (.t t14))⟩,
   ⟨(some t16), oMov (.t t0), none, none⟩,
   ⟨(some t17), oBin (str2 (cmpS eqBytes)) (.t t15) (.t t16), none, none⟩])
 (xCond (.t t17)
 (xSeq (xOps [⟨(some t2), oMov (.v (.bool true)), none, none⟩])
 xRet)
 xSkip)))
 (xOps [⟨(some t10), oMov (.t t4), none, none⟩,
   ⟨(some t11), oBin (int2 addO) (.t t10) (.v (.int .i64 1)), none, none⟩,
   ⟨(some t4), oMov (.t t11), none, none⟩])))
def c13_r0 : X := (xSeq (xOps [⟨(some t2), oMov (.v (.bool false)), none, none⟩])
 xRet)
def c13 : AFunc := ⟨18, [.tmp t2],
 (xSeq (xOps [⟨(some t2), oMov (.v (.bool false)), none, none⟩])
 (xSeq (xOps [⟨(some t5), oBuildSlice 23 (rep 23 [(.string ⟨⟨[]⟩⟩)]) [(0, 1, (.v (.string ⟨⟨[105, 110, 112, 117, 116]⟩⟩))), (1, 1, (.v (.string ⟨⟨[114, 117, 108, 101]⟩⟩))), (2, 1, (.v (.string ⟨⟨[116, 97, 98, 108, 101]⟩⟩))), (3, 1, (.v (.string ⟨⟨[98, 111, 111, 108]⟩⟩))), (4, 1, (.v (.string ⟨⟨[99, 111, 117, 110, 116]⟩⟩))), (5, 1, (.v (.string ⟨⟨[109, 111, 110, 101, 121]⟩⟩))), (6, 1, (.v (.string ⟨⟨[114, 97, 116, 101]⟩⟩))), (7, 1, (.v (.string ⟨⟨[100, 97, 116, 101]⟩⟩))), (8, 1, (.v (.string ⟨⟨[109, 111, 110, 101, 121, 115]⟩⟩))), (9, 1, (.v (.string ⟨⟨[105, 102]⟩⟩))), (10, 1, (.v (.string ⟨⟨[116, 104, 101, 110]⟩⟩))), (11, 1, (.v (.string ⟨⟨[101, 108, 115, 101]⟩⟩))), (12, 1, (.v (.string ⟨⟨[97, 110, 100]⟩⟩))), (13, 1, (.v (.string ⟨⟨[111, 114]⟩⟩))), (14, 1, (.v (.string ⟨⟨[110, 111, 116]⟩⟩))), (15, 1, (.v (.string ⟨⟨[109, 105, 110]⟩⟩))), (16, 1, (.v (.string ⟨⟨[109, 97, 120]⟩⟩))), (17, 1, (.v (.string ⟨⟨[115, 117, 109]⟩⟩))), (18, 1, (.v (.string ⟨⟨[105, 110]⟩⟩))), (19, 1, (.v (.string ⟨⟨[108, 101, 110]⟩⟩))), (20, 1, (.v (.string ⟨⟨[97, 116]⟩⟩))), (21, 1, (.v (.string ⟨⟨[116, 114, 117, 101]⟩⟩))), (22, 1, (.v (.string ⟨⟨[102, 97, 108, 115, 101]⟩⟩)))], none, none⟩,
   ⟨(some t3), oMov (.t t5), none, none⟩])
 (xSeq (xSeq (xOps [⟨(some t4), oMov (.v (.int .i64 0)), none, none⟩])
 (xBlock 0 (xLoop c13_l0)))
 c13_r0)))⟩
theorem ok13 : cFunc Try.prog gl ex Try.f13 = some c13 := by kernel_rfl
-- publican/lex.blanks
def c14_l0 : X := (xSeq (xSeq (xOps [⟨(some t5), oMov (.t t3), none, none⟩,
   ⟨(some t6), oMov (.t t0), none, none⟩,
   ⟨(some t7), oLenS (.t t6), none, none⟩,
   ⟨(some t8), oBin (int2 (cmpO ltI)) (.t t5) (.t t7), none, none⟩])
 (xCond (.t t8)
 xSkip
 (xExit 0)))
 (xBlock 1 (xSeq (xOps [⟨(some t9), oMov (.t t0), none, none⟩,
   ⟨(some t10), oMov (.t t3), none, none⟩,
   ⟨(some t11), oIdxS (.t t9) (.t t10), none, none⟩,
   ⟨(some t4), oMov (.t t11), none, none⟩])
 (xBlock 2 (xSeq (xOps [⟨(some t13), oMov (.t t4), none, none⟩,
   ⟨(some t14), oBin (int2 (cmpO eqI)) (.t t13) (.v (.int .u8 32)), none, none⟩,
   ⟨(some t15), oMov (.t t14), none, none⟩,
   ⟨(some t16), oMov (.t t4), (some (t15, false)), none⟩,
   ⟨(some t17), oBin (int2 (cmpO eqI)) (.t t16) (.v (.int .u8 9)), (some (t15, false)), none⟩,
   ⟨(some t18), oPick (.t t15) (.v (.bool true)) (.t t17), none, none⟩,
   ⟨(some t19), oMov (.t t18), none, none⟩,
   ⟨(some t20), oMov (.t t4), (some (t19, false)), none⟩,
   ⟨(some t21), oBin (int2 (cmpO eqI)) (.t t20) (.v (.int .u8 10)), (some (t19, false)), none⟩,
   ⟨(some t22), oPick (.t t19) (.v (.bool true)) (.t t21), none, none⟩,
   ⟨(some t23), oMov (.t t22), none, none⟩,
   ⟨(some t24), oMov (.t t4), (some (t23, false)), none⟩,
   ⟨(some t25), oBin (int2 (cmpO eqI)) (.t t24) (.v (.int .u8 13)), (some (t23, false)), none⟩,
   ⟨(some t26), oPick (.t t23) (.v (.bool true)) (.t t25), none, none⟩,
   ⟨(some t12), oMov (.t t26), none, none⟩])
 (xCond (.t t12)
 (xOps [⟨(some t27), oMov (.t t3), none, none⟩,
   ⟨(some t28), oBin (int2 addO) (.t t27) (.v (.int .i64 1)), none, none⟩,
   ⟨(some t3), oMov (.t t28), none, none⟩])
 (xSeq (xOps [⟨(some t30), oMov (.t t4), none, none⟩,
   ⟨(some t31), oBin (int2 (cmpO eqI)) (.t t30) (.v (.int .u8 35)), none, none⟩,
   ⟨(some t29), oMov (.t t31), none, none⟩])
 (xCond (.t t29)
 (xOps [⟨(some t32), oMov (.t t3), none, none⟩,
   ⟨(some t33), oMov (.t t0), none, none⟩,
   ⟨(some t34), oMov (.t t3), none, none⟩,
   ⟨(some t35), oSliceS (.t t33) (some (.t t34)) none, none, none⟩,
   ⟨(some t36), oCall 25 [(.t t35), (.v (.func (.func 26) #[] #[]))], none, none⟩,
   ⟨(some t37), oBin (int2 addO) (.t t32) (.t t36), none, none⟩,
   ⟨(some t3), oMov (.t t37), none, none⟩])
 (xExit 0)))))))))
def c14_r0 : X := (xSeq (xOps [⟨(some t38), oMov (.t t3), none, none⟩,
   ⟨(some t2), oMov (.t t38), none, none⟩])
 xRet)
def c14 : AFunc := ⟨39, [.tmp t2],
 (xSeq (xOps [⟨(some t2), oMov (.v (.int .i64 0)), none, none⟩])
 (xSeq (xOps [⟨(some t3), oMov (.v (.int .i64 0)), none, none⟩])
 (xSeq xSkip
 (xSeq (xBlock 0 (xLoop c14_l0))
 c14_r0))))⟩
theorem ok14 : cFunc Try.prog gl ex Try.f14 = some c14 := by kernel_rfl
-- publican/lex.word
def c15_j0 : X := (xSeq (xSeq (xOps [⟨(some t23), oFieldAddr 1 (.t t3), none, none⟩,
   ⟨(some t24), oLoad1 (.t t23), none, (some (.t t23))⟩,
   ⟨(some t25), oLenS (.t t24), none, none⟩,
   ⟨(some t26), oBin (int2 (cmpO gtI)) (.t t25) (.v (.int .i64 32)), none, none⟩])
 (xCond (.t t26)
 (xSeq (xOps [⟨(some t27), oBuild [(.int .i64 0), (.string ⟨⟨[]⟩⟩), (.int .i64 0), (.int .i64 0)] [], none, none⟩,
   ⟨none, oStore 4 (.t t2) (.t t27), none, none⟩])
 xRet)
 xSkip))
 (xSeq (xOps [⟨(some t28), oLoadN 4 (.t t3), none, none⟩,
   ⟨none, oStore 4 (.t t2) (.t t28), none, none⟩])
 xRet))
def c15_l0 : X := (xSeq (xOps [⟨(some t42), oBin (int2 (cmpO ltI)) (.t t41) (.t t40), none, none⟩])
 (xSeq (xCond (.t t42)
 xSkip
 (xExit 1))
 (xSeq (xBlock 2 (xSeq (xOps [⟨(some t43), oIdxAddrL 1 (.t t39) (.t t41), none, none⟩,
   ⟨(some t44), oLoad1 (.t t43), none, (some (.t t43))⟩,
   ⟨(some t5), oMov (.t t44), none, none⟩])
 (xSeq (xOps [⟨(some t46), oMov (.t t0), none, none⟩,
   ⟨(some t47), oMov (.t t5), none, none⟩,
   ⟨(some t48), oCall 31 [(.t t46), (.t t47)], none, none⟩,
   ⟨(some t45), oMov (.t t48), none, none⟩,
   ⟨(some t49), oExtract (.t t45) 0, none, none⟩,
   ⟨(some t50), oExtract (.t t45) 1, none, none⟩,
   ⟨(some t6), oMov (.t t49), none, none⟩,
   ⟨(some t7), oMov (.t t50), none, none⟩])
 (xSeq (xOps [⟨(some t51), oMov (.t t6), none, none⟩,
   ⟨(some t52), oBin (int2 (cmpO gtI)) (.t t51) (.v (.int .i64 0)), none, none⟩])
 (xCond (.t t52)
 (xSeq (xOps [⟨(some t53), oMov (.t t0), none, none⟩,
   ⟨(some t54), oMov (.t t5), none, none⟩,
   ⟨(some t55), oCall 29 [(.t t53), (.t t54)], none, none⟩,
   ⟨none, oStore 4 (.t t2) (.t t55), none, none⟩])
 xRet)
 xSkip)))))
 (xOps [⟨(some t56), oBin (int2 addO) (.t t41) (.v (.int .i64 1)), none, none⟩,
   ⟨(some t41), oMov (.t t56), none, none⟩]))))
def c15_l1 : X := (xSeq (xOps [⟨(some t60), oBin (int2 (cmpO ltI)) (.t t59) (.t t58), none, none⟩])
 (xSeq (xCond (.t t60)
 xSkip
 (xExit 3))
 (xSeq (xBlock 4 (xSeq (xOps [⟨(some t61), oIdxAddrL 1 (.t t57) (.t t59), none, none⟩,
   ⟨(some t62), oLoad1 (.t t61), none, (some (.t t61))⟩,
   ⟨(some t9), oMov (.t t62), none, none⟩])
 (xSeq (xOps [⟨(some t63), oMov (.t t0), none, none⟩,
   ⟨(some t64), oMov (.t t9), none, none⟩,
   ⟨(some t65), oCall 33 [(.t t63), (.t t64)], none, none⟩])
 (xCond (.t t65)
 (xSeq (xOps [⟨(some t66), oMov (.t t9), none, none⟩,
   ⟨(some t67), oBuild [(.int .i64 0), (.string ⟨⟨[]⟩⟩), (.int .i64 0), (.int .i64 0)] [(0, 1, (.v (.int .i64 7))), (1, 1, (.t t66))], none, none⟩,
   ⟨none, oStore 4 (.t t2) (.t t67), none, none⟩])
 xRet)
 xSkip))))
 (xOps [⟨(some t68), oBin (int2 addO) (.t t59) (.v (.int .i64 1)), none, none⟩,
   ⟨(some t59), oMov (.t t68), none, none⟩]))))
def c15_r0 : X := (xSeq (xOps [⟨(some t69), oBuild [(.int .i64 0), (.string ⟨⟨[]⟩⟩), (.int .i64 0), (.int .i64 0)] [], none, none⟩,
   ⟨none, oStore 4 (.t t2) (.t t69), none, none⟩])
 xRet)
def c15_r1 : X := (xSeq (xSeq (xOps [⟨(some t57), oCall 32 [], none, none⟩,
   ⟨(some t58), oLenL (.t t57), none, none⟩,
   ⟨(some t59), oMov (.v (.int .i64 0)), none, none⟩])
 (xBlock 3 (xLoop c15_l1)))
 c15_r0)
def c15 : AFunc := ⟨70, [.cell t2 (some 4)],
 (xSeq (xOps [⟨(some t2), oNew [(.int .i64 0), (.string ⟨⟨[]⟩⟩), (.int .i64 0), (.int .i64 0)], none, none⟩])
 (xSeq (xBlock 0 (xSeq (xOps [⟨(some t11), oMov (.t t0), none, none⟩,
   ⟨(some t12), oIdxS (.t t11) (.v (.int .i64 0)), none, none⟩,
   ⟨(some t13), oCall 27 [(.t t12)], none, none⟩,
   ⟨(some t10), oMov (.t t13), none, none⟩])
 (xCond (.t t10)
 (xSeq (xOps [⟨(some t14), oMov (.t t0), none, none⟩,
   ⟨(some t15), oMov (.t t0), none, none⟩,
   ⟨(some t16), oCall 25 [(.t t15), (.v (.func (.func 28) #[] #[]))], none, none⟩,
   ⟨(some t17), oSliceS (.t t14) none (some (.t t16)), none, none⟩,
   ⟨(some t18), oBuild [(.int .i64 0), (.string ⟨⟨[]⟩⟩), (.int .i64 0), (.int .i64 0)] [(0, 1, (.v (.int .i64 1))), (1, 1, (.t t17))], none, none⟩,
   ⟨(some t3), oNew [(.int .i64 0), (.string ⟨⟨[]⟩⟩), (.int .i64 0), (.int .i64 0)], none, none⟩,
   ⟨none, oStore 4 (.t t3) (.t t18), none, none⟩])
 (xSeq (xSeq (xOps [⟨(some t19), oFieldAddr 1 (.t t3), none, none⟩,
   ⟨(some t20), oLoad1 (.t t19), none, (some (.t t19))⟩,
   ⟨(some t21), oCall 12 [(.t t20)], none, none⟩])
 (xCond (.t t21)
 (xOps [⟨(some t22), oFieldAddr 0 (.t t3), none, none⟩,
   ⟨none, oStore 1 (.t t22) (.v (.int .i64 2)), none, none⟩])
 xSkip))
 c15_j0))
 (xSeq (xOps [⟨(some t30), oMov (.t t0), none, none⟩,
   ⟨(some t31), oIdxS (.t t30) (.v (.int .i64 0)), none, none⟩,
   ⟨(some t32), oBin (int2 (cmpO eqI)) (.t t31) (.v (.int .u8 36)), none, none⟩,
   ⟨(some t29), oMov (.t t32), none, none⟩])
 (xCond (.t t29)
 (xSeq (xOps [⟨(some t33), oMov (.t t0), none, none⟩,
   ⟨(some t34), oCall 29 [(.t t33), (.v (.int .i64 4))], none, none⟩,
   ⟨none, oStore 4 (.t t2) (.t t34), none, none⟩])
 xRet)
 (xSeq (xOps [⟨(some t36), oMov (.t t0), none, none⟩,
   ⟨(some t37), oIdxS (.t t36) (.v (.int .i64 0)), none, none⟩,
   ⟨(some t38), oCall 30 [(.t t37)], none, none⟩,
   ⟨(some t35), oMov (.t t38), none, none⟩])
 (xCond (.t t35)
 (xSeq (xOps [⟨(some t39), oBuildSlice 3 [(.int .i64 0), (.int .i64 0), (.int .i64 0)] [(0, 1, (.v (.int .i64 6))), (1, 1, (.v (.int .i64 5))), (2, 1, (.v (.int .i64 3)))], none, none⟩,
   ⟨(some t40), oLenL (.t t39), none, none⟩,
   ⟨(some t41), oMov (.v (.int .i64 0)), none, none⟩])
 (xBlock 1 (xLoop c15_l0)))
 xSkip)))))))
 c15_r1))⟩
theorem ok15 : cFunc Try.prog gl ex Try.f15 = some c15 := by kernel_rfl
-- publican/publicanref9.letter
def c16 : AFunc := ⟨9, [.tmp t2],
 (xSeq (xOps [⟨(some t2), oMov (.v (.bool false)), none, none⟩])
 (xSeq (xOps [⟨(some t3), oMov (.t t0), none, none⟩,
   ⟨(some t4), oBin (int2 (cmpO geI)) (.t t3) (.v (.int .u8 97)), none, none⟩,
   ⟨(some t5), oMov (.t t4), none, none⟩,
   ⟨(some t6), oMov (.t t0), (some (t5, true)), none⟩,
   ⟨(some t7), oBin (int2 (cmpO leI)) (.t t6) (.v (.int .u8 122)), (some (t5, true)), none⟩,
   ⟨(some t8), oPick (.t t5) (.t t7) (.v (.bool false)), none, none⟩,
   ⟨(some t2), oMov (.t t8), none, none⟩])
 xRet))⟩
theorem ok16 : cFunc Try.prog gl ex Try.f16 = some c16 := by kernel_rfl
-- publican/publicanref9.digit
def c17 : AFunc := ⟨9, [.tmp t2],
 (xSeq (xOps [⟨(some t2), oMov (.v (.bool false)), none, none⟩])
 (xSeq (xOps [⟨(some t3), oMov (.t t0), none, none⟩,
   ⟨(some t4), oBin (int2 (cmpO geI)) (.t t3) (.v (.int .u8 48)), none, none⟩,
   ⟨(some t5), oMov (.t t4), none, none⟩,
   ⟨(some t6), oMov (.t t0), (some (t5, true)), none⟩,
   ⟨(some t7), oBin (int2 (cmpO leI)) (.t t6) (.v (.int .u8 57)), (some (t5, true)), none⟩,
   ⟨(some t8), oPick (.t t5) (.t t7) (.v (.bool false)), none, none⟩,
   ⟨(some t2), oMov (.t t8), none, none⟩])
 xRet))⟩
theorem ok17 : cFunc Try.prog gl ex Try.f17 = some c17 := by kernel_rfl
-- publican/publicanref9.digits
def c18_q0 : List AOper := [⟨(some t30), oBin (int2 addO) (.t t29) (.v (.int .i64 10)), (some (t27, false)), none⟩,
   ⟨(some t31), oIdxS (.t t28) (.t t30), (some (t27, false)), none⟩,
   ⟨(some t32), oCall 17 [(.t t31)], (some (t27, false)), none⟩,
   ⟨(some t33), oNot (.t t32), (some (t27, false)), none⟩,
   ⟨(some t34), oPick (.t t27) (.v (.bool true)) (.t t33), (some (t21, true)), none⟩,
   ⟨(some t35), oPick (.t t21) (.t t34) (.v (.bool false)), none, none⟩]
def c18_j0 : X := (xCond (.t t35)
 (xSeq (xOps [⟨(some t37), oMov (.t t0), none, none⟩,
   ⟨(some t38), oMov (.t t1), none, none⟩,
   ⟨(some t39), oMov (.t t1), none, none⟩,
   ⟨(some t40), oBin (int2 addO) (.t t39) (.v (.int .i64 10)), none, none⟩,
   ⟨(some t41), oSliceS (.t t37) (some (.t t38)) (some (.t t40)), none, none⟩,
   ⟨(some t42), oCall 34 [(.t t41)], none, none⟩,
   ⟨(some t36), oMov (.t t42), none, none⟩,
   ⟨(some t43), oExtract (.t t36) 0, none, none⟩,
   ⟨(some t44), oExtract (.t t36) 1, none, none⟩,
   ⟨(some t6), oMov (.t t43), none, none⟩,
   ⟨(some t7), oMov (.t t44), none, none⟩])
 (xSeq (xOps [⟨(some t45), oMov (.t t7), none, none⟩])
 (xCond (.t t45)
 (xSeq (xOps [⟨(some t46), oMov (.t t0), none, none⟩,
   ⟨(some t47), oMov (.t t1), none, none⟩,
   ⟨(some t48), oMov (.t t1), none, none⟩,
   ⟨(some t49), oBin (int2 addO) (.t t48) (.v (.int .i64 10)), none, none⟩,
   ⟨(some t50), oSliceS (.t t46) (some (.t t47)) (some (.t t49)), none, none⟩,
   ⟨(some t51), oMov (.t t6), none, none⟩,
   ⟨(some t52), oMov (.t t1), none, none⟩,
   ⟨(some t53), oBuild [(.int .i64 0), (.string ⟨⟨[]⟩⟩), (.int .i64 0), (.int .i64 0)] [(0, 1, (.v (.int .i64 6))), (1, 1, (.t t50)), (2, 1, (.t t51)), (3, 1, (.t t52))], none, none⟩,
   ⟨none, oStore 4 (.t t4) (.t t53), none, none⟩,
   ⟨(some t5), oMov (.v (.int .i64 10)), none, none⟩])
 xRet)
 xSkip)))
 xSkip)
def c18_j1 : X := (xSeq (xSeq (xOps [⟨(some t92), oMov (.t t10), none, none⟩,
   ⟨(some t93), oMov (.t t0), none, none⟩,
   ⟨(some t94), oLenS (.t t93), none, none⟩,
   ⟨(some t95), oBin (int2 (cmpO ltI)) (.t t92) (.t t94), none, none⟩,
   ⟨(some t96), oMov (.t t95), none, none⟩,
   ⟨(some t97), oMov (.t t0), (some (t96, true)), none⟩,
   ⟨(some t98), oMov (.t t10), (some (t96, true)), none⟩,
   ⟨(some t99), oIdxS (.t t97) (.t t98), (some (t96, true)), none⟩,
   ⟨(some t100), oBin (int2 (cmpO eqI)) (.t t99) (.v (.int .u8 37)), (some (t96, true)), none⟩,
   ⟨(some t101), oPick (.t t96) (.t t100) (.v (.bool false)), none, none⟩])
 (xCond (.t t101)
 (xSeq (xOps [⟨(some t103), oMov (.t t0), none, none⟩,
   ⟨(some t104), oMov (.t t1), none, none⟩,
   ⟨(some t105), oMov (.t t1), none, none⟩,
   ⟨(some t106), oMov (.t t8), none, none⟩,
   ⟨(some t107), oBin (int2 addO) (.t t105) (.t t106), none, none⟩,
   ⟨(some t108), oSliceS (.t t103) (some (.t t104)) (some (.t t107)), none, none⟩,
   ⟨(some t109), oMov (.t t9), none, none⟩,
   ⟨(some t110), oCall 35 [(.t t108), (.t t109)], none, none⟩,
   ⟨(some t102), oMov (.t t110), none, none⟩,
   ⟨(some t111), oExtract (.t t102) 0, none, none⟩,
   ⟨(some t112), oExtract (.t t102) 1, none, none⟩,
   ⟨(some t12), oMov (.t t111), none, none⟩,
   ⟨(some t13), oMov (.t t112), none, none⟩])
 (xSeq (xSeq (xOps [⟨(some t113), oMov (.t t13), none, none⟩,
   ⟨(some t114), oNot (.t t113), none, none⟩])
 (xCond (.t t114)
 (xSeq (xOps [⟨(some t115), oBuild [(.int .i64 0), (.string ⟨⟨[]⟩⟩), (.int .i64 0), (.int .i64 0)] [], none, none⟩,
   ⟨none, oStore 4 (.t t4) (.t t115), none, none⟩,
   ⟨(some t5), oMov (.v (.int .i64 0)), none, none⟩])
 xRet)
 xSkip))
 (xSeq (xOps [⟨(some t116), oMov (.t t0), none, none⟩,
   ⟨(some t117), oMov (.t t1), none, none⟩,
   ⟨(some t118), oMov (.t t10), none, none⟩,
   ⟨(some t119), oBin (int2 addO) (.t t118) (.v (.int .i64 1)), none, none⟩,
   ⟨(some t120), oSliceS (.t t116) (some (.t t117)) (some (.t t119)), none, none⟩,
   ⟨(some t121), oMov (.t t12), none, none⟩,
   ⟨(some t122), oMov (.t t1), none, none⟩,
   ⟨(some t123), oBuild [(.int .i64 0), (.string ⟨⟨[]⟩⟩), (.int .i64 0), (.int .i64 0)] [(0, 1, (.v (.int .i64 5))), (1, 1, (.t t120)), (2, 1, (.t t121)), (3, 1, (.t t122))], none, none⟩,
   ⟨(some t124), oMov (.t t10), none, none⟩,
   ⟨(some t125), oBin (int2 addO) (.t t124) (.v (.int .i64 1)), none, none⟩,
   ⟨(some t126), oMov (.t t1), none, none⟩,
   ⟨(some t127), oBin (int2 subO) (.t t125) (.t t126), none, none⟩,
   ⟨none, oStore 4 (.t t4) (.t t123), none, none⟩,
   ⟨(some t5), oMov (.t t127), none, none⟩])
 xRet)))
 xSkip))
 (xSeq (xOps [⟨(some t129), oMov (.t t0), none, none⟩,
   ⟨(some t130), oMov (.t t1), none, none⟩,
   ⟨(some t131), oMov (.t t1), none, none⟩,
   ⟨(some t132), oMov (.t t8), none, none⟩,
   ⟨(some t133), oBin (int2 addO) (.t t131) (.t t132), none, none⟩,
   ⟨(some t134), oSliceS (.t t129) (some (.t t130)) (some (.t t133)), none, none⟩,
   ⟨(some t135), oCall 36 [(.t t134), (.v (.int .i64 4503599627370496))], none, none⟩,
   ⟨(some t128), oMov (.t t135), none, none⟩,
   ⟨(some t136), oExtract (.t t128) 0, none, none⟩,
   ⟨(some t137), oExtract (.t t128) 1, none, none⟩,
   ⟨(some t14), oMov (.t t136), none, none⟩,
   ⟨(some t15), oMov (.t t137), none, none⟩])
 (xSeq (xSeq (xOps [⟨(some t138), oMov (.t t15), none, none⟩,
   ⟨(some t139), oNot (.t t138), none, none⟩])
 (xCond (.t t139)
 (xSeq (xOps [⟨(some t140), oBuild [(.int .i64 0), (.string ⟨⟨[]⟩⟩), (.int .i64 0), (.int .i64 0)] [], none, none⟩,
   ⟨none, oStore 4 (.t t4) (.t t140), none, none⟩,
   ⟨(some t5), oMov (.v (.int .i64 0)), none, none⟩])
 xRet)
 xSkip))
 (xSeq (xOps [⟨(some t141), oMov (.t t0), none, none⟩,
   ⟨(some t142), oMov (.t t1), none, none⟩,
   ⟨(some t143), oMov (.t t1), none, none⟩,
   ⟨(some t144), oMov (.t t8), none, none⟩,
   ⟨(some t145), oBin (int2 addO) (.t t143) (.t t144), none, none⟩,
   ⟨(some t146), oSliceS (.t t141) (some (.t t142)) (some (.t t145)), none, none⟩,
   ⟨(some t147), oMov (.t t14), none, none⟩,
   ⟨(some t148), oMov (.t t1), none, none⟩,
   ⟨(some t149), oBuild [(.int .i64 0), (.string ⟨⟨[]⟩⟩), (.int .i64 0), (.int .i64 0)] [(0, 1, (.v (.int .i64 3))), (1, 1, (.t t146)), (2, 1, (.t t147)), (3, 1, (.t t148))], none, none⟩,
   ⟨(some t150), oMov (.t t8), none, none⟩,
   ⟨none, oStore 4 (.t t4) (.t t149), none, none⟩,
   ⟨(some t5), oMov (.t t150), none, none⟩])
 xRet))))
def c18_j2 : X := (xSeq (xOps [⟨(some t54), oMov (.t t0), none, none⟩,
   ⟨(some t55), oMov (.t t1), none, none⟩,
   ⟨(some t56), oCall 19 [(.t t54), (.t t55)], none, none⟩,
   ⟨(some t8), oMov (.t t56), none, none⟩])
 (xSeq (xOps [⟨(some t57), oMov (.t t1), none, none⟩,
   ⟨(some t58), oMov (.t t8), none, none⟩,
   ⟨(some t59), oBin (int2 addO) (.t t57) (.t t58), none, none⟩,
   ⟨(some t9), oMov (.v (.string ⟨⟨[]⟩⟩)), none, none⟩,
   ⟨(some t10), oMov (.t t59), none, none⟩])
 (xSeq (xSeq (xOps [⟨(some t60), oMov (.t t10), none, none⟩,
   ⟨(some t61), oMov (.t t0), none, none⟩,
   ⟨(some t62), oLenS (.t t61), none, none⟩,
   ⟨(some t63), oBin (int2 (cmpO ltI)) (.t t60) (.t t62), none, none⟩,
   ⟨(some t64), oMov (.t t63), none, none⟩,
   ⟨(some t65), oMov (.t t0), (some (t64, true)), none⟩,
   ⟨(some t66), oMov (.t t10), (some (t64, true)), none⟩,
   ⟨(some t67), oIdxS (.t t65) (.t t66), (some (t64, true)), none⟩,
   ⟨(some t68), oBin (int2 (cmpO eqI)) (.t t67) (.v (.int .u8 46)), (some (t64, true)), none⟩,
   ⟨(some t69), oPick (.t t64) (.t t68) (.v (.bool false)), none, none⟩])
 (xCond (.t t69)
 (xSeq (xOps [⟨(some t70), oMov (.t t0), none, none⟩,
   ⟨(some t71), oMov (.t t10), none, none⟩,
   ⟨(some t72), oBin (int2 addO) (.t t71) (.v (.int .i64 1)), none, none⟩,
   ⟨(some t73), oCall 19 [(.t t70), (.t t72)], none, none⟩,
   ⟨(some t11), oMov (.t t73), none, none⟩])
 (xSeq (xOps [⟨(some t74), oMov (.t t11), none, none⟩,
   ⟨(some t75), oBin (int2 (cmpO geI)) (.t t74) (.v (.int .i64 1)), none, none⟩,
   ⟨(some t76), oMov (.t t75), none, none⟩,
   ⟨(some t77), oMov (.t t11), (some (t76, true)), none⟩,
   ⟨(some t78), oBin (int2 (cmpO leI)) (.t t77) (.v (.int .i64 4)), (some (t76, true)), none⟩,
   ⟨(some t79), oPick (.t t76) (.t t78) (.v (.bool false)), none, none⟩])
 (xCond (.t t79)
 (xSeq (xOps [⟨(some t80), oMov (.t t0), none, none⟩,
   ⟨(some t81), oMov (.t t10), none, none⟩,
   ⟨(some t82), oBin (int2 addO) (.t t81) (.v (.int .i64 1)), none, none⟩,
   ⟨(some t83), oMov (.t t10), none, none⟩,
   ⟨(some t84), oBin (int2 addO) (.t t83) (.v (.int .i64 1)), none, none⟩,
   ⟨(some t85), oMov (.t t11), none, none⟩,
   ⟨(some t86), oBin (int2 addO) (.t t84) (.t t85), none, none⟩,
   ⟨(some t87), oSliceS (.t t80) (some (.t t82)) (some (.t t86)), none, none⟩,
   ⟨(some t9), oMov (.t t87), none, none⟩])
 (xOps [⟨(some t88), oMov (.t t10), none, none⟩,
   ⟨(some t89), oBin (int2 addO) (.t t88) (.v (.int .i64 1)), none, none⟩,
   ⟨(some t90), oMov (.t t11), none, none⟩,
   ⟨(some t91), oBin (int2 addO) (.t t89) (.t t90), none, none⟩,
   ⟨(some t10), oMov (.t t91), none, none⟩]))
 xSkip)))
 xSkip))
 c18_j1)))
def c18 : AFunc := ⟨151, [.cell t4 (some 4), .tmp t5],
 (xSeq (xOps [⟨(some t4), oNew [(.int .i64 0), (.string ⟨⟨[]⟩⟩), (.int .i64 0), (.int .i64 0)], none, none⟩,
   ⟨(some t5), oMov (.v (.int .i64 0)), none, none⟩])
 (xSeq (xSeq (xOps (⟨(some t16), oMov (.t t1), none, none⟩ ::
   ⟨(some t17), oBin (int2 addO) (.t t16) (.v (.int .i64 10)), none, none⟩ ::
   ⟨(some t18), oMov (.t t0), none, none⟩ ::
   ⟨(some t19), oLenS (.t t18), none, none⟩ ::
   ⟨(some t20), oBin (int2 (cmpO leI)) (.t t17) (.t t19), none, none⟩ ::
   ⟨(some t21), oMov (.t t20), none, none⟩ ::
   ⟨(some t22), oMov (.t t1), (some (t21, true)), none⟩ ::
   ⟨(some t23), oBin (int2 addO) (.t t22) (.v (.int .i64 10)), (some (t21, true)), none⟩ ::
   ⟨(some t24), oMov (.t t0), (some (t21, true)), none⟩ ::
   ⟨(some t25), oLenS (.t t24), (some (t21, true)), none⟩ ::
   ⟨(some t26), oBin (int2 (cmpO eqI)) (.t t23) (.t t25), (some (t21, true)), none⟩ ::
   ⟨(some t27), oMov (.t t26), (some (t21, true)), none⟩ ::
   ⟨(some t28), oMov (.t t0), (some (t27, false)), none⟩ ::
   ⟨(some t29), oMov (.t t1), (some (t27, false)), none⟩ :: c18_q0))
 c18_j0)
 c18_j2))⟩
theorem ok18 : cFunc Try.prog gl ex Try.f18 = some c18 := by kernel_rfl
-- publican/publicanref9.run
def c19_l0 : X := (xSeq (xSeq (xOps [⟨(some t6), oMov (.t t1), none, none⟩,
   ⟨(some t7), oMov (.t t5), none, none⟩,
   ⟨(some t8), oBin (int2 addO) (.t t6) (.t t7), none, none⟩,
   ⟨(some t9), oMov (.t t0), none, none⟩,
   ⟨(some t10), oLenS (.t t9), none, none⟩,
   ⟨(some t11), oBin (int2 (cmpO ltI)) (.t t8) (.t t10), none, none⟩,
   ⟨(some t12), oMov (.t t11), none, none⟩,
   ⟨(some t13), oMov (.t t0), (some (t12, true)), none⟩,
   ⟨(some t14), oMov (.t t1), (some (t12, true)), none⟩,
   ⟨(some t15), oMov (.t t5), (some (t12, true)), none⟩,
   ⟨(some t16), oBin (int2 addO) (.t t14) (.t t15), (some (t12, true)), none⟩,
   ⟨(some t17), oIdxS (.t t13) (.t t16), (some (t12, true)), none⟩,
   ⟨(some t18), oCall 17 [(.t t17)], (some (t12, true)), none⟩,
   ⟨(some t19), oPick (.t t12) (.t t18) (.v (.bool false)), none, none⟩])
 (xCond (.t t19)
 xSkip
 (xExit 0)))
 (xBlock 1 (xOps [⟨(some t20), oMov (.t t5), none, none⟩,
   ⟨(some t21), oBin (int2 addO) (.t t20) (.v (.int .i64 1)), none, none⟩,
   ⟨(some t5), oMov (.t t21), none, none⟩])))
def c19_r0 : X := (xSeq (xOps [⟨(some t22), oMov (.t t5), none, none⟩,
   ⟨(some t4), oMov (.t t22), none, none⟩])
 xRet)
def c19 : AFunc := ⟨23, [.tmp t4],
 (xSeq (xOps [⟨(some t4), oMov (.v (.int .i64 0)), none, none⟩])
 (xSeq (xOps [⟨(some t5), oMov (.v (.int .i64 0)), none, none⟩])
 (xSeq (xBlock 0 (xLoop c19_l0))
 c19_r0)))⟩
theorem ok19 : cFunc Try.prog gl ex Try.f19 = some c19 := by kernel_rfl
-- publican/publicanref9.money
def c20 : AFunc := ⟨37, [.tmp t4, .tmp t5],
 (xSeq (xOps [⟨(some t4), oMov (.v (.int .i64 0)), none, none⟩,
   ⟨(some t5), oMov (.v (.bool false)), none, none⟩])
 (xSeq (xOps [⟨(some t11), oMov (.t t0), none, none⟩,
   ⟨(some t12), oCall 36 [(.t t11), (.v (.int .i64 4503599627370496))], none, none⟩,
   ⟨(some t10), oMov (.t t12), none, none⟩,
   ⟨(some t13), oExtract (.t t10) 0, none, none⟩,
   ⟨(some t14), oExtract (.t t10) 1, none, none⟩,
   ⟨(some t6), oMov (.t t13), none, none⟩,
   ⟨(some t7), oMov (.t t14), none, none⟩])
 (xSeq (xOps [⟨(some t16), oMov (.t t1), none, none⟩,
   ⟨(some t17), oCall 36 [(.t t16), (.v (.int .i64 99))], none, none⟩,
   ⟨(some t15), oMov (.t t17), none, none⟩,
   ⟨(some t18), oExtract (.t t15) 0, none, none⟩,
   ⟨(some t19), oExtract (.t t15) 1, none, none⟩,
   ⟨(some t8), oMov (.t t18), none, none⟩,
   ⟨(some t9), oMov (.t t19), none, none⟩])
 (xSeq (xSeq (xOps [⟨(some t20), oMov (.t t7), none, none⟩,
   ⟨(some t21), oNot (.t t20), none, none⟩,
   ⟨(some t22), oMov (.t t21), none, none⟩,
   ⟨(some t23), oMov (.t t6), (some (t22, false)), none⟩,
   ⟨(some t24), oBin (int2 (cmpO gtI)) (.t t23) (.v (.int .i64 45035996273704)), (some (t22, false)), none⟩,
   ⟨(some t25), oPick (.t t22) (.v (.bool true)) (.t t24), none, none⟩,
   ⟨(some t26), oMov (.t t25), none, none⟩,
   ⟨(some t27), oMov (.t t6), (some (t26, false)), none⟩,
   ⟨(some t28), oBin (int2 mulO) (.v (.int .i64 100)) (.t t27), (some (t26, false)), none⟩,
   ⟨(some t29), oMov (.t t8), (some (t26, false)), none⟩,
   ⟨(some t30), oBin (int2 addO) (.t t28) (.t t29), (some (t26, false)), none⟩,
   ⟨(some t31), oBin (int2 (cmpO gtI)) (.t t30) (.v (.int .i64 4503599627370496)), (some (t26, false)), none⟩,
   ⟨(some t32), oPick (.t t26) (.v (.bool true)) (.t t31), none, none⟩])
 (xCond (.t t32)
 (xSeq (xOps [⟨(some t4), oMov (.v (.int .i64 0)), none, none⟩,
   ⟨(some t5), oMov (.v (.bool false)), none, none⟩])
 xRet)
 xSkip))
 (xSeq (xOps [⟨(some t33), oMov (.t t6), none, none⟩,
   ⟨(some t34), oBin (int2 mulO) (.v (.int .i64 100)) (.t t33), none, none⟩,
   ⟨(some t35), oMov (.t t8), none, none⟩,
   ⟨(some t36), oBin (int2 addO) (.t t34) (.t t35), none, none⟩,
   ⟨(some t4), oMov (.t t36), none, none⟩,
   ⟨(some t5), oMov (.v (.bool true)), none, none⟩])
 xRet)))))⟩
theorem ok20 : cFunc Try.prog gl ex Try.f20 = some c20 := by kernel_rfl
-- publican/publicanref9.sign
def c21_g0 : List AOper := [⟨(some t14), oMov (.t t0), none, none⟩,
   ⟨(some t15), oLenS (.t t14), none, none⟩,
   ⟨(some t16), oBin (int2 (cmpO geI)) (.t t15) (.v (.int .i64 2)), none, none⟩,
   ⟨(some t17), oMov (.t t16), none, none⟩,
   ⟨(some t18), oMov (.t t0), (some (t17, true)), none⟩,
   ⟨(some t19), oSliceS (.t t18) none (some (.v (.int .i64 2))), (some (t17, true)), none⟩,
   ⟨(some t20), oMov (.t t3), (some (t17, true)), none⟩,
   ⟨(some t21), oMov (.t t4), (some (t17, true)), none⟩,
   ⟨(some t22), oIdxAddrL 1 (.t t20) (.t t21), (some (t17, true)), none⟩,
   ⟨(some t23), oLoad1 (.t t22), (some (t17, true)), (some (.t t22))⟩,
   ⟨(some t24), oBin (str2 (cmpS eqBytes)) (.t t19) (.t t23), (some (t17, true)), none⟩,
   ⟨(some t25), oPick (.t t17) (.t t24) (.v (.bool false)), none, none⟩]
def c21_g1 : List AOper := [⟨(some t36), oMov (.t t0), none, none⟩,
   ⟨(some t37), oIdxS (.t t36) (.v (.int .i64 0)), none, none⟩,
   ⟨(some t38), oMov (.t t5), none, none⟩,
   ⟨(some t39), oMov (.t t6), none, none⟩,
   ⟨(some t40), oIdxS (.t t38) (.t t39), none, none⟩,
   ⟨(some t41), oBin (int2 (cmpO eqI)) (.t t37) (.t t40), none, none⟩]
def c21_l0 : X := (xSeq (xSeq (xOps [⟨(some t8), oMov (.t t4), none, none⟩,
   ⟨(some t9), oMov (.t t3), none, none⟩,
   ⟨(some t10), oLenL (.t t9), none, none⟩,
   ⟨(some t11), oBin (int2 (cmpO ltI)) (.t t8) (.t t10), none, none⟩])
 (xCond (.t t11)
 xSkip
 (xExit 0)))
 (xSeq (xBlock 1 (xSeq (xReg c21_g0 [(4, 6), (5, 6), (4, 7), (5, 7), (6, 7), (4, 8), (5, 8), (4, 9), (5, 9)])
 (xCond (.t t25)
 (xSeq (xOps [⟨(some t26), oMov (.t t3), none, none⟩,
   ⟨(some t27), oMov (.t t4), none, none⟩,
   ⟨(some t28), oIdxAddrL 1 (.t t26) (.t t27), none, none⟩,
   ⟨(some t29), oLoad1 (.t t28), none, (some (.t t28))⟩,
   ⟨(some t2), oMov (.t t29), none, none⟩])
 xRet)
 xSkip)))
 (xOps [⟨(some t12), oMov (.t t4), none, none⟩,
   ⟨(some t13), oBin (int2 addO) (.t t12) (.v (.int .i64 1)), none, none⟩,
   ⟨(some t4), oMov (.t t13), none, none⟩])))
def c21_l1 : X := (xSeq (xSeq (xOps [⟨(some t30), oMov (.t t6), none, none⟩,
   ⟨(some t31), oMov (.t t5), none, none⟩,
   ⟨(some t32), oLenS (.t t31), none, none⟩,
   ⟨(some t33), oBin (int2 (cmpO ltI)) (.t t30) (.t t32), none, none⟩])
 (xCond (.t t33)
 xSkip
 (xExit 2)))
 (xSeq (xBlock 3 (xSeq (xReg c21_g1 [(0, 2), (1, 2), (0, 3), (1, 3), (2, 3), (0, 4), (1, 4)])
 (xCond (.t t41)
 (xSeq (xOps [⟨(some t42), oMov (.t t0), none, none⟩,
   ⟨(some t43), oSliceS (.t t42) none (some (.v (.int .i64 1))), none, none⟩,
   ⟨(some t2), oMov (.t t43), none, none⟩])
 xRet)
 xSkip)))
 (xOps [⟨(some t34), oMov (.t t6), none, none⟩,
   ⟨(some t35), oBin (int2 addO) (.t t34) (.v (.int .i64 1)), none, none⟩,
   ⟨(some t6), oMov (.t t35), none, none⟩])))
def c21_r0 : X := (xSeq (xOps [⟨(some t2), oMov (.v (.string ⟨⟨[]⟩⟩)), none, none⟩])
 xRet)
def c21_r1 : X := (xSeq (xOps [⟨(some t5), oMov (.v (.string ⟨⟨[40, 41, 123, 125, 91, 93, 44, 59, 58, 61, 43, 45, 42, 47, 60, 62]⟩⟩)), none, none⟩])
 (xSeq (xSeq (xOps [⟨(some t6), oMov (.v (.int .i64 0)), none, none⟩])
 (xBlock 2 (xLoop c21_l1)))
 c21_r0))
def c21 : AFunc := ⟨44, [.tmp t2],
 (xSeq (xOps [⟨(some t2), oMov (.v (.string ⟨⟨[]⟩⟩)), none, none⟩])
 (xSeq (xOps [⟨(some t7), oBuildSlice 4 [(.string ⟨⟨[]⟩⟩), (.string ⟨⟨[]⟩⟩), (.string ⟨⟨[]⟩⟩), (.string ⟨⟨[]⟩⟩)] [(0, 1, (.v (.string ⟨⟨[60, 61]⟩⟩))), (1, 1, (.v (.string ⟨⟨[62, 61]⟩⟩))), (2, 1, (.v (.string ⟨⟨[61, 61]⟩⟩))), (3, 1, (.v (.string ⟨⟨[33, 61]⟩⟩)))], none, none⟩,
   ⟨(some t3), oMov (.t t7), none, none⟩])
 (xSeq (xSeq (xOps [⟨(some t4), oMov (.v (.int .i64 0)), none, none⟩])
 (xBlock 0 (xLoop c21_l0)))
 c21_r1)))⟩
theorem ok21 : cFunc Try.prog gl ex Try.f21 = some c21 := by kernel_rfl
-- publican/publicanref1.Text
def c22 : AFunc := ⟨28, [.tmp t2],
 (xSeq (xOps [⟨(some t2), oMov (.v (.string ⟨⟨[]⟩⟩)), none, none⟩])
 (xSeq (xSeq (xOps [⟨(some t3), oMov (.t t0), none, none⟩,
   ⟨(some t4), oBin (int2 (cmpO ltI)) (.t t3) (.v (.int .i64 0)), none, none⟩])
 (xCond (.t t4)
 (xSeq (xSeq (xOps [⟨(some t5), oMov (.t t0), none, none⟩,
   ⟨(some t6), oBin (int2 (cmpO eqI)) (.t t5) (.v (.int .i64 (-9223372036854775808))), none, none⟩])
 (xCond (.t t6)
 (xSeq (xOps [⟨(some t2), oMov (.v (.string ⟨⟨[45, 57, 50, 50, 51, 51, 55, 50, 48, 51, 54, 56, 53, 52, 55, 55, 53, 56, 48, 56]⟩⟩)), none, none⟩])
 xRet)
 xSkip))
 (xSeq (xOps [⟨(some t7), oMov (.t t0), none, none⟩,
   ⟨(some t8), oNeg (.t t7), none, none⟩,
   ⟨(some t9), oCall 22 [(.t t8)], none, none⟩,
   ⟨(some t10), oBin (str2 catO) (.v (.string ⟨⟨[45]⟩⟩)) (.t t9), none, none⟩,
   ⟨(some t2), oMov (.t t10), none, none⟩])
 xRet))
 xSkip))
 (xSeq (xSeq (xOps [⟨(some t11), oMov (.t t0), none, none⟩,
   ⟨(some t12), oBin (int2 (cmpO ltI)) (.t t11) (.v (.int .i64 10)), none, none⟩])
 (xCond (.t t12)
 (xSeq (xOps [⟨(some t13), oMov (.t t0), none, none⟩,
   ⟨(some t14), oBin (int2 addO) (.v (.int .i64 48)) (.t t13), none, none⟩,
   ⟨(some t15), oConv .u8 (.t t14), none, none⟩,
   ⟨(some t16), oBuildSlice 1 [(.int .u8 0)] [(0, 1, (.t t15))], none, none⟩,
   ⟨(some t17), oBytesStr (.t t16), none, none⟩,
   ⟨(some t2), oMov (.t t17), none, none⟩])
 xRet)
 xSkip))
 (xSeq (xReg [⟨(some t18), oMov (.t t0), none, none⟩,
   ⟨(some t19), oBin (int2 quoO) (.t t18) (.v (.int .i64 10)), none, none⟩,
   ⟨(some t20), oCall 22 [(.t t19)], none, none⟩,
   ⟨(some t21), oMov (.t t0), none, none⟩,
   ⟨(some t22), oBin (int2 remO) (.t t21) (.v (.int .i64 10)), none, none⟩,
   ⟨(some t23), oBin (int2 addO) (.v (.int .i64 48)) (.t t22), none, none⟩,
   ⟨(some t24), oConv .u8 (.t t23), none, none⟩,
   ⟨(some t25), oBuildSlice 1 [(.int .u8 0)] [(0, 1, (.t t24))], none, none⟩,
   ⟨(some t26), oBytesStr (.t t25), none, none⟩,
   ⟨(some t27), oBin (str2 catO) (.t t20) (.t t26), none, none⟩,
   ⟨(some t2), oMov (.t t27), none, none⟩] [(0, 3), (1, 3), (2, 3), (0, 4), (1, 4), (2, 4), (0, 5), (1, 5), (2, 5), (0, 6), (1, 6), (2, 6), (0, 7), (1, 7), (2, 7), (0, 8), (1, 8), (2, 8)])
 xRet))))⟩
theorem ok22 : cFunc Try.prog gl ex Try.f22 = some c22 := by kernel_rfl
-- publican/publicanref9.digitsOf
def c23_l0 : X := (xSeq (xSeq (xOps [⟨(some t8), oMov (.t t5), none, none⟩,
   ⟨(some t9), oLenS (.t t8), none, none⟩,
   ⟨(some t10), oMov (.t t1), none, none⟩,
   ⟨(some t11), oBin (int2 (cmpO ltI)) (.t t9) (.t t10), none, none⟩])
 (xCond (.t t11)
 xSkip
 (xExit 0)))
 (xBlock 1 (xOps [⟨(some t12), oMov (.t t5), none, none⟩,
   ⟨(some t13), oBin (str2 catO) (.v (.string ⟨⟨[48]⟩⟩)) (.t t12), none, none⟩,
   ⟨(some t5), oMov (.t t13), none, none⟩])))
def c23_r0 : X := (xSeq (xOps [⟨(some t14), oMov (.t t5), none, none⟩,
   ⟨(some t4), oMov (.t t14), none, none⟩])
 xRet)
def c23 : AFunc := ⟨15, [.tmp t4],
 (xSeq (xOps [⟨(some t4), oMov (.v (.string ⟨⟨[]⟩⟩)), none, none⟩])
 (xSeq (xOps [⟨(some t6), oMov (.t t0), none, none⟩,
   ⟨(some t7), oCall 22 [(.t t6)], none, none⟩,
   ⟨(some t5), oMov (.t t7), none, none⟩])
 (xSeq (xBlock 0 (xLoop c23_l0))
 c23_r0)))⟩
theorem ok23 : cFunc Try.prog gl ex Try.f23 = some c23 := by kernel_rfl
-- publican/publicanref1.DayText
def c24 : AFunc := ⟨30, [.tmp t2],
 (xSeq (xOps [⟨(some t2), oMov (.v (.string ⟨⟨[]⟩⟩)), none, none⟩])
 (xSeq (xOps [⟨(some t8), oMov (.t t0), none, none⟩,
   ⟨(some t9), oCall 37 [(.t t8)], none, none⟩,
   ⟨(some t7), oMov (.t t9), none, none⟩,
   ⟨(some t10), oExtract (.t t7) 0, none, none⟩,
   ⟨(some t11), oExtract (.t t7) 1, none, none⟩,
   ⟨(some t12), oExtract (.t t7) 2, none, none⟩,
   ⟨(some t13), oExtract (.t t7) 3, none, none⟩,
   ⟨(some t3), oMov (.t t10), none, none⟩,
   ⟨(some t4), oMov (.t t11), none, none⟩,
   ⟨(some t5), oMov (.t t12), none, none⟩,
   ⟨(some t6), oMov (.t t13), none, none⟩])
 (xSeq (xSeq (xOps [⟨(some t14), oMov (.t t6), none, none⟩,
   ⟨(some t15), oNot (.t t14), none, none⟩])
 (xCond (.t t15)
 (xSeq (xOps [⟨(some t2), oMov (.v (.string ⟨⟨[]⟩⟩)), none, none⟩])
 xRet)
 xSkip))
 (xSeq (xOps [⟨(some t16), oMov (.t t3), none, none⟩,
   ⟨(some t17), oBin (int2 quoO) (.t t16) (.v (.int .i64 100)), none, none⟩,
   ⟨(some t18), oCall 38 [(.t t17)], none, none⟩,
   ⟨(some t19), oMov (.t t3), none, none⟩,
   ⟨(some t20), oCall 38 [(.t t19)], none, none⟩,
   ⟨(some t21), oBin (str2 catO) (.t t18) (.t t20), none, none⟩,
   ⟨(some t22), oBin (str2 catO) (.t t21) (.v (.string ⟨⟨[45]⟩⟩)), none, none⟩,
   ⟨(some t23), oMov (.t t4), none, none⟩,
   ⟨(some t24), oCall 38 [(.t t23)], none, none⟩,
   ⟨(some t25), oBin (str2 catO) (.t t22) (.t t24), none, none⟩,
   ⟨(some t26), oBin (str2 catO) (.t t25) (.v (.string ⟨⟨[45]⟩⟩)), none, none⟩,
   ⟨(some t27), oMov (.t t5), none, none⟩,
   ⟨(some t28), oCall 38 [(.t t27)], none, none⟩,
   ⟨(some t29), oBin (str2 catO) (.t t26) (.t t28), none, none⟩,
   ⟨(some t2), oMov (.t t29), none, none⟩])
 xRet))))⟩
theorem ok24 : cFunc Try.prog gl ex Try.f24 = some c24 := by kernel_rfl
-- publican/lex.while
def c25_l0 : X := (xSeq (xSeq (xOps [⟨(some t6), oMov (.t t5), none, none⟩,
   ⟨(some t7), oMov (.t t0), none, none⟩,
   ⟨(some t8), oLenS (.t t7), none, none⟩,
   ⟨(some t9), oBin (int2 (cmpO ltI)) (.t t6) (.t t8), none, none⟩,
   ⟨(some t10), oMov (.t t9), none, none⟩,
   ⟨(some t11), oMov (.t t1), (some (t10, true)), none⟩,
   ⟨(some t12), oMov (.t t0), (some (t10, true)), none⟩,
   ⟨(some t13), oMov (.t t5), (some (t10, true)), none⟩,
   ⟨(some t14), oIdxS (.t t12) (.t t13), (some (t10, true)), none⟩,
   ⟨(some t15), oCallV (.t t11) [(.t t14)], (some (t10, true)), none⟩,
   ⟨(some t16), oPick (.t t10) (.t t15) (.v (.bool false)), none, none⟩])
 (xCond (.t t16)
 xSkip
 (xExit 0)))
 (xBlock 1 (xOps [⟨(some t17), oMov (.t t5), none, none⟩,
   ⟨(some t18), oBin (int2 addO) (.t t17) (.v (.int .i64 1)), none, none⟩,
   ⟨(some t5), oMov (.t t18), none, none⟩])))
def c25_r0 : X := (xSeq (xOps [⟨(some t19), oMov (.t t5), none, none⟩,
   ⟨(some t4), oMov (.t t19), none, none⟩])
 xRet)
def c25 : AFunc := ⟨20, [.tmp t4],
 (xSeq (xOps [⟨(some t4), oMov (.v (.int .i64 0)), none, none⟩])
 (xSeq (xOps [⟨(some t5), oMov (.v (.int .i64 0)), none, none⟩])
 (xSeq (xBlock 0 (xLoop c25_l0))
 c25_r0)))⟩
theorem ok25 : cFunc Try.prog gl ex Try.f25 = some c25 := by kernel_rfl
-- publican/lex.blanks$1
def c26 : AFunc := ⟨5, [.tmp t2],
 (xSeq (xOps [⟨(some t2), oMov (.v (.bool false)), none, none⟩])
 (xSeq (xOps [⟨(some t3), oMov (.t t0), none, none⟩,
   ⟨(some t4), oBin (int2 (cmpO neI)) (.t t3) (.v (.int .u8 10)), none, none⟩,
   ⟨(some t2), oMov (.t t4), none, none⟩])
 xRet))⟩
theorem ok26 : cFunc Try.prog gl ex Try.f26 = some c26 := by kernel_rfl
-- publican/lex.letter
def c27 : AFunc := ⟨9, [.tmp t2],
 (xSeq (xOps [⟨(some t2), oMov (.v (.bool false)), none, none⟩])
 (xSeq (xOps [⟨(some t3), oMov (.t t0), none, none⟩,
   ⟨(some t4), oBin (int2 (cmpO geI)) (.t t3) (.v (.int .u8 97)), none, none⟩,
   ⟨(some t5), oMov (.t t4), none, none⟩,
   ⟨(some t6), oMov (.t t0), (some (t5, true)), none⟩,
   ⟨(some t7), oBin (int2 (cmpO leI)) (.t t6) (.v (.int .u8 122)), (some (t5, true)), none⟩,
   ⟨(some t8), oPick (.t t5) (.t t7) (.v (.bool false)), none, none⟩,
   ⟨(some t2), oMov (.t t8), none, none⟩])
 xRet))⟩
theorem ok27 : cFunc Try.prog gl ex Try.f27 = some c27 := by kernel_rfl
-- publican/lex.inName
def c28 : AFunc := ⟨13, [.tmp t2],
 (xSeq (xOps [⟨(some t2), oMov (.v (.bool false)), none, none⟩])
 (xSeq (xOps [⟨(some t3), oMov (.t t0), none, none⟩,
   ⟨(some t4), oCall 27 [(.t t3)], none, none⟩,
   ⟨(some t5), oMov (.t t4), none, none⟩,
   ⟨(some t6), oMov (.t t0), (some (t5, false)), none⟩,
   ⟨(some t7), oCall 30 [(.t t6)], (some (t5, false)), none⟩,
   ⟨(some t8), oPick (.t t5) (.v (.bool true)) (.t t7), none, none⟩,
   ⟨(some t9), oMov (.t t8), none, none⟩,
   ⟨(some t10), oMov (.t t0), (some (t9, false)), none⟩,
   ⟨(some t11), oBin (int2 (cmpO eqI)) (.t t10) (.v (.int .u8 95)), (some (t9, false)), none⟩,
   ⟨(some t12), oPick (.t t9) (.v (.bool true)) (.t t11), none, none⟩,
   ⟨(some t2), oMov (.t t12), none, none⟩])
 xRet))⟩
theorem ok28 : cFunc Try.prog gl ex Try.f28 = some c28 := by kernel_rfl
-- publican/lex.made
def c29 : AFunc := ⟨26, [.cell t4 (some 4)],
 (xSeq (xOps [⟨(some t4), oNew [(.int .i64 0), (.string ⟨⟨[]⟩⟩), (.int .i64 0), (.int .i64 0)], none, none⟩])
 (xSeq (xOps [⟨(some t8), oMov (.t t0), none, none⟩,
   ⟨(some t9), oMov (.t t1), none, none⟩,
   ⟨(some t10), oCall 31 [(.t t8), (.t t9)], none, none⟩,
   ⟨(some t7), oMov (.t t10), none, none⟩,
   ⟨(some t11), oExtract (.t t7) 0, none, none⟩,
   ⟨(some t12), oExtract (.t t7) 1, none, none⟩,
   ⟨(some t5), oMov (.t t11), none, none⟩,
   ⟨(some t6), oMov (.t t12), none, none⟩])
 (xSeq (xSeq (xOps [⟨(some t13), oMov (.t t5), none, none⟩,
   ⟨(some t14), oBin (int2 (cmpO eqI)) (.t t13) (.v (.int .i64 0)), none, none⟩,
   ⟨(some t15), oMov (.t t14), none, none⟩,
   ⟨(some t16), oMov (.t t6), (some (t15, false)), none⟩,
   ⟨(some t17), oBin (int2 (cmpO ltI)) (.t t16) (.v (.int .i64 0)), (some (t15, false)), none⟩,
   ⟨(some t18), oPick (.t t15) (.v (.bool true)) (.t t17), none, none⟩])
 (xCond (.t t18)
 (xSeq (xOps [⟨(some t19), oBuild [(.int .i64 0), (.string ⟨⟨[]⟩⟩), (.int .i64 0), (.int .i64 0)] [], none, none⟩,
   ⟨none, oStore 4 (.t t4) (.t t19), none, none⟩])
 xRet)
 xSkip))
 (xSeq (xOps [⟨(some t20), oMov (.t t1), none, none⟩,
   ⟨(some t21), oMov (.t t0), none, none⟩,
   ⟨(some t22), oMov (.t t5), none, none⟩,
   ⟨(some t23), oSliceS (.t t21) none (some (.t t22)), none, none⟩,
   ⟨(some t24), oMov (.t t6), none, none⟩,
   ⟨(some t25), oBuild [(.int .i64 0), (.string ⟨⟨[]⟩⟩), (.int .i64 0), (.int .i64 0)] [(0, 1, (.t t20)), (1, 1, (.t t23)), (2, 1, (.t t24))], none, none⟩,
   ⟨none, oStore 4 (.t t4) (.t t25), none, none⟩])
 xRet))))⟩
theorem ok29 : cFunc Try.prog gl ex Try.f29 = some c29 := by kernel_rfl
-- publican/lex.digit
def c30 : AFunc := ⟨9, [.tmp t2],
 (xSeq (xOps [⟨(some t2), oMov (.v (.bool false)), none, none⟩])
 (xSeq (xOps [⟨(some t3), oMov (.t t0), none, none⟩,
   ⟨(some t4), oBin (int2 (cmpO geI)) (.t t3) (.v (.int .u8 48)), none, none⟩,
   ⟨(some t5), oMov (.t t4), none, none⟩,
   ⟨(some t6), oMov (.t t0), (some (t5, true)), none⟩,
   ⟨(some t7), oBin (int2 (cmpO leI)) (.t t6) (.v (.int .u8 57)), (some (t5, true)), none⟩,
   ⟨(some t8), oPick (.t t5) (.t t7) (.v (.bool false)), none, none⟩,
   ⟨(some t2), oMov (.t t8), none, none⟩])
 xRet))⟩
theorem ok30 : cFunc Try.prog gl ex Try.f30 = some c30 := by kernel_rfl
-- publican/lex.read
def c31 : AFunc := ⟨33, [.tmp t4, .tmp t5],
 (xSeq (xOps [⟨(some t4), oMov (.v (.int .i64 0)), none, none⟩,
   ⟨(some t5), oMov (.v (.int .i64 0)), none, none⟩])
 (xSeq (xSeq (xOps [⟨(some t7), oMov (.t t1), none, none⟩])
 (xBlock 0 (xSeq (xOps [⟨(some t9), oBin (int2 (cmpO eqI)) (.t t7) (.v (.int .i64 4)), none, none⟩,
   ⟨(some t8), oMov (.t t9), none, none⟩])
 (xCond (.t t8)
 (xSeq (xOps [⟨(some t10), oMov (.t t0), none, none⟩,
   ⟨(some t11), oCall 39 [(.t t10)], none, none⟩,
   ⟨(some t12), oExtract (.t t11) 0, none, none⟩,
   ⟨(some t13), oExtract (.t t11) 1, none, none⟩,
   ⟨(some t4), oMov (.t t12), none, none⟩,
   ⟨(some t5), oMov (.t t13), none, none⟩])
 xRet)
 (xSeq (xOps [⟨(some t15), oBin (int2 (cmpO eqI)) (.t t7) (.v (.int .i64 5)), none, none⟩,
   ⟨(some t14), oMov (.t t15), none, none⟩])
 (xCond (.t t14)
 (xSeq (xOps [⟨(some t16), oMov (.t t0), none, none⟩,
   ⟨(some t17), oCall 40 [(.t t16)], none, none⟩,
   ⟨(some t18), oExtract (.t t17) 0, none, none⟩,
   ⟨(some t19), oExtract (.t t17) 1, none, none⟩,
   ⟨(some t4), oMov (.t t18), none, none⟩,
   ⟨(some t5), oMov (.t t19), none, none⟩])
 xRet)
 (xSeq (xOps [⟨(some t21), oBin (int2 (cmpO eqI)) (.t t7) (.v (.int .i64 6)), none, none⟩,
   ⟨(some t20), oMov (.t t21), none, none⟩])
 (xCond (.t t20)
 (xSeq (xOps [⟨(some t22), oMov (.t t0), none, none⟩,
   ⟨(some t23), oCall 41 [(.t t22)], none, none⟩,
   ⟨(some t24), oExtract (.t t23) 0, none, none⟩,
   ⟨(some t25), oExtract (.t t23) 1, none, none⟩,
   ⟨(some t4), oMov (.t t24), none, none⟩,
   ⟨(some t5), oMov (.t t25), none, none⟩])
 xRet)
 xSkip))))))))
 (xSeq (xOps [⟨(some t26), oMov (.t t0), none, none⟩,
   ⟨(some t27), oCall 25 [(.t t26), (.v (.func (.func 30) #[] #[]))], none, none⟩,
   ⟨(some t6), oMov (.t t27), none, none⟩])
 (xSeq (xOps [⟨(some t28), oMov (.t t6), none, none⟩,
   ⟨(some t29), oMov (.t t0), none, none⟩,
   ⟨(some t30), oMov (.t t6), none, none⟩,
   ⟨(some t31), oSliceS (.t t29) none (some (.t t30)), none, none⟩,
   ⟨(some t32), oCall 42 [(.t t31), (.v (.int .i64 4503599627370496))], none, none⟩,
   ⟨(some t4), oMov (.t t28), none, none⟩,
   ⟨(some t5), oMov (.t t32), none, none⟩])
 xRet))))⟩
theorem ok31 : cFunc Try.prog gl ex Try.f31 = some c31 := by kernel_rfl
-- publican/lex.signs
def c32 : AFunc := ⟨2, [.tmp t0],
 (xSeq (xOps [⟨(some t0), oMov (.v (.slice none 0 0)), none, none⟩])
 (xSeq (xOps [⟨(some t1), oBuildSlice 20 (rep 20 [(.string ⟨⟨[]⟩⟩)]) [(0, 1, (.v (.string ⟨⟨[60, 61]⟩⟩))), (1, 1, (.v (.string ⟨⟨[62, 61]⟩⟩))), (2, 1, (.v (.string ⟨⟨[61, 61]⟩⟩))), (3, 1, (.v (.string ⟨⟨[33, 61]⟩⟩))), (4, 1, (.v (.string ⟨⟨[40]⟩⟩))), (5, 1, (.v (.string ⟨⟨[41]⟩⟩))), (6, 1, (.v (.string ⟨⟨[123]⟩⟩))), (7, 1, (.v (.string ⟨⟨[125]⟩⟩))), (8, 1, (.v (.string ⟨⟨[91]⟩⟩))), (9, 1, (.v (.string ⟨⟨[93]⟩⟩))), (10, 1, (.v (.string ⟨⟨[44]⟩⟩))), (11, 1, (.v (.string ⟨⟨[59]⟩⟩))), (12, 1, (.v (.string ⟨⟨[58]⟩⟩))), (13, 1, (.v (.string ⟨⟨[61]⟩⟩))), (14, 1, (.v (.string ⟨⟨[43]⟩⟩))), (15, 1, (.v (.string ⟨⟨[45]⟩⟩))), (16, 1, (.v (.string ⟨⟨[42]⟩⟩))), (17, 1, (.v (.string ⟨⟨[47]⟩⟩))), (18, 1, (.v (.string ⟨⟨[60]⟩⟩))), (19, 1, (.v (.string ⟨⟨[62]⟩⟩)))], none, none⟩,
   ⟨(some t0), oMov (.t t1), none, none⟩])
 xRet))⟩
theorem ok32 : cFunc Try.prog gl ex Try.f32 = some c32 := by kernel_rfl
-- strings.HasPrefix
def c33 : AFunc := ⟨8, [.tmp t4],
 (xSeq (xOps [⟨(some t4), oMov (.v (.bool false)), none, none⟩])
 (xSeq (xOps [⟨(some t5), oMov (.t t0), none, none⟩,
   ⟨(some t6), oMov (.t t1), none, none⟩,
   ⟨(some t7), oCall 43 [(.t t5), (.t t6)], none, none⟩,
   ⟨(some t4), oMov (.t t7), none, none⟩])
 xRet))⟩
theorem ok33 : cFunc Try.prog gl ex Try.f33 = some c33 := by kernel_rfl
-- publican/publicanref1.ReadDay
def c34_g0 : List AOper := [⟨(some t45), oMov (.t t4), none, none⟩,
   ⟨(some t46), oMov (.t t6), none, none⟩,
   ⟨(some t47), oMov (.t t4), none, none⟩,
   ⟨(some t48), oMov (.t t6), none, none⟩,
   ⟨(some t49), oIdxAddrL 1 (.t t47) (.t t48), none, none⟩,
   ⟨(some t50), oLoad1 (.t t49), none, (some (.t t49))⟩,
   ⟨(some t51), oBin (int2 mulO) (.v (.int .i64 10)) (.t t50), none, none⟩,
   ⟨(some t52), oMov (.t t0), none, none⟩,
   ⟨(some t53), oMov (.t t5), none, none⟩,
   ⟨(some t54), oIdxS (.t t52) (.t t53), none, none⟩,
   ⟨(some t55), oBin (int2 subO) (.t t54) (.v (.int .u8 48)), none, none⟩,
   ⟨(some t56), oConv .i64 (.t t55), none, none⟩,
   ⟨(some t57), oBin (int2 addO) (.t t51) (.t t56), none, none⟩,
   ⟨(some t58), oIdxAddrL 1 (.t t45) (.t t46), none, none⟩,
   ⟨none, oStore 1 (.t t58) (.t t57), none, none⟩]
def c34_g1 : List AOper := [⟨(some t59), oMov (.t t4), none, none⟩,
   ⟨(some t60), oIdxAddrL 1 (.t t59) (.v (.int .i64 0)), none, none⟩,
   ⟨(some t61), oLoad1 (.t t60), none, (some (.t t60))⟩,
   ⟨(some t62), oMov (.t t4), none, none⟩,
   ⟨(some t63), oIdxAddrL 1 (.t t62) (.v (.int .i64 1)), none, none⟩,
   ⟨(some t64), oLoad1 (.t t63), none, (some (.t t63))⟩,
   ⟨(some t65), oMov (.t t4), none, none⟩,
   ⟨(some t66), oIdxAddrL 1 (.t t65) (.v (.int .i64 2)), none, none⟩,
   ⟨(some t67), oLoad1 (.t t66), none, (some (.t t66))⟩,
   ⟨(some t68), oCall 44 [(.t t61), (.t t64), (.t t67)], none, none⟩,
   ⟨(some t69), oExtract (.t t68) 0, none, none⟩,
   ⟨(some t70), oExtract (.t t68) 1, none, none⟩,
   ⟨(some t2), oMov (.t t69), none, none⟩,
   ⟨(some t3), oMov (.t t70), none, none⟩]
def c34_j0 : X := (xSeq (xSeq (xOps [⟨(some t43), oMov (.t t5), none, none⟩,
   ⟨(some t44), oBin (int2 (cmpO gtI)) (.t t43) (.v (.int .i64 7)), none, none⟩])
 (xCond (.t t44)
 (xOps [⟨(some t6), oMov (.v (.int .i64 2)), none, none⟩])
 xSkip))
 (xReg c34_g0 [(0, 1), (0, 2), (1, 2), (0, 3), (1, 3), (2, 3), (0, 4), (1, 4), (0, 5), (1, 5), (0, 6), (1, 6), (0, 7), (1, 7), (2, 7), (3, 7), (4, 7), (5, 7), (6, 7), (0, 8), (1, 8), (2, 8), (3, 8), (4, 8), (5, 8), (6, 8), (7, 8), (0, 9), (1, 9), (2, 9), (3, 9), (4, 9), (5, 9), (6, 9), (0, 10), (1, 10), (2, 10), (3, 10), (4, 10), (5, 10), (6, 10), (0, 11), (1, 11), (2, 11), (3, 11), (4, 11), (5, 11), (6, 11), (0, 12), (1, 12)]))
def c34_j1 : X := (xOps [⟨(some t23), oMov (.t t5), none, none⟩,
   ⟨(some t24), oBin (int2 addO) (.t t23) (.v (.int .i64 1)), none, none⟩,
   ⟨(some t5), oMov (.t t24), none, none⟩])
def c34_l0 : X := (xSeq (xSeq (xOps [⟨(some t21), oMov (.t t5), none, none⟩,
   ⟨(some t22), oBin (int2 (cmpO ltI)) (.t t21) (.v (.int .i64 10)), none, none⟩])
 (xCond (.t t22)
 xSkip
 (xExit 0)))
 (xSeq (xBlock 1 (xSeq (xSeq (xOps [⟨(some t25), oMov (.t t5), none, none⟩,
   ⟨(some t26), oBin (int2 (cmpO eqI)) (.t t25) (.v (.int .i64 4)), none, none⟩,
   ⟨(some t27), oMov (.t t26), none, none⟩,
   ⟨(some t28), oMov (.t t5), (some (t27, false)), none⟩,
   ⟨(some t29), oBin (int2 (cmpO eqI)) (.t t28) (.v (.int .i64 7)), (some (t27, false)), none⟩,
   ⟨(some t30), oPick (.t t27) (.v (.bool true)) (.t t29), none, none⟩])
 (xCond (.t t30)
 (xExit 1)
 xSkip))
 (xSeq (xSeq (xOps [⟨(some t31), oMov (.t t0), none, none⟩,
   ⟨(some t32), oMov (.t t5), none, none⟩,
   ⟨(some t33), oIdxS (.t t31) (.t t32), none, none⟩,
   ⟨(some t34), oBin (int2 (cmpO ltI)) (.t t33) (.v (.int .u8 48)), none, none⟩,
   ⟨(some t35), oMov (.t t34), none, none⟩,
   ⟨(some t36), oMov (.t t0), (some (t35, false)), none⟩,
   ⟨(some t37), oMov (.t t5), (some (t35, false)), none⟩,
   ⟨(some t38), oIdxS (.t t36) (.t t37), (some (t35, false)), none⟩,
   ⟨(some t39), oBin (int2 (cmpO gtI)) (.t t38) (.v (.int .u8 57)), (some (t35, false)), none⟩,
   ⟨(some t40), oPick (.t t35) (.v (.bool true)) (.t t39), none, none⟩])
 (xCond (.t t40)
 (xSeq (xOps [⟨(some t2), oMov (.v (.int .i64 0)), none, none⟩,
   ⟨(some t3), oMov (.v (.bool false)), none, none⟩])
 xRet)
 xSkip))
 (xSeq (xOps [⟨(some t6), oMov (.v (.int .i64 0)), none, none⟩])
 (xSeq (xSeq (xOps [⟨(some t41), oMov (.t t5), none, none⟩,
   ⟨(some t42), oBin (int2 (cmpO gtI)) (.t t41) (.v (.int .i64 4)), none, none⟩])
 (xCond (.t t42)
 (xOps [⟨(some t6), oMov (.v (.int .i64 1)), none, none⟩])
 xSkip))
 c34_j0)))))
 c34_j1))
def c34_r0 : X := (xSeq (xReg c34_g1 [(0, 3), (1, 3), (2, 3), (0, 4), (1, 4), (2, 4), (0, 5), (1, 5), (2, 5), (0, 6), (1, 6), (2, 6), (3, 6), (4, 6), (5, 6), (0, 7), (1, 7), (2, 7), (3, 7), (4, 7), (5, 7), (0, 8), (1, 8), (2, 8), (3, 8), (4, 8), (5, 8), (10, 11)])
 xRet)
def c34 : AFunc := ⟨71, [.tmp t2, .tmp t3],
 (xSeq (xOps [⟨(some t2), oMov (.v (.int .i64 0)), none, none⟩,
   ⟨(some t3), oMov (.v (.bool false)), none, none⟩])
 (xSeq (xSeq (xOps [⟨(some t7), oMov (.t t0), none, none⟩,
   ⟨(some t8), oLenS (.t t7), none, none⟩,
   ⟨(some t9), oBin (int2 (cmpO neI)) (.t t8) (.v (.int .i64 10)), none, none⟩,
   ⟨(some t10), oMov (.t t9), none, none⟩,
   ⟨(some t11), oMov (.t t0), (some (t10, false)), none⟩,
   ⟨(some t12), oIdxS (.t t11) (.v (.int .i64 4)), (some (t10, false)), none⟩,
   ⟨(some t13), oBin (int2 (cmpO neI)) (.t t12) (.v (.int .u8 45)), (some (t10, false)), none⟩,
   ⟨(some t14), oPick (.t t10) (.v (.bool true)) (.t t13), none, none⟩,
   ⟨(some t15), oMov (.t t14), none, none⟩,
   ⟨(some t16), oMov (.t t0), (some (t15, false)), none⟩,
   ⟨(some t17), oIdxS (.t t16) (.v (.int .i64 7)), (some (t15, false)), none⟩,
   ⟨(some t18), oBin (int2 (cmpO neI)) (.t t17) (.v (.int .u8 45)), (some (t15, false)), none⟩,
   ⟨(some t19), oPick (.t t15) (.v (.bool true)) (.t t18), none, none⟩])
 (xCond (.t t19)
 (xSeq (xOps [⟨(some t2), oMov (.v (.int .i64 0)), none, none⟩,
   ⟨(some t3), oMov (.v (.bool false)), none, none⟩])
 xRet)
 xSkip))
 (xSeq (xOps [⟨(some t20), oBuildSlice 3 [(.int .i64 0), (.int .i64 0), (.int .i64 0)] [(0, 1, (.v (.int .i64 0))), (1, 1, (.v (.int .i64 0))), (2, 1, (.v (.int .i64 0)))], none, none⟩,
   ⟨(some t4), oMov (.t t20), none, none⟩])
 (xSeq (xSeq (xOps [⟨(some t5), oMov (.v (.int .i64 0)), none, none⟩])
 (xBlock 0 (xLoop c34_l0)))
 c34_r0))))⟩
theorem ok34 : cFunc Try.prog gl ex Try.f34 = some c34 := by kernel_rfl
-- publican/publicanref9.percent
def c35_l0 : X := (xSeq (xSeq (xOps [⟨(some t10), oMov (.t t1), none, none⟩,
   ⟨(some t11), oLenS (.t t10), none, none⟩,
   ⟨(some t12), oBin (int2 (cmpO ltI)) (.t t11) (.v (.int .i64 4)), none, none⟩])
 (xCond (.t t12)
 xSkip
 (xExit 0)))
 (xBlock 1 (xOps [⟨(some t13), oMov (.t t1), none, none⟩,
   ⟨(some t14), oBin (str2 catO) (.t t13) (.v (.string ⟨⟨[48]⟩⟩)), none, none⟩,
   ⟨(some t1), oMov (.t t14), none, none⟩])))
def c35_r0 : X := (xSeq (xOps [⟨(some t16), oMov (.t t0), none, none⟩,
   ⟨(some t17), oCall 36 [(.t t16), (.v (.int .i64 1000000000000))], none, none⟩,
   ⟨(some t15), oMov (.t t17), none, none⟩,
   ⟨(some t18), oExtract (.t t15) 0, none, none⟩,
   ⟨(some t19), oExtract (.t t15) 1, none, none⟩,
   ⟨(some t6), oMov (.t t18), none, none⟩,
   ⟨(some t7), oMov (.t t19), none, none⟩])
 (xSeq (xOps [⟨(some t21), oMov (.t t1), none, none⟩,
   ⟨(some t22), oCall 36 [(.t t21), (.v (.int .i64 9999))], none, none⟩,
   ⟨(some t20), oMov (.t t22), none, none⟩,
   ⟨(some t23), oExtract (.t t20) 0, none, none⟩,
   ⟨(some t24), oExtract (.t t20) 1, none, none⟩,
   ⟨(some t8), oMov (.t t23), none, none⟩,
   ⟨(some t9), oMov (.t t24), none, none⟩])
 (xSeq (xSeq (xOps [⟨(some t25), oMov (.t t7), none, none⟩,
   ⟨(some t26), oNot (.t t25), none, none⟩,
   ⟨(some t27), oMov (.t t26), none, none⟩,
   ⟨(some t28), oMov (.t t6), (some (t27, false)), none⟩,
   ⟨(some t29), oBin (int2 (cmpO gtI)) (.t t28) (.v (.int .i64 100000000)), (some (t27, false)), none⟩,
   ⟨(some t30), oPick (.t t27) (.v (.bool true)) (.t t29), none, none⟩,
   ⟨(some t31), oMov (.t t30), none, none⟩,
   ⟨(some t32), oMov (.t t6), (some (t31, false)), none⟩,
   ⟨(some t33), oBin (int2 mulO) (.v (.int .i64 10000)) (.t t32), (some (t31, false)), none⟩,
   ⟨(some t34), oMov (.t t8), (some (t31, false)), none⟩,
   ⟨(some t35), oBin (int2 addO) (.t t33) (.t t34), (some (t31, false)), none⟩,
   ⟨(some t36), oBin (int2 (cmpO gtI)) (.t t35) (.v (.int .i64 1000000000000)), (some (t31, false)), none⟩,
   ⟨(some t37), oPick (.t t31) (.v (.bool true)) (.t t36), none, none⟩])
 (xCond (.t t37)
 (xSeq (xOps [⟨(some t4), oMov (.v (.int .i64 0)), none, none⟩,
   ⟨(some t5), oMov (.v (.bool false)), none, none⟩])
 xRet)
 xSkip))
 (xSeq (xOps [⟨(some t38), oMov (.t t6), none, none⟩,
   ⟨(some t39), oBin (int2 mulO) (.v (.int .i64 10000)) (.t t38), none, none⟩,
   ⟨(some t40), oMov (.t t8), none, none⟩,
   ⟨(some t41), oBin (int2 addO) (.t t39) (.t t40), none, none⟩,
   ⟨(some t4), oMov (.t t41), none, none⟩,
   ⟨(some t5), oMov (.v (.bool true)), none, none⟩])
 xRet))))
def c35 : AFunc := ⟨42, [.tmp t4, .tmp t5],
 (xSeq (xOps [⟨(some t4), oMov (.v (.int .i64 0)), none, none⟩,
   ⟨(some t5), oMov (.v (.bool false)), none, none⟩])
 (xSeq (xBlock 0 (xLoop c35_l0))
 c35_r0))⟩
theorem ok35 : cFunc Try.prog gl ex Try.f35 = some c35 := by kernel_rfl
-- publican/publicanref9.number
def c36_l0 : X := (xSeq (xSeq (xOps [⟨(some t8), oMov (.t t7), none, none⟩,
   ⟨(some t9), oMov (.t t0), none, none⟩,
   ⟨(some t10), oLenS (.t t9), none, none⟩,
   ⟨(some t11), oBin (int2 (cmpO ltI)) (.t t8) (.t t10), none, none⟩])
 (xCond (.t t11)
 xSkip
 (xExit 0)))
 (xSeq (xBlock 1 (xSeq (xSeq (xOps [⟨(some t14), oMov (.t t6), none, none⟩,
   ⟨(some t15), oMov (.t t1), none, none⟩,
   ⟨(some t16), oBin (int2 quoO) (.t t15) (.v (.int .i64 10)), none, none⟩,
   ⟨(some t17), oBin (int2 (cmpO gtI)) (.t t14) (.t t16), none, none⟩])
 (xCond (.t t17)
 (xSeq (xOps [⟨(some t4), oMov (.v (.int .i64 0)), none, none⟩,
   ⟨(some t5), oMov (.v (.bool false)), none, none⟩])
 xRet)
 xSkip))
 (xSeq (xOps [⟨(some t18), oMov (.t t6), none, none⟩,
   ⟨(some t19), oBin (int2 mulO) (.v (.int .i64 10)) (.t t18), none, none⟩,
   ⟨(some t20), oMov (.t t0), none, none⟩,
   ⟨(some t21), oMov (.t t7), none, none⟩,
   ⟨(some t22), oIdxS (.t t20) (.t t21), none, none⟩,
   ⟨(some t23), oBin (int2 subO) (.t t22) (.v (.int .u8 48)), none, none⟩,
   ⟨(some t24), oConv .i64 (.t t23), none, none⟩,
   ⟨(some t25), oBin (int2 addO) (.t t19) (.t t24), none, none⟩,
   ⟨(some t6), oMov (.t t25), none, none⟩])
 (xSeq (xOps [⟨(some t26), oMov (.t t6), none, none⟩,
   ⟨(some t27), oMov (.t t1), none, none⟩,
   ⟨(some t28), oBin (int2 (cmpO gtI)) (.t t26) (.t t27), none, none⟩])
 (xCond (.t t28)
 (xSeq (xOps [⟨(some t4), oMov (.v (.int .i64 0)), none, none⟩,
   ⟨(some t5), oMov (.v (.bool false)), none, none⟩])
 xRet)
 xSkip)))))
 (xOps [⟨(some t12), oMov (.t t7), none, none⟩,
   ⟨(some t13), oBin (int2 addO) (.t t12) (.v (.int .i64 1)), none, none⟩,
   ⟨(some t7), oMov (.t t13), none, none⟩])))
def c36_r0 : X := (xSeq (xOps [⟨(some t29), oMov (.t t6), none, none⟩,
   ⟨(some t4), oMov (.t t29), none, none⟩,
   ⟨(some t5), oMov (.v (.bool true)), none, none⟩])
 xRet)
def c36 : AFunc := ⟨30, [.tmp t4, .tmp t5],
 (xSeq (xOps [⟨(some t4), oMov (.v (.int .i64 0)), none, none⟩,
   ⟨(some t5), oMov (.v (.bool false)), none, none⟩])
 (xSeq (xOps [⟨(some t6), oMov (.v (.int .i64 0)), none, none⟩])
 (xSeq (xSeq (xOps [⟨(some t7), oMov (.v (.int .i64 0)), none, none⟩])
 (xBlock 0 (xLoop c36_l0)))
 c36_r0)))⟩
theorem ok36 : cFunc Try.prog gl ex Try.f36 = some c36 := by kernel_rfl
-- publican/publicanref1.Date
def c37_l0 : X := (xBlock 1 (xSeq (xOps [⟨(some t7), oMov (.v (.int .i64 365)), none, none⟩])
 (xSeq (xSeq (xOps [⟨(some t15), oMov (.t t6), none, none⟩,
   ⟨(some t16), oCall 45 [(.t t15)], none, none⟩])
 (xCond (.t t16)
 (xOps [⟨(some t7), oMov (.v (.int .i64 366)), none, none⟩])
 xSkip))
 (xSeq (xSeq (xOps [⟨(some t17), oMov (.t t0), none, none⟩,
   ⟨(some t18), oMov (.t t7), none, none⟩,
   ⟨(some t19), oBin (int2 (cmpO ltI)) (.t t17) (.t t18), none, none⟩])
 (xCond (.t t19)
 (xExit 0)
 xSkip))
 (xSeq (xOps [⟨(some t20), oMov (.t t0), none, none⟩,
   ⟨(some t21), oMov (.t t7), none, none⟩,
   ⟨(some t22), oBin (int2 subO) (.t t20) (.t t21), none, none⟩,
   ⟨(some t0), oMov (.t t22), none, none⟩])
 (xOps [⟨(some t23), oMov (.t t6), none, none⟩,
   ⟨(some t24), oBin (int2 addO) (.t t23) (.v (.int .i64 1)), none, none⟩,
   ⟨(some t6), oMov (.t t24), none, none⟩]))))))
def c37_l1 : X := (xSeq (xSeq (xOps [⟨(some t25), oMov (.t t0), none, none⟩,
   ⟨(some t26), oMov (.t t6), none, none⟩,
   ⟨(some t27), oMov (.t t8), none, none⟩,
   ⟨(some t28), oCall 46 [(.t t26), (.t t27)], none, none⟩,
   ⟨(some t29), oBin (int2 (cmpO geI)) (.t t25) (.t t28), none, none⟩])
 (xCond (.t t29)
 xSkip
 (xExit 2)))
 (xBlock 3 (xSeq (xOps [⟨(some t30), oMov (.t t0), none, none⟩,
   ⟨(some t31), oMov (.t t6), none, none⟩,
   ⟨(some t32), oMov (.t t8), none, none⟩,
   ⟨(some t33), oCall 46 [(.t t31), (.t t32)], none, none⟩,
   ⟨(some t34), oBin (int2 subO) (.t t30) (.t t33), none, none⟩,
   ⟨(some t0), oMov (.t t34), none, none⟩])
 (xOps [⟨(some t35), oMov (.t t8), none, none⟩,
   ⟨(some t36), oBin (int2 addO) (.t t35) (.v (.int .i64 1)), none, none⟩,
   ⟨(some t8), oMov (.t t36), none, none⟩]))))
def c37_r0 : X := (xSeq (xOps [⟨(some t37), oMov (.t t6), none, none⟩,
   ⟨(some t38), oMov (.t t8), none, none⟩,
   ⟨(some t39), oMov (.t t0), none, none⟩,
   ⟨(some t40), oBin (int2 addO) (.t t39) (.v (.int .i64 1)), none, none⟩,
   ⟨(some t2), oMov (.t t37), none, none⟩,
   ⟨(some t3), oMov (.t t38), none, none⟩,
   ⟨(some t4), oMov (.t t40), none, none⟩,
   ⟨(some t5), oMov (.v (.bool true)), none, none⟩])
 xRet)
def c37_r1 : X := (xSeq (xOps [⟨(some t8), oMov (.v (.int .i64 1)), none, none⟩])
 (xSeq (xBlock 2 (xLoop c37_l1))
 c37_r0))
def c37 : AFunc := ⟨41, [.tmp t2, .tmp t3, .tmp t4, .tmp t5],
 (xSeq (xOps [⟨(some t2), oMov (.v (.int .i64 0)), none, none⟩,
   ⟨(some t3), oMov (.v (.int .i64 0)), none, none⟩,
   ⟨(some t4), oMov (.v (.int .i64 0)), none, none⟩,
   ⟨(some t5), oMov (.v (.bool false)), none, none⟩])
 (xSeq (xSeq (xOps [⟨(some t9), oMov (.t t0), none, none⟩,
   ⟨(some t10), oBin (int2 (cmpO ltI)) (.t t9) (.v (.int .i64 0)), none, none⟩,
   ⟨(some t11), oMov (.t t10), none, none⟩,
   ⟨(some t12), oMov (.t t0), (some (t11, false)), none⟩,
   ⟨(some t13), oBin (int2 (cmpO gtI)) (.t t12) (.v (.int .i64 109572)), (some (t11, false)), none⟩,
   ⟨(some t14), oPick (.t t11) (.v (.bool true)) (.t t13), none, none⟩])
 (xCond (.t t14)
 (xSeq (xOps [⟨(some t2), oMov (.v (.int .i64 0)), none, none⟩,
   ⟨(some t3), oMov (.v (.int .i64 0)), none, none⟩,
   ⟨(some t4), oMov (.v (.int .i64 0)), none, none⟩,
   ⟨(some t5), oMov (.v (.bool false)), none, none⟩])
 xRet)
 xSkip))
 (xSeq (xOps [⟨(some t6), oMov (.v (.int .i64 1900)), none, none⟩])
 (xSeq (xBlock 0 (xLoop c37_l0))
 c37_r1))))⟩
theorem ok37 : cFunc Try.prog gl ex Try.f37 = some c37 := by kernel_rfl
-- publican/publicanref1.two
def c38 : AFunc := ⟨14, [.tmp t2],
 (xSeq (xOps [⟨(some t2), oMov (.v (.string ⟨⟨[]⟩⟩)), none, none⟩])
 (xSeq (xOps [⟨(some t3), oMov (.t t0), none, none⟩,
   ⟨(some t4), oBin (int2 quoO) (.t t3) (.v (.int .i64 10)), none, none⟩,
   ⟨(some t5), oBin (int2 remO) (.t t4) (.v (.int .i64 10)), none, none⟩,
   ⟨(some t6), oBin (int2 addO) (.v (.int .i64 48)) (.t t5), none, none⟩,
   ⟨(some t7), oConv .u8 (.t t6), none, none⟩,
   ⟨(some t8), oMov (.t t0), none, none⟩,
   ⟨(some t9), oBin (int2 remO) (.t t8) (.v (.int .i64 10)), none, none⟩,
   ⟨(some t10), oBin (int2 addO) (.v (.int .i64 48)) (.t t9), none, none⟩,
   ⟨(some t11), oConv .u8 (.t t10), none, none⟩,
   ⟨(some t12), oBuildSlice 2 [(.int .u8 0), (.int .u8 0)] [(0, 1, (.t t7)), (1, 1, (.t t11))], none, none⟩,
   ⟨(some t13), oBytesStr (.t t12), none, none⟩,
   ⟨(some t2), oMov (.t t13), none, none⟩])
 xRet))⟩
theorem ok38 : cFunc Try.prog gl ex Try.f38 = some c38 := by kernel_rfl
-- publican/lex.money
def c39_j0 : X := (xSeq (xSeq (xOps [⟨(some t45), oMov (.t t5), none, none⟩,
   ⟨(some t46), oBin (int2 (cmpO gtI)) (.t t45) (.v (.int .i64 4503599627370496)), none, none⟩])
 (xCond (.t t46)
 (xOps [⟨(some t5), oMov (.v (.int .i64 (-1))), none, none⟩])
 xSkip))
 (xSeq (xOps [⟨(some t47), oMov (.t t4), none, none⟩,
   ⟨(some t48), oMov (.t t5), none, none⟩,
   ⟨(some t2), oMov (.t t47), none, none⟩,
   ⟨(some t3), oMov (.t t48), none, none⟩])
 xRet))
def c39 : AFunc := ⟨49, [.tmp t2, .tmp t3],
 (xSeq (xOps [⟨(some t2), oMov (.v (.int .i64 0)), none, none⟩,
   ⟨(some t3), oMov (.v (.int .i64 0)), none, none⟩])
 (xSeq (xOps [⟨(some t6), oMov (.t t0), none, none⟩,
   ⟨(some t7), oSliceS (.t t6) (some (.v (.int .i64 1))) none, none, none⟩,
   ⟨(some t8), oCall 25 [(.t t7), (.v (.func (.func 30) #[] #[]))], none, none⟩,
   ⟨(some t9), oBin (int2 addO) (.v (.int .i64 1)) (.t t8), none, none⟩,
   ⟨(some t4), oMov (.t t9), none, none⟩])
 (xSeq (xSeq (xOps [⟨(some t10), oMov (.t t0), none, none⟩,
   ⟨(some t11), oIdxS (.t t10) (.v (.int .i64 0)), none, none⟩,
   ⟨(some t12), oBin (int2 (cmpO neI)) (.t t11) (.v (.int .u8 36)), none, none⟩,
   ⟨(some t13), oMov (.t t12), none, none⟩,
   ⟨(some t14), oMov (.t t4), (some (t13, false)), none⟩,
   ⟨(some t15), oBin (int2 (cmpO eqI)) (.t t14) (.v (.int .i64 1)), (some (t13, false)), none⟩,
   ⟨(some t16), oPick (.t t13) (.v (.bool true)) (.t t15), none, none⟩])
 (xCond (.t t16)
 (xSeq (xOps [⟨(some t2), oMov (.v (.int .i64 0)), none, none⟩,
   ⟨(some t3), oMov (.v (.int .i64 0)), none, none⟩])
 xRet)
 xSkip))
 (xSeq (xOps [⟨(some t17), oMov (.t t0), none, none⟩,
   ⟨(some t18), oMov (.t t4), none, none⟩,
   ⟨(some t19), oSliceS (.t t17) (some (.v (.int .i64 1))) (some (.t t18)), none, none⟩,
   ⟨(some t20), oCall 42 [(.t t19), (.v (.int .i64 4503599627370496))], none, none⟩,
   ⟨(some t5), oMov (.t t20), none, none⟩])
 (xSeq (xSeq (xOps [⟨(some t21), oMov (.t t0), none, none⟩,
   ⟨(some t22), oMov (.t t4), none, none⟩,
   ⟨(some t23), oSliceS (.t t21) (some (.t t22)) none, none, none⟩,
   ⟨(some t24), oCall 47 [(.t t23), (.v (.int .i64 2))], none, none⟩,
   ⟨(some t25), oBin (int2 (cmpO eqI)) (.t t24) (.v (.int .i64 2)), none, none⟩])
 (xCond (.t t25)
 (xSeq (xSeq (xOps [⟨(some t26), oMov (.t t5), none, none⟩,
   ⟨(some t27), oBin (int2 (cmpO geI)) (.t t26) (.v (.int .i64 0)), none, none⟩])
 (xCond (.t t27)
 (xOps [⟨(some t28), oMov (.t t5), none, none⟩,
   ⟨(some t29), oBin (int2 mulO) (.t t28) (.v (.int .i64 100)), none, none⟩,
   ⟨(some t30), oMov (.t t0), none, none⟩,
   ⟨(some t31), oMov (.t t4), none, none⟩,
   ⟨(some t32), oBin (int2 addO) (.t t31) (.v (.int .i64 1)), none, none⟩,
   ⟨(some t33), oMov (.t t4), none, none⟩,
   ⟨(some t34), oBin (int2 addO) (.t t33) (.v (.int .i64 3)), none, none⟩,
   ⟨(some t35), oSliceS (.t t30) (some (.t t32)) (some (.t t34)), none, none⟩,
   ⟨(some t36), oCall 42 [(.t t35), (.v (.int .i64 100))], none, none⟩,
   ⟨(some t37), oBin (int2 addO) (.t t29) (.t t36), none, none⟩,
   ⟨(some t5), oMov (.t t37), none, none⟩])
 xSkip))
 (xOps [⟨(some t38), oMov (.t t4), none, none⟩,
   ⟨(some t39), oBin (int2 addO) (.t t38) (.v (.int .i64 3)), none, none⟩,
   ⟨(some t4), oMov (.t t39), none, none⟩]))
 (xSeq (xOps [⟨(some t40), oMov (.t t5), none, none⟩,
   ⟨(some t41), oBin (int2 (cmpO geI)) (.t t40) (.v (.int .i64 0)), none, none⟩])
 (xCond (.t t41)
 (xOps [⟨(some t42), oMov (.t t5), none, none⟩,
   ⟨(some t43), oMM false (.t t42) [(.v (.int .i64 4503599627370496))], none, none⟩,
   ⟨(some t44), oBin (int2 mulO) (.t t43) (.v (.int .i64 100)), none, none⟩,
   ⟨(some t5), oMov (.t t44), none, none⟩])
 xSkip))))
 c39_j0)))))⟩
theorem ok39 : cFunc Try.prog gl ex Try.f39 = some c39 := by kernel_rfl
end
end Go.Proofs.Ytikdjhlcbkkkfaa.AbsLexO
