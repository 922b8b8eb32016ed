import Derived.Test.YtcjamnbbedpebaaRows
import Derived.Test.YtcjamnbbedpebaaAbsTypKT
import Derived.KernelRfl
namespace Go.Proofs.Ytcjamnbbedpebaa.AbsTypK
open Go Go.Abs Go.Proofs
set_option maxRecDepth 100000
set_option linter.unusedVariables false
noncomputable section
/-- publican/typ.product -/
def c82 : AFunc := ⟨25, [.tmp t4],
 (xSeq (xOps [⟨(some t4), oMov (.v (.int .i64 0)), none, none⟩])
 (xSeq (xSeq (xOps [⟨(some t5), oMov (.t t0), none, none⟩,
   ⟨(some t6), oMov (.t t1), none, none⟩,
   ⟨(some t7), oBin (int2 (cmpO gtI)) (.t t5) (.t t6), none, none⟩])
 (xCond (.t t7)
 (xOps [⟨(some t8), oMov (.t t1), none, none⟩,
   ⟨(some t9), oMov (.t t0), none, none⟩,
   ⟨(some t0), oMov (.t t8), none, none⟩,
   ⟨(some t1), oMov (.t t9), none, none⟩])
 xSkip))
 (xSeq (xBlock 0 (xSeq (xOps [⟨(some t11), oMov (.t t0), none, none⟩,
   ⟨(some t12), oBin (int2 (cmpO eqI)) (.t t11) (.v (.int .i64 2)), none, none⟩,
   ⟨(some t13), oMov (.t t12), none, none⟩,
   ⟨(some t14), oMov (.t t1), (some (t13, true)), none⟩,
   ⟨(some t15), oCall 75 [(.t t14)], (some (t13, true)), none⟩,
   ⟨(some t16), oPick (.t t13) (.t t15) (.v (.bool false)), none, none⟩,
   ⟨(some t10), oMov (.t t16), none, none⟩])
 (xCond (.t t10)
 (xSeq (xOps [⟨(some t17), oMov (.t t1), none, none⟩,
   ⟨(some t4), oMov (.t t17), none, none⟩])
 xRet)
 (xSeq (xOps [⟨(some t19), oMov (.t t0), none, none⟩,
   ⟨(some t20), oBin (int2 (cmpO eqI)) (.t t19) (.v (.int .i64 3)), none, none⟩,
   ⟨(some t21), oMov (.t t20), none, none⟩,
   ⟨(some t22), oMov (.t t1), (some (t21, true)), none⟩,
   ⟨(some t23), oBin (int2 (cmpO eqI)) (.t t22) (.v (.int .i64 4)), (some (t21, true)), none⟩,
   ⟨(some t24), oPick (.t t21) (.t t23) (.v (.bool false)), none, none⟩,
   ⟨(some t18), oMov (.t t24), none, none⟩])
 (xCond (.t t18)
 (xSeq (xOps [⟨(some t4), oMov (.v (.int .i64 3)), none, none⟩])
 xRet)
 xSkip)))))
 (xSeq (xOps [⟨(some t4), oMov (.v (.int .i64 0)), none, none⟩])
 xRet))))⟩
theorem ok82 : cFunc Try.prog gl ex Try.f82 = some c82 := by kernel_rfl
/-- publican/typ.quotient -/
def c83 : AFunc := ⟨24, [.tmp t4],
 (xSeq (xOps [⟨(some t4), oMov (.v (.int .i64 0)), none, none⟩])
 (xSeq (xBlock 0 (xSeq (xOps [⟨(some t6), oMov (.t t1), none, none⟩,
   ⟨(some t7), oBin (int2 (cmpO eqI)) (.t t6) (.v (.int .i64 2)), none, none⟩,
   ⟨(some t8), oMov (.t t7), none, none⟩,
   ⟨(some t9), oMov (.t t0), (some (t8, true)), none⟩,
   ⟨(some t10), oBin (int2 (cmpO eqI)) (.t t9) (.v (.int .i64 2)), (some (t8, true)), none⟩,
   ⟨(some t11), oMov (.t t10), (some (t8, true)), none⟩,
   ⟨(some t12), oMov (.t t0), (some (t11, false)), none⟩,
   ⟨(some t13), oBin (int2 (cmpO eqI)) (.t t12) (.v (.int .i64 3)), (some (t11, false)), none⟩,
   ⟨(some t14), oPick (.t t11) (.v (.bool true)) (.t t13), (some (t8, true)), none⟩,
   ⟨(some t15), oPick (.t t8) (.t t14) (.v (.bool false)), none, none⟩,
   ⟨(some t5), oMov (.t t15), none, none⟩])
 (xCond (.t t5)
 (xSeq (xOps [⟨(some t16), oMov (.t t0), none, none⟩,
   ⟨(some t4), oMov (.t t16), none, none⟩])
 xRet)
 (xSeq (xOps [⟨(some t18), oMov (.t t0), none, none⟩,
   ⟨(some t19), oBin (int2 (cmpO eqI)) (.t t18) (.v (.int .i64 3)), none, none⟩,
   ⟨(some t20), oMov (.t t19), none, none⟩,
   ⟨(some t21), oMov (.t t1), (some (t20, true)), none⟩,
   ⟨(some t22), oBin (int2 (cmpO eqI)) (.t t21) (.v (.int .i64 3)), (some (t20, true)), none⟩,
   ⟨(some t23), oPick (.t t20) (.t t22) (.v (.bool false)), none, none⟩,
   ⟨(some t17), oMov (.t t23), none, none⟩])
 (xCond (.t t17)
 (xSeq (xOps [⟨(some t4), oMov (.v (.int .i64 4)), none, none⟩])
 xRet)
 xSkip)))))
 (xSeq (xOps [⟨(some t4), oMov (.v (.int .i64 0)), none, none⟩])
 xRet)))⟩
theorem ok83 : cFunc Try.prog gl ex Try.f83 = some c83 := by kernel_rfl
/-- publican/typ.ordered -/
def c84 : AFunc := ⟨9, [.tmp t2],
 (xSeq (xOps [⟨(some t2), oMov (.v (.bool false)), none, none⟩])
 (xSeq (xOps [⟨(some t3), oMov (.t t0), none, none⟩,
   ⟨(some t4), oBin (int2 (cmpO geI)) (.t t3) (.v (.int .i64 2)), none, none⟩,
   ⟨(some t5), oMov (.t t4), none, none⟩,
   ⟨(some t6), oMov (.t t0), (some (t5, true)), none⟩,
   ⟨(some t7), oBin (int2 (cmpO leI)) (.t t6) (.v (.int .i64 5)), (some (t5, true)), none⟩,
   ⟨(some t8), oPick (.t t5) (.t t7) (.v (.bool false)), none, none⟩,
   ⟨(some t2), oMov (.t t8), none, none⟩])
 xRet))⟩
theorem ok84 : cFunc Try.prog gl ex Try.f84 = some c84 := by kernel_rfl
/-- (*publican/publicanref9.parser).row -/
def c85 : AFunc := ⟨67, [.cell t4 (some 6)],
 (xSeq (xOps [⟨(some t4), oNew [(.string ⟨⟨[]⟩⟩), (.string ⟨⟨[]⟩⟩), (.int .i64 0), (.int .i64 0), (.int .i64 0), (.slice none 0 0)], none, none⟩])
 (xSeq (xSeq (xOps [⟨(some t11), oMov (.t t1), none, none⟩,
   ⟨(some t12), oBin (int2 (cmpO eqI)) (.t t11) (.v (.int .i64 5)), none, none⟩])
 (xCond (.t t12)
 (xSeq (xOps [⟨(some t13), oMov (.t t0), none, none⟩,
   ⟨(some t14), oCall 89 [(.t t13)], none, none⟩,
   ⟨none, oStore 6 (.t t4) (.t t14), none, none⟩])
 xRet)
 xSkip))
 (xSeq (xOps [⟨(some t15), oBuildSlice 1 [(.string ⟨⟨[]⟩⟩)] [(0, 1, (.v (.string ⟨⟨[111, 114]⟩⟩)))], none, none⟩,
   ⟨(some t16), oBuildSlice 1 [(.string ⟨⟨[]⟩⟩)] [(0, 1, (.v (.string ⟨⟨[97, 110, 100]⟩⟩)))], none, none⟩,
   ⟨(some t17), oBuildSlice 6 (rep 6 [(.string ⟨⟨[]⟩⟩)]) [(0, 1, (.v (.string ⟨⟨[60]⟩⟩))), (1, 1, (.v (.string ⟨⟨[60, 61]⟩⟩))), (2, 1, (.v (.string ⟨⟨[62]⟩⟩))), (3, 1, (.v (.string ⟨⟨[62, 61]⟩⟩))), (4, 1, (.v (.string ⟨⟨[61, 61]⟩⟩))), (5, 1, (.v (.string ⟨⟨[33, 61]⟩⟩)))], none, none⟩,
   ⟨(some t18), oBuildSlice 2 [(.string ⟨⟨[]⟩⟩), (.string ⟨⟨[]⟩⟩)] [(0, 1, (.v (.string ⟨⟨[43]⟩⟩))), (1, 1, (.v (.string ⟨⟨[45]⟩⟩)))], none, none⟩,
   ⟨(some t19), oBuildSlice 2 [(.string ⟨⟨[]⟩⟩), (.string ⟨⟨[]⟩⟩)] [(0, 1, (.v (.string ⟨⟨[42]⟩⟩))), (1, 1, (.v (.string ⟨⟨[47]⟩⟩)))], none, none⟩,
   ⟨(some t20), oBuildSlice 5 (rep 5 [(.slice none 0 0)]) [(0, 1, (.t t15)), (1, 1, (.t t16)), (2, 1, (.t t17)), (3, 1, (.t t18)), (4, 1, (.t t19))], none, none⟩,
   ⟨(some t21), oMov (.t t1), none, none⟩,
   ⟨(some t22), oIdxAddrL 1 (.t t20) (.t t21), none, none⟩,
   ⟨(some t23), oLoad1 (.t t22), none, (some (.t t22))⟩,
   ⟨(some t5), oMov (.t t23), none, none⟩])
 (xSeq (xOps [⟨(some t24), oMov (.t t0), none, none⟩,
   ⟨(some t25), oMov (.t t1), none, none⟩,
   ⟨(some t26), oBin (int2 addO) (.t t25) (.v (.int .i64 1)), none, none⟩,
   ⟨(some t27), oCall 85 [(.t t24), (.t t26)], none, none⟩,
   ⟨(some t6), oNew [(.string ⟨⟨[]⟩⟩), (.string ⟨⟨[]⟩⟩), (.int .i64 0), (.int .i64 0), (.int .i64 0), (.slice none 0 0)], none, none⟩,
   ⟨none, oStore 6 (.t t6) (.t t27), none, none⟩])
 (xBlock 0 (xLoop (xBlock 1 (xSeq (xOps [⟨(some t28), oMov (.t t0), none, none⟩,
   ⟨(some t29), oCall 51 [(.t t28)], none, none⟩,
   ⟨(some t30), oField none 3 (.t t29), none, none⟩,
   ⟨(some t7), oMov (.t t30), none, none⟩])
 (xSeq (xOps [⟨(some t8), oMov (.v (.string ⟨⟨[]⟩⟩)), none, none⟩])
 (xSeq (xSeq (xOps [⟨(some t9), oMov (.v (.int .i64 0)), none, none⟩])
 (xBlock 2 (xLoop (xSeq (xSeq (xOps [⟨(some t31), oMov (.t t9), none, none⟩,
   ⟨(some t32), oMov (.t t5), none, none⟩,
   ⟨(some t33), oLenL (.t t32), none, none⟩,
   ⟨(some t34), oBin (int2 (cmpO ltI)) (.t t31) (.t t33), none, none⟩,
   ⟨(some t35), oMov (.t t34), none, none⟩,
   ⟨(some t36), oMov (.t t8), (some (t35, true)), none⟩,
   ⟨(some t37), oBin (str2 (cmpS eqBytes)) (.t t36) (.v (.string ⟨⟨[]⟩⟩)), (some (t35, true)), none⟩,
   ⟨(some t38), oPick (.t t35) (.t t37) (.v (.bool false)), none, none⟩])
 (xCond (.t t38)
 xSkip
 (xExit 2)))
 (xSeq (xBlock 3 (xSeq (xOps [⟨(some t41), oMov (.t t0), none, none⟩,
   ⟨(some t42), oMov (.t t5), none, none⟩,
   ⟨(some t43), oMov (.t t9), none, none⟩,
   ⟨(some t44), oIdxAddrL 1 (.t t42) (.t t43), none, none⟩,
   ⟨(some t45), oLoad1 (.t t44), none, (some (.t t44))⟩,
   ⟨(some t46), oCall 52 [(.t t41), (.t t45)], none, none⟩])
 (xCond (.t t46)
 (xOps [⟨(some t47), oMov (.t t5), none, none⟩,
   ⟨(some t48), oMov (.t t9), none, none⟩,
   ⟨(some t49), oIdxAddrL 1 (.t t47) (.t t48), none, none⟩,
   ⟨(some t50), oLoad1 (.t t49), none, (some (.t t49))⟩,
   ⟨(some t8), oMov (.t t50), none, none⟩])
 xSkip)))
 (xOps [⟨(some t39), oMov (.t t9), none, none⟩,
   ⟨(some t40), oBin (int2 addO) (.t t39) (.v (.int .i64 1)), none, none⟩,
   ⟨(some t9), oMov (.t t40), none, none⟩]))))))
 (xSeq (xSeq (xOps [⟨(some t51), oMov (.t t8), none, none⟩,
   ⟨(some t52), oBin (str2 (cmpS eqBytes)) (.t t51) (.v (.string ⟨⟨[]⟩⟩)), none, none⟩])
 (xCond (.t t52)
 (xSeq (xOps [⟨(some t53), oLoadN 6 (.t t6), none, none⟩,
   ⟨none, oStore 6 (.t t4) (.t t53), none, none⟩])
 xRet)
 xSkip))
 (xSeq (xOps [⟨(some t54), oMov (.t t0), none, none⟩,
   ⟨(some t55), oMov (.t t1), none, none⟩,
   ⟨(some t56), oBin (int2 addO) (.t t55) (.v (.int .i64 1)), none, none⟩,
   ⟨(some t57), oCall 85 [(.t t54), (.t t56)], none, none⟩,
   ⟨(some t10), oNew [(.string ⟨⟨[]⟩⟩), (.string ⟨⟨[]⟩⟩), (.int .i64 0), (.int .i64 0), (.int .i64 0), (.slice none 0 0)], none, none⟩,
   ⟨none, oStore 6 (.t t10) (.t t57), none, none⟩])
 (xSeq (xOps [⟨(some t58), oMov (.t t8), none, none⟩,
   ⟨(some t59), oMov (.t t7), none, none⟩,
   ⟨(some t60), oLoadN 6 (.t t6), none, none⟩,
   ⟨(some t61), oLoadN 6 (.t t10), none, none⟩,
   ⟨(some t62), oBuildSlice 2 [(.string ⟨⟨[]⟩⟩), (.string ⟨⟨[]⟩⟩), (.int .i64 0), (.int .i64 0), (.int .i64 0), (.slice none 0 0), (.string ⟨⟨[]⟩⟩), (.string ⟨⟨[]⟩⟩), (.int .i64 0), (.int .i64 0), (.int .i64 0), (.slice none 0 0)] [(0, 6, (.t t60)), (6, 6, (.t t61))], none, none⟩,
   ⟨(some t63), oBuild [(.string ⟨⟨[]⟩⟩), (.string ⟨⟨[]⟩⟩), (.int .i64 0), (.int .i64 0), (.int .i64 0), (.slice none 0 0)] [(0, 1, (.t t58)), (4, 1, (.t t59)), (5, 1, (.t t62))], none, none⟩,
   ⟨none, oStore 6 (.t t6) (.t t63), none, none⟩])
 (xSeq (xOps [⟨(some t64), oMov (.t t1), none, none⟩,
   ⟨(some t65), oBin (int2 (cmpO eqI)) (.t t64) (.v (.int .i64 2)), none, none⟩])
 (xCond (.t t65)
 (xSeq (xOps [⟨(some t66), oLoadN 6 (.t t6), none, none⟩,
   ⟨none, oStore 6 (.t t4) (.t t66), none, none⟩])
 xRet)
 xSkip)))))))))))))))⟩
theorem ok85 : cFunc Try.prog gl ex Try.f85 = some c85 := by kernel_rfl
/-- slices.Backward[[]publican/typ.Field,publican/typ.Field]$1 -/
def c86 : AFunc := ⟨19, [],
 (xSeq (xOps [⟨(some t4), oLoad1 (.t t1), none, (some (.t t1))⟩,
   ⟨(some t5), oLenL (.t t4), none, none⟩,
   ⟨(some t6), oBin (int2 subO) (.t t5) (.v (.int .i64 1)), none, none⟩,
   ⟨(some t3), oMov (.t t6), none, none⟩])
 (xBlock 0 (xLoop (xSeq (xSeq (xOps [⟨(some t7), oMov (.t t3), none, none⟩,
   ⟨(some t8), oBin (int2 (cmpO geI)) (.t t7) (.v (.int .i64 0)), none, none⟩])
 (xCond (.t t8)
 xSkip
 (xExit 0)))
 (xSeq (xBlock 1 (xSeq (xOps [⟨(some t11), oMov (.t t0), none, none⟩,
   ⟨(some t12), oMov (.t t3), none, none⟩,
   ⟨(some t13), oLoad1 (.t t1), none, (some (.t t1))⟩,
   ⟨(some t14), oMov (.t t3), none, none⟩,
   ⟨(some t15), oIdxAddrL 2 (.t t13) (.t t14), none, none⟩,
   ⟨(some t16), oLoadN 2 (.t t15), none, none⟩,
   ⟨(some t17), oCallV (.t t11) [(.t t12), (.t t16)], none, none⟩,
   ⟨(some t18), oNot (.t t17), none, none⟩])
 (xCond (.t t18)
 xRet
 xSkip)))
 (xOps [⟨(some t9), oMov (.t t3), none, none⟩,
   ⟨(some t10), oBin (int2 subO) (.t t9) (.v (.int .i64 1)), none, none⟩,
   ⟨(some t3), oMov (.t t10), none, none⟩]))))))⟩
theorem ok86 : cFunc Try.prog gl ex Try.f86 = some c86 := by kernel_rfl
/-- slices.Index[[]string,string] -/
def c87 : AFunc := ⟨19, [.tmp t4],
 (xSeq (xOps [⟨(some t4), oMov (.v (.int .i64 0)), none, none⟩])
 (xSeq (xSeq (xOps [⟨(some t6), oMov (.t t0), none, none⟩,
   ⟨(some t7), oLenL (.t t6), none, none⟩,
   ⟨(some t8), oMov (.v (.int .i64 0)), none, none⟩])
 (xBlock 0 (xLoop (xSeq (xOps [⟨(some t9), oBin (int2 (cmpO ltI)) (.t t8) (.t t7), none, none⟩])
 (xSeq (xCond (.t t9)
 xSkip
 (xExit 0))
 (xSeq (xBlock 1 (xSeq (xOps [⟨(some t10), oMov (.t t8), none, none⟩,
   ⟨(some t5), oMov (.t t10), none, none⟩])
 (xSeq (xOps [⟨(some t11), oMov (.t t1), none, none⟩,
   ⟨(some t12), oMov (.t t0), none, none⟩,
   ⟨(some t13), oMov (.t t5), none, none⟩,
   ⟨(some t14), oIdxAddrL 1 (.t t12) (.t t13), none, none⟩,
   ⟨(some t15), oLoad1 (.t t14), none, (some (.t t14))⟩,
   ⟨(some t16), oBin (str2 (cmpS eqBytes)) (.t t11) (.t t15), none, none⟩])
 (xCond (.t t16)
 (xSeq (xOps [⟨(some t17), oMov (.t t5), none, none⟩,
   ⟨(some t4), oMov (.t t17), none, none⟩])
 xRet)
 xSkip))))
 (xOps [⟨(some t18), oBin (int2 addO) (.t t8) (.v (.int .i64 1)), none, none⟩,
   ⟨(some t8), oMov (.t t18), none, none⟩])))))))
 (xSeq (xOps [⟨(some t4), oMov (.v (.int .i64 (-1))), none, none⟩])
 xRet)))⟩
theorem ok87 : cFunc Try.prog gl ex Try.f87 = some c87 := by kernel_rfl
/-- slices.IndexFunc[[]publican/typ.Field,publican/typ.Field] -/
def c88 : AFunc := ⟨19, [.tmp t4],
 (xSeq (xOps [⟨(some t4), oMov (.v (.int .i64 0)), none, none⟩])
 (xSeq (xSeq (xOps [⟨(some t6), oMov (.t t0), none, none⟩,
   ⟨(some t7), oLenL (.t t6), none, none⟩,
   ⟨(some t8), oMov (.v (.int .i64 0)), none, none⟩])
 (xBlock 0 (xLoop (xSeq (xOps [⟨(some t9), oBin (int2 (cmpO ltI)) (.t t8) (.t t7), none, none⟩])
 (xSeq (xCond (.t t9)
 xSkip
 (xExit 0))
 (xSeq (xBlock 1 (xSeq (xOps [⟨(some t10), oMov (.t t8), none, none⟩,
   ⟨(some t5), oMov (.t t10), none, none⟩])
 (xSeq (xOps [⟨(some t11), oMov (.t t1), none, none⟩,
   ⟨(some t12), oMov (.t t0), none, none⟩,
   ⟨(some t13), oMov (.t t5), none, none⟩,
   ⟨(some t14), oIdxAddrL 2 (.t t12) (.t t13), none, none⟩,
   ⟨(some t15), oLoadN 2 (.t t14), none, none⟩,
   ⟨(some t16), oCallV (.t t11) [(.t t15)], none, none⟩])
 (xCond (.t t16)
 (xSeq (xOps [⟨(some t17), oMov (.t t5), none, none⟩,
   ⟨(some t4), oMov (.t t17), none, none⟩])
 xRet)
 xSkip))))
 (xOps [⟨(some t18), oBin (int2 addO) (.t t8) (.v (.int .i64 1)), none, none⟩,
   ⟨(some t8), oMov (.t t18), none, none⟩])))))))
 (xSeq (xOps [⟨(some t4), oMov (.v (.int .i64 (-1))), none, none⟩])
 xRet)))⟩
theorem ok88 : cFunc Try.prog gl ex Try.f88 = some c88 := by kernel_rfl
/-- (*publican/publicanref9.parser).un -/
def c89 : AFunc := ⟨30, [.cell t2 (some 6)],
 (xSeq (xOps [⟨(some t2), oNew [(.string ⟨⟨[]⟩⟩), (.string ⟨⟨[]⟩⟩), (.int .i64 0), (.int .i64 0), (.int .i64 0), (.slice none 0 0)], none, none⟩])
 (xSeq (xOps [⟨(some t6), oMov (.t t0), none, none⟩,
   ⟨(some t7), oCall 51 [(.t t6)], none, none⟩,
   ⟨(some t8), oField none 3 (.t t7), none, none⟩,
   ⟨(some t3), oMov (.t t8), none, none⟩])
 (xSeq (xOps [⟨(some t4), oMov (.v (.string ⟨⟨[]⟩⟩)), none, none⟩])
 (xSeq (xSeq (xOps [⟨(some t9), oMov (.t t0), none, none⟩,
   ⟨(some t10), oCall 52 [(.t t9), (.v (.string ⟨⟨[45]⟩⟩))], none, none⟩])
 (xCond (.t t10)
 (xOps [⟨(some t4), oMov (.v (.string ⟨⟨[110, 101, 103]⟩⟩)), none, none⟩])
 (xSeq (xOps [⟨(some t11), oMov (.t t0), none, none⟩,
   ⟨(some t12), oCall 52 [(.t t11), (.v (.string ⟨⟨[110, 111, 116]⟩⟩))], none, none⟩])
 (xCond (.t t12)
 (xOps [⟨(some t4), oMov (.v (.string ⟨⟨[110, 111, 116]⟩⟩)), none, none⟩])
 xSkip))))
 (xSeq (xSeq (xOps [⟨(some t13), oMov (.t t4), none, none⟩,
   ⟨(some t14), oBin (str2 (cmpS eqBytes)) (.t t13) (.v (.string ⟨⟨[]⟩⟩)), none, none⟩])
 (xCond (.t t14)
 (xSeq (xOps [⟨(some t15), oMov (.t t0), none, none⟩,
   ⟨(some t16), oCall 90 [(.t t15)], none, none⟩,
   ⟨none, oStore 6 (.t t2) (.t t16), none, none⟩])
 xRet)
 xSkip))
 (xSeq (xSeq (xOps [⟨(some t17), oMov (.t t0), none, none⟩,
   ⟨(some t18), oCall 70 [(.t t17)], none, none⟩,
   ⟨(some t19), oNot (.t t18), none, none⟩])
 (xCond (.t t19)
 (xSeq (xOps [⟨(some t20), oBuild [(.string ⟨⟨[]⟩⟩), (.string ⟨⟨[]⟩⟩), (.int .i64 0), (.int .i64 0), (.int .i64 0), (.slice none 0 0)] [], none, none⟩,
   ⟨none, oStore 6 (.t t2) (.t t20), none, none⟩])
 xRet)
 xSkip))
 (xSeq (xOps [⟨(some t21), oMov (.t t0), none, none⟩,
   ⟨(some t22), oCall 89 [(.t t21)], none, none⟩,
   ⟨(some t5), oNew [(.string ⟨⟨[]⟩⟩), (.string ⟨⟨[]⟩⟩), (.int .i64 0), (.int .i64 0), (.int .i64 0), (.slice none 0 0)], none, none⟩,
   ⟨none, oStore 6 (.t t5) (.t t22), none, none⟩])
 (xSeq (xOps [⟨(some t23), oMov (.t t0), none, none⟩,
   ⟨(some t24), oCall 72 [(.t t23)], none, none⟩])
 (xSeq (xOps [⟨(some t25), oMov (.t t4), none, none⟩,
   ⟨(some t26), oMov (.t t3), none, none⟩,
   ⟨(some t27), oLoadN 6 (.t t5), none, none⟩,
   ⟨(some t28), oBuildSlice 1 [(.string ⟨⟨[]⟩⟩), (.string ⟨⟨[]⟩⟩), (.int .i64 0), (.int .i64 0), (.int .i64 0), (.slice none 0 0)] [(0, 6, (.t t27))], none, none⟩,
   ⟨(some t29), oBuild [(.string ⟨⟨[]⟩⟩), (.string ⟨⟨[]⟩⟩), (.int .i64 0), (.int .i64 0), (.int .i64 0), (.slice none 0 0)] [(0, 1, (.t t25)), (4, 1, (.t t26)), (5, 1, (.t t28))], none, none⟩,
   ⟨none, oStore 6 (.t t2) (.t t29), none, none⟩])
 xRet)))))))))⟩
theorem ok89 : cFunc Try.prog gl ex Try.f89 = some c89 := by kernel_rfl
/-- (*publican/publicanref9.parser).prim -/
def c90 : AFunc := ⟨115, [.cell t2 (some 6)],
 (xSeq (xOps [⟨(some t2), oNew [(.string ⟨⟨[]⟩⟩), (.string ⟨⟨[]⟩⟩), (.int .i64 0), (.int .i64 0), (.int .i64 0), (.slice none 0 0)], none, none⟩])
 (xSeq (xOps [⟨(some t15), oMov (.t t0), none, none⟩,
   ⟨(some t16), oCall 51 [(.t t15)], none, none⟩,
   ⟨(some t17), oField none 3 (.t t16), none, none⟩,
   ⟨(some t3), oMov (.t t17), none, none⟩])
 (xSeq (xSeq (xOps [⟨(some t18), oMov (.t t0), none, none⟩,
   ⟨(some t19), oCall 73 [(.t t18)], none, none⟩])
 (xCond (.t t19)
 (xSeq (xOps [⟨(some t20), oMov (.t t0), none, none⟩,
   ⟨(some t21), oCall 59 [(.t t20)], none, none⟩,
   ⟨none, oStore 6 (.t t2) (.t t21), none, none⟩])
 xRet)
 xSkip))
 (xSeq (xSeq (xOps [⟨(some t4), oMov (.v (.int .i64 0)), none, none⟩])
 (xBlock 0 (xLoop (xSeq (xSeq (xOps [⟨(some t22), oMov (.t t4), none, none⟩,
   ⟨(some t23), oBin (int2 (cmpO ltI)) (.t t22) (.v (.int .i64 2)), none, none⟩])
 (xCond (.t t23)
 xSkip
 (xExit 0)))
 (xSeq (xBlock 1 (xSeq (xOps [⟨(some t26), oBuildSlice 2 [(.string ⟨⟨[]⟩⟩), (.string ⟨⟨[]⟩⟩)] [(0, 1, (.v (.string ⟨⟨[109, 105, 110]⟩⟩))), (1, 1, (.v (.string ⟨⟨[109, 97, 120]⟩⟩)))], none, none⟩,
   ⟨(some t27), oMov (.t t4), none, none⟩,
   ⟨(some t28), oIdxAddrL 1 (.t t26) (.t t27), none, none⟩,
   ⟨(some t29), oLoad1 (.t t28), none, (some (.t t28))⟩,
   ⟨(some t5), oMov (.t t29), none, none⟩])
 (xSeq (xOps [⟨(some t30), oMov (.t t0), none, none⟩,
   ⟨(some t31), oMov (.t t5), none, none⟩,
   ⟨(some t32), oCall 52 [(.t t30), (.t t31)], none, none⟩])
 (xCond (.t t32)
 (xSeq (xOps [⟨(some t33), oMov (.t t0), none, none⟩,
   ⟨(some t34), oCall 55 [(.t t33), (.v (.string ⟨⟨[40]⟩⟩))], none, none⟩])
 (xSeq (xOps [⟨(some t35), oMov (.t t0), none, none⟩,
   ⟨(some t36), oCall 56 [(.t t35)], none, none⟩,
   ⟨(some t6), oNew [(.string ⟨⟨[]⟩⟩), (.string ⟨⟨[]⟩⟩), (.int .i64 0), (.int .i64 0), (.int .i64 0), (.slice none 0 0)], none, none⟩,
   ⟨none, oStore 6 (.t t6) (.t t36), none, none⟩])
 (xSeq (xOps [⟨(some t37), oMov (.t t0), none, none⟩,
   ⟨(some t38), oCall 55 [(.t t37), (.v (.string ⟨⟨[44]⟩⟩))], none, none⟩])
 (xSeq (xOps [⟨(some t39), oMov (.t t0), none, none⟩,
   ⟨(some t40), oCall 56 [(.t t39)], none, none⟩,
   ⟨(some t7), oNew [(.string ⟨⟨[]⟩⟩), (.string ⟨⟨[]⟩⟩), (.int .i64 0), (.int .i64 0), (.int .i64 0), (.slice none 0 0)], none, none⟩,
   ⟨none, oStore 6 (.t t7) (.t t40), none, none⟩])
 (xSeq (xOps [⟨(some t41), oMov (.t t0), none, none⟩,
   ⟨(some t42), oCall 55 [(.t t41), (.v (.string ⟨⟨[41]⟩⟩))], none, none⟩])
 (xSeq (xOps [⟨(some t43), oMov (.t t5), none, none⟩,
   ⟨(some t44), oMov (.t t3), none, none⟩,
   ⟨(some t45), oLoadN 6 (.t t6), none, none⟩,
   ⟨(some t46), oLoadN 6 (.t t7), none, none⟩,
   ⟨(some t47), oBuildSlice 2 [(.string ⟨⟨[]⟩⟩), (.string ⟨⟨[]⟩⟩), (.int .i64 0), (.int .i64 0), (.int .i64 0), (.slice none 0 0), (.string ⟨⟨[]⟩⟩), (.string ⟨⟨[]⟩⟩), (.int .i64 0), (.int .i64 0), (.int .i64 0), (.slice none 0 0)] [(0, 6, (.t t45)), (6, 6, (.t t46))], none, none⟩,
   ⟨(some t48), oBuild [(.string ⟨⟨[]⟩⟩), (.string ⟨⟨[]⟩⟩), (.int .i64 0), (.int .i64 0), (.int .i64 0), (.slice none 0 0)] [(0, 1, (.t t43)), (4, 1, (.t t44)), (5, 1, (.t t47))], none, none⟩,
   ⟨none, oStore 6 (.t t2) (.t t48), none, none⟩])
 xRet))))))
 xSkip))))
 (xOps [⟨(some t24), oMov (.t t4), none, none⟩,
   ⟨(some t25), oBin (int2 addO) (.t t24) (.v (.int .i64 1)), none, none⟩,
   ⟨(some t4), oMov (.t t25), none, none⟩]))))))
 (xSeq (xBlock 2 (xSeq (xOps [⟨(some t50), oMov (.t t0), none, none⟩,
   ⟨(some t51), oCall 52 [(.t t50), (.v (.string ⟨⟨[40]⟩⟩))], none, none⟩,
   ⟨(some t49), oMov (.t t51), none, none⟩])
 (xCond (.t t49)
 (xSeq (xOps [⟨(some t52), oMov (.t t0), none, none⟩,
   ⟨(some t53), oCall 56 [(.t t52)], none, none⟩,
   ⟨(some t8), oNew [(.string ⟨⟨[]⟩⟩), (.string ⟨⟨[]⟩⟩), (.int .i64 0), (.int .i64 0), (.int .i64 0), (.slice none 0 0)], none, none⟩,
   ⟨none, oStore 6 (.t t8) (.t t53), none, none⟩])
 (xSeq (xOps [⟨(some t54), oMov (.t t0), none, none⟩,
   ⟨(some t55), oCall 55 [(.t t54), (.v (.string ⟨⟨[41]⟩⟩))], none, none⟩])
 (xSeq (xOps [⟨(some t56), oLoadN 6 (.t t8), none, none⟩,
   ⟨none, oStore 6 (.t t2) (.t t56), none, none⟩])
 xRet)))
 (xSeq (xOps [⟨(some t58), oMov (.t t0), none, none⟩,
   ⟨(some t59), oCall 52 [(.t t58), (.v (.string ⟨⟨[108, 101, 110]⟩⟩))], none, none⟩,
   ⟨(some t57), oMov (.t t59), none, none⟩])
 (xCond (.t t57)
 (xSeq (xOps [⟨(some t60), oMov (.t t0), none, none⟩,
   ⟨(some t61), oCall 55 [(.t t60), (.v (.string ⟨⟨[40]⟩⟩))], none, none⟩])
 (xSeq (xOps [⟨(some t62), oMov (.t t0), none, none⟩,
   ⟨(some t63), oCall 56 [(.t t62)], none, none⟩,
   ⟨(some t9), oNew [(.string ⟨⟨[]⟩⟩), (.string ⟨⟨[]⟩⟩), (.int .i64 0), (.int .i64 0), (.int .i64 0), (.slice none 0 0)], none, none⟩,
   ⟨none, oStore 6 (.t t9) (.t t63), none, none⟩])
 (xSeq (xOps [⟨(some t64), oMov (.t t0), none, none⟩,
   ⟨(some t65), oCall 55 [(.t t64), (.v (.string ⟨⟨[41]⟩⟩))], none, none⟩])
 (xSeq (xOps [⟨(some t66), oMov (.t t3), none, none⟩,
   ⟨(some t67), oLoadN 6 (.t t9), none, none⟩,
   ⟨(some t68), oBuildSlice 1 [(.string ⟨⟨[]⟩⟩), (.string ⟨⟨[]⟩⟩), (.int .i64 0), (.int .i64 0), (.int .i64 0), (.slice none 0 0)] [(0, 6, (.t t67))], none, none⟩,
   ⟨(some t69), oBuild [(.string ⟨⟨[]⟩⟩), (.string ⟨⟨[]⟩⟩), (.int .i64 0), (.int .i64 0), (.int .i64 0), (.slice none 0 0)] [(0, 1, (.v (.string ⟨⟨[108, 101, 110]⟩⟩))), (4, 1, (.t t66)), (5, 1, (.t t68))], none, none⟩,
   ⟨none, oStore 6 (.t t2) (.t t69), none, none⟩])
 xRet))))
 (xSeq (xOps [⟨(some t71), oMov (.t t0), none, none⟩,
   ⟨(some t72), oCall 52 [(.t t71), (.v (.string ⟨⟨[97, 116]⟩⟩))], none, none⟩,
   ⟨(some t70), oMov (.t t72), none, none⟩])
 (xCond (.t t70)
 (xSeq (xOps [⟨(some t73), oMov (.t t0), none, none⟩,
   ⟨(some t74), oCall 55 [(.t t73), (.v (.string ⟨⟨[40]⟩⟩))], none, none⟩])
 (xSeq (xOps [⟨(some t75), oMov (.t t0), none, none⟩,
   ⟨(some t76), oCall 53 [(.t t75)], none, none⟩,
   ⟨(some t10), oMov (.t t76), none, none⟩])
 (xSeq (xOps [⟨(some t77), oMov (.t t0), none, none⟩,
   ⟨(some t78), oCall 55 [(.t t77), (.v (.string ⟨⟨[44]⟩⟩))], none, none⟩])
 (xSeq (xOps [⟨(some t79), oMov (.t t0), none, none⟩,
   ⟨(some t80), oCall 56 [(.t t79)], none, none⟩,
   ⟨(some t11), oNew [(.string ⟨⟨[]⟩⟩), (.string ⟨⟨[]⟩⟩), (.int .i64 0), (.int .i64 0), (.int .i64 0), (.slice none 0 0)], none, none⟩,
   ⟨none, oStore 6 (.t t11) (.t t80), none, none⟩])
 (xSeq (xOps [⟨(some t81), oMov (.t t0), none, none⟩,
   ⟨(some t82), oCall 55 [(.t t81), (.v (.string ⟨⟨[41]⟩⟩))], none, none⟩])
 (xSeq (xOps [⟨(some t83), oMov (.t t10), none, none⟩,
   ⟨(some t84), oMov (.t t3), none, none⟩,
   ⟨(some t85), oLoadN 6 (.t t11), none, none⟩,
   ⟨(some t86), oBuildSlice 1 [(.string ⟨⟨[]⟩⟩), (.string ⟨⟨[]⟩⟩), (.int .i64 0), (.int .i64 0), (.int .i64 0), (.slice none 0 0)] [(0, 6, (.t t85))], none, none⟩,
   ⟨(some t87), oBuild [(.string ⟨⟨[]⟩⟩), (.string ⟨⟨[]⟩⟩), (.int .i64 0), (.int .i64 0), (.int .i64 0), (.slice none 0 0)] [(0, 1, (.v (.string ⟨⟨[97, 116]⟩⟩))), (1, 1, (.t t83)), (4, 1, (.t t84)), (5, 1, (.t t86))], none, none⟩,
   ⟨none, oStore 6 (.t t2) (.t t87), none, none⟩])
 xRet))))))
 (xSeq (xOps [⟨(some t89), oMov (.t t0), none, none⟩,
   ⟨(some t90), oCall 52 [(.t t89), (.v (.string ⟨⟨[115, 117, 109]⟩⟩))], none, none⟩,
   ⟨(some t88), oMov (.t t90), none, none⟩])
 (xCond (.t t88)
 (xSeq (xOps [⟨(some t91), oMov (.t t0), none, none⟩,
   ⟨(some t92), oCall 55 [(.t t91), (.v (.string ⟨⟨[40]⟩⟩))], none, none⟩])
 (xSeq (xOps [⟨(some t93), oMov (.t t0), none, none⟩,
   ⟨(some t94), oCall 53 [(.t t93)], none, none⟩,
   ⟨(some t12), oMov (.t t94), none, none⟩])
 (xSeq (xOps [⟨(some t95), oMov (.t t0), none, none⟩,
   ⟨(some t96), oCall 55 [(.t t95), (.v (.string ⟨⟨[105, 110]⟩⟩))], none, none⟩])
 (xSeq (xOps [⟨(some t97), oMov (.t t0), none, none⟩,
   ⟨(some t98), oCall 56 [(.t t97)], none, none⟩,
   ⟨(some t13), oNew [(.string ⟨⟨[]⟩⟩), (.string ⟨⟨[]⟩⟩), (.int .i64 0), (.int .i64 0), (.int .i64 0), (.slice none 0 0)], none, none⟩,
   ⟨none, oStore 6 (.t t13) (.t t98), none, none⟩])
 (xSeq (xOps [⟨(some t99), oMov (.t t0), none, none⟩,
   ⟨(some t100), oCall 55 [(.t t99), (.v (.string ⟨⟨[58]⟩⟩))], none, none⟩])
 (xSeq (xOps [⟨(some t101), oMov (.t t0), none, none⟩,
   ⟨(some t102), oCall 56 [(.t t101)], none, none⟩,
   ⟨(some t14), oNew [(.string ⟨⟨[]⟩⟩), (.string ⟨⟨[]⟩⟩), (.int .i64 0), (.int .i64 0), (.int .i64 0), (.slice none 0 0)], none, none⟩,
   ⟨none, oStore 6 (.t t14) (.t t102), none, none⟩])
 (xSeq (xOps [⟨(some t103), oMov (.t t0), none, none⟩,
   ⟨(some t104), oCall 55 [(.t t103), (.v (.string ⟨⟨[41]⟩⟩))], none, none⟩])
 (xSeq (xOps [⟨(some t105), oMov (.t t12), none, none⟩,
   ⟨(some t106), oMov (.t t3), none, none⟩,
   ⟨(some t107), oLoadN 6 (.t t13), none, none⟩,
   ⟨(some t108), oLoadN 6 (.t t14), none, none⟩,
   ⟨(some t109), oBuildSlice 2 [(.string ⟨⟨[]⟩⟩), (.string ⟨⟨[]⟩⟩), (.int .i64 0), (.int .i64 0), (.int .i64 0), (.slice none 0 0), (.string ⟨⟨[]⟩⟩), (.string ⟨⟨[]⟩⟩), (.int .i64 0), (.int .i64 0), (.int .i64 0), (.slice none 0 0)] [(0, 6, (.t t107)), (6, 6, (.t t108))], none, none⟩,
   ⟨(some t110), oBuild [(.string ⟨⟨[]⟩⟩), (.string ⟨⟨[]⟩⟩), (.int .i64 0), (.int .i64 0), (.int .i64 0), (.slice none 0 0)] [(0, 1, (.v (.string ⟨⟨[115, 117, 109]⟩⟩))), (1, 1, (.t t105)), (4, 1, (.t t106)), (5, 1, (.t t109))], none, none⟩,
   ⟨none, oStore 6 (.t t2) (.t t110), none, none⟩])
 xRet))))))))
 xSkip)))))))))
 (xSeq (xOps [⟨(some t111), oMov (.t t0), none, none⟩,
   ⟨(some t112), oCall 53 [(.t t111)], none, none⟩,
   ⟨(some t113), oMov (.t t3), none, none⟩,
   ⟨(some t114), oBuild [(.string ⟨⟨[]⟩⟩), (.string ⟨⟨[]⟩⟩), (.int .i64 0), (.int .i64 0), (.int .i64 0), (.slice none 0 0)] [(0, 1, (.v (.string ⟨⟨[110, 97, 109, 101]⟩⟩))), (1, 1, (.t t112)), (4, 1, (.t t113))], none, none⟩,
   ⟨none, oStore 6 (.t t2) (.t t114), none, none⟩])
 xRet))))))⟩
theorem ok90 : cFunc Try.prog gl ex Try.f90 = some c90 := by kernel_rfl
end
end Go.Proofs.Ytcjamnbbedpebaa.AbsTypK
