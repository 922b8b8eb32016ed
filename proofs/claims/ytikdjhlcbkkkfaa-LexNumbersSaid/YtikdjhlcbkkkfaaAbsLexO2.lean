import Derived.Test.YtikdjhlcbkkkfaaRows
import Derived.Test.YtikdjhlcbkkkfaaAbsLexOT
import Derived.KernelRfl
namespace Go.Proofs.Ytikdjhlcbkkkfaa.AbsLexO
open Go Go.Abs Go.Proofs
set_option maxRecDepth 100000
set_option linter.unusedVariables false
noncomputable section
-- publican/lex.rate
def c40_g0 : List AOper := [⟨(some t49), oMov (.t t7), none, none⟩,
   ⟨(some t50), oMov (.t t0), none, none⟩,
   ⟨(some t51), oMov (.t t4), none, none⟩,
   ⟨(some t52), oBin (int2 addO) (.t t51) (.v (.int .i64 1)), none, none⟩,
   ⟨(some t53), oMov (.t t6), none, none⟩,
   ⟨(some t54), oSliceS (.t t50) (some (.t t52)) (some (.t t53)), none, none⟩,
   ⟨(some t55), oMov (.t t5), none, none⟩,
   ⟨(some t56), oBin (int2 subO) (.v (.int .i64 4)) (.t t55), none, none⟩,
   ⟨(some t57), oCall 48 [(.v (.string ⟨⟨[48]⟩⟩)), (.t t56)], none, none⟩,
   ⟨(some t58), oBin (str2 catO) (.t t54) (.t t57), none, none⟩,
   ⟨(some t59), oCall 42 [(.t t58), (.v (.int .i64 10000))], none, none⟩,
   ⟨(some t60), oBin (int2 addO) (.t t49) (.t t59), none, none⟩,
   ⟨(some t7), oMov (.t t60), none, none⟩]
def c40_j0 : X := (xSeq (xSeq (xOps [⟨(some t21), oMov (.t t4), none, none⟩,
   ⟨(some t22), oBin (int2 (cmpO eqI)) (.t t21) (.v (.int .i64 0)), none, none⟩,
   ⟨(some t23), oMov (.t t22), none, none⟩,
   ⟨(some t24), oMov (.t t6), (some (t23, false)), none⟩,
   ⟨(some t25), oMov (.t t0), (some (t23, false)), none⟩,
   ⟨(some t26), oLenS (.t t25), (some (t23, false)), none⟩,
   ⟨(some t27), oBin (int2 (cmpO geI)) (.t t24) (.t t26), (some (t23, false)), none⟩,
   ⟨(some t28), oPick (.t t23) (.v (.bool true)) (.t t27), none, none⟩,
   ⟨(some t29), oMov (.t t28), none, none⟩,
   ⟨(some t30), oMov (.t t0), (some (t29, false)), none⟩,
   ⟨(some t31), oMov (.t t6), (some (t29, false)), none⟩,
   ⟨(some t32), oIdxS (.t t30) (.t t31), (some (t29, false)), none⟩,
   ⟨(some t33), oBin (int2 (cmpO neI)) (.t t32) (.v (.int .u8 37)), (some (t29, false)), none⟩,
   ⟨(some t34), oPick (.t t29) (.v (.bool true)) (.t t33), none, none⟩])
 (xCond (.t t34)
 (xSeq (xOps [⟨(some t2), oMov (.v (.int .i64 0)), none, none⟩,
   ⟨(some t3), oMov (.v (.int .i64 0)), none, none⟩])
 xRet)
 xSkip))
 (xSeq (xOps [⟨(some t35), oMov (.t t0), none, none⟩,
   ⟨(some t36), oMov (.t t4), none, none⟩,
   ⟨(some t37), oSliceS (.t t35) none (some (.t t36)), none, none⟩,
   ⟨(some t38), oCall 42 [(.t t37), (.v (.int .i64 1000000000000))], none, none⟩,
   ⟨(some t7), oMov (.t t38), none, none⟩])
 (xSeq (xSeq (xOps [⟨(some t39), oMov (.t t7), none, none⟩,
   ⟨(some t40), oBin (int2 (cmpO geI)) (.t t39) (.v (.int .i64 0)), none, none⟩])
 (xCond (.t t40)
 (xSeq (xOps [⟨(some t41), oMov (.t t7), none, none⟩,
   ⟨(some t42), oBin (int2 mulO) (.t t41) (.v (.int .i64 10000)), none, none⟩,
   ⟨(some t7), oMov (.t t42), none, none⟩])
 (xSeq (xOps [⟨(some t43), oMov (.t t7), none, none⟩,
   ⟨(some t44), oBin (int2 (cmpO leI)) (.t t43) (.v (.int .i64 1000000000000)), none, none⟩,
   ⟨(some t45), oMov (.t t44), none, none⟩,
   ⟨(some t46), oMov (.t t5), (some (t45, true)), none⟩,
   ⟨(some t47), oBin (int2 (cmpO gtI)) (.t t46) (.v (.int .i64 0)), (some (t45, true)), none⟩,
   ⟨(some t48), oPick (.t t45) (.t t47) (.v (.bool false)), none, none⟩])
 (xCond (.t t48)
 (xReg c40_g0 [(0, 1), (0, 2), (1, 2), (0, 3), (1, 3), (0, 4), (1, 4), (2, 4), (3, 4), (0, 5), (0, 6), (1, 6), (2, 6), (3, 6), (4, 6), (5, 6), (0, 7), (1, 7), (2, 7), (3, 7), (4, 7), (5, 7), (0, 8), (1, 8), (2, 8), (3, 8), (4, 8), (5, 8), (0, 9), (0, 10)])
 xSkip)))
 xSkip))
 (xSeq (xSeq (xOps [⟨(some t61), oMov (.t t7), none, none⟩,
   ⟨(some t62), oBin (int2 (cmpO gtI)) (.t t61) (.v (.int .i64 1000000000000)), none, none⟩])
 (xCond (.t t62)
 (xOps [⟨(some t7), oMov (.v (.int .i64 (-1))), none, none⟩])
 xSkip))
 (xSeq (xOps [⟨(some t63), oMov (.t t6), none, none⟩,
   ⟨(some t64), oBin (int2 addO) (.t t63) (.v (.int .i64 1)), none, none⟩,
   ⟨(some t65), oMov (.t t7), none, none⟩,
   ⟨(some t2), oMov (.t t64), none, none⟩,
   ⟨(some t3), oMov (.t t65), none, none⟩])
 xRet)))))
def c40 : AFunc := ⟨66, [.tmp t2, .tmp t3],
 (xSeq (xOps [⟨(some t2), oMov (.v (.int .i64 0)), none, none⟩,
   ⟨(some t3), oMov (.v (.int .i64 0)), none, none⟩])
 (xSeq (xOps [⟨(some t8), oMov (.t t0), none, none⟩,
   ⟨(some t9), oCall 25 [(.t t8), (.v (.func (.func 30) #[] #[]))], none, none⟩,
   ⟨(some t4), oMov (.t t9), none, none⟩])
 (xSeq (xOps [⟨(some t10), oMov (.t t0), none, none⟩,
   ⟨(some t11), oMov (.t t4), none, none⟩,
   ⟨(some t12), oSliceS (.t t10) (some (.t t11)) none, none, none⟩,
   ⟨(some t13), oCall 47 [(.t t12), (.v (.int .i64 4))], none, none⟩,
   ⟨(some t5), oMov (.t t13), none, none⟩])
 (xSeq (xOps [⟨(some t14), oMov (.t t4), none, none⟩,
   ⟨(some t6), oMov (.t t14), none, none⟩])
 (xSeq (xSeq (xOps [⟨(some t15), oMov (.t t5), none, none⟩,
   ⟨(some t16), oBin (int2 (cmpO gtI)) (.t t15) (.v (.int .i64 0)), none, none⟩])
 (xCond (.t t16)
 (xOps [⟨(some t17), oMov (.t t6), none, none⟩,
   ⟨(some t18), oMov (.t t5), none, none⟩,
   ⟨(some t19), oBin (int2 addO) (.v (.int .i64 1)) (.t t18), none, none⟩,
   ⟨(some t20), oBin (int2 addO) (.t t17) (.t t19), none, none⟩,
   ⟨(some t6), oMov (.t t20), none, none⟩])
 xSkip))
 c40_j0)))))⟩
theorem ok40 : cFunc Try.prog gl ex Try.f40 = some c40 := by kernel_rfl
-- publican/lex.day
def c41 : AFunc := ⟨28, [.tmp t2, .tmp t3],
 (xSeq (xOps [⟨(some t2), oMov (.v (.int .i64 0)), none, none⟩,
   ⟨(some t3), oMov (.v (.int .i64 0)), none, none⟩])
 (xSeq (xSeq (xOps [⟨(some t6), oMov (.t t0), none, none⟩,
   ⟨(some t7), oLenS (.t t6), none, none⟩,
   ⟨(some t8), oBin (int2 (cmpO ltI)) (.t t7) (.v (.int .i64 10)), none, none⟩,
   ⟨(some t9), oMov (.t t8), none, none⟩,
   ⟨(some t10), oMov (.t t0), (some (t9, false)), none⟩,
   ⟨(some t11), oLenS (.t t10), (some (t9, false)), none⟩,
   ⟨(some t12), oBin (int2 (cmpO gtI)) (.t t11) (.v (.int .i64 10)), (some (t9, false)), none⟩,
   ⟨(some t13), oMov (.t t12), (some (t9, false)), none⟩,
   ⟨(some t14), oMov (.t t0), (some (t13, true)), none⟩,
   ⟨(some t15), oIdxS (.t t14) (.v (.int .i64 10)), (some (t13, true)), none⟩,
   ⟨(some t16), oCall 30 [(.t t15)], (some (t13, true)), none⟩,
   ⟨(some t17), oPick (.t t13) (.t t16) (.v (.bool false)), (some (t9, false)), none⟩,
   ⟨(some t18), oPick (.t t9) (.v (.bool true)) (.t t17), none, none⟩])
 (xCond (.t t18)
 (xSeq (xOps [⟨(some t2), oMov (.v (.int .i64 0)), none, none⟩,
   ⟨(some t3), oMov (.v (.int .i64 0)), none, none⟩])
 xRet)
 xSkip))
 (xSeq (xOps [⟨(some t20), oMov (.t t0), none, none⟩,
   ⟨(some t21), oSliceS (.t t20) none (some (.v (.int .i64 10))), none, none⟩,
   ⟨(some t22), oCall 49 [(.t t21)], none, none⟩,
   ⟨(some t19), oMov (.t t22), none, none⟩,
   ⟨(some t23), oExtract (.t t19) 0, none, none⟩,
   ⟨(some t24), oExtract (.t t19) 1, none, none⟩,
   ⟨(some t4), oMov (.t t23), none, none⟩,
   ⟨(some t5), oMov (.t t24), none, none⟩])
 (xSeq (xSeq (xOps [⟨(some t25), oMov (.t t5), none, none⟩,
   ⟨(some t26), oNot (.t t25), none, none⟩])
 (xCond (.t t26)
 (xSeq (xOps [⟨(some t2), oMov (.v (.int .i64 0)), none, none⟩,
   ⟨(some t3), oMov (.v (.int .i64 0)), none, none⟩])
 xRet)
 xSkip))
 (xSeq (xOps [⟨(some t27), oMov (.t t4), none, none⟩,
   ⟨(some t2), oMov (.v (.int .i64 10)), none, none⟩,
   ⟨(some t3), oMov (.t t27), none, none⟩])
 xRet)))))⟩
theorem ok41 : cFunc Try.prog gl ex Try.f41 = some c41 := by kernel_rfl
-- publican/lex.number
def c42_l0 : X := (xSeq (xOps [⟨(some t12), oBin (int2 (cmpO ltI)) (.t t11) (.t t10), none, none⟩])
 (xSeq (xCond (.t t12)
 xSkip
 (xExit 0))
 (xSeq (xBlock 1 (xSeq (xOps [⟨(some t13), oIdxAddrL 1 (.t t9) (.t t11), none, none⟩,
   ⟨(some t14), oLoad1 (.t t13), none, (some (.t t13))⟩,
   ⟨(some t7), oMov (.t t14), none, none⟩])
 (xSeq (xOps [⟨(some t15), oMov (.t t5), none, none⟩,
   ⟨(some t16), oBin (int2 mulO) (.t t15) (.v (.int .i64 10)), none, none⟩,
   ⟨(some t17), oMov (.t t7), none, none⟩,
   ⟨(some t18), oBin (int2 subO) (.t t17) (.v (.int .u8 48)), none, none⟩,
   ⟨(some t19), oConv .i64 (.t t18), none, none⟩,
   ⟨(some t20), oBin (int2 addO) (.t t16) (.t t19), none, none⟩,
   ⟨(some t5), oMov (.t t20), none, none⟩])
 (xSeq (xOps [⟨(some t21), oMov (.t t5), none, none⟩,
   ⟨(some t22), oMov (.t t1), none, none⟩,
   ⟨(some t23), oBin (int2 (cmpO gtI)) (.t t21) (.t t22), none, none⟩])
 (xCond (.t t23)
 (xSeq (xOps [⟨(some t4), oMov (.v (.int .i64 (-1))), none, none⟩])
 xRet)
 xSkip)))))
 (xOps [⟨(some t24), oBin (int2 addO) (.t t11) (.v (.int .i64 1)), none, none⟩,
   ⟨(some t11), oMov (.t t24), none, none⟩]))))
def c42_r0 : X := (xSeq (xOps [⟨(some t25), oMov (.t t5), none, none⟩,
   ⟨(some t4), oMov (.t t25), none, none⟩])
 xRet)
def c42 : AFunc := ⟨26, [.tmp t4],
 (xSeq (xOps [⟨(some t4), oMov (.v (.int .i64 0)), none, none⟩])
 (xSeq (xOps [⟨(some t5), oMov (.v (.int .i64 0)), none, none⟩])
 (xSeq (xSeq (xOps [⟨(some t8), oMov (.t t0), none, none⟩,
   ⟨(some t9), oStrBytes (.t t8), none, none⟩,
   ⟨(some t10), oLenL (.t t9), none, none⟩,
   ⟨(some t11), oMov (.v (.int .i64 0)), none, none⟩])
 (xBlock 0 (xLoop c42_l0)))
 c42_r0)))⟩
theorem ok42 : cFunc Try.prog gl ex Try.f42 = some c42 := by kernel_rfl
-- internal/stringslite.HasPrefix
def c43 : AFunc := ⟨18, [.tmp t4],
 (xSeq (xOps [⟨(some t4), oMov (.v (.bool false)), none, none⟩])
 (xSeq (xOps [⟨(some t5), oMov (.t t0), none, none⟩,
   ⟨(some t6), oLenS (.t t5), none, none⟩,
   ⟨(some t7), oMov (.t t1), none, none⟩,
   ⟨(some t8), oLenS (.t t7), none, none⟩,
   ⟨(some t9), oBin (int2 (cmpO geI)) (.t t6) (.t t8), none, none⟩,
   ⟨(some t10), oMov (.t t9), none, none⟩,
   ⟨(some t11), oMov (.t t0), (some (t10, true)), none⟩,
   ⟨(some t12), oMov (.t t1), (some (t10, true)), none⟩,
   ⟨(some t13), oLenS (.t t12), (some (t10, true)), none⟩,
   ⟨(some t14), oSliceS (.t t11) none (some (.t t13)), (some (t10, true)), none⟩,
   ⟨(some t15), oMov (.t t1), (some (t10, true)), none⟩,
   ⟨(some t16), oBin (str2 (cmpS eqBytes)) (.t t14) (.t t15), (some (t10, true)), none⟩,
   ⟨(some t17), oPick (.t t10) (.t t16) (.v (.bool false)), none, none⟩,
   ⟨(some t4), oMov (.t t17), none, none⟩])
 xRet))⟩
theorem ok43 : cFunc Try.prog gl ex Try.f43 = some c43 := by kernel_rfl
-- publican/publicanref1.Day
def c44_q0 : List AOper := [⟨(some t25), oMov (.t t24), none, none⟩,
   ⟨(some t26), oMov (.t t2), (some (t25, false)), none⟩,
   ⟨(some t27), oBin (int2 (cmpO ltI)) (.t t26) (.v (.int .i64 1)), (some (t25, false)), none⟩,
   ⟨(some t28), oPick (.t t25) (.v (.bool true)) (.t t27), none, none⟩,
   ⟨(some t29), oMov (.t t28), none, none⟩,
   ⟨(some t30), oMov (.t t2), (some (t29, false)), none⟩,
   ⟨(some t31), oMov (.t t0), (some (t29, false)), none⟩,
   ⟨(some t32), oMov (.t t1), (some (t29, false)), none⟩,
   ⟨(some t33), oCall 46 [(.t t31), (.t t32)], (some (t29, false)), none⟩,
   ⟨(some t34), oBin (int2 (cmpO gtI)) (.t t30) (.t t33), (some (t29, false)), none⟩,
   ⟨(some t35), oPick (.t t29) (.v (.bool true)) (.t t34), none, none⟩]
def c44_j0 : X := (xCond (.t t35)
 (xSeq (xOps [⟨(some t6), oMov (.v (.int .i64 0)), none, none⟩,
   ⟨(some t7), oMov (.v (.bool false)), none, none⟩])
 xRet)
 xSkip)
def c44_l0 : X := (xSeq (xSeq (xOps [⟨(some t36), oMov (.t t9), none, none⟩,
   ⟨(some t37), oMov (.t t0), none, none⟩,
   ⟨(some t38), oBin (int2 (cmpO ltI)) (.t t36) (.t t37), none, none⟩])
 (xCond (.t t38)
 xSkip
 (xExit 0)))
 (xSeq (xBlock 1 (xSeq (xOps [⟨(some t41), oMov (.t t8), none, none⟩,
   ⟨(some t42), oBin (int2 addO) (.t t41) (.v (.int .i64 365)), none, none⟩,
   ⟨(some t8), oMov (.t t42), none, none⟩])
 (xSeq (xOps [⟨(some t43), oMov (.t t9), none, none⟩,
   ⟨(some t44), oCall 45 [(.t t43)], none, none⟩])
 (xCond (.t t44)
 (xOps [⟨(some t45), oMov (.t t8), none, none⟩,
   ⟨(some t46), oBin (int2 addO) (.t t45) (.v (.int .i64 1)), none, none⟩,
   ⟨(some t8), oMov (.t t46), none, none⟩])
 xSkip))))
 (xOps [⟨(some t39), oMov (.t t9), none, none⟩,
   ⟨(some t40), oBin (int2 addO) (.t t39) (.v (.int .i64 1)), none, none⟩,
   ⟨(some t9), oMov (.t t40), none, none⟩])))
def c44_l1 : X := (xSeq (xSeq (xOps [⟨(some t47), oMov (.t t10), none, none⟩,
   ⟨(some t48), oMov (.t t1), none, none⟩,
   ⟨(some t49), oBin (int2 (cmpO ltI)) (.t t47) (.t t48), none, none⟩])
 (xCond (.t t49)
 xSkip
 (xExit 2)))
 (xSeq (xBlock 3 (xOps [⟨(some t52), oMov (.t t8), none, none⟩,
   ⟨(some t53), oMov (.t t0), none, none⟩,
   ⟨(some t54), oMov (.t t10), none, none⟩,
   ⟨(some t55), oCall 46 [(.t t53), (.t t54)], none, none⟩,
   ⟨(some t56), oBin (int2 addO) (.t t52) (.t t55), none, none⟩,
   ⟨(some t8), oMov (.t t56), none, none⟩]))
 (xOps [⟨(some t50), oMov (.t t10), none, none⟩,
   ⟨(some t51), oBin (int2 addO) (.t t50) (.v (.int .i64 1)), none, none⟩,
   ⟨(some t10), oMov (.t t51), none, none⟩])))
def c44_r0 : X := (xSeq (xOps [⟨(some t57), oMov (.t t8), none, none⟩,
   ⟨(some t58), oMov (.t t2), none, none⟩,
   ⟨(some t59), oBin (int2 addO) (.t t57) (.t t58), none, none⟩,
   ⟨(some t60), oBin (int2 subO) (.t t59) (.v (.int .i64 1)), none, none⟩,
   ⟨(some t6), oMov (.t t60), none, none⟩,
   ⟨(some t7), oMov (.v (.bool true)), none, none⟩])
 xRet)
def c44_r1 : X := (xSeq (xSeq (xOps [⟨(some t10), oMov (.v (.int .i64 1)), none, none⟩])
 (xBlock 2 (xLoop c44_l1)))
 c44_r0)
def c44_j1 : X := (xSeq (xOps [⟨(some t8), oMov (.v (.int .i64 0)), none, none⟩])
 (xSeq (xSeq (xOps [⟨(some t9), oMov (.v (.int .i64 1900)), none, none⟩])
 (xBlock 0 (xLoop c44_l0)))
 c44_r1))
def c44 : AFunc := ⟨61, [.tmp t6, .tmp t7],
 (xSeq (xOps [⟨(some t6), oMov (.v (.int .i64 0)), none, none⟩,
   ⟨(some t7), oMov (.v (.bool false)), none, none⟩])
 (xSeq (xSeq (xOps (⟨(some t11), oMov (.t t0), none, none⟩ ::
   ⟨(some t12), oBin (int2 (cmpO ltI)) (.t t11) (.v (.int .i64 1900)), none, none⟩ ::
   ⟨(some t13), oMov (.t t12), none, none⟩ ::
   ⟨(some t14), oMov (.t t0), (some (t13, false)), none⟩ ::
   ⟨(some t15), oBin (int2 (cmpO gtI)) (.t t14) (.v (.int .i64 2199)), (some (t13, false)), none⟩ ::
   ⟨(some t16), oPick (.t t13) (.v (.bool true)) (.t t15), none, none⟩ ::
   ⟨(some t17), oMov (.t t16), none, none⟩ ::
   ⟨(some t18), oMov (.t t1), (some (t17, false)), none⟩ ::
   ⟨(some t19), oBin (int2 (cmpO ltI)) (.t t18) (.v (.int .i64 1)), (some (t17, false)), none⟩ ::
   ⟨(some t20), oPick (.t t17) (.v (.bool true)) (.t t19), none, none⟩ ::
   ⟨(some t21), oMov (.t t20), none, none⟩ ::
   ⟨(some t22), oMov (.t t1), (some (t21, false)), none⟩ ::
   ⟨(some t23), oBin (int2 (cmpO gtI)) (.t t22) (.v (.int .i64 12)), (some (t21, false)), none⟩ ::
   ⟨(some t24), oPick (.t t21) (.v (.bool true)) (.t t23), none, none⟩ :: c44_q0))
 c44_j0)
 c44_j1))⟩
theorem ok44 : cFunc Try.prog gl ex Try.f44 = some c44 := by kernel_rfl
-- publican/publicanref1.Leap
def c45 : AFunc := ⟨16, [.tmp t2],
 (xSeq (xOps [⟨(some t2), oMov (.v (.bool false)), none, none⟩])
 (xSeq (xOps [⟨(some t3), oMov (.t t0), none, none⟩,
   ⟨(some t4), oBin (int2 remO) (.t t3) (.v (.int .i64 4)), none, none⟩,
   ⟨(some t5), oBin (int2 (cmpO eqI)) (.t t4) (.v (.int .i64 0)), none, none⟩,
   ⟨(some t6), oMov (.t t5), none, none⟩,
   ⟨(some t7), oMov (.t t0), (some (t6, true)), none⟩,
   ⟨(some t8), oBin (int2 remO) (.t t7) (.v (.int .i64 100)), (some (t6, true)), none⟩,
   ⟨(some t9), oBin (int2 (cmpO neI)) (.t t8) (.v (.int .i64 0)), (some (t6, true)), none⟩,
   ⟨(some t10), oPick (.t t6) (.t t9) (.v (.bool false)), none, none⟩,
   ⟨(some t11), oMov (.t t10), none, none⟩,
   ⟨(some t12), oMov (.t t0), (some (t11, false)), none⟩,
   ⟨(some t13), oBin (int2 remO) (.t t12) (.v (.int .i64 400)), (some (t11, false)), none⟩,
   ⟨(some t14), oBin (int2 (cmpO eqI)) (.t t13) (.v (.int .i64 0)), (some (t11, false)), none⟩,
   ⟨(some t15), oPick (.t t11) (.v (.bool true)) (.t t14), none, none⟩,
   ⟨(some t2), oMov (.t t15), none, none⟩])
 xRet))⟩
theorem ok45 : cFunc Try.prog gl ex Try.f45 = some c45 := by kernel_rfl
-- publican/publicanref1.Days
def c46_j0 : X := (xCond (.t t14)
 (xSeq (xOps [⟨(some t4), oMov (.v (.int .i64 30)), none, none⟩])
 xRet)
 (xSeq (xOps [⟨(some t20), oBin (int2 (cmpO eqI)) (.t t5) (.v (.int .i64 2)), none, none⟩,
   ⟨(some t19), oMov (.t t20), none, none⟩])
 (xCond (.t t19)
 (xSeq (xSeq (xOps [⟨(some t21), oMov (.t t0), none, none⟩,
   ⟨(some t22), oCall 45 [(.t t21)], none, none⟩])
 (xCond (.t t22)
 (xSeq (xOps [⟨(some t4), oMov (.v (.int .i64 29)), none, none⟩])
 xRet)
 xSkip))
 (xSeq (xOps [⟨(some t4), oMov (.v (.int .i64 28)), none, none⟩])
 xRet))
 xSkip)))
def c46_j1 : X := (xCond (.t t6)
 (xSeq (xOps [⟨(some t4), oMov (.v (.int .i64 31)), none, none⟩])
 xRet)
 (xSeq (xSeq (xOps [⟨(some t15), oBin (int2 (cmpO eqI)) (.t t5) (.v (.int .i64 4)), none, none⟩,
   ⟨(some t14), oMov (.t t15), none, none⟩])
 (xCond (.t t14)
 xSkip
 (xSeq (xOps [⟨(some t16), oBin (int2 (cmpO eqI)) (.t t5) (.v (.int .i64 6)), none, none⟩,
   ⟨(some t14), oMov (.t t16), none, none⟩])
 (xCond (.t t14)
 xSkip
 (xSeq (xOps [⟨(some t17), oBin (int2 (cmpO eqI)) (.t t5) (.v (.int .i64 9)), none, none⟩,
   ⟨(some t14), oMov (.t t17), none, none⟩])
 (xCond (.t t14)
 xSkip
 (xOps [⟨(some t18), oBin (int2 (cmpO eqI)) (.t t5) (.v (.int .i64 11)), none, none⟩,
   ⟨(some t14), oMov (.t t18), none, none⟩])))))))
 c46_j0))
def c46_j2 : X := (xSeq (xOps [⟨(some t4), oMov (.v (.int .i64 0)), none, none⟩])
 xRet)
def c46 : AFunc := ⟨23, [.tmp t4],
 (xSeq (xOps [⟨(some t4), oMov (.v (.int .i64 0)), none, none⟩])
 (xSeq (xSeq (xOps [⟨(some t5), oMov (.t t1), none, none⟩])
 (xBlock 0 (xSeq (xSeq (xOps [⟨(some t7), oBin (int2 (cmpO eqI)) (.t t5) (.v (.int .i64 1)), none, none⟩,
   ⟨(some t6), oMov (.t t7), none, none⟩])
 (xCond (.t t6)
 xSkip
 (xSeq (xOps [⟨(some t8), oBin (int2 (cmpO eqI)) (.t t5) (.v (.int .i64 3)), none, none⟩,
   ⟨(some t6), oMov (.t t8), none, none⟩])
 (xCond (.t t6)
 xSkip
 (xSeq (xOps [⟨(some t9), oBin (int2 (cmpO eqI)) (.t t5) (.v (.int .i64 5)), none, none⟩,
   ⟨(some t6), oMov (.t t9), none, none⟩])
 (xCond (.t t6)
 xSkip
 (xSeq (xOps [⟨(some t10), oBin (int2 (cmpO eqI)) (.t t5) (.v (.int .i64 7)), none, none⟩,
   ⟨(some t6), oMov (.t t10), none, none⟩])
 (xCond (.t t6)
 xSkip
 (xSeq (xOps [⟨(some t11), oBin (int2 (cmpO eqI)) (.t t5) (.v (.int .i64 8)), none, none⟩,
   ⟨(some t6), oMov (.t t11), none, none⟩])
 (xCond (.t t6)
 xSkip
 (xSeq (xOps [⟨(some t12), oBin (int2 (cmpO eqI)) (.t t5) (.v (.int .i64 10)), none, none⟩,
   ⟨(some t6), oMov (.t t12), none, none⟩])
 (xCond (.t t6)
 xSkip
 (xOps [⟨(some t13), oBin (int2 (cmpO eqI)) (.t t5) (.v (.int .i64 12)), none, none⟩,
   ⟨(some t6), oMov (.t t13), none, none⟩])))))))))))))
 c46_j1)))
 c46_j2))⟩
theorem ok46 : cFunc Try.prog gl ex Try.f46 = some c46 := by kernel_rfl
-- publican/lex.places
def c47 : AFunc := ⟨20, [.tmp t4],
 (xSeq (xOps [⟨(some t4), oMov (.v (.int .i64 0)), none, none⟩])
 (xSeq (xSeq (xOps [⟨(some t6), oMov (.t t0), none, none⟩,
   ⟨(some t7), oBin (str2 (cmpS eqBytes)) (.t t6) (.v (.string ⟨⟨[]⟩⟩)), none, none⟩,
   ⟨(some t8), oMov (.t t7), none, none⟩,
   ⟨(some t9), oMov (.t t0), (some (t8, false)), none⟩,
   ⟨(some t10), oIdxS (.t t9) (.v (.int .i64 0)), (some (t8, false)), none⟩,
   ⟨(some t11), oBin (int2 (cmpO neI)) (.t t10) (.v (.int .u8 46)), (some (t8, false)), none⟩,
   ⟨(some t12), oPick (.t t8) (.v (.bool true)) (.t t11), none, none⟩])
 (xCond (.t t12)
 (xSeq (xOps [⟨(some t4), oMov (.v (.int .i64 0)), none, none⟩])
 xRet)
 xSkip))
 (xSeq (xSeq (xOps [⟨(some t13), oMov (.t t0), none, none⟩,
   ⟨(some t14), oSliceS (.t t13) (some (.v (.int .i64 1))) none, none, none⟩,
   ⟨(some t15), oCall 25 [(.t t14), (.v (.func (.func 30) #[] #[]))], none, none⟩,
   ⟨(some t5), oMov (.t t15), none, none⟩])
 (xSeq (xOps [⟨(some t16), oMov (.t t5), none, none⟩,
   ⟨(some t17), oMov (.t t1), none, none⟩,
   ⟨(some t18), oBin (int2 (cmpO leI)) (.t t16) (.t t17), none, none⟩])
 (xCond (.t t18)
 (xSeq (xOps [⟨(some t19), oMov (.t t5), none, none⟩,
   ⟨(some t4), oMov (.t t19), none, none⟩])
 xRet)
 xSkip)))
 (xSeq (xOps [⟨(some t4), oMov (.v (.int .i64 0)), none, none⟩])
 xRet))))⟩
theorem ok47 : cFunc Try.prog gl ex Try.f47 = some c47 := by kernel_rfl
-- publican/cal.Read
def c49_g0 : List AOper := [⟨(some t17), oMov (.t t0), none, none⟩,
   ⟨(some t18), oSliceS (.t t17) none (some (.v (.int .i64 4))), none, none⟩,
   ⟨(some t19), oCall 56 [(.t t18)], none, none⟩,
   ⟨(some t20), oMov (.t t0), none, none⟩,
   ⟨(some t21), oSliceS (.t t20) (some (.v (.int .i64 5))) (some (.v (.int .i64 7))), none, none⟩,
   ⟨(some t22), oCall 56 [(.t t21)], none, none⟩,
   ⟨(some t23), oMov (.t t0), none, none⟩,
   ⟨(some t24), oSliceS (.t t23) (some (.v (.int .i64 8))) none, none, none⟩,
   ⟨(some t25), oCall 56 [(.t t24)], none, none⟩,
   ⟨(some t26), oCall 55 [(.t t19), (.t t22), (.t t25)], none, none⟩,
   ⟨(some t27), oExtract (.t t26) 0, none, none⟩,
   ⟨(some t28), oExtract (.t t26) 1, none, none⟩,
   ⟨(some t2), oMov (.t t27), none, none⟩,
   ⟨(some t3), oMov (.t t28), none, none⟩]
def c49 : AFunc := ⟨29, [.tmp t2, .tmp t3],
 (xSeq (xOps [⟨(some t2), oMov (.v (.int .i64 0)), none, none⟩,
   ⟨(some t3), oMov (.v (.bool false)), none, none⟩])
 (xSeq (xSeq (xOps [⟨(some t4), oMov (.t t0), none, none⟩,
   ⟨(some t5), oLenS (.t t4), none, none⟩,
   ⟨(some t6), oBin (int2 (cmpO neI)) (.t t5) (.v (.int .i64 10)), none, none⟩,
   ⟨(some t7), oMov (.t t6), none, none⟩,
   ⟨(some t8), oMov (.t t0), (some (t7, false)), none⟩,
   ⟨(some t9), oIdxS (.t t8) (.v (.int .i64 4)), (some (t7, false)), none⟩,
   ⟨(some t10), oBin (int2 (cmpO neI)) (.t t9) (.v (.int .u8 45)), (some (t7, false)), none⟩,
   ⟨(some t11), oPick (.t t7) (.v (.bool true)) (.t t10), none, none⟩,
   ⟨(some t12), oMov (.t t11), none, none⟩,
   ⟨(some t13), oMov (.t t0), (some (t12, false)), none⟩,
   ⟨(some t14), oIdxS (.t t13) (.v (.int .i64 7)), (some (t12, false)), none⟩,
   ⟨(some t15), oBin (int2 (cmpO neI)) (.t t14) (.v (.int .u8 45)), (some (t12, false)), none⟩,
   ⟨(some t16), oPick (.t t12) (.v (.bool true)) (.t t15), none, none⟩])
 (xCond (.t t16)
 (xSeq (xOps [⟨(some t2), oMov (.v (.int .i64 0)), none, none⟩,
   ⟨(some t3), oMov (.v (.bool false)), none, none⟩])
 xRet)
 xSkip))
 (xSeq (xReg c49_g0 [(0, 3), (1, 3), (2, 3), (0, 4), (1, 4), (2, 4), (0, 6), (1, 6), (2, 6), (3, 6), (4, 6), (5, 6), (0, 7), (1, 7), (2, 7), (3, 7), (4, 7), (5, 7), (10, 11)])
 xRet)))⟩
theorem ok49 : cFunc Try.prog gl ex Try.f49 = some c49 := by kernel_rfl
-- publican/cal.Of
def c55_l0 : X := (xSeq (xSeq (xOps [⟨(some t29), oMov (.t t9), none, none⟩,
   ⟨(some t30), oMov (.t t1), none, none⟩,
   ⟨(some t31), oBin (int2 (cmpO ltI)) (.t t29) (.t t30), none, none⟩])
 (xCond (.t t31)
 xSkip
 (xExit 0)))
 (xSeq (xBlock 1 (xOps [⟨(some t34), oMov (.t t8), none, none⟩,
   ⟨(some t35), oMov (.t t0), none, none⟩,
   ⟨(some t36), oMov (.t t9), none, none⟩,
   ⟨(some t37), oCall 61 [(.t t35), (.t t36)], none, none⟩,
   ⟨(some t38), oBin (int2 addO) (.t t34) (.t t37), none, none⟩,
   ⟨(some t8), oMov (.t t38), none, none⟩]))
 (xOps [⟨(some t32), oMov (.t t9), none, none⟩,
   ⟨(some t33), oBin (int2 addO) (.t t32) (.v (.int .i64 1)), none, none⟩,
   ⟨(some t9), oMov (.t t33), none, none⟩])))
def c55_r0 : X := (xSeq (xOps [⟨(some t39), oMov (.t t8), none, none⟩,
   ⟨(some t40), oMov (.t t2), none, none⟩,
   ⟨(some t41), oBin (int2 addO) (.t t39) (.t t40), none, none⟩,
   ⟨(some t42), oBin (int2 subO) (.t t41) (.v (.int .i64 1)), none, none⟩,
   ⟨(some t6), oMov (.t t42), none, none⟩,
   ⟨(some t7), oMov (.v (.bool true)), none, none⟩])
 xRet)
def c55 : AFunc := ⟨43, [.tmp t6, .tmp t7],
 (xSeq (xOps [⟨(some t6), oMov (.v (.int .i64 0)), none, none⟩,
   ⟨(some t7), oMov (.v (.bool false)), none, none⟩])
 (xSeq (xSeq (xOps [⟨(some t10), oMov (.t t0), none, none⟩,
   ⟨(some t11), oBin (int2 (cmpO ltI)) (.t t10) (.v (.int .i64 1900)), none, none⟩,
   ⟨(some t12), oMov (.t t11), none, none⟩,
   ⟨(some t13), oMov (.t t0), (some (t12, false)), none⟩,
   ⟨(some t14), oBin (int2 (cmpO gtI)) (.t t13) (.v (.int .i64 2199)), (some (t12, false)), none⟩,
   ⟨(some t15), oPick (.t t12) (.v (.bool true)) (.t t14), none, none⟩,
   ⟨(some t16), oMov (.t t15), none, none⟩,
   ⟨(some t17), oMov (.t t2), (some (t16, false)), none⟩,
   ⟨(some t18), oBin (int2 (cmpO ltI)) (.t t17) (.v (.int .i64 1)), (some (t16, false)), none⟩,
   ⟨(some t19), oPick (.t t16) (.v (.bool true)) (.t t18), none, none⟩,
   ⟨(some t20), oMov (.t t19), none, none⟩,
   ⟨(some t21), oMov (.t t2), (some (t20, false)), none⟩,
   ⟨(some t22), oMov (.t t0), (some (t20, false)), none⟩,
   ⟨(some t23), oMov (.t t1), (some (t20, false)), none⟩,
   ⟨(some t24), oCall 61 [(.t t22), (.t t23)], (some (t20, false)), none⟩,
   ⟨(some t25), oBin (int2 (cmpO gtI)) (.t t21) (.t t24), (some (t20, false)), none⟩,
   ⟨(some t26), oPick (.t t20) (.v (.bool true)) (.t t25), none, none⟩])
 (xCond (.t t26)
 (xSeq (xOps [⟨(some t6), oMov (.v (.int .i64 0)), none, none⟩,
   ⟨(some t7), oMov (.v (.bool false)), none, none⟩])
 xRet)
 xSkip))
 (xSeq (xOps [⟨(some t27), oMov (.t t0), none, none⟩,
   ⟨(some t28), oCall 62 [(.t t27)], none, none⟩,
   ⟨(some t8), oMov (.t t28), none, none⟩])
 (xSeq (xSeq (xOps [⟨(some t9), oMov (.v (.int .i64 1)), none, none⟩])
 (xBlock 0 (xLoop c55_l0)))
 c55_r0))))⟩
theorem ok55 : cFunc Try.prog gl ex Try.f55 = some c55 := by kernel_rfl
-- publican/cal.number
def c56_l0 : X := (xSeq (xOps [⟨(some t10), oBin (int2 (cmpO ltI)) (.t t9) (.t t8), none, none⟩])
 (xSeq (xCond (.t t10)
 xSkip
 (xExit 0))
 (xSeq (xBlock 1 (xSeq (xOps [⟨(some t11), oIdxAddrL 1 (.t t7) (.t t9), none, none⟩,
   ⟨(some t12), oLoad1 (.t t11), none, (some (.t t11))⟩,
   ⟨(some t5), oMov (.t t12), none, none⟩])
 (xSeq (xSeq (xOps [⟨(some t13), oMov (.t t5), none, none⟩,
   ⟨(some t14), oBin (int2 (cmpO ltI)) (.t t13) (.v (.int .u8 48)), none, none⟩,
   ⟨(some t15), oMov (.t t14), none, none⟩,
   ⟨(some t16), oMov (.t t5), (some (t15, false)), none⟩,
   ⟨(some t17), oBin (int2 (cmpO gtI)) (.t t16) (.v (.int .u8 57)), (some (t15, false)), none⟩,
   ⟨(some t18), oPick (.t t15) (.v (.bool true)) (.t t17), none, none⟩])
 (xCond (.t t18)
 (xSeq (xOps [⟨(some t2), oMov (.v (.int .i64 (-1))), none, none⟩])
 xRet)
 xSkip))
 (xOps [⟨(some t19), oMov (.t t3), none, none⟩,
   ⟨(some t20), oBin (int2 mulO) (.t t19) (.v (.int .i64 10)), none, none⟩,
   ⟨(some t21), oMov (.t t5), none, none⟩,
   ⟨(some t22), oBin (int2 subO) (.t t21) (.v (.int .u8 48)), none, none⟩,
   ⟨(some t23), oConv .i64 (.t t22), none, none⟩,
   ⟨(some t24), oBin (int2 addO) (.t t20) (.t t23), none, none⟩,
   ⟨(some t3), oMov (.t t24), none, none⟩]))))
 (xOps [⟨(some t25), oBin (int2 addO) (.t t9) (.v (.int .i64 1)), none, none⟩,
   ⟨(some t9), oMov (.t t25), none, none⟩]))))
def c56_r0 : X := (xSeq (xOps [⟨(some t26), oMov (.t t3), none, none⟩,
   ⟨(some t2), oMov (.t t26), none, none⟩])
 xRet)
def c56 : AFunc := ⟨27, [.tmp t2],
 (xSeq (xOps [⟨(some t2), oMov (.v (.int .i64 0)), none, none⟩])
 (xSeq (xOps [⟨(some t3), oMov (.v (.int .i64 0)), none, none⟩])
 (xSeq (xSeq (xOps [⟨(some t6), oMov (.t t0), none, none⟩,
   ⟨(some t7), oStrBytes (.t t6), none, none⟩,
   ⟨(some t8), oLenL (.t t7), none, none⟩,
   ⟨(some t9), oMov (.v (.int .i64 0)), none, none⟩])
 (xBlock 0 (xLoop c56_l0)))
 c56_r0)))⟩
theorem ok56 : cFunc Try.prog gl ex Try.f56 = some c56 := by kernel_rfl
-- publican/cal.Days
def c61_j0 : X := (xCond (.t t15)
 (xSeq (xOps [⟨(some t4), oMov (.v (.int .i64 31)), none, none⟩])
 xRet)
 xSkip)
def c61_j1 : X := (xCond (.t t10)
 (xSeq (xOps [⟨(some t4), oMov (.v (.int .i64 30)), none, none⟩])
 xRet)
 (xSeq (xSeq (xOps [⟨(some t16), oBin (int2 (cmpO eqI)) (.t t5) (.v (.int .i64 1)), none, none⟩,
   ⟨(some t15), oMov (.t t16), none, none⟩])
 (xCond (.t t15)
 xSkip
 (xSeq (xOps [⟨(some t17), oBin (int2 (cmpO eqI)) (.t t5) (.v (.int .i64 3)), none, none⟩,
   ⟨(some t15), oMov (.t t17), none, none⟩])
 (xCond (.t t15)
 xSkip
 (xSeq (xOps [⟨(some t18), oBin (int2 (cmpO eqI)) (.t t5) (.v (.int .i64 5)), none, none⟩,
   ⟨(some t15), oMov (.t t18), none, none⟩])
 (xCond (.t t15)
 xSkip
 (xSeq (xOps [⟨(some t19), oBin (int2 (cmpO eqI)) (.t t5) (.v (.int .i64 7)), none, none⟩,
   ⟨(some t15), oMov (.t t19), none, none⟩])
 (xCond (.t t15)
 xSkip
 (xSeq (xOps [⟨(some t20), oBin (int2 (cmpO eqI)) (.t t5) (.v (.int .i64 8)), none, none⟩,
   ⟨(some t15), oMov (.t t20), none, none⟩])
 (xCond (.t t15)
 xSkip
 (xSeq (xOps [⟨(some t21), oBin (int2 (cmpO eqI)) (.t t5) (.v (.int .i64 10)), none, none⟩,
   ⟨(some t15), oMov (.t t21), none, none⟩])
 (xCond (.t t15)
 xSkip
 (xOps [⟨(some t22), oBin (int2 (cmpO eqI)) (.t t5) (.v (.int .i64 12)), none, none⟩,
   ⟨(some t15), oMov (.t t22), none, none⟩])))))))))))))
 c61_j0))
def c61_j2 : X := (xSeq (xOps [⟨(some t4), oMov (.v (.int .i64 0)), none, none⟩])
 xRet)
def c61 : AFunc := ⟨23, [.tmp t4],
 (xSeq (xOps [⟨(some t4), oMov (.v (.int .i64 0)), none, none⟩])
 (xSeq (xSeq (xOps [⟨(some t5), oMov (.t t1), none, none⟩])
 (xBlock 0 (xSeq (xOps [⟨(some t7), oBin (int2 (cmpO eqI)) (.t t5) (.v (.int .i64 2)), none, none⟩,
   ⟨(some t6), oMov (.t t7), none, none⟩])
 (xCond (.t t6)
 (xSeq (xSeq (xOps [⟨(some t8), oMov (.t t0), none, none⟩,
   ⟨(some t9), oCall 65 [(.t t8)], none, none⟩])
 (xCond (.t t9)
 (xSeq (xOps [⟨(some t4), oMov (.v (.int .i64 29)), none, none⟩])
 xRet)
 xSkip))
 (xSeq (xOps [⟨(some t4), oMov (.v (.int .i64 28)), none, none⟩])
 xRet))
 (xSeq (xSeq (xOps [⟨(some t11), oBin (int2 (cmpO eqI)) (.t t5) (.v (.int .i64 4)), none, none⟩,
   ⟨(some t10), oMov (.t t11), none, none⟩])
 (xCond (.t t10)
 xSkip
 (xSeq (xOps [⟨(some t12), oBin (int2 (cmpO eqI)) (.t t5) (.v (.int .i64 6)), none, none⟩,
   ⟨(some t10), oMov (.t t12), none, none⟩])
 (xCond (.t t10)
 xSkip
 (xSeq (xOps [⟨(some t13), oBin (int2 (cmpO eqI)) (.t t5) (.v (.int .i64 9)), none, none⟩,
   ⟨(some t10), oMov (.t t13), none, none⟩])
 (xCond (.t t10)
 xSkip
 (xOps [⟨(some t14), oBin (int2 (cmpO eqI)) (.t t5) (.v (.int .i64 11)), none, none⟩,
   ⟨(some t10), oMov (.t t14), none, none⟩])))))))
 c61_j1)))))
 c61_j2))⟩
theorem ok61 : cFunc Try.prog gl ex Try.f61 = some c61 := by kernel_rfl
-- publican/cal.before
def c62 : AFunc := ⟨25, [.tmp t2],
 (xSeq (xOps [⟨(some t2), oMov (.v (.int .i64 0)), none, none⟩])
 (xSeq (xOps [⟨(some t5), oMov (.t t0), none, none⟩,
   ⟨(some t6), oBin (int2 subO) (.t t5) (.v (.int .i64 1900)), none, none⟩,
   ⟨(some t3), oMov (.t t6), none, none⟩])
 (xSeq (xOps [⟨(some t7), oMov (.t t0), none, none⟩,
   ⟨(some t8), oBin (int2 subO) (.t t7) (.v (.int .i64 1)), none, none⟩,
   ⟨(some t9), oBin (int2 quoO) (.t t8) (.v (.int .i64 4)), none, none⟩,
   ⟨(some t10), oBin (int2 subO) (.t t9) (.v (.int .i64 474)), none, none⟩,
   ⟨(some t11), oMov (.t t0), none, none⟩,
   ⟨(some t12), oBin (int2 subO) (.t t11) (.v (.int .i64 1)), none, none⟩,
   ⟨(some t13), oBin (int2 quoO) (.t t12) (.v (.int .i64 100)), none, none⟩,
   ⟨(some t14), oBin (int2 subO) (.t t13) (.v (.int .i64 18)), none, none⟩,
   ⟨(some t15), oBin (int2 subO) (.t t10) (.t t14), none, none⟩,
   ⟨(some t16), oMov (.t t0), none, none⟩,
   ⟨(some t17), oBin (int2 subO) (.t t16) (.v (.int .i64 1)), none, none⟩,
   ⟨(some t18), oBin (int2 quoO) (.t t17) (.v (.int .i64 400)), none, none⟩,
   ⟨(some t19), oBin (int2 subO) (.t t18) (.v (.int .i64 4)), none, none⟩,
   ⟨(some t20), oBin (int2 addO) (.t t15) (.t t19), none, none⟩,
   ⟨(some t4), oMov (.t t20), none, none⟩])
 (xSeq (xOps [⟨(some t21), oMov (.t t3), none, none⟩,
   ⟨(some t22), oBin (int2 mulO) (.t t21) (.v (.int .i64 365)), none, none⟩,
   ⟨(some t23), oMov (.t t4), none, none⟩,
   ⟨(some t24), oBin (int2 addO) (.t t22) (.t t23), none, none⟩,
   ⟨(some t2), oMov (.t t24), none, none⟩])
 xRet))))⟩
theorem ok62 : cFunc Try.prog gl ex Try.f62 = some c62 := by kernel_rfl
-- publican/cal.Leap
def c65 : AFunc := ⟨16, [.tmp t2],
 (xSeq (xOps [⟨(some t2), oMov (.v (.bool false)), none, none⟩])
 (xSeq (xOps [⟨(some t3), oMov (.t t0), none, none⟩,
   ⟨(some t4), oBin (int2 remO) (.t t3) (.v (.int .i64 4)), none, none⟩,
   ⟨(some t5), oBin (int2 (cmpO eqI)) (.t t4) (.v (.int .i64 0)), none, none⟩,
   ⟨(some t6), oMov (.t t5), none, none⟩,
   ⟨(some t7), oMov (.t t0), (some (t6, true)), none⟩,
   ⟨(some t8), oBin (int2 remO) (.t t7) (.v (.int .i64 100)), (some (t6, true)), none⟩,
   ⟨(some t9), oBin (int2 (cmpO neI)) (.t t8) (.v (.int .i64 0)), (some (t6, true)), none⟩,
   ⟨(some t10), oPick (.t t6) (.t t9) (.v (.bool false)), none, none⟩,
   ⟨(some t11), oMov (.t t10), none, none⟩,
   ⟨(some t12), oMov (.t t0), (some (t11, false)), none⟩,
   ⟨(some t13), oBin (int2 remO) (.t t12) (.v (.int .i64 400)), (some (t11, false)), none⟩,
   ⟨(some t14), oBin (int2 (cmpO eqI)) (.t t13) (.v (.int .i64 0)), (some (t11, false)), none⟩,
   ⟨(some t15), oPick (.t t11) (.v (.bool true)) (.t t14), none, none⟩,
   ⟨(some t2), oMov (.t t15), none, none⟩])
 xRet))⟩
theorem ok65 : cFunc Try.prog gl ex Try.f65 = some c65 := by kernel_rfl
end
end Go.Proofs.Ytikdjhlcbkkkfaa.AbsLexO
