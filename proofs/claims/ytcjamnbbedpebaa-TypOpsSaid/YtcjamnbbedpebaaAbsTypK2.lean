import Derived.Test.YtcjamnbbedpebaaRows
import Derived.Test.YtcjamnbbedpebaaAbsTypKT
import Derived.KernelRfl
namespace Go.Proofs.Ytcjamnbbedpebaa.AbsTypK
open Go Go.Abs Go.Proofs
set_option maxRecDepth 100000
set_option linter.unusedVariables false
noncomputable section
/-- publican/publicanref9.percent -/
def c47 : AFunc := ⟨42, [.tmp t4, .tmp t5],
 (xSeq (xOps [⟨(some t4), oMov (.v (.int .i64 0)), none, none⟩,
   ⟨(some t5), oMov (.v (.bool false)), none, none⟩])
 (xSeq (xBlock 0 (xLoop (xSeq (xSeq (xOps [⟨(some t10), oMov (.t t1), none, none⟩,
   ⟨(some t11), oLenS (.t t10), none, none⟩,
   ⟨(some t12), oBin (int2 (cmpO ltI)) (.t t11) (.v (.int .i64 4)), none, none⟩])
 (xCond (.t t12)
 xSkip
 (xExit 0)))
 (xBlock 1 (xOps [⟨(some t13), oMov (.t t1), none, none⟩,
   ⟨(some t14), oBin (str2 catO) (.t t13) (.v (.string ⟨⟨[48]⟩⟩)), none, none⟩,
   ⟨(some t1), oMov (.t t14), none, none⟩])))))
 (xSeq (xOps [⟨(some t16), oMov (.t t0), none, none⟩,
   ⟨(some t17), oCall 48 [(.t t16), (.v (.int .i64 1000000000000))], none, none⟩,
   ⟨(some t15), oMov (.t t17), none, none⟩,
   ⟨(some t18), oExtract (.t t15) 0, none, none⟩,
   ⟨(some t19), oExtract (.t t15) 1, none, none⟩,
   ⟨(some t6), oMov (.t t18), none, none⟩,
   ⟨(some t7), oMov (.t t19), none, none⟩])
 (xSeq (xOps [⟨(some t21), oMov (.t t1), none, none⟩,
   ⟨(some t22), oCall 48 [(.t t21), (.v (.int .i64 9999))], none, none⟩,
   ⟨(some t20), oMov (.t t22), none, none⟩,
   ⟨(some t23), oExtract (.t t20) 0, none, none⟩,
   ⟨(some t24), oExtract (.t t20) 1, none, none⟩,
   ⟨(some t8), oMov (.t t23), none, none⟩,
   ⟨(some t9), oMov (.t t24), none, none⟩])
 (xSeq (xSeq (xOps [⟨(some t25), oMov (.t t7), none, none⟩,
   ⟨(some t26), oNot (.t t25), none, none⟩,
   ⟨(some t27), oMov (.t t26), none, none⟩,
   ⟨(some t28), oMov (.t t6), (some (t27, false)), none⟩,
   ⟨(some t29), oBin (int2 (cmpO gtI)) (.t t28) (.v (.int .i64 100000000)), (some (t27, false)), none⟩,
   ⟨(some t30), oPick (.t t27) (.v (.bool true)) (.t t29), none, none⟩,
   ⟨(some t31), oMov (.t t30), none, none⟩,
   ⟨(some t32), oMov (.t t6), (some (t31, false)), none⟩,
   ⟨(some t33), oBin (int2 mulO) (.v (.int .i64 10000)) (.t t32), (some (t31, false)), none⟩,
   ⟨(some t34), oMov (.t t8), (some (t31, false)), none⟩,
   ⟨(some t35), oBin (int2 addO) (.t t33) (.t t34), (some (t31, false)), none⟩,
   ⟨(some t36), oBin (int2 (cmpO gtI)) (.t t35) (.v (.int .i64 1000000000000)), (some (t31, false)), none⟩,
   ⟨(some t37), oPick (.t t31) (.v (.bool true)) (.t t36), none, none⟩])
 (xCond (.t t37)
 (xSeq (xOps [⟨(some t4), oMov (.v (.int .i64 0)), none, none⟩,
   ⟨(some t5), oMov (.v (.bool false)), none, none⟩])
 xRet)
 xSkip))
 (xSeq (xOps [⟨(some t38), oMov (.t t6), none, none⟩,
   ⟨(some t39), oBin (int2 mulO) (.v (.int .i64 10000)) (.t t38), none, none⟩,
   ⟨(some t40), oMov (.t t8), none, none⟩,
   ⟨(some t41), oBin (int2 addO) (.t t39) (.t t40), none, none⟩,
   ⟨(some t4), oMov (.t t41), none, none⟩,
   ⟨(some t5), oMov (.v (.bool true)), none, none⟩])
 xRet))))))⟩
theorem ok47 : cFunc Try.prog gl ex Try.f47 = some c47 := by kernel_rfl
/-- publican/publicanref9.number -/
def c48 : AFunc := ⟨30, [.tmp t4, .tmp t5],
 (xSeq (xOps [⟨(some t4), oMov (.v (.int .i64 0)), none, none⟩,
   ⟨(some t5), oMov (.v (.bool false)), none, none⟩])
 (xSeq (xOps [⟨(some t6), oMov (.v (.int .i64 0)), none, none⟩])
 (xSeq (xSeq (xOps [⟨(some t7), oMov (.v (.int .i64 0)), none, none⟩])
 (xBlock 0 (xLoop (xSeq (xSeq (xOps [⟨(some t8), oMov (.t t7), none, none⟩,
   ⟨(some t9), oMov (.t t0), none, none⟩,
   ⟨(some t10), oLenS (.t t9), none, none⟩,
   ⟨(some t11), oBin (int2 (cmpO ltI)) (.t t8) (.t t10), none, none⟩])
 (xCond (.t t11)
 xSkip
 (xExit 0)))
 (xSeq (xBlock 1 (xSeq (xSeq (xOps [⟨(some t14), oMov (.t t6), none, none⟩,
   ⟨(some t15), oMov (.t t1), none, none⟩,
   ⟨(some t16), oBin (int2 quoO) (.t t15) (.v (.int .i64 10)), none, none⟩,
   ⟨(some t17), oBin (int2 (cmpO gtI)) (.t t14) (.t t16), none, none⟩])
 (xCond (.t t17)
 (xSeq (xOps [⟨(some t4), oMov (.v (.int .i64 0)), none, none⟩,
   ⟨(some t5), oMov (.v (.bool false)), none, none⟩])
 xRet)
 xSkip))
 (xSeq (xOps [⟨(some t18), oMov (.t t6), none, none⟩,
   ⟨(some t19), oBin (int2 mulO) (.v (.int .i64 10)) (.t t18), none, none⟩,
   ⟨(some t20), oMov (.t t0), none, none⟩,
   ⟨(some t21), oMov (.t t7), none, none⟩,
   ⟨(some t22), oIdxS (.t t20) (.t t21), none, none⟩,
   ⟨(some t23), oBin (int2 subO) (.t t22) (.v (.int .u8 48)), none, none⟩,
   ⟨(some t24), oConv .i64 (.t t23), none, none⟩,
   ⟨(some t25), oBin (int2 addO) (.t t19) (.t t24), none, none⟩,
   ⟨(some t6), oMov (.t t25), none, none⟩])
 (xSeq (xOps [⟨(some t26), oMov (.t t6), none, none⟩,
   ⟨(some t27), oMov (.t t1), none, none⟩,
   ⟨(some t28), oBin (int2 (cmpO gtI)) (.t t26) (.t t27), none, none⟩])
 (xCond (.t t28)
 (xSeq (xOps [⟨(some t4), oMov (.v (.int .i64 0)), none, none⟩,
   ⟨(some t5), oMov (.v (.bool false)), none, none⟩])
 xRet)
 xSkip)))))
 (xOps [⟨(some t12), oMov (.t t7), none, none⟩,
   ⟨(some t13), oBin (int2 addO) (.t t12) (.v (.int .i64 1)), none, none⟩,
   ⟨(some t7), oMov (.t t13), none, none⟩]))))))
 (xSeq (xOps [⟨(some t29), oMov (.t t6), none, none⟩,
   ⟨(some t4), oMov (.t t29), none, none⟩,
   ⟨(some t5), oMov (.v (.bool true)), none, none⟩])
 xRet))))⟩
theorem ok48 : cFunc Try.prog gl ex Try.f48 = some c48 := by kernel_rfl
/-- (*publican/publicanref9.parser).w -/
def c51 : AFunc := ⟨13, [.cell t2 (some 4)],
 (xSeq (xOps [⟨(some t2), oNew [(.int .i64 0), (.string ⟨⟨[]⟩⟩), (.int .i64 0), (.int .i64 0)], none, none⟩])
 (xSeq (xReg [⟨(some t3), oMov (.t t0), none, none⟩,
   ⟨(some t4), oNilCheck (.t t3), none, none⟩,
   ⟨(some t5), oFieldAddr 0 (.t t4), none, none⟩,
   ⟨(some t6), oLoad1 (.t t5), none, (some (.t t5))⟩,
   ⟨(some t7), oMov (.t t0), none, none⟩,
   ⟨(some t8), oNilCheck (.t t7), none, none⟩,
   ⟨(some t9), oFieldAddr 1 (.t t8), none, none⟩,
   ⟨(some t10), oLoad1 (.t t9), none, (some (.t t9))⟩,
   ⟨(some t11), oIdxAddrL 4 (.t t6) (.t t10), none, none⟩,
   ⟨(some t12), oLoadN 4 (.t t11), none, none⟩,
   ⟨none, oStore 4 (.t t2) (.t t12), none, none⟩] [(0, 4), (1, 4), (2, 4), (3, 4), (0, 5), (1, 5), (2, 5), (3, 5), (0, 6), (1, 6), (2, 6), (3, 6), (0, 7), (1, 7), (2, 7), (3, 7)])
 xRet))⟩
theorem ok51 : cFunc Try.prog gl ex Try.f51 = some c51 := by kernel_rfl
/-- (*publican/publicanref9.parser).take -/
def c52 : AFunc := ⟨16, [.tmp t4],
 (xSeq (xOps [⟨(some t4), oMov (.v (.bool false)), none, none⟩])
 (xSeq (xSeq (xOps [⟨(some t5), oMov (.t t0), none, none⟩,
   ⟨(some t6), oMov (.t t1), none, none⟩,
   ⟨(some t7), oCall 57 [(.t t5), (.t t6)], none, none⟩,
   ⟨(some t8), oNot (.t t7), none, none⟩])
 (xCond (.t t8)
 (xSeq (xOps [⟨(some t4), oMov (.v (.bool false)), none, none⟩])
 xRet)
 xSkip))
 (xSeq (xOps [⟨(some t9), oMov (.t t0), none, none⟩,
   ⟨(some t10), oNilCheck (.t t9), none, none⟩,
   ⟨(some t11), oFieldAddr 1 (.t t10), none, none⟩,
   ⟨(some t12), oLoad1 (.t t11), none, (some (.t t11))⟩,
   ⟨(some t13), oBin (int2 addO) (.t t12) (.v (.int .i64 1)), none, none⟩,
   ⟨(some t14), oNilCheck (.t t9), none, none⟩,
   ⟨(some t15), oFieldAddr 1 (.t t14), none, none⟩,
   ⟨none, oStore 1 (.t t15) (.t t13), none, none⟩])
 (xSeq (xOps [⟨(some t4), oMov (.v (.bool true)), none, none⟩])
 xRet))))⟩
theorem ok52 : cFunc Try.prog gl ex Try.f52 = some c52 := by kernel_rfl
/-- (*publican/publicanref9.parser).name -/
def c53 : AFunc := ⟨35, [.tmp t2],
 (xSeq (xOps [⟨(some t2), oMov (.v (.string ⟨⟨[]⟩⟩)), none, none⟩])
 (xSeq (xSeq (xOps [⟨(some t3), oMov (.t t0), none, none⟩,
   ⟨(some t4), oNilCheck (.t t3), none, none⟩,
   ⟨(some t5), oFieldAddr 2 (.t t4), none, none⟩,
   ⟨(some t6), oLoad1 (.t t5), none, (some (.t t5))⟩,
   ⟨(some t7), oBin (int2 (cmpO geI)) (.t t6) (.v (.int .i64 0)), none, none⟩,
   ⟨(some t8), oMov (.t t7), none, none⟩,
   ⟨(some t9), oMov (.t t0), (some (t8, false)), none⟩,
   ⟨(some t10), oCall 51 [(.t t9)], (some (t8, false)), none⟩,
   ⟨(some t11), oField none 0 (.t t10), (some (t8, false)), none⟩,
   ⟨(some t12), oBin (int2 (cmpO neI)) (.t t11) (.v (.int .i64 1)), (some (t8, false)), none⟩,
   ⟨(some t13), oPick (.t t8) (.v (.bool true)) (.t t12), none, none⟩])
 (xCond (.t t13)
 (xSeq (xOps [⟨(some t14), oMov (.t t0), none, none⟩,
   ⟨(some t15), oCall 60 [(.t t14)], none, none⟩])
 (xSeq (xOps [⟨(some t2), oMov (.v (.string ⟨⟨[]⟩⟩)), none, none⟩])
 xRet))
 xSkip))
 (xSeq (xOps [⟨(some t16), oMov (.t t0), none, none⟩,
   ⟨(some t17), oNilCheck (.t t16), none, none⟩,
   ⟨(some t18), oFieldAddr 1 (.t t17), none, none⟩,
   ⟨(some t19), oLoad1 (.t t18), none, (some (.t t18))⟩,
   ⟨(some t20), oBin (int2 addO) (.t t19) (.v (.int .i64 1)), none, none⟩,
   ⟨(some t21), oNilCheck (.t t16), none, none⟩,
   ⟨(some t22), oFieldAddr 1 (.t t21), none, none⟩,
   ⟨none, oStore 1 (.t t22) (.t t20), none, none⟩])
 (xSeq (xReg [⟨(some t23), oMov (.t t0), none, none⟩,
   ⟨(some t24), oNilCheck (.t t23), none, none⟩,
   ⟨(some t25), oFieldAddr 0 (.t t24), none, none⟩,
   ⟨(some t26), oLoad1 (.t t25), none, (some (.t t25))⟩,
   ⟨(some t27), oMov (.t t0), none, none⟩,
   ⟨(some t28), oNilCheck (.t t27), none, none⟩,
   ⟨(some t29), oFieldAddr 1 (.t t28), none, none⟩,
   ⟨(some t30), oLoad1 (.t t29), none, (some (.t t29))⟩,
   ⟨(some t31), oBin (int2 subO) (.t t30) (.v (.int .i64 1)), none, none⟩,
   ⟨(some t32), oIdxAddrL 4 (.t t26) (.t t31), none, none⟩,
   ⟨(some t33), oFieldAddr 1 (.t t32), none, none⟩,
   ⟨(some t34), oLoad1 (.t t33), none, (some (.t t33))⟩,
   ⟨(some t2), oMov (.t t34), none, none⟩] [(0, 4), (1, 4), (2, 4), (3, 4), (0, 5), (1, 5), (2, 5), (3, 5), (0, 6), (1, 6), (2, 6), (3, 6), (0, 7), (1, 7), (2, 7), (3, 7), (0, 8), (1, 8), (2, 8), (3, 8)])
 xRet))))⟩
theorem ok53 : cFunc Try.prog gl ex Try.f53 = some c53 := by kernel_rfl
/-- (*publican/publicanref9.parser).kind -/
def c54 : AFunc := ⟨31, [.tmp t2],
 (xSeq (xOps [⟨(some t2), oMov (.v (.int .i64 0)), none, none⟩])
 (xSeq (xOps [⟨(some t3), oMov (.v (.int .i64 0)), none, none⟩])
 (xSeq (xSeq (xOps [⟨(some t4), oMov (.t t0), none, none⟩,
   ⟨(some t5), oNilCheck (.t t4), none, none⟩,
   ⟨(some t6), oFieldAddr 2 (.t t5), none, none⟩,
   ⟨(some t7), oLoad1 (.t t6), none, (some (.t t6))⟩,
   ⟨(some t8), oBin (int2 (cmpO ltI)) (.t t7) (.v (.int .i64 0)), none, none⟩,
   ⟨(some t9), oMov (.t t8), none, none⟩,
   ⟨(some t10), oMov (.t t0), (some (t9, true)), none⟩,
   ⟨(some t11), oCall 51 [(.t t10)], (some (t9, true)), none⟩,
   ⟨(some t12), oField none 0 (.t t11), (some (t9, true)), none⟩,
   ⟨(some t13), oBin (int2 (cmpO eqI)) (.t t12) (.v (.int .i64 2)), (some (t9, true)), none⟩,
   ⟨(some t14), oPick (.t t9) (.t t13) (.v (.bool false)), none, none⟩])
 (xCond (.t t14)
 (xOps [⟨(some t15), oMov (.t t0), none, none⟩,
   ⟨(some t16), oCall 51 [(.t t15)], none, none⟩,
   ⟨(some t17), oField none 1 (.t t16), none, none⟩,
   ⟨(some t18), oCall 69 [(.t t17)], none, none⟩,
   ⟨(some t3), oMov (.t t18), none, none⟩])
 xSkip))
 (xSeq (xSeq (xOps [⟨(some t19), oMov (.t t3), none, none⟩,
   ⟨(some t20), oBin (int2 (cmpO eqI)) (.t t19) (.v (.int .i64 0)), none, none⟩])
 (xCond (.t t20)
 (xSeq (xOps [⟨(some t21), oMov (.t t0), none, none⟩,
   ⟨(some t22), oCall 60 [(.t t21)], none, none⟩])
 (xSeq (xOps [⟨(some t2), oMov (.v (.int .i64 0)), none, none⟩])
 xRet))
 xSkip))
 (xSeq (xOps [⟨(some t23), oMov (.t t0), none, none⟩,
   ⟨(some t24), oNilCheck (.t t23), none, none⟩,
   ⟨(some t25), oFieldAddr 1 (.t t24), none, none⟩,
   ⟨(some t26), oLoad1 (.t t25), none, (some (.t t25))⟩,
   ⟨(some t27), oBin (int2 addO) (.t t26) (.v (.int .i64 1)), none, none⟩,
   ⟨(some t28), oNilCheck (.t t23), none, none⟩,
   ⟨(some t29), oFieldAddr 1 (.t t28), none, none⟩,
   ⟨none, oStore 1 (.t t29) (.t t27), none, none⟩])
 (xSeq (xOps [⟨(some t30), oMov (.t t3), none, none⟩,
   ⟨(some t2), oMov (.t t30), none, none⟩])
 xRet))))))⟩
theorem ok54 : cFunc Try.prog gl ex Try.f54 = some c54 := by kernel_rfl
/-- (*publican/publicanref9.parser).want -/
def c55 : AFunc := ⟨10, [],
 (xSeq (xOps [⟨(some t4), oMov (.t t0), none, none⟩,
   ⟨(some t5), oMov (.t t1), none, none⟩,
   ⟨(some t6), oCall 52 [(.t t4), (.t t5)], none, none⟩,
   ⟨(some t7), oNot (.t t6), none, none⟩])
 (xCond (.t t7)
 (xOps [⟨(some t8), oMov (.t t0), none, none⟩,
   ⟨(some t9), oCall 60 [(.t t8)], none, none⟩])
 xSkip))⟩
theorem ok55 : cFunc Try.prog gl ex Try.f55 = some c55 := by kernel_rfl
/-- (*publican/publicanref9.parser).expr -/
def c56 : AFunc := ⟨13, [.cell t2 (some 6)],
 (xSeq (xOps [⟨(some t2), oNew [(.string ⟨⟨[]⟩⟩), (.string ⟨⟨[]⟩⟩), (.int .i64 0), (.int .i64 0), (.int .i64 0), (.slice none 0 0)], none, none⟩])
 (xSeq (xSeq (xOps [⟨(some t4), oMov (.t t0), none, none⟩,
   ⟨(some t5), oCall 70 [(.t t4)], none, none⟩,
   ⟨(some t6), oNot (.t t5), none, none⟩])
 (xCond (.t t6)
 (xSeq (xOps [⟨(some t7), oBuild [(.string ⟨⟨[]⟩⟩), (.string ⟨⟨[]⟩⟩), (.int .i64 0), (.int .i64 0), (.int .i64 0), (.slice none 0 0)] [], none, none⟩,
   ⟨none, oStore 6 (.t t2) (.t t7), none, none⟩])
 xRet)
 xSkip))
 (xSeq (xOps [⟨(some t8), oMov (.t t0), none, none⟩,
   ⟨(some t9), oCall 71 [(.t t8)], none, none⟩,
   ⟨(some t3), oNew [(.string ⟨⟨[]⟩⟩), (.string ⟨⟨[]⟩⟩), (.int .i64 0), (.int .i64 0), (.int .i64 0), (.slice none 0 0)], none, none⟩,
   ⟨none, oStore 6 (.t t3) (.t t9), none, none⟩])
 (xSeq (xOps [⟨(some t10), oMov (.t t0), none, none⟩,
   ⟨(some t11), oCall 72 [(.t t10)], none, none⟩])
 (xSeq (xOps [⟨(some t12), oLoadN 6 (.t t3), none, none⟩,
   ⟨none, oStore 6 (.t t2) (.t t12), none, none⟩])
 xRet)))))⟩
theorem ok56 : cFunc Try.prog gl ex Try.f56 = some c56 := by kernel_rfl
/-- (*publican/publicanref9.parser).is -/
def c57 : AFunc := ⟨29, [.tmp t4],
 (xSeq (xOps [⟨(some t4), oMov (.v (.bool false)), none, none⟩])
 (xSeq (xOps [⟨(some t6), oMov (.t t0), none, none⟩,
   ⟨(some t7), oCall 51 [(.t t6)], none, none⟩,
   ⟨(some t8), oField none 0 (.t t7), none, none⟩,
   ⟨(some t5), oMov (.t t8), none, none⟩])
 (xSeq (xOps [⟨(some t9), oMov (.t t0), none, none⟩,
   ⟨(some t10), oNilCheck (.t t9), none, none⟩,
   ⟨(some t11), oFieldAddr 2 (.t t10), none, none⟩,
   ⟨(some t12), oLoad1 (.t t11), none, (some (.t t11))⟩,
   ⟨(some t13), oBin (int2 (cmpO ltI)) (.t t12) (.v (.int .i64 0)), none, none⟩,
   ⟨(some t14), oMov (.t t13), none, none⟩,
   ⟨(some t15), oMov (.t t5), (some (t14, true)), none⟩,
   ⟨(some t16), oBin (int2 (cmpO eqI)) (.t t15) (.v (.int .i64 2)), (some (t14, true)), none⟩,
   ⟨(some t17), oMov (.t t16), (some (t14, true)), none⟩,
   ⟨(some t18), oMov (.t t5), (some (t17, false)), none⟩,
   ⟨(some t19), oBin (int2 (cmpO eqI)) (.t t18) (.v (.int .i64 7)), (some (t17, false)), none⟩,
   ⟨(some t20), oPick (.t t17) (.v (.bool true)) (.t t19), (some (t14, true)), none⟩,
   ⟨(some t21), oPick (.t t14) (.t t20) (.v (.bool false)), none, none⟩,
   ⟨(some t22), oMov (.t t21), none, none⟩,
   ⟨(some t23), oMov (.t t0), (some (t22, true)), none⟩,
   ⟨(some t24), oCall 51 [(.t t23)], (some (t22, true)), none⟩,
   ⟨(some t25), oField none 1 (.t t24), (some (t22, true)), none⟩,
   ⟨(some t26), oMov (.t t1), (some (t22, true)), none⟩,
   ⟨(some t27), oBin (str2 (cmpS eqBytes)) (.t t25) (.t t26), (some (t22, true)), none⟩,
   ⟨(some t28), oPick (.t t22) (.t t27) (.v (.bool false)), none, none⟩,
   ⟨(some t4), oMov (.t t28), none, none⟩])
 xRet)))⟩
theorem ok57 : cFunc Try.prog gl ex Try.f57 = some c57 := by kernel_rfl
/-- (*publican/publicanref9.parser).limit -/
def c58 : AFunc := ⟨16, [],
 (xSeq (xOps [⟨(some t2), oMov (.t t0), none, none⟩,
   ⟨(some t3), oNilCheck (.t t2), none, none⟩,
   ⟨(some t4), oFieldAddr 2 (.t t3), none, none⟩,
   ⟨(some t5), oLoad1 (.t t4), none, (some (.t t4))⟩,
   ⟨(some t6), oBin (int2 (cmpO ltI)) (.t t5) (.v (.int .i64 0)), none, none⟩])
 (xCond (.t t6)
 (xSeq (xOps [⟨(some t7), oMov (.t t0), none, none⟩,
   ⟨(some t8), oMov (.t t0), none, none⟩,
   ⟨(some t9), oCall 51 [(.t t8)], none, none⟩,
   ⟨(some t10), oField none 3 (.t t9), none, none⟩,
   ⟨(some t11), oNilCheck (.t t7), none, none⟩,
   ⟨(some t12), oFieldAddr 2 (.t t11), none, none⟩,
   ⟨none, oStore 1 (.t t12) (.t t10), none, none⟩])
 (xOps [⟨(some t13), oMov (.t t0), none, none⟩,
   ⟨(some t14), oNilCheck (.t t13), none, none⟩,
   ⟨(some t15), oFieldAddr 3 (.t t14), none, none⟩,
   ⟨none, oStore 1 (.t t15) (.v (.bool true)), none, none⟩]))
 xSkip))⟩
theorem ok58 : cFunc Try.prog gl ex Try.f58 = some c58 := by kernel_rfl
/-- (*publican/publicanref9.parser).lit -/
def c59 : AFunc := ⟨45, [.cell t2 (some 6)],
 (xSeq (xOps [⟨(some t2), oNew [(.string ⟨⟨[]⟩⟩), (.string ⟨⟨[]⟩⟩), (.int .i64 0), (.int .i64 0), (.int .i64 0), (.slice none 0 0)], none, none⟩])
 (xSeq (xSeq (xOps [⟨(some t5), oMov (.t t0), none, none⟩,
   ⟨(some t6), oCall 73 [(.t t5)], none, none⟩,
   ⟨(some t7), oNot (.t t6), none, none⟩])
 (xCond (.t t7)
 (xSeq (xOps [⟨(some t8), oMov (.t t0), none, none⟩,
   ⟨(some t9), oCall 60 [(.t t8)], none, none⟩])
 (xSeq (xOps [⟨(some t10), oBuild [(.string ⟨⟨[]⟩⟩), (.string ⟨⟨[]⟩⟩), (.int .i64 0), (.int .i64 0), (.int .i64 0), (.slice none 0 0)] [], none, none⟩,
   ⟨none, oStore 6 (.t t2) (.t t10), none, none⟩])
 xRet))
 xSkip))
 (xSeq (xOps [⟨(some t11), oMov (.t t0), none, none⟩,
   ⟨(some t12), oCall 51 [(.t t11)], none, none⟩,
   ⟨(some t3), oNew [(.int .i64 0), (.string ⟨⟨[]⟩⟩), (.int .i64 0), (.int .i64 0)], none, none⟩,
   ⟨none, oStore 4 (.t t3) (.t t12), none, none⟩])
 (xSeq (xOps [⟨(some t13), oMov (.t t0), none, none⟩,
   ⟨(some t14), oNilCheck (.t t13), none, none⟩,
   ⟨(some t15), oFieldAddr 1 (.t t14), none, none⟩,
   ⟨(some t16), oLoad1 (.t t15), none, (some (.t t15))⟩,
   ⟨(some t17), oBin (int2 addO) (.t t16) (.v (.int .i64 1)), none, none⟩,
   ⟨(some t18), oNilCheck (.t t13), none, none⟩,
   ⟨(some t19), oFieldAddr 1 (.t t18), none, none⟩,
   ⟨none, oStore 1 (.t t19) (.t t17), none, none⟩])
 (xSeq (xOps [⟨(some t20), oFieldAddr 3 (.t t3), none, none⟩,
   ⟨(some t21), oLoad1 (.t t20), none, (some (.t t20))⟩,
   ⟨(some t22), oFieldAddr 2 (.t t3), none, none⟩,
   ⟨(some t23), oLoad1 (.t t22), none, (some (.t t22))⟩,
   ⟨(some t24), oBuild [(.string ⟨⟨[]⟩⟩), (.string ⟨⟨[]⟩⟩), (.int .i64 0), (.int .i64 0), (.int .i64 0), (.slice none 0 0)] [(0, 1, (.v (.string ⟨⟨[108, 105, 116]⟩⟩))), (4, 1, (.t t21)), (3, 1, (.t t23))], none, none⟩,
   ⟨(some t4), oNew [(.string ⟨⟨[]⟩⟩), (.string ⟨⟨[]⟩⟩), (.int .i64 0), (.int .i64 0), (.int .i64 0), (.slice none 0 0)], none, none⟩,
   ⟨none, oStore 6 (.t t4) (.t t24), none, none⟩])
 (xSeq (xSeq (xOps [⟨(some t25), oFieldAddr 0 (.t t3), none, none⟩,
   ⟨(some t26), oLoad1 (.t t25), none, (some (.t t25))⟩])
 (xBlock 0 (xSeq (xOps [⟨(some t33), oBin (int2 (cmpO eqI)) (.t t26) (.v (.int .i64 3)), none, none⟩,
   ⟨(some t32), oMov (.t t33), none, none⟩])
 (xCond (.t t32)
 (xOps [⟨(some t34), oFieldAddr 2 (.t t4), none, none⟩,
   ⟨none, oStore 1 (.t t34) (.v (.int .i64 2)), none, none⟩])
 (xSeq (xOps [⟨(some t36), oBin (int2 (cmpO eqI)) (.t t26) (.v (.int .i64 4)), none, none⟩,
   ⟨(some t35), oMov (.t t36), none, none⟩])
 (xCond (.t t35)
 (xOps [⟨(some t37), oFieldAddr 2 (.t t4), none, none⟩,
   ⟨none, oStore 1 (.t t37) (.v (.int .i64 3)), none, none⟩])
 (xSeq (xOps [⟨(some t39), oBin (int2 (cmpO eqI)) (.t t26) (.v (.int .i64 5)), none, none⟩,
   ⟨(some t38), oMov (.t t39), none, none⟩])
 (xCond (.t t38)
 (xOps [⟨(some t40), oFieldAddr 2 (.t t4), none, none⟩,
   ⟨none, oStore 1 (.t t40) (.v (.int .i64 4)), none, none⟩])
 (xSeq (xOps [⟨(some t42), oBin (int2 (cmpO eqI)) (.t t26) (.v (.int .i64 6)), none, none⟩,
   ⟨(some t41), oMov (.t t42), none, none⟩])
 (xCond (.t t41)
 (xOps [⟨(some t43), oFieldAddr 2 (.t t4), none, none⟩,
   ⟨none, oStore 1 (.t t43) (.v (.int .i64 5)), none, none⟩])
 (xSeq (xOps [⟨(some t27), oFieldAddr 2 (.t t4), none, none⟩,
   ⟨none, oStore 1 (.t t27) (.v (.int .i64 1)), none, none⟩])
 (xSeq (xOps [⟨(some t28), oFieldAddr 1 (.t t3), none, none⟩,
   ⟨(some t29), oLoad1 (.t t28), none, (some (.t t28))⟩,
   ⟨(some t30), oBin (str2 (cmpS eqBytes)) (.t t29) (.v (.string ⟨⟨[116, 114, 117, 101]⟩⟩)), none, none⟩])
 (xCond (.t t30)
 (xOps [⟨(some t31), oFieldAddr 3 (.t t4), none, none⟩,
   ⟨none, oStore 1 (.t t31) (.v (.int .i64 1)), none, none⟩])
 xSkip)))))))))))))
 (xSeq (xOps [⟨(some t44), oLoadN 6 (.t t4), none, none⟩,
   ⟨none, oStore 6 (.t t2) (.t t44), none, none⟩])
 xRet)))))))⟩
theorem ok59 : cFunc Try.prog gl ex Try.f59 = some c59 := by kernel_rfl
/-- (*publican/publicanref9.parser).fail -/
def c60 : AFunc := ⟨13, [],
 (xSeq (xOps [⟨(some t2), oMov (.t t0), none, none⟩,
   ⟨(some t3), oNilCheck (.t t2), none, none⟩,
   ⟨(some t4), oFieldAddr 2 (.t t3), none, none⟩,
   ⟨(some t5), oLoad1 (.t t4), none, (some (.t t4))⟩,
   ⟨(some t6), oBin (int2 (cmpO ltI)) (.t t5) (.v (.int .i64 0)), none, none⟩])
 (xCond (.t t6)
 (xOps [⟨(some t7), oMov (.t t0), none, none⟩,
   ⟨(some t8), oMov (.t t0), none, none⟩,
   ⟨(some t9), oCall 51 [(.t t8)], none, none⟩,
   ⟨(some t10), oField none 3 (.t t9), none, none⟩,
   ⟨(some t11), oNilCheck (.t t7), none, none⟩,
   ⟨(some t12), oFieldAddr 2 (.t t11), none, none⟩,
   ⟨none, oStore 1 (.t t12) (.t t10), none, none⟩])
 xSkip))⟩
theorem ok60 : cFunc Try.prog gl ex Try.f60 = some c60 := by kernel_rfl
/-- (*publican/typ.checker).name -/
def c61 : AFunc := ⟨33, [.cell t4 none],
 (xFun (xOps [⟨(some t3), oBox (.t t1), none, none⟩,
   ⟨(some t4), oNew [(.int .i64 0)], none, none⟩])
 (xOps [⟨(some t9), oMov (.t t0), none, none⟩,
   ⟨(some t10), oNilCheck (.t t9), none, none⟩,
   ⟨(some t11), oFieldAddr 6 (.t t10), none, none⟩,
   ⟨(some t12), oLoad1 (.t t11), none, (some (.t t11))⟩,
   ⟨(some t13), oCall 74 [(.t t12)], none, none⟩])
 (.t t13)
 (xSeq (xOps [⟨(some t23), oMov (.t t0), none, none⟩,
   ⟨(some t24), oLoad1 (.t t3), none, (some (.t t3))⟩,
   ⟨(some t25), oBuildSlice 2 [(.string ⟨⟨[]⟩⟩), (.string ⟨⟨[]⟩⟩)] [(0, 1, (.v (.string ⟨⟨[105, 110, 112, 117, 116]⟩⟩))), (1, 1, (.v (.string ⟨⟨[114, 117, 108, 101]⟩⟩)))], none, none⟩,
   ⟨(some t26), oCall 63 [(.t t23), (.t t24), (.t t25)], none, none⟩,
   ⟨(some t22), oMov (.t t26), none, none⟩,
   ⟨(some t27), oExtract (.t t22) 0, none, none⟩,
   ⟨(some t28), oExtract (.t t22) 1, none, none⟩,
   ⟨(some t7), oNew [(.string ⟨⟨[]⟩⟩), (.string ⟨⟨[]⟩⟩), (.int .i64 0), (.int .i64 0), (.int .i64 0), (.slice none 0 0)], none, none⟩,
   ⟨none, oStore 6 (.t t7) (.t t27), none, none⟩,
   ⟨(some t8), oMov (.t t28), none, none⟩])
 (xSeq (xSeq (xOps [⟨(some t29), oMov (.t t8), none, none⟩,
   ⟨(some t30), oNot (.t t29), none, none⟩])
 (xCond (.t t30)
 (xSeq (xOps [⟨none, oStore 1 (.t t4) (.v (.int .i64 0)), none, none⟩])
 xRet)
 xSkip))
 (xSeq (xOps [⟨(some t31), oFieldAddr 2 (.t t7), none, none⟩,
   ⟨(some t32), oLoad1 (.t t31), none, (some (.t t31))⟩,
   ⟨none, oStore 1 (.t t4) (.t t32), none, none⟩])
 xRet))))⟩
theorem ok61 : cFunc Try.prog gl ex Try.f61 = some c61 := by kernel_rfl
/-- publican/typ.One -/
def c62 : AFunc := ⟨20, [.tmp t4],
 (xSeq (xOps [⟨(some t4), oMov (.v (.int .i64 0)), none, none⟩])
 (xSeq (xSeq (xOps [⟨(some t5), oMov (.t t0), none, none⟩,
   ⟨(some t6), oBin (str2 (cmpS eqBytes)) (.t t5) (.v (.string ⟨⟨[110, 111, 116]⟩⟩)), none, none⟩,
   ⟨(some t7), oMov (.t t6), none, none⟩,
   ⟨(some t8), oMov (.t t1), (some (t7, true)), none⟩,
   ⟨(some t9), oBin (int2 (cmpO eqI)) (.t t8) (.v (.int .i64 1)), (some (t7, true)), none⟩,
   ⟨(some t10), oPick (.t t7) (.t t9) (.v (.bool false)), none, none⟩,
   ⟨(some t11), oMov (.t t10), none, none⟩,
   ⟨(some t12), oMov (.t t0), (some (t11, false)), none⟩,
   ⟨(some t13), oBin (str2 (cmpS eqBytes)) (.t t12) (.v (.string ⟨⟨[110, 101, 103]⟩⟩)), (some (t11, false)), none⟩,
   ⟨(some t14), oMov (.t t13), (some (t11, false)), none⟩,
   ⟨(some t15), oMov (.t t1), (some (t14, true)), none⟩,
   ⟨(some t16), oCall 75 [(.t t15)], (some (t14, true)), none⟩,
   ⟨(some t17), oPick (.t t14) (.t t16) (.v (.bool false)), (some (t11, false)), none⟩,
   ⟨(some t18), oPick (.t t11) (.v (.bool true)) (.t t17), none, none⟩])
 (xCond (.t t18)
 (xSeq (xOps [⟨(some t19), oMov (.t t1), none, none⟩,
   ⟨(some t4), oMov (.t t19), none, none⟩])
 xRet)
 xSkip))
 (xSeq (xOps [⟨(some t4), oMov (.v (.int .i64 0)), none, none⟩])
 xRet)))⟩
theorem ok62 : cFunc Try.prog gl ex Try.f62 = some c62 := by kernel_rfl
/-- (*publican/typ.checker).decl -/
def c63 : AFunc := ⟨27, [.cell t6 (some 6), .tmp t7],
 (xSeq (xOps [⟨(some t4), oBox (.t t1), none, none⟩,
   ⟨(some t5), oBox (.t t2), none, none⟩,
   ⟨(some t6), oNew [(.string ⟨⟨[]⟩⟩), (.string ⟨⟨[]⟩⟩), (.int .i64 0), (.int .i64 0), (.int .i64 0), (.slice none 0 0)], none, none⟩,
   ⟨(some t7), oMov (.v (.bool false)), none, none⟩])
 (xSeq (xOps [⟨(some t9), oMov (.t t0), none, none⟩,
   ⟨(some t10), oNilCheck (.t t9), none, none⟩,
   ⟨(some t11), oFieldAddr 0 (.t t10), none, none⟩,
   ⟨(some t12), oFieldAddr 5 (.t t11), none, none⟩,
   ⟨(some t13), oLoad1 (.t t12), none, (some (.t t12))⟩,
   ⟨(some t14), oFunc (.func 77) [] [(.t t4), (.t t5)], none, none⟩,
   ⟨(some t15), oCall 76 [(.t t13), (.t t14)], none, none⟩,
   ⟨(some t8), oMov (.t t15), none, none⟩])
 (xSeq (xSeq (xOps [⟨(some t16), oMov (.t t8), none, none⟩,
   ⟨(some t17), oBin (int2 (cmpO ltI)) (.t t16) (.v (.int .i64 0)), none, none⟩])
 (xCond (.t t17)
 (xSeq (xOps [⟨(some t18), oBuild [(.string ⟨⟨[]⟩⟩), (.string ⟨⟨[]⟩⟩), (.int .i64 0), (.int .i64 0), (.int .i64 0), (.slice none 0 0)] [], none, none⟩,
   ⟨none, oStore 6 (.t t6) (.t t18), none, none⟩,
   ⟨(some t7), oMov (.v (.bool false)), none, none⟩])
 xRet)
 xSkip))
 (xSeq (xOps [⟨(some t19), oMov (.t t0), none, none⟩,
   ⟨(some t20), oNilCheck (.t t19), none, none⟩,
   ⟨(some t21), oFieldAddr 0 (.t t20), none, none⟩,
   ⟨(some t22), oFieldAddr 5 (.t t21), none, none⟩,
   ⟨(some t23), oLoad1 (.t t22), none, (some (.t t22))⟩,
   ⟨(some t24), oMov (.t t8), none, none⟩,
   ⟨(some t25), oIdxAddrL 6 (.t t23) (.t t24), none, none⟩,
   ⟨(some t26), oLoadN 6 (.t t25), none, none⟩,
   ⟨none, oStore 6 (.t t6) (.t t26), none, none⟩,
   ⟨(some t7), oMov (.v (.bool true)), none, none⟩])
 xRet))))⟩
theorem ok63 : cFunc Try.prog gl ex Try.f63 = some c63 := by kernel_rfl
/-- (*publican/typ.checker).fold -/
def c64 : AFunc := ⟨79, [.tmp t4],
 (xSeq (xOps [⟨(some t3), oBox (.t t1), none, none⟩,
   ⟨(some t4), oMov (.v (.int .i64 0)), none, none⟩])
 (xSeq (xOps [⟨(some t10), oMov (.t t0), none, none⟩,
   ⟨(some t11), oFieldAddr 5 (.t t3), none, none⟩,
   ⟨(some t12), oLoad1 (.t t11), none, (some (.t t11))⟩,
   ⟨(some t13), oIdxAddrL 6 (.t t12) (.v (.int .i64 0)), none, none⟩,
   ⟨(some t14), oLoadN 6 (.t t13), none, none⟩,
   ⟨(some t15), oCall 25 [(.t t10), (.t t14)], none, none⟩,
   ⟨(some t5), oMov (.t t15), none, none⟩])
 (xSeq (xOps [⟨(some t17), oMov (.t t0), none, none⟩,
   ⟨(some t18), oFieldAddr 1 (.t t3), none, none⟩,
   ⟨(some t19), oLoad1 (.t t18), none, (some (.t t18))⟩,
   ⟨(some t20), oBuildSlice 3 [(.string ⟨⟨[]⟩⟩), (.string ⟨⟨[]⟩⟩), (.string ⟨⟨[]⟩⟩)] [(0, 1, (.v (.string ⟨⟨[105, 110, 112, 117, 116]⟩⟩))), (1, 1, (.v (.string ⟨⟨[114, 117, 108, 101]⟩⟩))), (2, 1, (.v (.string ⟨⟨[116, 97, 98, 108, 101]⟩⟩)))], none, none⟩,
   ⟨(some t21), oCall 63 [(.t t17), (.t t19), (.t t20)], none, none⟩,
   ⟨(some t16), oMov (.t t21), none, none⟩,
   ⟨(some t22), oExtract (.t t16) 0, none, none⟩,
   ⟨(some t23), oExtract (.t t16) 1, none, none⟩,
   ⟨(some t6), oNew [(.string ⟨⟨[]⟩⟩), (.string ⟨⟨[]⟩⟩), (.int .i64 0), (.int .i64 0), (.int .i64 0), (.slice none 0 0)], none, none⟩,
   ⟨none, oStore 6 (.t t6) (.t t22), none, none⟩,
   ⟨(some t7), oMov (.t t23), none, none⟩])
 (xSeq (xOps [⟨(some t24), oMov (.t t0), none, none⟩,
   ⟨(some t25), oNilCheck (.t t24), none, none⟩,
   ⟨(some t26), oFieldAddr 6 (.t t25), none, none⟩,
   ⟨(some t27), oLoad1 (.t t26), none, (some (.t t26))⟩,
   ⟨(some t28), oFunc (.func 80) [] [(.t t3)], none, none⟩,
   ⟨(some t29), oCall 79 [(.t t27), (.t t28)], none, none⟩,
   ⟨(some t8), oMov (.t t29), none, none⟩])
 (xSeq (xReg [⟨(some t30), oMov (.t t0), none, none⟩,
   ⟨(some t31), oMov (.t t0), none, none⟩,
   ⟨(some t32), oNilCheck (.t t31), none, none⟩,
   ⟨(some t33), oFieldAddr 6 (.t t32), none, none⟩,
   ⟨(some t34), oLoad1 (.t t33), none, (some (.t t33))⟩,
   ⟨(some t35), oFieldAddr 1 (.t t3), none, none⟩,
   ⟨(some t36), oLoad1 (.t t35), none, (some (.t t35))⟩,
   ⟨(some t37), oBuild [(.string ⟨⟨[]⟩⟩), (.int .i64 0)] [(0, 1, (.t t36)), (1, 1, (.v (.int .i64 3)))], none, none⟩,
   ⟨(some t38), oBuildSlice 1 [(.string ⟨⟨[]⟩⟩), (.int .i64 0)] [(0, 2, (.t t37))], none, none⟩,
   ⟨(some t39), oAppend 2 24 (.t t34) (.t t38), none, none⟩,
   ⟨(some t40), oNilCheck (.t t30), none, none⟩,
   ⟨(some t41), oFieldAddr 6 (.t t40), none, none⟩,
   ⟨none, oStore 1 (.t t41) (.t t39), none, none⟩] [(0, 1), (0, 2), (0, 3), (0, 4), (0, 5), (1, 5), (2, 5), (3, 5), (4, 5), (0, 6), (1, 6), (2, 6), (3, 6), (4, 6), (0, 7), (1, 7), (2, 7), (3, 7), (4, 7), (0, 8), (1, 8), (2, 8), (3, 8), (4, 8), (0, 9)])
 (xSeq (xOps [⟨(some t42), oMov (.t t0), none, none⟩,
   ⟨(some t43), oFieldAddr 5 (.t t3), none, none⟩,
   ⟨(some t44), oLoad1 (.t t43), none, (some (.t t43))⟩,
   ⟨(some t45), oIdxAddrL 6 (.t t44) (.v (.int .i64 1)), none, none⟩,
   ⟨(some t46), oLoadN 6 (.t t45), none, none⟩,
   ⟨(some t47), oCall 25 [(.t t42), (.t t46)], none, none⟩,
   ⟨(some t9), oMov (.t t47), none, none⟩])
 (xSeq (xReg [⟨(some t48), oMov (.t t0), none, none⟩,
   ⟨(some t49), oMov (.t t0), none, none⟩,
   ⟨(some t50), oNilCheck (.t t49), none, none⟩,
   ⟨(some t51), oFieldAddr 6 (.t t50), none, none⟩,
   ⟨(some t52), oLoad1 (.t t51), none, (some (.t t51))⟩,
   ⟨(some t53), oMov (.t t0), none, none⟩,
   ⟨(some t54), oNilCheck (.t t53), none, none⟩,
   ⟨(some t55), oFieldAddr 6 (.t t54), none, none⟩,
   ⟨(some t56), oLoad1 (.t t55), none, (some (.t t55))⟩,
   ⟨(some t57), oLenL (.t t56), none, none⟩,
   ⟨(some t58), oBin (int2 subO) (.t t57) (.v (.int .i64 1)), none, none⟩,
   ⟨(some t59), oSliceL 2 (.t t52) none (some (.t t58)) none, none, none⟩,
   ⟨(some t60), oNilCheck (.t t48), none, none⟩,
   ⟨(some t61), oFieldAddr 6 (.t t60), none, none⟩,
   ⟨none, oStore 1 (.t t61) (.t t59), none, none⟩] [(0, 1), (0, 2), (0, 3), (0, 4), (0, 5), (1, 5), (2, 5), (3, 5), (4, 5), (0, 6), (1, 6), (2, 6), (3, 6), (4, 6), (0, 7), (1, 7), (2, 7), (3, 7), (4, 7), (0, 8), (1, 8), (2, 8), (3, 8), (4, 8), (0, 9), (1, 9), (2, 9), (3, 9), (4, 9), (0, 10), (1, 10), (2, 10), (3, 10), (4, 10), (0, 11)])
 (xSeq (xSeq (xOps [⟨(some t62), oMov (.t t5), none, none⟩,
   ⟨(some t63), oBin (int2 (cmpO neI)) (.t t62) (.v (.int .i64 6)), none, none⟩,
   ⟨(some t64), oMov (.t t63), none, none⟩,
   ⟨(some t65), oMov (.t t7), (some (t64, false)), none⟩,
   ⟨(some t66), oPick (.t t64) (.v (.bool true)) (.t t65), none, none⟩,
   ⟨(some t67), oMov (.t t66), none, none⟩,
   ⟨(some t68), oMov (.t t8), (some (t67, false)), none⟩,
   ⟨(some t69), oPick (.t t67) (.v (.bool true)) (.t t68), none, none⟩,
   ⟨(some t70), oMov (.t t69), none, none⟩,
   ⟨(some t71), oMov (.t t9), (some (t70, false)), none⟩,
   ⟨(some t72), oBin (int2 (cmpO neI)) (.t t71) (.v (.int .i64 3)), (some (t70, false)), none⟩,
   ⟨(some t73), oMov (.t t72), (some (t70, false)), none⟩,
   ⟨(some t74), oMov (.t t9), (some (t73, true)), none⟩,
   ⟨(some t75), oBin (int2 (cmpO neI)) (.t t74) (.v (.int .i64 2)), (some (t73, true)), none⟩,
   ⟨(some t76), oPick (.t t73) (.t t75) (.v (.bool false)), (some (t70, false)), none⟩,
   ⟨(some t77), oPick (.t t70) (.v (.bool true)) (.t t76), none, none⟩])
 (xCond (.t t77)
 (xSeq (xOps [⟨(some t4), oMov (.v (.int .i64 0)), none, none⟩])
 xRet)
 xSkip))
 (xSeq (xOps [⟨(some t78), oMov (.t t9), none, none⟩,
   ⟨(some t4), oMov (.t t78), none, none⟩])
 xRet)))))))))⟩
theorem ok64 : cFunc Try.prog gl ex Try.f64 = some c64 := by kernel_rfl
/-- publican/typ.Two -/
def c65 : AFunc := ⟨71, [.tmp t6],
 (xSeq (xOps [⟨(some t6), oMov (.v (.int .i64 0)), none, none⟩])
 (xSeq (xSeq (xOps [⟨(some t7), oMov (.t t0), none, none⟩])
 (xBlock 0 (xSeq (xSeq (xOps [⟨(some t9), oBin (str2 (cmpS eqBytes)) (.t t7) (.v (.string ⟨⟨[43]⟩⟩)), none, none⟩,
   ⟨(some t8), oMov (.t t9), none, none⟩])
 (xCond (.t t8)
 xSkip
 (xOps [⟨(some t10), oBin (str2 (cmpS eqBytes)) (.t t7) (.v (.string ⟨⟨[45]⟩⟩)), none, none⟩,
   ⟨(some t8), oMov (.t t10), none, none⟩])))
 (xCond (.t t8)
 (xSeq (xOps [⟨(some t11), oMov (.t t0), none, none⟩,
   ⟨(some t12), oMov (.t t1), none, none⟩,
   ⟨(some t13), oMov (.t t2), none, none⟩,
   ⟨(some t14), oCall 81 [(.t t11), (.t t12), (.t t13)], none, none⟩,
   ⟨(some t6), oMov (.t t14), none, none⟩])
 xRet)
 (xSeq (xOps [⟨(some t16), oBin (str2 (cmpS eqBytes)) (.t t7) (.v (.string ⟨⟨[42]⟩⟩)), none, none⟩,
   ⟨(some t15), oMov (.t t16), none, none⟩])
 (xCond (.t t15)
 (xSeq (xOps [⟨(some t17), oMov (.t t1), none, none⟩,
   ⟨(some t18), oMov (.t t2), none, none⟩,
   ⟨(some t19), oCall 82 [(.t t17), (.t t18)], none, none⟩,
   ⟨(some t6), oMov (.t t19), none, none⟩])
 xRet)
 (xSeq (xOps [⟨(some t21), oBin (str2 (cmpS eqBytes)) (.t t7) (.v (.string ⟨⟨[47]⟩⟩)), none, none⟩,
   ⟨(some t20), oMov (.t t21), none, none⟩])
 (xCond (.t t20)
 (xSeq (xOps [⟨(some t22), oMov (.t t1), none, none⟩,
   ⟨(some t23), oMov (.t t2), none, none⟩,
   ⟨(some t24), oCall 83 [(.t t22), (.t t23)], none, none⟩,
   ⟨(some t6), oMov (.t t24), none, none⟩])
 xRet)
 (xSeq (xSeq (xOps [⟨(some t26), oBin (str2 (cmpS eqBytes)) (.t t7) (.v (.string ⟨⟨[60]⟩⟩)), none, none⟩,
   ⟨(some t25), oMov (.t t26), none, none⟩])
 (xCond (.t t25)
 xSkip
 (xSeq (xOps [⟨(some t27), oBin (str2 (cmpS eqBytes)) (.t t7) (.v (.string ⟨⟨[60, 61]⟩⟩)), none, none⟩,
   ⟨(some t25), oMov (.t t27), none, none⟩])
 (xCond (.t t25)
 xSkip
 (xSeq (xOps [⟨(some t28), oBin (str2 (cmpS eqBytes)) (.t t7) (.v (.string ⟨⟨[62]⟩⟩)), none, none⟩,
   ⟨(some t25), oMov (.t t28), none, none⟩])
 (xCond (.t t25)
 xSkip
 (xOps [⟨(some t29), oBin (str2 (cmpS eqBytes)) (.t t7) (.v (.string ⟨⟨[62, 61]⟩⟩)), none, none⟩,
   ⟨(some t25), oMov (.t t29), none, none⟩])))))))
 (xCond (.t t25)
 (xSeq (xOps [⟨(some t30), oMov (.t t1), none, none⟩,
   ⟨(some t31), oMov (.t t2), none, none⟩,
   ⟨(some t32), oBin (int2 (cmpO eqI)) (.t t30) (.t t31), none, none⟩,
   ⟨(some t33), oMov (.t t32), none, none⟩,
   ⟨(some t34), oMov (.t t1), (some (t33, true)), none⟩,
   ⟨(some t35), oCall 84 [(.t t34)], (some (t33, true)), none⟩,
   ⟨(some t36), oPick (.t t33) (.t t35) (.v (.bool false)), none, none⟩])
 (xCond (.t t36)
 (xSeq (xOps [⟨(some t6), oMov (.v (.int .i64 1)), none, none⟩])
 xRet)
 xSkip))
 (xSeq (xSeq (xOps [⟨(some t38), oBin (str2 (cmpS eqBytes)) (.t t7) (.v (.string ⟨⟨[61, 61]⟩⟩)), none, none⟩,
   ⟨(some t37), oMov (.t t38), none, none⟩])
 (xCond (.t t37)
 xSkip
 (xOps [⟨(some t39), oBin (str2 (cmpS eqBytes)) (.t t7) (.v (.string ⟨⟨[33, 61]⟩⟩)), none, none⟩,
   ⟨(some t37), oMov (.t t39), none, none⟩])))
 (xCond (.t t37)
 (xSeq (xOps [⟨(some t40), oMov (.t t1), none, none⟩,
   ⟨(some t41), oMov (.t t2), none, none⟩,
   ⟨(some t42), oBin (int2 (cmpO eqI)) (.t t40) (.t t41), none, none⟩,
   ⟨(some t43), oMov (.t t42), none, none⟩,
   ⟨(some t44), oMov (.t t1), (some (t43, true)), none⟩,
   ⟨(some t45), oCall 84 [(.t t44)], (some (t43, true)), none⟩,
   ⟨(some t46), oMov (.t t45), (some (t43, true)), none⟩,
   ⟨(some t47), oMov (.t t1), (some (t46, false)), none⟩,
   ⟨(some t48), oBin (int2 (cmpO eqI)) (.t t47) (.v (.int .i64 1)), (some (t46, false)), none⟩,
   ⟨(some t49), oPick (.t t46) (.v (.bool true)) (.t t48), (some (t43, true)), none⟩,
   ⟨(some t50), oPick (.t t43) (.t t49) (.v (.bool false)), none, none⟩])
 (xCond (.t t50)
 (xSeq (xOps [⟨(some t6), oMov (.v (.int .i64 1)), none, none⟩])
 xRet)
 xSkip))
 (xSeq (xSeq (xOps [⟨(some t52), oBin (str2 (cmpS eqBytes)) (.t t7) (.v (.string ⟨⟨[97, 110, 100]⟩⟩)), none, none⟩,
   ⟨(some t51), oMov (.t t52), none, none⟩])
 (xCond (.t t51)
 xSkip
 (xOps [⟨(some t53), oBin (str2 (cmpS eqBytes)) (.t t7) (.v (.string ⟨⟨[111, 114]⟩⟩)), none, none⟩,
   ⟨(some t51), oMov (.t t53), none, none⟩])))
 (xCond (.t t51)
 (xSeq (xOps [⟨(some t54), oMov (.t t1), none, none⟩,
   ⟨(some t55), oBin (int2 (cmpO eqI)) (.t t54) (.v (.int .i64 1)), none, none⟩,
   ⟨(some t56), oMov (.t t55), none, none⟩,
   ⟨(some t57), oMov (.t t2), (some (t56, true)), none⟩,
   ⟨(some t58), oBin (int2 (cmpO eqI)) (.t t57) (.v (.int .i64 1)), (some (t56, true)), none⟩,
   ⟨(some t59), oPick (.t t56) (.t t58) (.v (.bool false)), none, none⟩])
 (xCond (.t t59)
 (xSeq (xOps [⟨(some t6), oMov (.v (.int .i64 1)), none, none⟩])
 xRet)
 xSkip))
 (xSeq (xSeq (xOps [⟨(some t61), oBin (str2 (cmpS eqBytes)) (.t t7) (.v (.string ⟨⟨[109, 105, 110]⟩⟩)), none, none⟩,
   ⟨(some t60), oMov (.t t61), none, none⟩])
 (xCond (.t t60)
 xSkip
 (xOps [⟨(some t62), oBin (str2 (cmpS eqBytes)) (.t t7) (.v (.string ⟨⟨[109, 97, 120]⟩⟩)), none, none⟩,
   ⟨(some t60), oMov (.t t62), none, none⟩])))
 (xCond (.t t60)
 (xSeq (xOps [⟨(some t63), oMov (.t t1), none, none⟩,
   ⟨(some t64), oMov (.t t2), none, none⟩,
   ⟨(some t65), oBin (int2 (cmpO eqI)) (.t t63) (.t t64), none, none⟩,
   ⟨(some t66), oMov (.t t65), none, none⟩,
   ⟨(some t67), oMov (.t t1), (some (t66, true)), none⟩,
   ⟨(some t68), oCall 84 [(.t t67)], (some (t66, true)), none⟩,
   ⟨(some t69), oPick (.t t66) (.t t68) (.v (.bool false)), none, none⟩])
 (xCond (.t t69)
 (xSeq (xOps [⟨(some t70), oMov (.t t1), none, none⟩,
   ⟨(some t6), oMov (.t t70), none, none⟩])
 xRet)
 xSkip))
 xSkip))))))))))))))))
 (xSeq (xOps [⟨(some t6), oMov (.v (.int .i64 0)), none, none⟩])
 xRet)))⟩
theorem ok65 : cFunc Try.prog gl ex Try.f65 = some c65 := by kernel_rfl
/-- publican/publicanref1.Day -/
def c66 : AFunc := ⟨61, [.tmp t6, .tmp t7],
 (xSeq (xOps [⟨(some t6), oMov (.v (.int .i64 0)), none, none⟩,
   ⟨(some t7), oMov (.v (.bool false)), none, none⟩])
 (xSeq (xSeq (xOps [⟨(some t11), oMov (.t t0), none, none⟩,
   ⟨(some t12), oBin (int2 (cmpO ltI)) (.t t11) (.v (.int .i64 1900)), none, none⟩,
   ⟨(some t13), oMov (.t t12), none, none⟩,
   ⟨(some t14), oMov (.t t0), (some (t13, false)), none⟩,
   ⟨(some t15), oBin (int2 (cmpO gtI)) (.t t14) (.v (.int .i64 2199)), (some (t13, false)), none⟩,
   ⟨(some t16), oPick (.t t13) (.v (.bool true)) (.t t15), none, none⟩,
   ⟨(some t17), oMov (.t t16), none, none⟩,
   ⟨(some t18), oMov (.t t1), (some (t17, false)), none⟩,
   ⟨(some t19), oBin (int2 (cmpO ltI)) (.t t18) (.v (.int .i64 1)), (some (t17, false)), none⟩,
   ⟨(some t20), oPick (.t t17) (.v (.bool true)) (.t t19), none, none⟩,
   ⟨(some t21), oMov (.t t20), none, none⟩,
   ⟨(some t22), oMov (.t t1), (some (t21, false)), none⟩,
   ⟨(some t23), oBin (int2 (cmpO gtI)) (.t t22) (.v (.int .i64 12)), (some (t21, false)), none⟩,
   ⟨(some t24), oPick (.t t21) (.v (.bool true)) (.t t23), none, none⟩,
   ⟨(some t25), oMov (.t t24), none, none⟩,
   ⟨(some t26), oMov (.t t2), (some (t25, false)), none⟩,
   ⟨(some t27), oBin (int2 (cmpO ltI)) (.t t26) (.v (.int .i64 1)), (some (t25, false)), none⟩,
   ⟨(some t28), oPick (.t t25) (.v (.bool true)) (.t t27), none, none⟩,
   ⟨(some t29), oMov (.t t28), none, none⟩,
   ⟨(some t30), oMov (.t t2), (some (t29, false)), none⟩,
   ⟨(some t31), oMov (.t t0), (some (t29, false)), none⟩,
   ⟨(some t32), oMov (.t t1), (some (t29, false)), none⟩,
   ⟨(some t33), oCall 68 [(.t t31), (.t t32)], (some (t29, false)), none⟩,
   ⟨(some t34), oBin (int2 (cmpO gtI)) (.t t30) (.t t33), (some (t29, false)), none⟩,
   ⟨(some t35), oPick (.t t29) (.v (.bool true)) (.t t34), none, none⟩])
 (xCond (.t t35)
 (xSeq (xOps [⟨(some t6), oMov (.v (.int .i64 0)), none, none⟩,
   ⟨(some t7), oMov (.v (.bool false)), none, none⟩])
 xRet)
 xSkip))
 (xSeq (xOps [⟨(some t8), oMov (.v (.int .i64 0)), none, none⟩])
 (xSeq (xSeq (xOps [⟨(some t9), oMov (.v (.int .i64 1900)), none, none⟩])
 (xBlock 0 (xLoop (xSeq (xSeq (xOps [⟨(some t36), oMov (.t t9), none, none⟩,
   ⟨(some t37), oMov (.t t0), none, none⟩,
   ⟨(some t38), oBin (int2 (cmpO ltI)) (.t t36) (.t t37), none, none⟩])
 (xCond (.t t38)
 xSkip
 (xExit 0)))
 (xSeq (xBlock 1 (xSeq (xOps [⟨(some t41), oMov (.t t8), none, none⟩,
   ⟨(some t42), oBin (int2 addO) (.t t41) (.v (.int .i64 365)), none, none⟩,
   ⟨(some t8), oMov (.t t42), none, none⟩])
 (xSeq (xOps [⟨(some t43), oMov (.t t9), none, none⟩,
   ⟨(some t44), oCall 67 [(.t t43)], none, none⟩])
 (xCond (.t t44)
 (xOps [⟨(some t45), oMov (.t t8), none, none⟩,
   ⟨(some t46), oBin (int2 addO) (.t t45) (.v (.int .i64 1)), none, none⟩,
   ⟨(some t8), oMov (.t t46), none, none⟩])
 xSkip))))
 (xOps [⟨(some t39), oMov (.t t9), none, none⟩,
   ⟨(some t40), oBin (int2 addO) (.t t39) (.v (.int .i64 1)), none, none⟩,
   ⟨(some t9), oMov (.t t40), none, none⟩]))))))
 (xSeq (xSeq (xOps [⟨(some t10), oMov (.v (.int .i64 1)), none, none⟩])
 (xBlock 2 (xLoop (xSeq (xSeq (xOps [⟨(some t47), oMov (.t t10), none, none⟩,
   ⟨(some t48), oMov (.t t1), none, none⟩,
   ⟨(some t49), oBin (int2 (cmpO ltI)) (.t t47) (.t t48), none, none⟩])
 (xCond (.t t49)
 xSkip
 (xExit 2)))
 (xSeq (xBlock 3 (xOps [⟨(some t52), oMov (.t t8), none, none⟩,
   ⟨(some t53), oMov (.t t0), none, none⟩,
   ⟨(some t54), oMov (.t t10), none, none⟩,
   ⟨(some t55), oCall 68 [(.t t53), (.t t54)], none, none⟩,
   ⟨(some t56), oBin (int2 addO) (.t t52) (.t t55), none, none⟩,
   ⟨(some t8), oMov (.t t56), none, none⟩]))
 (xOps [⟨(some t50), oMov (.t t10), none, none⟩,
   ⟨(some t51), oBin (int2 addO) (.t t50) (.v (.int .i64 1)), none, none⟩,
   ⟨(some t10), oMov (.t t51), none, none⟩]))))))
 (xSeq (xOps [⟨(some t57), oMov (.t t8), none, none⟩,
   ⟨(some t58), oMov (.t t2), none, none⟩,
   ⟨(some t59), oBin (int2 addO) (.t t57) (.t t58), none, none⟩,
   ⟨(some t60), oBin (int2 subO) (.t t59) (.v (.int .i64 1)), none, none⟩,
   ⟨(some t6), oMov (.t t60), none, none⟩,
   ⟨(some t7), oMov (.v (.bool true)), none, none⟩])
 xRet))))))⟩
theorem ok66 : cFunc Try.prog gl ex Try.f66 = some c66 := by kernel_rfl
/-- publican/publicanref1.Leap -/
def c67 : AFunc := ⟨16, [.tmp t2],
 (xSeq (xOps [⟨(some t2), oMov (.v (.bool false)), none, none⟩])
 (xSeq (xOps [⟨(some t3), oMov (.t t0), none, none⟩,
   ⟨(some t4), oBin (int2 remO) (.t t3) (.v (.int .i64 4)), none, none⟩,
   ⟨(some t5), oBin (int2 (cmpO eqI)) (.t t4) (.v (.int .i64 0)), none, none⟩,
   ⟨(some t6), oMov (.t t5), none, none⟩,
   ⟨(some t7), oMov (.t t0), (some (t6, true)), none⟩,
   ⟨(some t8), oBin (int2 remO) (.t t7) (.v (.int .i64 100)), (some (t6, true)), none⟩,
   ⟨(some t9), oBin (int2 (cmpO neI)) (.t t8) (.v (.int .i64 0)), (some (t6, true)), none⟩,
   ⟨(some t10), oPick (.t t6) (.t t9) (.v (.bool false)), none, none⟩,
   ⟨(some t11), oMov (.t t10), none, none⟩,
   ⟨(some t12), oMov (.t t0), (some (t11, false)), none⟩,
   ⟨(some t13), oBin (int2 remO) (.t t12) (.v (.int .i64 400)), (some (t11, false)), none⟩,
   ⟨(some t14), oBin (int2 (cmpO eqI)) (.t t13) (.v (.int .i64 0)), (some (t11, false)), none⟩,
   ⟨(some t15), oPick (.t t11) (.v (.bool true)) (.t t14), none, none⟩,
   ⟨(some t2), oMov (.t t15), none, none⟩])
 xRet))⟩
theorem ok67 : cFunc Try.prog gl ex Try.f67 = some c67 := by kernel_rfl
/-- publican/publicanref1.Days -/
def c68 : AFunc := ⟨23, [.tmp t4],
 (xSeq (xOps [⟨(some t4), oMov (.v (.int .i64 0)), none, none⟩])
 (xSeq (xSeq (xOps [⟨(some t5), oMov (.t t1), none, none⟩])
 (xBlock 0 (xSeq (xSeq (xOps [⟨(some t7), oBin (int2 (cmpO eqI)) (.t t5) (.v (.int .i64 1)), none, none⟩,
   ⟨(some t6), oMov (.t t7), none, none⟩])
 (xCond (.t t6)
 xSkip
 (xSeq (xOps [⟨(some t8), oBin (int2 (cmpO eqI)) (.t t5) (.v (.int .i64 3)), none, none⟩,
   ⟨(some t6), oMov (.t t8), none, none⟩])
 (xCond (.t t6)
 xSkip
 (xSeq (xOps [⟨(some t9), oBin (int2 (cmpO eqI)) (.t t5) (.v (.int .i64 5)), none, none⟩,
   ⟨(some t6), oMov (.t t9), none, none⟩])
 (xCond (.t t6)
 xSkip
 (xSeq (xOps [⟨(some t10), oBin (int2 (cmpO eqI)) (.t t5) (.v (.int .i64 7)), none, none⟩,
   ⟨(some t6), oMov (.t t10), none, none⟩])
 (xCond (.t t6)
 xSkip
 (xSeq (xOps [⟨(some t11), oBin (int2 (cmpO eqI)) (.t t5) (.v (.int .i64 8)), none, none⟩,
   ⟨(some t6), oMov (.t t11), none, none⟩])
 (xCond (.t t6)
 xSkip
 (xSeq (xOps [⟨(some t12), oBin (int2 (cmpO eqI)) (.t t5) (.v (.int .i64 10)), none, none⟩,
   ⟨(some t6), oMov (.t t12), none, none⟩])
 (xCond (.t t6)
 xSkip
 (xOps [⟨(some t13), oBin (int2 (cmpO eqI)) (.t t5) (.v (.int .i64 12)), none, none⟩,
   ⟨(some t6), oMov (.t t13), none, none⟩])))))))))))))
 (xCond (.t t6)
 (xSeq (xOps [⟨(some t4), oMov (.v (.int .i64 31)), none, none⟩])
 xRet)
 (xSeq (xSeq (xOps [⟨(some t15), oBin (int2 (cmpO eqI)) (.t t5) (.v (.int .i64 4)), none, none⟩,
   ⟨(some t14), oMov (.t t15), none, none⟩])
 (xCond (.t t14)
 xSkip
 (xSeq (xOps [⟨(some t16), oBin (int2 (cmpO eqI)) (.t t5) (.v (.int .i64 6)), none, none⟩,
   ⟨(some t14), oMov (.t t16), none, none⟩])
 (xCond (.t t14)
 xSkip
 (xSeq (xOps [⟨(some t17), oBin (int2 (cmpO eqI)) (.t t5) (.v (.int .i64 9)), none, none⟩,
   ⟨(some t14), oMov (.t t17), none, none⟩])
 (xCond (.t t14)
 xSkip
 (xOps [⟨(some t18), oBin (int2 (cmpO eqI)) (.t t5) (.v (.int .i64 11)), none, none⟩,
   ⟨(some t14), oMov (.t t18), none, none⟩])))))))
 (xCond (.t t14)
 (xSeq (xOps [⟨(some t4), oMov (.v (.int .i64 30)), none, none⟩])
 xRet)
 (xSeq (xOps [⟨(some t20), oBin (int2 (cmpO eqI)) (.t t5) (.v (.int .i64 2)), none, none⟩,
   ⟨(some t19), oMov (.t t20), none, none⟩])
 (xCond (.t t19)
 (xSeq (xSeq (xOps [⟨(some t21), oMov (.t t0), none, none⟩,
   ⟨(some t22), oCall 67 [(.t t21)], none, none⟩])
 (xCond (.t t22)
 (xSeq (xOps [⟨(some t4), oMov (.v (.int .i64 29)), none, none⟩])
 xRet)
 xSkip))
 (xSeq (xOps [⟨(some t4), oMov (.v (.int .i64 28)), none, none⟩])
 xRet))
 xSkip))))))))
 (xSeq (xOps [⟨(some t4), oMov (.v (.int .i64 0)), none, none⟩])
 xRet)))⟩
theorem ok68 : cFunc Try.prog gl ex Try.f68 = some c68 := by kernel_rfl
/-- publican/publicanref9.Kind -/
def c69 : AFunc := ⟨17, [.tmp t2],
 (xSeq (xOps [⟨(some t2), oMov (.v (.int .i64 0)), none, none⟩])
 (xSeq (xOps [⟨(some t5), oBuildSlice 7 (rep 7 [(.string ⟨⟨[]⟩⟩)]) [(0, 1, (.v (.string ⟨⟨[]⟩⟩))), (1, 1, (.v (.string ⟨⟨[98, 111, 111, 108]⟩⟩))), (2, 1, (.v (.string ⟨⟨[99, 111, 117, 110, 116]⟩⟩))), (3, 1, (.v (.string ⟨⟨[109, 111, 110, 101, 121]⟩⟩))), (4, 1, (.v (.string ⟨⟨[114, 97, 116, 101]⟩⟩))), (5, 1, (.v (.string ⟨⟨[100, 97, 116, 101]⟩⟩))), (6, 1, (.v (.string ⟨⟨[109, 111, 110, 101, 121, 115]⟩⟩)))], none, none⟩,
   ⟨(some t3), oMov (.t t5), none, none⟩])
 (xSeq (xSeq (xOps [⟨(some t4), oMov (.v (.int .i64 1)), none, none⟩])
 (xBlock 0 (xLoop (xSeq (xSeq (xOps [⟨(some t6), oMov (.t t4), none, none⟩,
   ⟨(some t7), oBin (int2 (cmpO ltI)) (.t t6) (.v (.int .i64 7)), none, none⟩])
 (xCond (.t t7)
 xSkip
 (xExit 0)))
 (xSeq (xBlock 1 (xSeq (xOps [⟨(some t10), oMov (.t t3), none, none⟩,
   ⟨(some t11), oMov (.t t4), none, none⟩,
   ⟨(some t12), oIdxAddrL 1 (.t t10) (.t t11), none, none⟩,
   ⟨(some t13), oLoad1 (.t t12), none, (some (.t t12))⟩,
   ⟨(some t14), oMov (.t t0), none, none⟩,
   ⟨(some t15), oBin (str2 (cmpS eqBytes)) (.t t13) (.t t14), none, none⟩])
 (xCond (.t t15)
 (xSeq (xOps [⟨(some t16), oMov (.t t4), none, none⟩,
   ⟨(some t2), oMov (.t t16), none, none⟩])
 xRet)
 xSkip)))
 (xOps [⟨(some t8), oMov (.t t4), none, none⟩,
   ⟨(some t9), oBin (int2 addO) (.t t8) (.v (.int .i64 1)), none, none⟩,
   ⟨(some t4), oMov (.t t9), none, none⟩]))))))
 (xSeq (xOps [⟨(some t2), oMov (.v (.int .i64 0)), none, none⟩])
 xRet))))⟩
theorem ok69 : cFunc Try.prog gl ex Try.f69 = some c69 := by kernel_rfl
/-- (*publican/publicanref9.parser).in -/
def c70 : AFunc := ⟨22, [.tmp t2],
 (xSeq (xOps [⟨(some t2), oMov (.v (.bool false)), none, none⟩])
 (xSeq (xSeq (xOps [⟨(some t3), oMov (.t t0), none, none⟩,
   ⟨(some t4), oNilCheck (.t t3), none, none⟩,
   ⟨(some t5), oFieldAddr 2 (.t t4), none, none⟩,
   ⟨(some t6), oLoad1 (.t t5), none, (some (.t t5))⟩,
   ⟨(some t7), oBin (int2 (cmpO geI)) (.t t6) (.v (.int .i64 0)), none, none⟩])
 (xCond (.t t7)
 (xSeq (xOps [⟨(some t2), oMov (.v (.bool false)), none, none⟩])
 xRet)
 xSkip))
 (xSeq (xSeq (xOps [⟨(some t8), oMov (.t t0), none, none⟩,
   ⟨(some t9), oNilCheck (.t t8), none, none⟩,
   ⟨(some t10), oFieldAddr 4 (.t t9), none, none⟩,
   ⟨(some t11), oLoad1 (.t t10), none, (some (.t t10))⟩,
   ⟨(some t12), oBin (int2 (cmpO geI)) (.t t11) (.v (.int .i64 40)), none, none⟩])
 (xCond (.t t12)
 (xSeq (xOps [⟨(some t13), oMov (.t t0), none, none⟩,
   ⟨(some t14), oCall 58 [(.t t13)], none, none⟩])
 (xSeq (xOps [⟨(some t2), oMov (.v (.bool false)), none, none⟩])
 xRet))
 xSkip))
 (xSeq (xOps [⟨(some t15), oMov (.t t0), none, none⟩,
   ⟨(some t16), oNilCheck (.t t15), none, none⟩,
   ⟨(some t17), oFieldAddr 4 (.t t16), none, none⟩,
   ⟨(some t18), oLoad1 (.t t17), none, (some (.t t17))⟩,
   ⟨(some t19), oBin (int2 addO) (.t t18) (.v (.int .i64 1)), none, none⟩,
   ⟨(some t20), oNilCheck (.t t15), none, none⟩,
   ⟨(some t21), oFieldAddr 4 (.t t20), none, none⟩,
   ⟨none, oStore 1 (.t t21) (.t t19), none, none⟩])
 (xSeq (xOps [⟨(some t2), oMov (.v (.bool true)), none, none⟩])
 xRet)))))⟩
theorem ok70 : cFunc Try.prog gl ex Try.f70 = some c70 := by kernel_rfl
/-- (*publican/publicanref9.parser).inside -/
def c71 : AFunc := ⟨30, [.cell t2 (some 6)],
 (xSeq (xOps [⟨(some t2), oNew [(.string ⟨⟨[]⟩⟩), (.string ⟨⟨[]⟩⟩), (.int .i64 0), (.int .i64 0), (.int .i64 0), (.slice none 0 0)], none, none⟩])
 (xSeq (xOps [⟨(some t7), oMov (.t t0), none, none⟩,
   ⟨(some t8), oCall 51 [(.t t7)], none, none⟩,
   ⟨(some t9), oField none 3 (.t t8), none, none⟩,
   ⟨(some t3), oMov (.t t9), none, none⟩])
 (xSeq (xSeq (xOps [⟨(some t10), oMov (.t t0), none, none⟩,
   ⟨(some t11), oCall 52 [(.t t10), (.v (.string ⟨⟨[105, 102]⟩⟩))], none, none⟩])
 (xCond (.t t11)
 (xSeq (xOps [⟨(some t12), oMov (.t t0), none, none⟩,
   ⟨(some t13), oCall 56 [(.t t12)], none, none⟩,
   ⟨(some t4), oNew [(.string ⟨⟨[]⟩⟩), (.string ⟨⟨[]⟩⟩), (.int .i64 0), (.int .i64 0), (.int .i64 0), (.slice none 0 0)], none, none⟩,
   ⟨none, oStore 6 (.t t4) (.t t13), none, none⟩])
 (xSeq (xOps [⟨(some t14), oMov (.t t0), none, none⟩,
   ⟨(some t15), oCall 55 [(.t t14), (.v (.string ⟨⟨[116, 104, 101, 110]⟩⟩))], none, none⟩])
 (xSeq (xOps [⟨(some t16), oMov (.t t0), none, none⟩,
   ⟨(some t17), oCall 56 [(.t t16)], none, none⟩,
   ⟨(some t5), oNew [(.string ⟨⟨[]⟩⟩), (.string ⟨⟨[]⟩⟩), (.int .i64 0), (.int .i64 0), (.int .i64 0), (.slice none 0 0)], none, none⟩,
   ⟨none, oStore 6 (.t t5) (.t t17), none, none⟩])
 (xSeq (xOps [⟨(some t18), oMov (.t t0), none, none⟩,
   ⟨(some t19), oCall 55 [(.t t18), (.v (.string ⟨⟨[101, 108, 115, 101]⟩⟩))], none, none⟩])
 (xSeq (xOps [⟨(some t20), oMov (.t t0), none, none⟩,
   ⟨(some t21), oCall 56 [(.t t20)], none, none⟩,
   ⟨(some t6), oNew [(.string ⟨⟨[]⟩⟩), (.string ⟨⟨[]⟩⟩), (.int .i64 0), (.int .i64 0), (.int .i64 0), (.slice none 0 0)], none, none⟩,
   ⟨none, oStore 6 (.t t6) (.t t21), none, none⟩])
 (xSeq (xOps [⟨(some t22), oMov (.t t3), none, none⟩,
   ⟨(some t23), oLoadN 6 (.t t4), none, none⟩,
   ⟨(some t24), oLoadN 6 (.t t5), none, none⟩,
   ⟨(some t25), oLoadN 6 (.t t6), none, none⟩,
   ⟨(some t26), oBuildSlice 3 [(.string ⟨⟨[]⟩⟩), (.string ⟨⟨[]⟩⟩), (.int .i64 0), (.int .i64 0), (.int .i64 0), (.slice none 0 0), (.string ⟨⟨[]⟩⟩), (.string ⟨⟨[]⟩⟩), (.int .i64 0), (.int .i64 0), (.int .i64 0), (.slice none 0 0), (.string ⟨⟨[]⟩⟩), (.string ⟨⟨[]⟩⟩), (.int .i64 0), (.int .i64 0), (.int .i64 0), (.slice none 0 0)] [(0, 6, (.t t23)), (6, 6, (.t t24)), (12, 6, (.t t25))], none, none⟩,
   ⟨(some t27), oBuild [(.string ⟨⟨[]⟩⟩), (.string ⟨⟨[]⟩⟩), (.int .i64 0), (.int .i64 0), (.int .i64 0), (.slice none 0 0)] [(0, 1, (.v (.string ⟨⟨[105, 102]⟩⟩))), (4, 1, (.t t22)), (5, 1, (.t t26))], none, none⟩,
   ⟨none, oStore 6 (.t t2) (.t t27), none, none⟩])
 xRet))))))
 xSkip))
 (xSeq (xOps [⟨(some t28), oMov (.t t0), none, none⟩,
   ⟨(some t29), oCall 85 [(.t t28), (.v (.int .i64 0))], none, none⟩,
   ⟨none, oStore 6 (.t t2) (.t t29), none, none⟩])
 xRet))))⟩
theorem ok71 : cFunc Try.prog gl ex Try.f71 = some c71 := by kernel_rfl
/-- (*publican/publicanref9.parser).out -/
def c72 : AFunc := ⟨9, [],
 (xOps [⟨(some t2), oMov (.t t0), none, none⟩,
   ⟨(some t3), oNilCheck (.t t2), none, none⟩,
   ⟨(some t4), oFieldAddr 4 (.t t3), none, none⟩,
   ⟨(some t5), oLoad1 (.t t4), none, (some (.t t4))⟩,
   ⟨(some t6), oBin (int2 subO) (.t t5) (.v (.int .i64 1)), none, none⟩,
   ⟨(some t7), oNilCheck (.t t2), none, none⟩,
   ⟨(some t8), oFieldAddr 4 (.t t7), none, none⟩,
   ⟨none, oStore 1 (.t t8) (.t t6), none, none⟩])⟩
theorem ok72 : cFunc Try.prog gl ex Try.f72 = some c72 := by kernel_rfl
/-- (*publican/publicanref9.parser).islit -/
def c73 : AFunc := ⟨28, [.tmp t2],
 (xSeq (xOps [⟨(some t2), oMov (.v (.bool false)), none, none⟩])
 (xSeq (xOps [⟨(some t4), oMov (.t t0), none, none⟩,
   ⟨(some t5), oCall 51 [(.t t4)], none, none⟩,
   ⟨(some t6), oField none 0 (.t t5), none, none⟩,
   ⟨(some t3), oMov (.t t6), none, none⟩])
 (xSeq (xOps [⟨(some t7), oMov (.t t0), none, none⟩,
   ⟨(some t8), oNilCheck (.t t7), none, none⟩,
   ⟨(some t9), oFieldAddr 2 (.t t8), none, none⟩,
   ⟨(some t10), oLoad1 (.t t9), none, (some (.t t9))⟩,
   ⟨(some t11), oBin (int2 (cmpO ltI)) (.t t10) (.v (.int .i64 0)), none, none⟩,
   ⟨(some t12), oMov (.t t11), none, none⟩,
   ⟨(some t13), oMov (.t t3), (some (t12, true)), none⟩,
   ⟨(some t14), oBin (int2 (cmpO geI)) (.t t13) (.v (.int .i64 3)), (some (t12, true)), none⟩,
   ⟨(some t15), oMov (.t t14), (some (t12, true)), none⟩,
   ⟨(some t16), oMov (.t t3), (some (t15, true)), none⟩,
   ⟨(some t17), oBin (int2 (cmpO leI)) (.t t16) (.v (.int .i64 6)), (some (t15, true)), none⟩,
   ⟨(some t18), oPick (.t t15) (.t t17) (.v (.bool false)), (some (t12, true)), none⟩,
   ⟨(some t19), oMov (.t t18), (some (t12, true)), none⟩,
   ⟨(some t20), oMov (.t t0), (some (t19, false)), none⟩,
   ⟨(some t21), oCall 57 [(.t t20), (.v (.string ⟨⟨[116, 114, 117, 101]⟩⟩))], (some (t19, false)), none⟩,
   ⟨(some t22), oPick (.t t19) (.v (.bool true)) (.t t21), (some (t12, true)), none⟩,
   ⟨(some t23), oMov (.t t22), (some (t12, true)), none⟩,
   ⟨(some t24), oMov (.t t0), (some (t23, false)), none⟩,
   ⟨(some t25), oCall 57 [(.t t24), (.v (.string ⟨⟨[102, 97, 108, 115, 101]⟩⟩))], (some (t23, false)), none⟩,
   ⟨(some t26), oPick (.t t23) (.v (.bool true)) (.t t25), (some (t12, true)), none⟩,
   ⟨(some t27), oPick (.t t12) (.t t26) (.v (.bool false)), none, none⟩,
   ⟨(some t2), oMov (.t t27), none, none⟩])
 xRet)))⟩
theorem ok73 : cFunc Try.prog gl ex Try.f73 = some c73 := by kernel_rfl
/-- slices.Backward[[]publican/typ.Field,publican/typ.Field] -/
def c74 : AFunc := ⟨4, [.tmp t2],
 (xSeq (xOps [⟨(some t1), oBox (.t t0), none, none⟩,
   ⟨(some t2), oMov (.v .nilFunc), none, none⟩])
 (xSeq (xOps [⟨(some t3), oFunc (.func 86) [] [(.t t1)], none, none⟩,
   ⟨(some t2), oMov (.t t3), none, none⟩])
 xRet))⟩
theorem ok74 : cFunc Try.prog gl ex Try.f74 = some c74 := by kernel_rfl
/-- publican/typ.number -/
def c75 : AFunc := ⟨9, [.tmp t2],
 (xSeq (xOps [⟨(some t2), oMov (.v (.bool false)), none, none⟩])
 (xSeq (xOps [⟨(some t3), oMov (.t t0), none, none⟩,
   ⟨(some t4), oBin (int2 (cmpO geI)) (.t t3) (.v (.int .i64 2)), none, none⟩,
   ⟨(some t5), oMov (.t t4), none, none⟩,
   ⟨(some t6), oMov (.t t0), (some (t5, true)), none⟩,
   ⟨(some t7), oBin (int2 (cmpO leI)) (.t t6) (.v (.int .i64 4)), (some (t5, true)), none⟩,
   ⟨(some t8), oPick (.t t5) (.t t7) (.v (.bool false)), none, none⟩,
   ⟨(some t2), oMov (.t t8), none, none⟩])
 xRet))⟩
theorem ok75 : cFunc Try.prog gl ex Try.f75 = some c75 := by kernel_rfl
/-- slices.IndexFunc[[]publican/syn.Node,publican/syn.Node] -/
def c76 : AFunc := ⟨19, [.tmp t4],
 (xSeq (xOps [⟨(some t4), oMov (.v (.int .i64 0)), none, none⟩])
 (xSeq (xSeq (xOps [⟨(some t6), oMov (.t t0), none, none⟩,
   ⟨(some t7), oLenL (.t t6), none, none⟩,
   ⟨(some t8), oMov (.v (.int .i64 0)), none, none⟩])
 (xBlock 0 (xLoop (xSeq (xOps [⟨(some t9), oBin (int2 (cmpO ltI)) (.t t8) (.t t7), none, none⟩])
 (xSeq (xCond (.t t9)
 xSkip
 (xExit 0))
 (xSeq (xBlock 1 (xSeq (xOps [⟨(some t10), oMov (.t t8), none, none⟩,
   ⟨(some t5), oMov (.t t10), none, none⟩])
 (xSeq (xOps [⟨(some t11), oMov (.t t1), none, none⟩,
   ⟨(some t12), oMov (.t t0), none, none⟩,
   ⟨(some t13), oMov (.t t5), none, none⟩,
   ⟨(some t14), oIdxAddrL 6 (.t t12) (.t t13), none, none⟩,
   ⟨(some t15), oLoadN 6 (.t t14), none, none⟩,
   ⟨(some t16), oCallV (.t t11) [(.t t15)], none, none⟩])
 (xCond (.t t16)
 (xSeq (xOps [⟨(some t17), oMov (.t t5), none, none⟩,
   ⟨(some t4), oMov (.t t17), none, none⟩])
 xRet)
 xSkip))))
 (xOps [⟨(some t18), oBin (int2 addO) (.t t8) (.v (.int .i64 1)), none, none⟩,
   ⟨(some t8), oMov (.t t18), none, none⟩])))))))
 (xSeq (xOps [⟨(some t4), oMov (.v (.int .i64 (-1))), none, none⟩])
 xRet)))⟩
theorem ok76 : cFunc Try.prog gl ex Try.f76 = some c76 := by kernel_rfl
/-- (*publican/typ.checker).decl$1 -/
def c77 : AFunc := ⟨15, [.tmp t4],
 (xSeq (xOps [⟨(some t3), oBox (.t t0), none, none⟩,
   ⟨(some t4), oMov (.v (.bool false)), none, none⟩])
 (xSeq (xOps [⟨(some t5), oFieldAddr 1 (.t t3), none, none⟩,
   ⟨(some t6), oLoad1 (.t t5), none, (some (.t t5))⟩,
   ⟨(some t7), oLoad1 (.t t1), none, (some (.t t1))⟩,
   ⟨(some t8), oBin (str2 (cmpS eqBytes)) (.t t6) (.t t7), none, none⟩,
   ⟨(some t9), oMov (.t t8), none, none⟩,
   ⟨(some t10), oLoad1 (.t t2), (some (t9, true)), (some (.t t2))⟩,
   ⟨(some t11), oFieldAddr 0 (.t t3), (some (t9, true)), none⟩,
   ⟨(some t12), oLoad1 (.t t11), (some (t9, true)), (some (.t t11))⟩,
   ⟨(some t13), oCall 78 [(.t t10), (.t t12)], (some (t9, true)), none⟩,
   ⟨(some t14), oPick (.t t9) (.t t13) (.v (.bool false)), none, none⟩,
   ⟨(some t4), oMov (.t t14), none, none⟩])
 xRet))⟩
theorem ok77 : cFunc Try.prog gl ex Try.f77 = some c77 := by kernel_rfl
/-- slices.Contains[[]string,string] -/
def c78 : AFunc := ⟨9, [.tmp t4],
 (xSeq (xOps [⟨(some t4), oMov (.v (.bool false)), none, none⟩])
 (xSeq (xOps [⟨(some t5), oMov (.t t0), none, none⟩,
   ⟨(some t6), oMov (.t t1), none, none⟩,
   ⟨(some t7), oCall 87 [(.t t5), (.t t6)], none, none⟩,
   ⟨(some t8), oBin (int2 (cmpO geI)) (.t t7) (.v (.int .i64 0)), none, none⟩,
   ⟨(some t4), oMov (.t t8), none, none⟩])
 xRet))⟩
theorem ok78 : cFunc Try.prog gl ex Try.f78 = some c78 := by kernel_rfl
/-- slices.ContainsFunc[[]publican/typ.Field,publican/typ.Field] -/
def c79 : AFunc := ⟨9, [.tmp t4],
 (xSeq (xOps [⟨(some t4), oMov (.v (.bool false)), none, none⟩])
 (xSeq (xOps [⟨(some t5), oMov (.t t0), none, none⟩,
   ⟨(some t6), oMov (.t t1), none, none⟩,
   ⟨(some t7), oCall 88 [(.t t5), (.t t6)], none, none⟩,
   ⟨(some t8), oBin (int2 (cmpO geI)) (.t t7) (.v (.int .i64 0)), none, none⟩,
   ⟨(some t4), oMov (.t t8), none, none⟩])
 xRet))⟩
theorem ok79 : cFunc Try.prog gl ex Try.f79 = some c79 := by kernel_rfl
/-- (*publican/typ.checker).fold$1 -/
def c80 : AFunc := ⟨9, [.tmp t3],
 (xSeq (xOps [⟨(some t2), oBox (.t t0), none, none⟩,
   ⟨(some t3), oMov (.v (.bool false)), none, none⟩])
 (xSeq (xOps [⟨(some t4), oFieldAddr 0 (.t t2), none, none⟩,
   ⟨(some t5), oLoad1 (.t t4), none, (some (.t t4))⟩,
   ⟨(some t6), oFieldAddr 1 (.t t1), none, none⟩,
   ⟨(some t7), oLoad1 (.t t6), none, (some (.t t6))⟩,
   ⟨(some t8), oBin (str2 (cmpS eqBytes)) (.t t5) (.t t7), none, none⟩,
   ⟨(some t3), oMov (.t t8), none, none⟩])
 xRet))⟩
theorem ok80 : cFunc Try.prog gl ex Try.f80 = some c80 := by kernel_rfl
/-- publican/typ.sum -/
def c81 : AFunc := ⟨34, [.tmp t6],
 (xSeq (xOps [⟨(some t6), oMov (.v (.int .i64 0)), none, none⟩])
 (xSeq (xBlock 0 (xSeq (xOps [⟨(some t8), oMov (.t t1), none, none⟩,
   ⟨(some t9), oMov (.t t2), none, none⟩,
   ⟨(some t10), oBin (int2 (cmpO eqI)) (.t t8) (.t t9), none, none⟩,
   ⟨(some t11), oMov (.t t10), none, none⟩,
   ⟨(some t12), oMov (.t t1), (some (t11, true)), none⟩,
   ⟨(some t13), oCall 75 [(.t t12)], (some (t11, true)), none⟩,
   ⟨(some t14), oPick (.t t11) (.t t13) (.v (.bool false)), none, none⟩,
   ⟨(some t7), oMov (.t t14), none, none⟩])
 (xCond (.t t7)
 (xSeq (xOps [⟨(some t15), oMov (.t t1), none, none⟩,
   ⟨(some t6), oMov (.t t15), none, none⟩])
 xRet)
 (xSeq (xOps [⟨(some t17), oMov (.t t1), none, none⟩,
   ⟨(some t18), oBin (int2 (cmpO eqI)) (.t t17) (.v (.int .i64 5)), none, none⟩,
   ⟨(some t19), oMov (.t t18), none, none⟩,
   ⟨(some t20), oMov (.t t2), (some (t19, true)), none⟩,
   ⟨(some t21), oBin (int2 (cmpO eqI)) (.t t20) (.v (.int .i64 2)), (some (t19, true)), none⟩,
   ⟨(some t22), oPick (.t t19) (.t t21) (.v (.bool false)), none, none⟩,
   ⟨(some t16), oMov (.t t22), none, none⟩])
 (xCond (.t t16)
 (xSeq (xOps [⟨(some t6), oMov (.v (.int .i64 5)), none, none⟩])
 xRet)
 (xSeq (xOps [⟨(some t24), oMov (.t t1), none, none⟩,
   ⟨(some t25), oBin (int2 (cmpO eqI)) (.t t24) (.v (.int .i64 5)), none, none⟩,
   ⟨(some t26), oMov (.t t25), none, none⟩,
   ⟨(some t27), oMov (.t t2), (some (t26, true)), none⟩,
   ⟨(some t28), oBin (int2 (cmpO eqI)) (.t t27) (.v (.int .i64 5)), (some (t26, true)), none⟩,
   ⟨(some t29), oPick (.t t26) (.t t28) (.v (.bool false)), none, none⟩,
   ⟨(some t30), oMov (.t t29), none, none⟩,
   ⟨(some t31), oMov (.t t0), (some (t30, true)), none⟩,
   ⟨(some t32), oBin (str2 (cmpS eqBytes)) (.t t31) (.v (.string ⟨⟨[45]⟩⟩)), (some (t30, true)), none⟩,
   ⟨(some t33), oPick (.t t30) (.t t32) (.v (.bool false)), none, none⟩,
   ⟨(some t23), oMov (.t t33), none, none⟩])
 (xCond (.t t23)
 (xSeq (xOps [⟨(some t6), oMov (.v (.int .i64 2)), none, none⟩])
 xRet)
 xSkip)))))))
 (xSeq (xOps [⟨(some t6), oMov (.v (.int .i64 0)), none, none⟩])
 xRet)))⟩
theorem ok81 : cFunc Try.prog gl ex Try.f81 = some c81 := by kernel_rfl
end
end Go.Proofs.Ytcjamnbbedpebaa.AbsTypK
