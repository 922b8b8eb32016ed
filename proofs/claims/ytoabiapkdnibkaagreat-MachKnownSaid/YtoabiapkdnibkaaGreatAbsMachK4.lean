import Derived.Test.YtoabiapkdnibkaaGreatRows
import Derived.Test.YtoabiapkdnibkaaGreatAbsMachKT
import Derived.KernelRfl
namespace Go.Proofs.YtoabiapkdnibkaaGreat.AbsMachK
open Go Go.Abs Go.Proofs
set_option maxRecDepth 100000
set_option linter.unusedVariables false
noncomputable section
/-- publican/num.Add -/
def c149 : AFunc := ⟨17, [.tmp t4, .tmp t5],
 (xSeq (xOps [⟨(some t4), oMov (.v (.int .i64 0)), none, none⟩,
   ⟨(some t5), oMov (.v (.bool false)), none, none⟩])
 (xSeq (xOps [⟨(some t7), oMov (.t t0), none, none⟩,
   ⟨(some t8), oMov (.t t1), none, none⟩,
   ⟨(some t9), oBin (int2 addO) (.t t7) (.t t8), none, none⟩,
   ⟨(some t6), oMov (.t t9), none, none⟩])
 (xSeq (xSeq (xOps [⟨(some t10), oMov (.t t6), none, none⟩,
   ⟨(some t11), oMov (.t t0), none, none⟩,
   ⟨(some t12), oBin (int2 (cmpO ltI)) (.t t10) (.t t11), none, none⟩,
   ⟨(some t13), oMov (.t t1), none, none⟩,
   ⟨(some t14), oBin (int2 (cmpO ltI)) (.t t13) (.v (.int .i64 0)), none, none⟩,
   ⟨(some t15), oEqv eqB true (.t t12) (.t t14), none, none⟩])
 (xCond (.t t15)
 (xSeq (xOps [⟨(some t4), oMov (.v (.int .i64 0)), none, none⟩,
   ⟨(some t5), oMov (.v (.bool false)), none, none⟩])
 xRet)
 xSkip))
 (xSeq (xOps [⟨(some t16), oMov (.t t6), none, none⟩,
   ⟨(some t4), oMov (.t t16), none, none⟩,
   ⟨(some t5), oMov (.v (.bool true)), none, none⟩])
 xRet))))⟩
theorem ok149 : cFunc Tryz.prog gl ex Tryz.f149 = some c149 := by kernel_rfl
/-- publican/mean.made -/
def c150 : AFunc := ⟨21, [.cell t6 (some 3), .tmp t7],
 (xSeq (xOps [⟨(some t6), oNew [(.int .i64 0), (.int .i64 0), (.slice none 0 0)], none, none⟩,
   ⟨(some t7), oMov (.v (.int .i64 0)), none, none⟩])
 (xSeq (xSeq (xOps [⟨(some t8), oMov (.t t2), none, none⟩,
   ⟨(some t9), oMov (.t t8), none, none⟩,
   ⟨(some t10), oMov (.t t0), (some (t9, true)), none⟩,
   ⟨(some t11), oMov (.t t1), (some (t9, true)), none⟩,
   ⟨(some t12), oCall 61 [(.t t10), (.t t11)], (some (t9, true)), none⟩,
   ⟨(some t13), oPick (.t t9) (.t t12) (.v (.bool false)), none, none⟩])
 (xCond (.t t13)
 (xSeq (xOps [⟨(some t14), oMov (.t t0), none, none⟩,
   ⟨(some t15), oMov (.t t1), none, none⟩,
   ⟨(some t16), oBuild [(.int .i64 0), (.int .i64 0), (.slice none 0 0)] [(0, 1, (.t t14)), (1, 1, (.t t15))], none, none⟩,
   ⟨none, oStore 3 (.t t6) (.t t16), none, none⟩,
   ⟨(some t7), oMov (.v (.int .i64 0)), none, none⟩])
 xRet)
 xSkip))
 (xSeq (xSeq (xOps [⟨(some t17), oMov (.t t0), none, none⟩,
   ⟨(some t18), oBin (int2 (cmpO eqI)) (.t t17) (.v (.int .i64 5)), none, none⟩])
 (xCond (.t t18)
 (xSeq (xOps [⟨(some t19), oBuild [(.int .i64 0), (.int .i64 0), (.slice none 0 0)] [], none, none⟩,
   ⟨none, oStore 3 (.t t6) (.t t19), none, none⟩,
   ⟨(some t7), oMov (.v (.int .i64 12)), none, none⟩])
 xRet)
 xSkip))
 (xSeq (xOps [⟨(some t20), oBuild [(.int .i64 0), (.int .i64 0), (.slice none 0 0)] [], none, none⟩,
   ⟨none, oStore 3 (.t t6) (.t t20), none, none⟩,
   ⟨(some t7), oMov (.v (.int .i64 10)), none, none⟩])
 xRet))))⟩
theorem ok150 : cFunc Tryz.prog gl ex Tryz.f150 = some c150 := by kernel_rfl
/-- publican/num.Sub -/
def c151 : AFunc := ⟨17, [.tmp t4, .tmp t5],
 (xSeq (xOps [⟨(some t4), oMov (.v (.int .i64 0)), none, none⟩,
   ⟨(some t5), oMov (.v (.bool false)), none, none⟩])
 (xSeq (xOps [⟨(some t7), oMov (.t t0), none, none⟩,
   ⟨(some t8), oMov (.t t1), none, none⟩,
   ⟨(some t9), oBin (int2 subO) (.t t7) (.t t8), none, none⟩,
   ⟨(some t6), oMov (.t t9), none, none⟩])
 (xSeq (xSeq (xOps [⟨(some t10), oMov (.t t6), none, none⟩,
   ⟨(some t11), oMov (.t t0), none, none⟩,
   ⟨(some t12), oBin (int2 (cmpO gtI)) (.t t10) (.t t11), none, none⟩,
   ⟨(some t13), oMov (.t t1), none, none⟩,
   ⟨(some t14), oBin (int2 (cmpO ltI)) (.t t13) (.v (.int .i64 0)), none, none⟩,
   ⟨(some t15), oEqv eqB true (.t t12) (.t t14), none, none⟩])
 (xCond (.t t15)
 (xSeq (xOps [⟨(some t4), oMov (.v (.int .i64 0)), none, none⟩,
   ⟨(some t5), oMov (.v (.bool false)), none, none⟩])
 xRet)
 xSkip))
 (xSeq (xOps [⟨(some t16), oMov (.t t6), none, none⟩,
   ⟨(some t4), oMov (.t t16), none, none⟩,
   ⟨(some t5), oMov (.v (.bool true)), none, none⟩])
 xRet))))⟩
theorem ok151 : cFunc Tryz.prog gl ex Tryz.f151 = some c151 := by kernel_rfl
/-- publican/mean.times -/
def c152 : AFunc := ⟨44, [.cell t6 (some 3), .tmp t7],
 (xSeq (xOps [⟨(some t4), oBox (.t t1), none, none⟩,
   ⟨(some t5), oBox (.t t2), none, none⟩,
   ⟨(some t6), oNew [(.int .i64 0), (.int .i64 0), (.slice none 0 0)], none, none⟩,
   ⟨(some t7), oMov (.v (.int .i64 0)), none, none⟩])
 (xSeq (xOps [⟨(some t11), oFieldAddr 1 (.t t4), none, none⟩,
   ⟨(some t12), oLoad1 (.t t11), none, (some (.t t11))⟩,
   ⟨(some t13), oFieldAddr 1 (.t t5), none, none⟩,
   ⟨(some t14), oLoad1 (.t t13), none, (some (.t t13))⟩,
   ⟨(some t15), oCall 164 [(.t t12), (.t t14)], none, none⟩,
   ⟨(some t10), oMov (.t t15), none, none⟩,
   ⟨(some t16), oExtract (.t t10) 0, none, none⟩,
   ⟨(some t17), oExtract (.t t10) 1, none, none⟩,
   ⟨(some t8), oMov (.t t16), none, none⟩,
   ⟨(some t9), oMov (.t t17), none, none⟩])
 (xSeq (xSeq (xOps [⟨(some t18), oMov (.t t0), none, none⟩,
   ⟨(some t19), oBin (int2 (cmpO eqI)) (.t t18) (.v (.int .i64 3)), none, none⟩,
   ⟨(some t20), oMov (.t t19), none, none⟩,
   ⟨(some t21), oFieldAddr 0 (.t t4), (some (t20, true)), none⟩,
   ⟨(some t22), oLoad1 (.t t21), (some (t20, true)), (some (.t t21))⟩,
   ⟨(some t23), oBin (int2 (cmpO eqI)) (.t t22) (.v (.int .i64 4)), (some (t20, true)), none⟩,
   ⟨(some t24), oMov (.t t23), (some (t20, true)), none⟩,
   ⟨(some t25), oFieldAddr 0 (.t t5), (some (t24, false)), none⟩,
   ⟨(some t26), oLoad1 (.t t25), (some (t24, false)), (some (.t t25))⟩,
   ⟨(some t27), oBin (int2 (cmpO eqI)) (.t t26) (.v (.int .i64 4)), (some (t24, false)), none⟩,
   ⟨(some t28), oPick (.t t24) (.v (.bool true)) (.t t27), (some (t20, true)), none⟩,
   ⟨(some t29), oPick (.t t20) (.t t28) (.v (.bool false)), none, none⟩])
 (xCond (.t t29)
 (xOps [⟨(some t31), oFieldAddr 1 (.t t4), none, none⟩,
   ⟨(some t32), oLoad1 (.t t31), none, (some (.t t31))⟩,
   ⟨(some t33), oFieldAddr 1 (.t t5), none, none⟩,
   ⟨(some t34), oLoad1 (.t t33), none, (some (.t t33))⟩,
   ⟨(some t35), oCall 165 [(.t t32), (.t t34), (.v (.int .i64 1000000))], none, none⟩,
   ⟨(some t30), oMov (.t t35), none, none⟩,
   ⟨(some t36), oExtract (.t t30) 0, none, none⟩,
   ⟨(some t37), oExtract (.t t30) 1, none, none⟩,
   ⟨(some t8), oMov (.t t36), none, none⟩,
   ⟨(some t9), oMov (.t t37), none, none⟩])
 xSkip))
 (xSeq (xOps [⟨(some t38), oMov (.t t0), none, none⟩,
   ⟨(some t39), oMov (.t t8), none, none⟩,
   ⟨(some t40), oMov (.t t9), none, none⟩,
   ⟨(some t41), oCall 150 [(.t t38), (.t t39), (.t t40)], none, none⟩,
   ⟨(some t42), oExtract (.t t41) 0, none, none⟩,
   ⟨(some t43), oExtract (.t t41) 1, none, none⟩,
   ⟨none, oStore 3 (.t t6) (.t t42), none, none⟩,
   ⟨(some t7), oMov (.t t43), none, none⟩])
 xRet))))⟩
theorem ok152 : cFunc Tryz.prog gl ex Tryz.f152 = some c152 := by kernel_rfl
/-- publican/mean.over -/
def c153 : AFunc := ⟨73, [.cell t6 (some 3), .tmp t7],
 (xSeq (xOps [⟨(some t4), oBox (.t t1), none, none⟩,
   ⟨(some t5), oBox (.t t2), none, none⟩,
   ⟨(some t6), oNew [(.int .i64 0), (.int .i64 0), (.slice none 0 0)], none, none⟩,
   ⟨(some t7), oMov (.v (.int .i64 0)), none, none⟩])
 (xSeq (xSeq (xOps [⟨(some t15), oFieldAddr 1 (.t t5), none, none⟩,
   ⟨(some t16), oLoad1 (.t t15), none, (some (.t t15))⟩,
   ⟨(some t17), oBin (int2 (cmpO eqI)) (.t t16) (.v (.int .i64 0)), none, none⟩])
 (xCond (.t t17)
 (xSeq (xOps [⟨(some t18), oBuild [(.int .i64 0), (.int .i64 0), (.slice none 0 0)] [], none, none⟩,
   ⟨none, oStore 3 (.t t6) (.t t18), none, none⟩,
   ⟨(some t7), oMov (.v (.int .i64 11)), none, none⟩])
 xRet)
 xSkip))
 (xSeq (xSeq (xOps [⟨(some t19), oMov (.t t0), none, none⟩,
   ⟨(some t20), oBin (int2 (cmpO neI)) (.t t19) (.v (.int .i64 4)), none, none⟩])
 (xCond (.t t20)
 (xSeq (xOps [⟨(some t22), oFieldAddr 1 (.t t4), none, none⟩,
   ⟨(some t23), oLoad1 (.t t22), none, (some (.t t22))⟩,
   ⟨(some t24), oFieldAddr 1 (.t t5), none, none⟩,
   ⟨(some t25), oLoad1 (.t t24), none, (some (.t t24))⟩,
   ⟨(some t26), oCall 166 [(.t t23), (.t t25)], none, none⟩,
   ⟨(some t21), oMov (.t t26), none, none⟩,
   ⟨(some t27), oExtract (.t t21) 0, none, none⟩,
   ⟨(some t28), oExtract (.t t21) 1, none, none⟩,
   ⟨(some t8), oMov (.t t27), none, none⟩,
   ⟨(some t9), oMov (.t t28), none, none⟩])
 (xSeq (xOps [⟨(some t29), oMov (.t t0), none, none⟩,
   ⟨(some t30), oMov (.t t8), none, none⟩,
   ⟨(some t31), oMov (.t t9), none, none⟩,
   ⟨(some t32), oCall 150 [(.t t29), (.t t30), (.t t31)], none, none⟩,
   ⟨(some t33), oExtract (.t t32) 0, none, none⟩,
   ⟨(some t34), oExtract (.t t32) 1, none, none⟩,
   ⟨none, oStore 3 (.t t6) (.t t33), none, none⟩,
   ⟨(some t7), oMov (.t t34), none, none⟩])
 xRet))
 xSkip))
 (xSeq (xReg [⟨(some t35), oFieldAddr 1 (.t t4), none, none⟩,
   ⟨(some t36), oLoad1 (.t t35), none, (some (.t t35))⟩,
   ⟨(some t37), oFieldAddr 1 (.t t5), none, none⟩,
   ⟨(some t38), oLoad1 (.t t37), none, (some (.t t37))⟩,
   ⟨(some t10), oMov (.t t36), none, none⟩,
   ⟨(some t11), oMov (.t t38), none, none⟩,
   ⟨(some t12), oMov (.v (.bool true)), none, none⟩] [(0, 2), (1, 2), (0, 3), (1, 3), (2, 4), (3, 4)])
 (xSeq (xSeq (xOps [⟨(some t39), oMov (.t t11), none, none⟩,
   ⟨(some t40), oBin (int2 (cmpO ltI)) (.t t39) (.v (.int .i64 0)), none, none⟩])
 (xCond (.t t40)
 (xSeq (xOps [⟨(some t13), oMov (.v (.bool false)), none, none⟩])
 (xSeq (xOps [⟨(some t42), oMov (.t t10), none, none⟩,
   ⟨(some t43), oCall 151 [(.v (.int .i64 0)), (.t t42)], none, none⟩,
   ⟨(some t41), oMov (.t t43), none, none⟩,
   ⟨(some t44), oExtract (.t t41) 0, none, none⟩,
   ⟨(some t45), oExtract (.t t41) 1, none, none⟩,
   ⟨(some t10), oMov (.t t44), none, none⟩,
   ⟨(some t12), oMov (.t t45), none, none⟩])
 (xSeq (xOps [⟨(some t47), oMov (.t t11), none, none⟩,
   ⟨(some t48), oCall 151 [(.v (.int .i64 0)), (.t t47)], none, none⟩,
   ⟨(some t46), oMov (.t t48), none, none⟩,
   ⟨(some t49), oExtract (.t t46) 0, none, none⟩,
   ⟨(some t50), oExtract (.t t46) 1, none, none⟩,
   ⟨(some t11), oMov (.t t49), none, none⟩,
   ⟨(some t13), oMov (.t t50), none, none⟩])
 (xOps [⟨(some t51), oMov (.t t12), none, none⟩,
   ⟨(some t52), oMov (.t t51), none, none⟩,
   ⟨(some t53), oMov (.t t13), (some (t52, true)), none⟩,
   ⟨(some t54), oPick (.t t52) (.t t53) (.v (.bool false)), none, none⟩,
   ⟨(some t12), oMov (.t t54), none, none⟩]))))
 xSkip))
 (xSeq (xSeq (xOps [⟨(some t55), oMov (.t t12), none, none⟩,
   ⟨(some t56), oNot (.t t55), none, none⟩])
 (xCond (.t t56)
 (xSeq (xOps [⟨(some t57), oMov (.t t0), none, none⟩,
   ⟨(some t58), oCall 150 [(.t t57), (.v (.int .i64 0)), (.v (.bool false))], none, none⟩,
   ⟨(some t59), oExtract (.t t58) 0, none, none⟩,
   ⟨(some t60), oExtract (.t t58) 1, none, none⟩,
   ⟨none, oStore 3 (.t t6) (.t t59), none, none⟩,
   ⟨(some t7), oMov (.t t60), none, none⟩])
 xRet)
 xSkip))
 (xSeq (xOps [⟨(some t62), oMov (.t t10), none, none⟩,
   ⟨(some t63), oMov (.t t11), none, none⟩,
   ⟨(some t64), oCall 165 [(.t t62), (.v (.int .i64 1000000)), (.t t63)], none, none⟩,
   ⟨(some t61), oMov (.t t64), none, none⟩,
   ⟨(some t65), oExtract (.t t61) 0, none, none⟩,
   ⟨(some t66), oExtract (.t t61) 1, none, none⟩,
   ⟨(some t14), oMov (.t t65), none, none⟩,
   ⟨(some t12), oMov (.t t66), none, none⟩])
 (xSeq (xOps [⟨(some t67), oMov (.t t0), none, none⟩,
   ⟨(some t68), oMov (.t t14), none, none⟩,
   ⟨(some t69), oMov (.t t12), none, none⟩,
   ⟨(some t70), oCall 150 [(.t t67), (.t t68), (.t t69)], none, none⟩,
   ⟨(some t71), oExtract (.t t70) 0, none, none⟩,
   ⟨(some t72), oExtract (.t t70) 1, none, none⟩,
   ⟨none, oStore 3 (.t t6) (.t t71), none, none⟩,
   ⟨(some t7), oMov (.t t72), none, none⟩])
 xRet))))))))⟩
theorem ok153 : cFunc Tryz.prog gl ex Tryz.f153 = some c153 := by kernel_rfl
/-- publican/mean.truth -/
def c154 : AFunc := ⟨7, [.cell t2 (some 3), .tmp t3],
 (xSeq (xOps [⟨(some t2), oNew [(.int .i64 0), (.int .i64 0), (.slice none 0 0)], none, none⟩,
   ⟨(some t3), oMov (.v (.int .i64 0)), none, none⟩])
 (xSeq (xSeq (xOps [⟨(some t4), oMov (.t t0), none, none⟩])
 (xCond (.t t4)
 (xSeq (xOps [⟨(some t5), oBuild [(.int .i64 0), (.int .i64 0), (.slice none 0 0)] [(0, 1, (.v (.int .i64 1))), (1, 1, (.v (.int .i64 1)))], none, none⟩,
   ⟨none, oStore 3 (.t t2) (.t t5), none, none⟩,
   ⟨(some t3), oMov (.v (.int .i64 0)), none, none⟩])
 xRet)
 xSkip))
 (xSeq (xOps [⟨(some t6), oBuild [(.int .i64 0), (.int .i64 0), (.slice none 0 0)] [(0, 1, (.v (.int .i64 1)))], none, none⟩,
   ⟨none, oStore 3 (.t t2) (.t t6), none, none⟩,
   ⟨(some t3), oMov (.v (.int .i64 0)), none, none⟩])
 xRet)))⟩
theorem ok154 : cFunc Tryz.prog gl ex Tryz.f154 = some c154 := by kernel_rfl
/-- slices.IndexFunc[[]publican/api.Kind,publican/api.Kind] -/
def c156 : AFunc := ⟨19, [.tmp t4],
 (xSeq (xOps [⟨(some t4), oMov (.v (.int .i64 0)), none, none⟩])
 (xSeq (xSeq (xOps [⟨(some t6), oMov (.t t0), none, none⟩,
   ⟨(some t7), oLenL (.t t6), none, none⟩,
   ⟨(some t8), oMov (.v (.int .i64 0)), none, none⟩])
 (xBlock 0 (xLoop (xSeq (xOps [⟨(some t9), oBin (int2 (cmpO ltI)) (.t t8) (.t t7), none, none⟩])
 (xSeq (xCond (.t t9)
 xSkip
 (xExit 0))
 (xSeq (xBlock 1 (xSeq (xOps [⟨(some t10), oMov (.t t8), none, none⟩,
   ⟨(some t5), oMov (.t t10), none, none⟩])
 (xSeq (xOps [⟨(some t11), oMov (.t t1), none, none⟩,
   ⟨(some t12), oMov (.t t0), none, none⟩,
   ⟨(some t13), oMov (.t t5), none, none⟩,
   ⟨(some t14), oIdxAddrL 1 (.t t12) (.t t13), none, none⟩,
   ⟨(some t15), oLoad1 (.t t14), none, (some (.t t14))⟩,
   ⟨(some t16), oCallV (.t t11) [(.t t15)], none, none⟩])
 (xCond (.t t16)
 (xSeq (xOps [⟨(some t17), oMov (.t t5), none, none⟩,
   ⟨(some t4), oMov (.t t17), none, none⟩])
 xRet)
 xSkip))))
 (xOps [⟨(some t18), oBin (int2 addO) (.t t8) (.v (.int .i64 1)), none, none⟩,
   ⟨(some t8), oMov (.t t18), none, none⟩])))))))
 (xSeq (xOps [⟨(some t4), oMov (.v (.int .i64 (-1))), none, none⟩])
 xRet)))⟩
theorem ok156 : cFunc Tryz.prog gl ex Tryz.f156 = some c156 := by kernel_rfl
/-- publican/verify.two -/
def c157 : AFunc := ⟨87, [.tmp t8],
 (xSeq (xOps [⟨(some t8), oMov (.v (.bool false)), none, none⟩])
 (xSeq (xOps [⟨(some t10), oMov (.t t2), none, none⟩,
   ⟨(some t11), oMov (.t t1), none, none⟩,
   ⟨(some t12), oBin (int2 (cmpO eqI)) (.t t10) (.t t11), none, none⟩,
   ⟨(some t13), oMov (.t t12), none, none⟩,
   ⟨(some t14), oMov (.t t3), (some (t13, true)), none⟩,
   ⟨(some t15), oBin (int2 (cmpO eqI)) (.t t14) (.v (.int .i64 2)), (some (t13, true)), none⟩,
   ⟨(some t16), oPick (.t t13) (.t t15) (.v (.bool false)), none, none⟩,
   ⟨(some t9), oMov (.t t16), none, none⟩])
 (xSeq (xSeq (xOps [⟨(some t17), oMov (.t t0), none, none⟩])
 (xBlock 0 (xSeq (xSeq (xOps [⟨(some t19), oBin (int2 (cmpO eqI)) (.t t17) (.v (.int .i64 4)), none, none⟩,
   ⟨(some t18), oMov (.t t19), none, none⟩])
 (xCond (.t t18)
 xSkip
 (xOps [⟨(some t20), oBin (int2 (cmpO eqI)) (.t t17) (.v (.int .i64 5)), none, none⟩,
   ⟨(some t18), oMov (.t t20), none, none⟩])))
 (xCond (.t t18)
 (xSeq (xSeq (xOps [⟨(some t21), oMov (.t t1), none, none⟩,
   ⟨(some t22), oBin (int2 (cmpO eqI)) (.t t21) (.v (.int .i64 5)), none, none⟩])
 (xCond (.t t22)
 (xSeq (xOps [⟨(some t23), oMov (.t t9), none, none⟩,
   ⟨(some t8), oMov (.t t23), none, none⟩])
 xRet)
 xSkip))
 (xSeq (xOps [⟨(some t24), oMov (.t t2), none, none⟩,
   ⟨(some t25), oMov (.t t1), none, none⟩,
   ⟨(some t26), oBin (int2 (cmpO eqI)) (.t t24) (.t t25), none, none⟩,
   ⟨(some t27), oMov (.t t26), none, none⟩,
   ⟨(some t28), oMov (.t t3), (some (t27, true)), none⟩,
   ⟨(some t29), oMov (.t t1), (some (t27, true)), none⟩,
   ⟨(some t30), oBin (int2 (cmpO eqI)) (.t t28) (.t t29), (some (t27, true)), none⟩,
   ⟨(some t31), oPick (.t t27) (.t t30) (.v (.bool false)), none, none⟩,
   ⟨(some t32), oMov (.t t31), none, none⟩,
   ⟨(some t33), oMov (.t t0), (some (t32, false)), none⟩,
   ⟨(some t34), oBin (int2 (cmpO eqI)) (.t t33) (.v (.int .i64 5)), (some (t32, false)), none⟩,
   ⟨(some t35), oMov (.t t34), (some (t32, false)), none⟩,
   ⟨(some t36), oMov (.t t1), (some (t35, true)), none⟩,
   ⟨(some t37), oBin (int2 (cmpO eqI)) (.t t36) (.v (.int .i64 2)), (some (t35, true)), none⟩,
   ⟨(some t38), oPick (.t t35) (.t t37) (.v (.bool false)), (some (t32, false)), none⟩,
   ⟨(some t39), oMov (.t t38), (some (t32, false)), none⟩,
   ⟨(some t40), oMov (.t t2), (some (t39, true)), none⟩,
   ⟨(some t41), oBin (int2 (cmpO eqI)) (.t t40) (.v (.int .i64 5)), (some (t39, true)), none⟩,
   ⟨(some t42), oPick (.t t39) (.t t41) (.v (.bool false)), (some (t32, false)), none⟩,
   ⟨(some t43), oMov (.t t42), (some (t32, false)), none⟩,
   ⟨(some t44), oMov (.t t3), (some (t43, true)), none⟩,
   ⟨(some t45), oBin (int2 (cmpO eqI)) (.t t44) (.v (.int .i64 5)), (some (t43, true)), none⟩,
   ⟨(some t46), oPick (.t t43) (.t t45) (.v (.bool false)), (some (t32, false)), none⟩,
   ⟨(some t47), oPick (.t t32) (.v (.bool true)) (.t t46), none, none⟩,
   ⟨(some t8), oMov (.t t47), none, none⟩])
 xRet))
 (xSeq (xOps [⟨(some t49), oBin (int2 (cmpO eqI)) (.t t17) (.v (.int .i64 6)), none, none⟩,
   ⟨(some t48), oMov (.t t49), none, none⟩])
 (xCond (.t t48)
 (xSeq (xSeq (xOps [⟨(some t50), oMov (.t t9), none, none⟩,
   ⟨(some t51), oMov (.t t50), none, none⟩,
   ⟨(some t52), oMov (.t t2), (some (t51, false)), none⟩,
   ⟨(some t53), oBin (int2 (cmpO eqI)) (.t t52) (.v (.int .i64 2)), (some (t51, false)), none⟩,
   ⟨(some t54), oMov (.t t53), (some (t51, false)), none⟩,
   ⟨(some t55), oMov (.t t3), (some (t54, true)), none⟩,
   ⟨(some t56), oMov (.t t1), (some (t54, true)), none⟩,
   ⟨(some t57), oBin (int2 (cmpO eqI)) (.t t55) (.t t56), (some (t54, true)), none⟩,
   ⟨(some t58), oPick (.t t54) (.t t57) (.v (.bool false)), (some (t51, false)), none⟩,
   ⟨(some t59), oPick (.t t51) (.v (.bool true)) (.t t58), none, none⟩])
 (xCond (.t t59)
 (xSeq (xOps [⟨(some t8), oMov (.v (.bool true)), none, none⟩])
 xRet)
 xSkip))
 (xSeq (xOps [⟨(some t60), oMov (.t t1), none, none⟩,
   ⟨(some t61), oBin (int2 (cmpO eqI)) (.t t60) (.v (.int .i64 3)), none, none⟩,
   ⟨(some t62), oMov (.t t61), none, none⟩,
   ⟨(some t63), oMov (.t t2), (some (t62, true)), none⟩,
   ⟨(some t64), oBin (int2 (cmpO eqI)) (.t t63) (.v (.int .i64 3)), (some (t62, true)), none⟩,
   ⟨(some t65), oMov (.t t64), (some (t62, true)), none⟩,
   ⟨(some t66), oMov (.t t3), (some (t65, true)), none⟩,
   ⟨(some t67), oBin (int2 (cmpO eqI)) (.t t66) (.v (.int .i64 4)), (some (t65, true)), none⟩,
   ⟨(some t68), oPick (.t t65) (.t t67) (.v (.bool false)), (some (t62, true)), none⟩,
   ⟨(some t69), oMov (.t t68), (some (t62, true)), none⟩,
   ⟨(some t70), oMov (.t t2), (some (t69, false)), none⟩,
   ⟨(some t71), oBin (int2 (cmpO eqI)) (.t t70) (.v (.int .i64 4)), (some (t69, false)), none⟩,
   ⟨(some t72), oMov (.t t71), (some (t69, false)), none⟩,
   ⟨(some t73), oMov (.t t3), (some (t72, true)), none⟩,
   ⟨(some t74), oBin (int2 (cmpO eqI)) (.t t73) (.v (.int .i64 3)), (some (t72, true)), none⟩,
   ⟨(some t75), oPick (.t t72) (.t t74) (.v (.bool false)), (some (t69, false)), none⟩,
   ⟨(some t76), oPick (.t t69) (.v (.bool true)) (.t t75), (some (t62, true)), none⟩,
   ⟨(some t77), oPick (.t t62) (.t t76) (.v (.bool false)), none, none⟩,
   ⟨(some t8), oMov (.t t77), none, none⟩])
 xRet))
 xSkip))))))
 (xSeq (xSeq (xOps [⟨(some t78), oMov (.t t1), none, none⟩,
   ⟨(some t79), oBin (int2 (cmpO eqI)) (.t t78) (.v (.int .i64 4)), none, none⟩])
 (xCond (.t t79)
 (xSeq (xOps [⟨(some t80), oMov (.t t2), none, none⟩,
   ⟨(some t81), oBin (int2 (cmpO eqI)) (.t t80) (.v (.int .i64 3)), none, none⟩,
   ⟨(some t82), oMov (.t t81), none, none⟩,
   ⟨(some t83), oMov (.t t3), (some (t82, true)), none⟩,
   ⟨(some t84), oBin (int2 (cmpO eqI)) (.t t83) (.v (.int .i64 3)), (some (t82, true)), none⟩,
   ⟨(some t85), oPick (.t t82) (.t t84) (.v (.bool false)), none, none⟩,
   ⟨(some t8), oMov (.t t85), none, none⟩])
 xRet)
 xSkip))
 (xSeq (xOps [⟨(some t86), oMov (.t t9), none, none⟩,
   ⟨(some t8), oMov (.t t86), none, none⟩])
 xRet)))))⟩
theorem ok157 : cFunc Tryz.prog gl ex Tryz.f157 = some c157 := by kernel_rfl
/-- slices.IndexFunc[[]publican/verify.loop,publican/verify.loop] -/
def c158 : AFunc := ⟨19, [.tmp t4],
 (xSeq (xOps [⟨(some t4), oMov (.v (.int .i64 0)), none, none⟩])
 (xSeq (xSeq (xOps [⟨(some t6), oMov (.t t0), none, none⟩,
   ⟨(some t7), oLenL (.t t6), none, none⟩,
   ⟨(some t8), oMov (.v (.int .i64 0)), none, none⟩])
 (xBlock 0 (xLoop (xSeq (xOps [⟨(some t9), oBin (int2 (cmpO ltI)) (.t t8) (.t t7), none, none⟩])
 (xSeq (xCond (.t t9)
 xSkip
 (xExit 0))
 (xSeq (xBlock 1 (xSeq (xOps [⟨(some t10), oMov (.t t8), none, none⟩,
   ⟨(some t5), oMov (.t t10), none, none⟩])
 (xSeq (xOps [⟨(some t11), oMov (.t t1), none, none⟩,
   ⟨(some t12), oMov (.t t0), none, none⟩,
   ⟨(some t13), oMov (.t t5), none, none⟩,
   ⟨(some t14), oIdxAddrL 2 (.t t12) (.t t13), none, none⟩,
   ⟨(some t15), oLoadN 2 (.t t14), none, none⟩,
   ⟨(some t16), oCallV (.t t11) [(.t t15)], none, none⟩])
 (xCond (.t t16)
 (xSeq (xOps [⟨(some t17), oMov (.t t5), none, none⟩,
   ⟨(some t4), oMov (.t t17), none, none⟩])
 xRet)
 xSkip))))
 (xOps [⟨(some t18), oBin (int2 addO) (.t t8) (.v (.int .i64 1)), none, none⟩,
   ⟨(some t8), oMov (.t t18), none, none⟩])))))))
 (xSeq (xOps [⟨(some t4), oMov (.v (.int .i64 (-1))), none, none⟩])
 xRet)))⟩
theorem ok158 : cFunc Tryz.prog gl ex Tryz.f158 = some c158 := by kernel_rfl
/-- publican/typ.One -/
def c159 : AFunc := ⟨20, [.tmp t4],
 (xSeq (xOps [⟨(some t4), oMov (.v (.int .i64 0)), none, none⟩])
 (xSeq (xSeq (xOps [⟨(some t5), oMov (.t t0), none, none⟩,
   ⟨(some t6), oBin (str2 (cmpS eqBytes)) (.t t5) (.v (.string ⟨⟨[110, 111, 116]⟩⟩)), none, none⟩,
   ⟨(some t7), oMov (.t t6), none, none⟩,
   ⟨(some t8), oMov (.t t1), (some (t7, true)), none⟩,
   ⟨(some t9), oBin (int2 (cmpO eqI)) (.t t8) (.v (.int .i64 1)), (some (t7, true)), none⟩,
   ⟨(some t10), oPick (.t t7) (.t t9) (.v (.bool false)), none, none⟩,
   ⟨(some t11), oMov (.t t10), none, none⟩,
   ⟨(some t12), oMov (.t t0), (some (t11, false)), none⟩,
   ⟨(some t13), oBin (str2 (cmpS eqBytes)) (.t t12) (.v (.string ⟨⟨[110, 101, 103]⟩⟩)), (some (t11, false)), none⟩,
   ⟨(some t14), oMov (.t t13), (some (t11, false)), none⟩,
   ⟨(some t15), oMov (.t t1), (some (t14, true)), none⟩,
   ⟨(some t16), oCall 167 [(.t t15)], (some (t14, true)), none⟩,
   ⟨(some t17), oPick (.t t14) (.t t16) (.v (.bool false)), (some (t11, false)), none⟩,
   ⟨(some t18), oPick (.t t11) (.v (.bool true)) (.t t17), none, none⟩])
 (xCond (.t t18)
 (xSeq (xOps [⟨(some t19), oMov (.t t1), none, none⟩,
   ⟨(some t4), oMov (.t t19), none, none⟩])
 xRet)
 xSkip))
 (xSeq (xOps [⟨(some t4), oMov (.v (.int .i64 0)), none, none⟩])
 xRet)))⟩
theorem ok159 : cFunc Tryz.prog gl ex Tryz.f159 = some c159 := by kernel_rfl
/-- publican/typ.sum -/
def c160 : AFunc := ⟨34, [.tmp t6],
 (xSeq (xOps [⟨(some t6), oMov (.v (.int .i64 0)), none, none⟩])
 (xSeq (xBlock 0 (xSeq (xOps [⟨(some t8), oMov (.t t1), none, none⟩,
   ⟨(some t9), oMov (.t t2), none, none⟩,
   ⟨(some t10), oBin (int2 (cmpO eqI)) (.t t8) (.t t9), none, none⟩,
   ⟨(some t11), oMov (.t t10), none, none⟩,
   ⟨(some t12), oMov (.t t1), (some (t11, true)), none⟩,
   ⟨(some t13), oCall 167 [(.t t12)], (some (t11, true)), none⟩,
   ⟨(some t14), oPick (.t t11) (.t t13) (.v (.bool false)), none, none⟩,
   ⟨(some t7), oMov (.t t14), none, none⟩])
 (xCond (.t t7)
 (xSeq (xOps [⟨(some t15), oMov (.t t1), none, none⟩,
   ⟨(some t6), oMov (.t t15), none, none⟩])
 xRet)
 (xSeq (xOps [⟨(some t17), oMov (.t t1), none, none⟩,
   ⟨(some t18), oBin (int2 (cmpO eqI)) (.t t17) (.v (.int .i64 5)), none, none⟩,
   ⟨(some t19), oMov (.t t18), none, none⟩,
   ⟨(some t20), oMov (.t t2), (some (t19, true)), none⟩,
   ⟨(some t21), oBin (int2 (cmpO eqI)) (.t t20) (.v (.int .i64 2)), (some (t19, true)), none⟩,
   ⟨(some t22), oPick (.t t19) (.t t21) (.v (.bool false)), none, none⟩,
   ⟨(some t16), oMov (.t t22), none, none⟩])
 (xCond (.t t16)
 (xSeq (xOps [⟨(some t6), oMov (.v (.int .i64 5)), none, none⟩])
 xRet)
 (xSeq (xOps [⟨(some t24), oMov (.t t1), none, none⟩,
   ⟨(some t25), oBin (int2 (cmpO eqI)) (.t t24) (.v (.int .i64 5)), none, none⟩,
   ⟨(some t26), oMov (.t t25), none, none⟩,
   ⟨(some t27), oMov (.t t2), (some (t26, true)), none⟩,
   ⟨(some t28), oBin (int2 (cmpO eqI)) (.t t27) (.v (.int .i64 5)), (some (t26, true)), none⟩,
   ⟨(some t29), oPick (.t t26) (.t t28) (.v (.bool false)), none, none⟩,
   ⟨(some t30), oMov (.t t29), none, none⟩,
   ⟨(some t31), oMov (.t t0), (some (t30, true)), none⟩,
   ⟨(some t32), oBin (str2 (cmpS eqBytes)) (.t t31) (.v (.string ⟨⟨[45]⟩⟩)), (some (t30, true)), none⟩,
   ⟨(some t33), oPick (.t t30) (.t t32) (.v (.bool false)), none, none⟩,
   ⟨(some t23), oMov (.t t33), none, none⟩])
 (xCond (.t t23)
 (xSeq (xOps [⟨(some t6), oMov (.v (.int .i64 2)), none, none⟩])
 xRet)
 xSkip)))))))
 (xSeq (xOps [⟨(some t6), oMov (.v (.int .i64 0)), none, none⟩])
 xRet)))⟩
theorem ok160 : cFunc Tryz.prog gl ex Tryz.f160 = some c160 := by kernel_rfl
/-- publican/typ.product -/
def c161 : AFunc := ⟨25, [.tmp t4],
 (xSeq (xOps [⟨(some t4), oMov (.v (.int .i64 0)), none, none⟩])
 (xSeq (xSeq (xOps [⟨(some t5), oMov (.t t0), none, none⟩,
   ⟨(some t6), oMov (.t t1), none, none⟩,
   ⟨(some t7), oBin (int2 (cmpO gtI)) (.t t5) (.t t6), none, none⟩])
 (xCond (.t t7)
 (xOps [⟨(some t8), oMov (.t t1), none, none⟩,
   ⟨(some t9), oMov (.t t0), none, none⟩,
   ⟨(some t0), oMov (.t t8), none, none⟩,
   ⟨(some t1), oMov (.t t9), none, none⟩])
 xSkip))
 (xSeq (xBlock 0 (xSeq (xOps [⟨(some t11), oMov (.t t0), none, none⟩,
   ⟨(some t12), oBin (int2 (cmpO eqI)) (.t t11) (.v (.int .i64 2)), none, none⟩,
   ⟨(some t13), oMov (.t t12), none, none⟩,
   ⟨(some t14), oMov (.t t1), (some (t13, true)), none⟩,
   ⟨(some t15), oCall 167 [(.t t14)], (some (t13, true)), none⟩,
   ⟨(some t16), oPick (.t t13) (.t t15) (.v (.bool false)), none, none⟩,
   ⟨(some t10), oMov (.t t16), none, none⟩])
 (xCond (.t t10)
 (xSeq (xOps [⟨(some t17), oMov (.t t1), none, none⟩,
   ⟨(some t4), oMov (.t t17), none, none⟩])
 xRet)
 (xSeq (xOps [⟨(some t19), oMov (.t t0), none, none⟩,
   ⟨(some t20), oBin (int2 (cmpO eqI)) (.t t19) (.v (.int .i64 3)), none, none⟩,
   ⟨(some t21), oMov (.t t20), none, none⟩,
   ⟨(some t22), oMov (.t t1), (some (t21, true)), none⟩,
   ⟨(some t23), oBin (int2 (cmpO eqI)) (.t t22) (.v (.int .i64 4)), (some (t21, true)), none⟩,
   ⟨(some t24), oPick (.t t21) (.t t23) (.v (.bool false)), none, none⟩,
   ⟨(some t18), oMov (.t t24), none, none⟩])
 (xCond (.t t18)
 (xSeq (xOps [⟨(some t4), oMov (.v (.int .i64 3)), none, none⟩])
 xRet)
 xSkip)))))
 (xSeq (xOps [⟨(some t4), oMov (.v (.int .i64 0)), none, none⟩])
 xRet))))⟩
theorem ok161 : cFunc Tryz.prog gl ex Tryz.f161 = some c161 := by kernel_rfl
/-- publican/typ.quotient -/
def c162 : AFunc := ⟨24, [.tmp t4],
 (xSeq (xOps [⟨(some t4), oMov (.v (.int .i64 0)), none, none⟩])
 (xSeq (xBlock 0 (xSeq (xOps [⟨(some t6), oMov (.t t1), none, none⟩,
   ⟨(some t7), oBin (int2 (cmpO eqI)) (.t t6) (.v (.int .i64 2)), none, none⟩,
   ⟨(some t8), oMov (.t t7), none, none⟩,
   ⟨(some t9), oMov (.t t0), (some (t8, true)), none⟩,
   ⟨(some t10), oBin (int2 (cmpO eqI)) (.t t9) (.v (.int .i64 2)), (some (t8, true)), none⟩,
   ⟨(some t11), oMov (.t t10), (some (t8, true)), none⟩,
   ⟨(some t12), oMov (.t t0), (some (t11, false)), none⟩,
   ⟨(some t13), oBin (int2 (cmpO eqI)) (.t t12) (.v (.int .i64 3)), (some (t11, false)), none⟩,
   ⟨(some t14), oPick (.t t11) (.v (.bool true)) (.t t13), (some (t8, true)), none⟩,
   ⟨(some t15), oPick (.t t8) (.t t14) (.v (.bool false)), none, none⟩,
   ⟨(some t5), oMov (.t t15), none, none⟩])
 (xCond (.t t5)
 (xSeq (xOps [⟨(some t16), oMov (.t t0), none, none⟩,
   ⟨(some t4), oMov (.t t16), none, none⟩])
 xRet)
 (xSeq (xOps [⟨(some t18), oMov (.t t0), none, none⟩,
   ⟨(some t19), oBin (int2 (cmpO eqI)) (.t t18) (.v (.int .i64 3)), none, none⟩,
   ⟨(some t20), oMov (.t t19), none, none⟩,
   ⟨(some t21), oMov (.t t1), (some (t20, true)), none⟩,
   ⟨(some t22), oBin (int2 (cmpO eqI)) (.t t21) (.v (.int .i64 3)), (some (t20, true)), none⟩,
   ⟨(some t23), oPick (.t t20) (.t t22) (.v (.bool false)), none, none⟩,
   ⟨(some t17), oMov (.t t23), none, none⟩])
 (xCond (.t t17)
 (xSeq (xOps [⟨(some t4), oMov (.v (.int .i64 4)), none, none⟩])
 xRet)
 xSkip)))))
 (xSeq (xOps [⟨(some t4), oMov (.v (.int .i64 0)), none, none⟩])
 xRet)))⟩
theorem ok162 : cFunc Tryz.prog gl ex Tryz.f162 = some c162 := by kernel_rfl
/-- publican/typ.ordered -/
def c163 : AFunc := ⟨9, [.tmp t2],
 (xSeq (xOps [⟨(some t2), oMov (.v (.bool false)), none, none⟩])
 (xSeq (xOps [⟨(some t3), oMov (.t t0), none, none⟩,
   ⟨(some t4), oBin (int2 (cmpO geI)) (.t t3) (.v (.int .i64 2)), none, none⟩,
   ⟨(some t5), oMov (.t t4), none, none⟩,
   ⟨(some t6), oMov (.t t0), (some (t5, true)), none⟩,
   ⟨(some t7), oBin (int2 (cmpO leI)) (.t t6) (.v (.int .i64 5)), (some (t5, true)), none⟩,
   ⟨(some t8), oPick (.t t5) (.t t7) (.v (.bool false)), none, none⟩,
   ⟨(some t2), oMov (.t t8), none, none⟩])
 xRet))⟩
theorem ok163 : cFunc Tryz.prog gl ex Tryz.f163 = some c163 := by kernel_rfl
/-- publican/num.Mul -/
def c164 : AFunc := ⟨12, [.tmp t4, .tmp t5],
 (xSeq (xOps [⟨(some t4), oMov (.v (.int .i64 0)), none, none⟩,
   ⟨(some t5), oMov (.v (.bool false)), none, none⟩])
 (xSeq (xOps [⟨(some t6), oMov (.t t0), none, none⟩,
   ⟨(some t7), oMov (.t t1), none, none⟩,
   ⟨(some t8), oCall 169 [(.t t6), (.t t7)], none, none⟩,
   ⟨(some t9), oCall 168 [(.t t8)], none, none⟩,
   ⟨(some t10), oExtract (.t t9) 0, none, none⟩,
   ⟨(some t11), oExtract (.t t9) 1, none, none⟩,
   ⟨(some t4), oMov (.t t10), none, none⟩,
   ⟨(some t5), oMov (.t t11), none, none⟩])
 xRet))⟩
theorem ok164 : cFunc Tryz.prog gl ex Tryz.f164 = some c164 := by kernel_rfl
/-- publican/num.MulFloor -/
def c165 : AFunc := ⟨15, [.tmp t6, .tmp t7],
 (xSeq (xOps [⟨(some t6), oMov (.v (.int .i64 0)), none, none⟩,
   ⟨(some t7), oMov (.v (.bool false)), none, none⟩])
 (xSeq (xOps [⟨(some t8), oMov (.t t0), none, none⟩,
   ⟨(some t9), oMov (.t t1), none, none⟩,
   ⟨(some t10), oCall 169 [(.t t8), (.t t9)], none, none⟩,
   ⟨(some t11), oMov (.t t2), none, none⟩,
   ⟨(some t12), oCall 170 [(.t t10), (.t t11)], none, none⟩,
   ⟨(some t13), oExtract (.t t12) 0, none, none⟩,
   ⟨(some t14), oExtract (.t t12) 1, none, none⟩,
   ⟨(some t6), oMov (.t t13), none, none⟩,
   ⟨(some t7), oMov (.t t14), none, none⟩])
 xRet))⟩
theorem ok165 : cFunc Tryz.prog gl ex Tryz.f165 = some c165 := by kernel_rfl
/-- publican/num.Floor -/
def c166 : AFunc := ⟨34, [.tmp t4, .tmp t5],
 (xSeq (xOps [⟨(some t4), oMov (.v (.int .i64 0)), none, none⟩,
   ⟨(some t5), oMov (.v (.bool false)), none, none⟩])
 (xSeq (xSeq (xOps [⟨(some t7), oMov (.t t1), none, none⟩,
   ⟨(some t8), oBin (int2 (cmpO eqI)) (.t t7) (.v (.int .i64 0)), none, none⟩,
   ⟨(some t9), oMov (.t t8), none, none⟩,
   ⟨(some t10), oMov (.t t0), (some (t9, false)), none⟩,
   ⟨(some t11), oBin (int2 (cmpO eqI)) (.t t10) (.v (.int .i64 (-9223372036854775808))), (some (t9, false)), none⟩,
   ⟨(some t12), oMov (.t t11), (some (t9, false)), none⟩,
   ⟨(some t13), oMov (.t t1), (some (t12, true)), none⟩,
   ⟨(some t14), oBin (int2 (cmpO eqI)) (.t t13) (.v (.int .i64 (-1))), (some (t12, true)), none⟩,
   ⟨(some t15), oPick (.t t12) (.t t14) (.v (.bool false)), (some (t9, false)), none⟩,
   ⟨(some t16), oPick (.t t9) (.v (.bool true)) (.t t15), none, none⟩])
 (xCond (.t t16)
 (xSeq (xOps [⟨(some t4), oMov (.v (.int .i64 0)), none, none⟩,
   ⟨(some t5), oMov (.v (.bool false)), none, none⟩])
 xRet)
 xSkip))
 (xSeq (xOps [⟨(some t17), oMov (.t t0), none, none⟩,
   ⟨(some t18), oMov (.t t1), none, none⟩,
   ⟨(some t19), oBin (int2 quoO) (.t t17) (.t t18), none, none⟩,
   ⟨(some t6), oMov (.t t19), none, none⟩])
 (xSeq (xSeq (xOps [⟨(some t20), oMov (.t t0), none, none⟩,
   ⟨(some t21), oMov (.t t1), none, none⟩,
   ⟨(some t22), oBin (int2 remO) (.t t20) (.t t21), none, none⟩,
   ⟨(some t23), oBin (int2 (cmpO neI)) (.t t22) (.v (.int .i64 0)), none, none⟩,
   ⟨(some t24), oMov (.t t23), none, none⟩,
   ⟨(some t25), oMov (.t t0), (some (t24, true)), none⟩,
   ⟨(some t26), oBin (int2 (cmpO ltI)) (.t t25) (.v (.int .i64 0)), (some (t24, true)), none⟩,
   ⟨(some t27), oMov (.t t1), (some (t24, true)), none⟩,
   ⟨(some t28), oBin (int2 (cmpO ltI)) (.t t27) (.v (.int .i64 0)), (some (t24, true)), none⟩,
   ⟨(some t29), oEqv eqB true (.t t26) (.t t28), (some (t24, true)), none⟩,
   ⟨(some t30), oPick (.t t24) (.t t29) (.v (.bool false)), none, none⟩])
 (xCond (.t t30)
 (xOps [⟨(some t31), oMov (.t t6), none, none⟩,
   ⟨(some t32), oBin (int2 subO) (.t t31) (.v (.int .i64 1)), none, none⟩,
   ⟨(some t6), oMov (.t t32), none, none⟩])
 xSkip))
 (xSeq (xOps [⟨(some t33), oMov (.t t6), none, none⟩,
   ⟨(some t4), oMov (.t t33), none, none⟩,
   ⟨(some t5), oMov (.v (.bool true)), none, none⟩])
 xRet)))))⟩
theorem ok166 : cFunc Tryz.prog gl ex Tryz.f166 = some c166 := by kernel_rfl
/-- publican/typ.number -/
def c167 : AFunc := ⟨9, [.tmp t2],
 (xSeq (xOps [⟨(some t2), oMov (.v (.bool false)), none, none⟩])
 (xSeq (xOps [⟨(some t3), oMov (.t t0), none, none⟩,
   ⟨(some t4), oBin (int2 (cmpO geI)) (.t t3) (.v (.int .i64 2)), none, none⟩,
   ⟨(some t5), oMov (.t t4), none, none⟩,
   ⟨(some t6), oMov (.t t0), (some (t5, true)), none⟩,
   ⟨(some t7), oBin (int2 (cmpO leI)) (.t t6) (.v (.int .i64 4)), (some (t5, true)), none⟩,
   ⟨(some t8), oPick (.t t5) (.t t7) (.v (.bool false)), none, none⟩,
   ⟨(some t2), oMov (.t t8), none, none⟩])
 xRet))⟩
theorem ok167 : cFunc Tryz.prog gl ex Tryz.f167 = some c167 := by kernel_rfl
/-- publican/num.narrow -/
def c168 : AFunc := ⟨14, [.tmp t2, .tmp t3],
 (xSeq (xOps [⟨(some t1), oBox (.t t0), none, none⟩,
   ⟨(some t2), oMov (.v (.int .i64 0)), none, none⟩,
   ⟨(some t3), oMov (.v (.bool false)), none, none⟩])
 (xSeq (xOps [⟨(some t5), oFieldAddr 1 (.t t1), none, none⟩,
   ⟨(some t6), oLoad1 (.t t5), none, (some (.t t5))⟩,
   ⟨(some t7), oConv .i64 (.t t6), none, none⟩,
   ⟨(some t4), oMov (.t t7), none, none⟩])
 (xSeq (xSeq (xOps [⟨(some t8), oFieldAddr 0 (.t t1), none, none⟩,
   ⟨(some t9), oLoad1 (.t t8), none, (some (.t t8))⟩,
   ⟨(some t10), oMov (.t t4), none, none⟩,
   ⟨(some t11), oBin (sh2 shrO) (.t t10) (.v (.int .u64 63)), none, none⟩,
   ⟨(some t12), oBin (int2 (cmpO neI)) (.t t9) (.t t11), none, none⟩])
 (xCond (.t t12)
 (xSeq (xOps [⟨(some t2), oMov (.v (.int .i64 0)), none, none⟩,
   ⟨(some t3), oMov (.v (.bool false)), none, none⟩])
 xRet)
 xSkip))
 (xSeq (xOps [⟨(some t13), oMov (.t t4), none, none⟩,
   ⟨(some t2), oMov (.t t13), none, none⟩,
   ⟨(some t3), oMov (.v (.bool true)), none, none⟩])
 xRet))))⟩
theorem ok168 : cFunc Tryz.prog gl ex Tryz.f168 = some c168 := by kernel_rfl
/-- publican/num.product -/
def c169 : AFunc := ⟨31, [.cell t4 (some 2)],
 (xSeq (xOps [⟨(some t4), oNew [(.int .i64 0), (.int .u64 0)], none, none⟩])
 (xSeq (xOps [⟨(some t9), oMov (.t t0), none, none⟩,
   ⟨(some t10), oConv .u64 (.t t9), none, none⟩,
   ⟨(some t11), oMov (.t t1), none, none⟩,
   ⟨(some t12), oConv .u64 (.t t11), none, none⟩,
   ⟨(some t13), oCall 171 [(.t t10), (.t t12)], none, none⟩,
   ⟨(some t8), oMov (.t t13), none, none⟩,
   ⟨(some t14), oExtract (.t t8) 0, none, none⟩,
   ⟨(some t15), oExtract (.t t8) 1, none, none⟩,
   ⟨(some t5), oMov (.t t14), none, none⟩,
   ⟨(some t6), oMov (.t t15), none, none⟩])
 (xSeq (xOps [⟨(some t16), oMov (.t t5), none, none⟩,
   ⟨(some t17), oConv .i64 (.t t16), none, none⟩,
   ⟨(some t7), oMov (.t t17), none, none⟩])
 (xSeq (xSeq (xOps [⟨(some t18), oMov (.t t0), none, none⟩,
   ⟨(some t19), oBin (int2 (cmpO ltI)) (.t t18) (.v (.int .i64 0)), none, none⟩])
 (xCond (.t t19)
 (xOps [⟨(some t20), oMov (.t t7), none, none⟩,
   ⟨(some t21), oMov (.t t1), none, none⟩,
   ⟨(some t22), oBin (int2 subO) (.t t20) (.t t21), none, none⟩,
   ⟨(some t7), oMov (.t t22), none, none⟩])
 xSkip))
 (xSeq (xSeq (xOps [⟨(some t23), oMov (.t t1), none, none⟩,
   ⟨(some t24), oBin (int2 (cmpO ltI)) (.t t23) (.v (.int .i64 0)), none, none⟩])
 (xCond (.t t24)
 (xOps [⟨(some t25), oMov (.t t7), none, none⟩,
   ⟨(some t26), oMov (.t t0), none, none⟩,
   ⟨(some t27), oBin (int2 subO) (.t t25) (.t t26), none, none⟩,
   ⟨(some t7), oMov (.t t27), none, none⟩])
 xSkip))
 (xSeq (xOps [⟨(some t28), oMov (.t t7), none, none⟩,
   ⟨(some t29), oMov (.t t6), none, none⟩,
   ⟨(some t30), oBuild [(.int .i64 0), (.int .u64 0)] [(0, 1, (.t t28)), (1, 1, (.t t29))], none, none⟩,
   ⟨none, oStore 2 (.t t4) (.t t30), none, none⟩])
 xRet))))))⟩
theorem ok169 : cFunc Tryz.prog gl ex Tryz.f169 = some c169 := by kernel_rfl
/-- (publican/num.Wide).Floor -/
def c170 : AFunc := ⟨59, [.tmp t4, .tmp t5],
 (xSeq (xOps [⟨(some t2), oBox (.t t0), none, none⟩,
   ⟨(some t4), oMov (.v (.int .i64 0)), none, none⟩,
   ⟨(some t5), oMov (.v (.bool false)), none, none⟩])
 (xSeq (xSeq (xOps [⟨(some t11), oMov (.t t1), none, none⟩,
   ⟨(some t12), oBin (int2 (cmpO ltI)) (.t t11) (.v (.int .i64 1)), none, none⟩])
 (xCond (.t t12)
 (xSeq (xOps [⟨(some t4), oMov (.v (.int .i64 0)), none, none⟩,
   ⟨(some t5), oMov (.v (.bool false)), none, none⟩])
 xRet)
 xSkip))
 (xSeq (xOps [⟨(some t13), oLoadN 2 (.t t2), none, none⟩,
   ⟨(some t6), oNew [(.int .i64 0), (.int .u64 0)], none, none⟩,
   ⟨none, oStore 2 (.t t6) (.t t13), none, none⟩])
 (xSeq (xSeq (xOps [⟨(some t14), oFieldAddr 0 (.t t2), none, none⟩,
   ⟨(some t15), oLoad1 (.t t14), none, (some (.t t14))⟩,
   ⟨(some t16), oBin (int2 (cmpO ltI)) (.t t15) (.v (.int .i64 0)), none, none⟩])
 (xCond (.t t16)
 (xOps [⟨(some t17), oLoadN 2 (.t t2), none, none⟩,
   ⟨(some t18), oCall 172 [(.t t17)], none, none⟩,
   ⟨none, oStore 2 (.t t6) (.t t18), none, none⟩])
 xSkip))
 (xSeq (xOps [⟨(some t19), oMov (.t t1), none, none⟩,
   ⟨(some t20), oConv .u64 (.t t19), none, none⟩,
   ⟨(some t7), oMov (.t t20), none, none⟩])
 (xSeq (xSeq (xOps [⟨(some t21), oFieldAddr 0 (.t t6), none, none⟩,
   ⟨(some t22), oLoad1 (.t t21), none, (some (.t t21))⟩,
   ⟨(some t23), oConv .u64 (.t t22), none, none⟩,
   ⟨(some t24), oMov (.t t7), none, none⟩,
   ⟨(some t25), oBin (int2 (cmpO geI)) (.t t23) (.t t24), none, none⟩])
 (xCond (.t t25)
 (xSeq (xOps [⟨(some t4), oMov (.v (.int .i64 0)), none, none⟩,
   ⟨(some t5), oMov (.v (.bool false)), none, none⟩])
 xRet)
 xSkip))
 (xSeq (xOps [⟨(some t27), oFieldAddr 0 (.t t6), none, none⟩,
   ⟨(some t28), oLoad1 (.t t27), none, (some (.t t27))⟩,
   ⟨(some t29), oConv .u64 (.t t28), none, none⟩,
   ⟨(some t30), oFieldAddr 1 (.t t6), none, none⟩,
   ⟨(some t31), oLoad1 (.t t30), none, (some (.t t30))⟩,
   ⟨(some t32), oMov (.t t7), none, none⟩,
   ⟨(some t33), oCall 173 [(.t t29), (.t t31), (.t t32)], none, none⟩,
   ⟨(some t26), oMov (.t t33), none, none⟩,
   ⟨(some t34), oExtract (.t t26) 0, none, none⟩,
   ⟨(some t35), oExtract (.t t26) 1, none, none⟩,
   ⟨(some t8), oMov (.t t34), none, none⟩,
   ⟨(some t9), oMov (.t t35), none, none⟩])
 (xSeq (xSeq (xOps [⟨(some t36), oFieldAddr 0 (.t t2), none, none⟩,
   ⟨(some t37), oLoad1 (.t t36), none, (some (.t t36))⟩,
   ⟨(some t38), oBin (int2 (cmpO geI)) (.t t37) (.v (.int .i64 0)), none, none⟩])
 (xCond (.t t38)
 (xSeq (xOps [⟨(some t39), oMov (.t t8), none, none⟩,
   ⟨(some t40), oBuild [(.int .i64 0), (.int .u64 0)] [(0, 1, (.v (.int .i64 0))), (1, 1, (.t t39))], none, none⟩,
   ⟨(some t41), oCall 168 [(.t t40)], none, none⟩,
   ⟨(some t42), oExtract (.t t41) 0, none, none⟩,
   ⟨(some t43), oExtract (.t t41) 1, none, none⟩,
   ⟨(some t4), oMov (.t t42), none, none⟩,
   ⟨(some t5), oMov (.t t43), none, none⟩])
 xRet)
 xSkip))
 (xSeq (xOps [⟨(some t44), oMov (.t t8), none, none⟩,
   ⟨(some t45), oBuild [(.int .i64 0), (.int .u64 0)] [(0, 1, (.v (.int .i64 0))), (1, 1, (.t t44))], none, none⟩,
   ⟨(some t46), oCall 172 [(.t t45)], none, none⟩,
   ⟨(some t10), oNew [(.int .i64 0), (.int .u64 0)], none, none⟩,
   ⟨none, oStore 2 (.t t10) (.t t46), none, none⟩])
 (xSeq (xSeq (xOps [⟨(some t47), oMov (.t t9), none, none⟩,
   ⟨(some t48), oBin (int2 (cmpO gtI)) (.t t47) (.v (.int .u64 0)), none, none⟩])
 (xCond (.t t48)
 (xReg [⟨(some t50), oLoadN 2 (.t t10), none, none⟩,
   ⟨(some t51), oCall 175 [(.v (.int .i64 (-1)))], none, none⟩,
   ⟨(some t52), oCall 174 [(.t t50), (.t t51)], none, none⟩,
   ⟨(some t49), oMov (.t t52), none, none⟩,
   ⟨(some t53), oExtract (.t t49) 0, none, none⟩,
   ⟨(some t54), oExtract (.t t49) 1, none, none⟩,
   ⟨none, oStore 2 (.t t10) (.t t53), none, none⟩] [(0, 1), (4, 5), (5, 6)])
 xSkip))
 (xSeq (xOps [⟨(some t55), oLoadN 2 (.t t10), none, none⟩,
   ⟨(some t56), oCall 168 [(.t t55)], none, none⟩,
   ⟨(some t57), oExtract (.t t56) 0, none, none⟩,
   ⟨(some t58), oExtract (.t t56) 1, none, none⟩,
   ⟨(some t4), oMov (.t t57), none, none⟩,
   ⟨(some t5), oMov (.t t58), none, none⟩])
 xRet)))))))))))⟩
theorem ok170 : cFunc Tryz.prog gl ex Tryz.f170 = some c170 := by kernel_rfl
/-- math/bits.Mul64 -/
def c171 : AFunc := ⟨51, [.tmp t4, .tmp t5],
 (xSeq (xOps [⟨(some t4), oMov (.v (.int .u64 0)), none, none⟩,
   ⟨(some t5), oMov (.v (.int .u64 0)), none, none⟩])
 (xSeq (xOps [⟨(some t14), oMov (.t t0), none, none⟩,
   ⟨(some t15), oBin (int2 andO) (.t t14) (.v (.int .u64 4294967295)), none, none⟩,
   ⟨(some t6), oMov (.t t15), none, none⟩])
 (xSeq (xOps [⟨(some t16), oMov (.t t0), none, none⟩,
   ⟨(some t17), oBin (sh2 shrO) (.t t16) (.v (.int .u64 32)), none, none⟩,
   ⟨(some t7), oMov (.t t17), none, none⟩])
 (xSeq (xOps [⟨(some t18), oMov (.t t1), none, none⟩,
   ⟨(some t19), oBin (int2 andO) (.t t18) (.v (.int .u64 4294967295)), none, none⟩,
   ⟨(some t8), oMov (.t t19), none, none⟩])
 (xSeq (xOps [⟨(some t20), oMov (.t t1), none, none⟩,
   ⟨(some t21), oBin (sh2 shrO) (.t t20) (.v (.int .u64 32)), none, none⟩,
   ⟨(some t9), oMov (.t t21), none, none⟩])
 (xSeq (xOps [⟨(some t22), oMov (.t t6), none, none⟩,
   ⟨(some t23), oMov (.t t8), none, none⟩,
   ⟨(some t24), oBin (int2 mulO) (.t t22) (.t t23), none, none⟩,
   ⟨(some t10), oMov (.t t24), none, none⟩])
 (xSeq (xOps [⟨(some t25), oMov (.t t7), none, none⟩,
   ⟨(some t26), oMov (.t t8), none, none⟩,
   ⟨(some t27), oBin (int2 mulO) (.t t25) (.t t26), none, none⟩,
   ⟨(some t28), oMov (.t t10), none, none⟩,
   ⟨(some t29), oBin (sh2 shrO) (.t t28) (.v (.int .u64 32)), none, none⟩,
   ⟨(some t30), oBin (int2 addO) (.t t27) (.t t29), none, none⟩,
   ⟨(some t11), oMov (.t t30), none, none⟩])
 (xSeq (xOps [⟨(some t31), oMov (.t t11), none, none⟩,
   ⟨(some t32), oBin (int2 andO) (.t t31) (.v (.int .u64 4294967295)), none, none⟩,
   ⟨(some t12), oMov (.t t32), none, none⟩])
 (xSeq (xOps [⟨(some t33), oMov (.t t11), none, none⟩,
   ⟨(some t34), oBin (sh2 shrO) (.t t33) (.v (.int .u64 32)), none, none⟩,
   ⟨(some t13), oMov (.t t34), none, none⟩])
 (xSeq (xOps [⟨(some t35), oMov (.t t12), none, none⟩,
   ⟨(some t36), oMov (.t t6), none, none⟩,
   ⟨(some t37), oMov (.t t9), none, none⟩,
   ⟨(some t38), oBin (int2 mulO) (.t t36) (.t t37), none, none⟩,
   ⟨(some t39), oBin (int2 addO) (.t t35) (.t t38), none, none⟩,
   ⟨(some t12), oMov (.t t39), none, none⟩])
 (xSeq (xOps [⟨(some t40), oMov (.t t7), none, none⟩,
   ⟨(some t41), oMov (.t t9), none, none⟩,
   ⟨(some t42), oBin (int2 mulO) (.t t40) (.t t41), none, none⟩,
   ⟨(some t43), oMov (.t t13), none, none⟩,
   ⟨(some t44), oBin (int2 addO) (.t t42) (.t t43), none, none⟩,
   ⟨(some t45), oMov (.t t12), none, none⟩,
   ⟨(some t46), oBin (sh2 shrO) (.t t45) (.v (.int .u64 32)), none, none⟩,
   ⟨(some t47), oBin (int2 addO) (.t t44) (.t t46), none, none⟩,
   ⟨(some t4), oMov (.t t47), none, none⟩])
 (xSeq (xOps [⟨(some t48), oMov (.t t0), none, none⟩,
   ⟨(some t49), oMov (.t t1), none, none⟩,
   ⟨(some t50), oBin (int2 mulO) (.t t48) (.t t49), none, none⟩,
   ⟨(some t5), oMov (.t t50), none, none⟩])
 xRet))))))))))))⟩
theorem ok171 : cFunc Tryz.prog gl ex Tryz.f171 = some c171 := by kernel_rfl
/-- (publican/num.Wide).turned -/
def c172 : AFunc := ⟨25, [.cell t2 (some 2)],
 (xSeq (xOps [⟨(some t1), oBox (.t t0), none, none⟩,
   ⟨(some t2), oNew [(.int .i64 0), (.int .u64 0)], none, none⟩])
 (xSeq (xOps [⟨(some t8), oFieldAddr 1 (.t t1), none, none⟩,
   ⟨(some t9), oLoad1 (.t t8), none, (some (.t t8))⟩,
   ⟨(some t10), oExt sub64X [(.v (.int .u64 0)), (.t t9), (.v (.int .u64 0))], none, none⟩,
   ⟨(some t7), oMov (.t t10), none, none⟩,
   ⟨(some t11), oExtract (.t t7) 0, none, none⟩,
   ⟨(some t12), oExtract (.t t7) 1, none, none⟩,
   ⟨(some t3), oMov (.t t11), none, none⟩,
   ⟨(some t4), oMov (.t t12), none, none⟩])
 (xSeq (xOps [⟨(some t14), oFieldAddr 0 (.t t1), none, none⟩,
   ⟨(some t15), oLoad1 (.t t14), none, (some (.t t14))⟩,
   ⟨(some t16), oConv .u64 (.t t15), none, none⟩,
   ⟨(some t17), oMov (.t t4), none, none⟩,
   ⟨(some t18), oExt sub64X [(.v (.int .u64 0)), (.t t16), (.t t17)], none, none⟩,
   ⟨(some t13), oMov (.t t18), none, none⟩,
   ⟨(some t19), oExtract (.t t13) 0, none, none⟩,
   ⟨(some t20), oExtract (.t t13) 1, none, none⟩,
   ⟨(some t5), oMov (.t t19), none, none⟩,
   ⟨(some t6), oMov (.t t20), none, none⟩])
 (xSeq (xOps [⟨(some t21), oMov (.t t5), none, none⟩,
   ⟨(some t22), oConv .i64 (.t t21), none, none⟩,
   ⟨(some t23), oMov (.t t3), none, none⟩,
   ⟨(some t24), oBuild [(.int .i64 0), (.int .u64 0)] [(0, 1, (.t t22)), (1, 1, (.t t23))], none, none⟩,
   ⟨none, oStore 2 (.t t2) (.t t24), none, none⟩])
 xRet))))⟩
theorem ok172 : cFunc Tryz.prog gl ex Tryz.f172 = some c172 := by kernel_rfl
/-- math/bits.Div64 -/
def c173 : AFunc := ⟨135, [.tmp t6, .tmp t7],
 (xSeq (xOps [⟨(some t6), oMov (.v (.int .u64 0)), none, none⟩,
   ⟨(some t7), oMov (.v (.int .u64 0)), none, none⟩])
 (xSeq (xSeq (xOps [⟨(some t19), oMov (.t t2), none, none⟩,
   ⟨(some t20), oBin (int2 (cmpO eqI)) (.t t19) (.v (.int .u64 0)), none, none⟩])
 (xCond (.t t20)
 (xOps [⟨(some t21), oBad, none, none⟩,
   ⟨none, oBad, none, none⟩])
 xSkip))
 (xSeq (xSeq (xOps [⟨(some t22), oMov (.t t2), none, none⟩,
   ⟨(some t23), oMov (.t t0), none, none⟩,
   ⟨(some t24), oBin (int2 (cmpO leI)) (.t t22) (.t t23), none, none⟩])
 (xCond (.t t24)
 (xOps [⟨(some t25), oBad, none, none⟩,
   ⟨none, oBad, none, none⟩])
 xSkip))
 (xSeq (xSeq (xOps [⟨(some t26), oMov (.t t0), none, none⟩,
   ⟨(some t27), oBin (int2 (cmpO eqI)) (.t t26) (.v (.int .u64 0)), none, none⟩])
 (xCond (.t t27)
 (xSeq (xReg [⟨(some t28), oMov (.t t1), none, none⟩,
   ⟨(some t29), oMov (.t t2), none, none⟩,
   ⟨(some t30), oBin (int2 quoO) (.t t28) (.t t29), none, none⟩,
   ⟨(some t31), oMov (.t t1), none, none⟩,
   ⟨(some t32), oMov (.t t2), none, none⟩,
   ⟨(some t33), oBin (int2 remO) (.t t31) (.t t32), none, none⟩,
   ⟨(some t6), oMov (.t t30), none, none⟩,
   ⟨(some t7), oMov (.t t33), none, none⟩] [(0, 1), (0, 3), (1, 3), (2, 3), (0, 4), (1, 4), (2, 4), (3, 4), (0, 5), (1, 5), (2, 5), (3, 6), (4, 6), (5, 6)])
 xRet)
 xSkip))
 (xSeq (xOps [⟨(some t34), oMov (.t t2), none, none⟩,
   ⟨(some t35), oCall 177 [(.t t34)], none, none⟩,
   ⟨(some t36), oConv .u64 (.t t35), none, none⟩,
   ⟨(some t8), oMov (.t t36), none, none⟩])
 (xSeq (xOps [⟨(some t37), oMov (.t t2), none, none⟩,
   ⟨(some t38), oMov (.t t8), none, none⟩,
   ⟨(some t39), oBin (sh2 shlO) (.t t37) (.t t38), none, none⟩,
   ⟨(some t2), oMov (.t t39), none, none⟩])
 (xSeq (xOps [⟨(some t40), oMov (.t t2), none, none⟩,
   ⟨(some t41), oBin (sh2 shrO) (.t t40) (.v (.int .u64 32)), none, none⟩,
   ⟨(some t9), oMov (.t t41), none, none⟩])
 (xSeq (xOps [⟨(some t42), oMov (.t t2), none, none⟩,
   ⟨(some t43), oBin (int2 andO) (.t t42) (.v (.int .u64 4294967295)), none, none⟩,
   ⟨(some t10), oMov (.t t43), none, none⟩])
 (xSeq (xOps [⟨(some t44), oMov (.t t0), none, none⟩,
   ⟨(some t45), oMov (.t t8), none, none⟩,
   ⟨(some t46), oBin (sh2 shlO) (.t t44) (.t t45), none, none⟩,
   ⟨(some t47), oMov (.t t1), none, none⟩,
   ⟨(some t48), oMov (.t t8), none, none⟩,
   ⟨(some t49), oBin (int2 subO) (.v (.int .u64 64)) (.t t48), none, none⟩,
   ⟨(some t50), oBin (sh2 shrO) (.t t47) (.t t49), none, none⟩,
   ⟨(some t51), oBin (int2 orO) (.t t46) (.t t50), none, none⟩,
   ⟨(some t11), oMov (.t t51), none, none⟩])
 (xSeq (xOps [⟨(some t52), oMov (.t t1), none, none⟩,
   ⟨(some t53), oMov (.t t8), none, none⟩,
   ⟨(some t54), oBin (sh2 shlO) (.t t52) (.t t53), none, none⟩,
   ⟨(some t12), oMov (.t t54), none, none⟩])
 (xSeq (xOps [⟨(some t55), oMov (.t t12), none, none⟩,
   ⟨(some t56), oBin (sh2 shrO) (.t t55) (.v (.int .u64 32)), none, none⟩,
   ⟨(some t13), oMov (.t t56), none, none⟩])
 (xSeq (xOps [⟨(some t57), oMov (.t t12), none, none⟩,
   ⟨(some t58), oBin (int2 andO) (.t t57) (.v (.int .u64 4294967295)), none, none⟩,
   ⟨(some t14), oMov (.t t58), none, none⟩])
 (xSeq (xOps [⟨(some t59), oMov (.t t11), none, none⟩,
   ⟨(some t60), oMov (.t t9), none, none⟩,
   ⟨(some t61), oBin (int2 quoO) (.t t59) (.t t60), none, none⟩,
   ⟨(some t15), oMov (.t t61), none, none⟩])
 (xSeq (xOps [⟨(some t62), oMov (.t t11), none, none⟩,
   ⟨(some t63), oMov (.t t15), none, none⟩,
   ⟨(some t64), oMov (.t t9), none, none⟩,
   ⟨(some t65), oBin (int2 mulO) (.t t63) (.t t64), none, none⟩,
   ⟨(some t66), oBin (int2 subO) (.t t62) (.t t65), none, none⟩,
   ⟨(some t16), oMov (.t t66), none, none⟩])
 (xSeq (xBlock 0 (xLoop (xSeq (xSeq (xOps [⟨(some t67), oMov (.t t15), none, none⟩,
   ⟨(some t68), oBin (int2 (cmpO geI)) (.t t67) (.v (.int .u64 4294967296)), none, none⟩,
   ⟨(some t69), oMov (.t t68), none, none⟩,
   ⟨(some t70), oMov (.t t15), (some (t69, false)), none⟩,
   ⟨(some t71), oMov (.t t10), (some (t69, false)), none⟩,
   ⟨(some t72), oBin (int2 mulO) (.t t70) (.t t71), (some (t69, false)), none⟩,
   ⟨(some t73), oMov (.t t16), (some (t69, false)), none⟩,
   ⟨(some t74), oBin (int2 mulO) (.v (.int .u64 4294967296)) (.t t73), (some (t69, false)), none⟩,
   ⟨(some t75), oMov (.t t13), (some (t69, false)), none⟩,
   ⟨(some t76), oBin (int2 addO) (.t t74) (.t t75), (some (t69, false)), none⟩,
   ⟨(some t77), oBin (int2 (cmpO gtI)) (.t t72) (.t t76), (some (t69, false)), none⟩,
   ⟨(some t78), oPick (.t t69) (.v (.bool true)) (.t t77), none, none⟩])
 (xCond (.t t78)
 xSkip
 (xExit 0)))
 (xBlock 1 (xSeq (xOps [⟨(some t79), oMov (.t t15), none, none⟩,
   ⟨(some t80), oBin (int2 subO) (.t t79) (.v (.int .u64 1)), none, none⟩,
   ⟨(some t15), oMov (.t t80), none, none⟩])
 (xSeq (xOps [⟨(some t81), oMov (.t t16), none, none⟩,
   ⟨(some t82), oMov (.t t9), none, none⟩,
   ⟨(some t83), oBin (int2 addO) (.t t81) (.t t82), none, none⟩,
   ⟨(some t16), oMov (.t t83), none, none⟩])
 (xSeq (xOps [⟨(some t84), oMov (.t t16), none, none⟩,
   ⟨(some t85), oBin (int2 (cmpO geI)) (.t t84) (.v (.int .u64 4294967296)), none, none⟩])
 (xCond (.t t85)
 (xExit 0)
 xSkip))))))))
 (xSeq (xOps [⟨(some t86), oMov (.t t11), none, none⟩,
   ⟨(some t87), oBin (int2 mulO) (.t t86) (.v (.int .u64 4294967296)), none, none⟩,
   ⟨(some t88), oMov (.t t13), none, none⟩,
   ⟨(some t89), oBin (int2 addO) (.t t87) (.t t88), none, none⟩,
   ⟨(some t90), oMov (.t t15), none, none⟩,
   ⟨(some t91), oMov (.t t2), none, none⟩,
   ⟨(some t92), oBin (int2 mulO) (.t t90) (.t t91), none, none⟩,
   ⟨(some t93), oBin (int2 subO) (.t t89) (.t t92), none, none⟩,
   ⟨(some t17), oMov (.t t93), none, none⟩])
 (xSeq (xOps [⟨(some t94), oMov (.t t17), none, none⟩,
   ⟨(some t95), oMov (.t t9), none, none⟩,
   ⟨(some t96), oBin (int2 quoO) (.t t94) (.t t95), none, none⟩,
   ⟨(some t18), oMov (.t t96), none, none⟩])
 (xSeq (xOps [⟨(some t97), oMov (.t t17), none, none⟩,
   ⟨(some t98), oMov (.t t18), none, none⟩,
   ⟨(some t99), oMov (.t t9), none, none⟩,
   ⟨(some t100), oBin (int2 mulO) (.t t98) (.t t99), none, none⟩,
   ⟨(some t101), oBin (int2 subO) (.t t97) (.t t100), none, none⟩,
   ⟨(some t16), oMov (.t t101), none, none⟩])
 (xSeq (xBlock 2 (xLoop (xSeq (xSeq (xOps [⟨(some t102), oMov (.t t18), none, none⟩,
   ⟨(some t103), oBin (int2 (cmpO geI)) (.t t102) (.v (.int .u64 4294967296)), none, none⟩,
   ⟨(some t104), oMov (.t t103), none, none⟩,
   ⟨(some t105), oMov (.t t18), (some (t104, false)), none⟩,
   ⟨(some t106), oMov (.t t10), (some (t104, false)), none⟩,
   ⟨(some t107), oBin (int2 mulO) (.t t105) (.t t106), (some (t104, false)), none⟩,
   ⟨(some t108), oMov (.t t16), (some (t104, false)), none⟩,
   ⟨(some t109), oBin (int2 mulO) (.v (.int .u64 4294967296)) (.t t108), (some (t104, false)), none⟩,
   ⟨(some t110), oMov (.t t14), (some (t104, false)), none⟩,
   ⟨(some t111), oBin (int2 addO) (.t t109) (.t t110), (some (t104, false)), none⟩,
   ⟨(some t112), oBin (int2 (cmpO gtI)) (.t t107) (.t t111), (some (t104, false)), none⟩,
   ⟨(some t113), oPick (.t t104) (.v (.bool true)) (.t t112), none, none⟩])
 (xCond (.t t113)
 xSkip
 (xExit 2)))
 (xBlock 3 (xSeq (xOps [⟨(some t114), oMov (.t t18), none, none⟩,
   ⟨(some t115), oBin (int2 subO) (.t t114) (.v (.int .u64 1)), none, none⟩,
   ⟨(some t18), oMov (.t t115), none, none⟩])
 (xSeq (xOps [⟨(some t116), oMov (.t t16), none, none⟩,
   ⟨(some t117), oMov (.t t9), none, none⟩,
   ⟨(some t118), oBin (int2 addO) (.t t116) (.t t117), none, none⟩,
   ⟨(some t16), oMov (.t t118), none, none⟩])
 (xSeq (xOps [⟨(some t119), oMov (.t t16), none, none⟩,
   ⟨(some t120), oBin (int2 (cmpO geI)) (.t t119) (.v (.int .u64 4294967296)), none, none⟩])
 (xCond (.t t120)
 (xExit 2)
 xSkip))))))))
 (xSeq (xOps [⟨(some t121), oMov (.t t15), none, none⟩,
   ⟨(some t122), oBin (int2 mulO) (.t t121) (.v (.int .u64 4294967296)), none, none⟩,
   ⟨(some t123), oMov (.t t18), none, none⟩,
   ⟨(some t124), oBin (int2 addO) (.t t122) (.t t123), none, none⟩,
   ⟨(some t125), oMov (.t t17), none, none⟩,
   ⟨(some t126), oBin (int2 mulO) (.t t125) (.v (.int .u64 4294967296)), none, none⟩,
   ⟨(some t127), oMov (.t t14), none, none⟩,
   ⟨(some t128), oBin (int2 addO) (.t t126) (.t t127), none, none⟩,
   ⟨(some t129), oMov (.t t18), none, none⟩,
   ⟨(some t130), oMov (.t t2), none, none⟩,
   ⟨(some t131), oBin (int2 mulO) (.t t129) (.t t130), none, none⟩,
   ⟨(some t132), oBin (int2 subO) (.t t128) (.t t131), none, none⟩,
   ⟨(some t133), oMov (.t t8), none, none⟩,
   ⟨(some t134), oBin (sh2 shrO) (.t t132) (.t t133), none, none⟩,
   ⟨(some t6), oMov (.t t124), none, none⟩,
   ⟨(some t7), oMov (.t t134), none, none⟩])
 xRet))))))))))))))))))))⟩
theorem ok173 : cFunc Tryz.prog gl ex Tryz.f173 = some c173 := by kernel_rfl
/-- (publican/num.Wide).Plus -/
def c174 : AFunc := ⟨52, [.cell t4 (some 2), .tmp t5],
 (xSeq (xOps [⟨(some t2), oBox (.t t0), none, none⟩,
   ⟨(some t3), oBox (.t t1), none, none⟩,
   ⟨(some t4), oNew [(.int .i64 0), (.int .u64 0)], none, none⟩,
   ⟨(some t5), oMov (.v (.bool false)), none, none⟩])
 (xSeq (xOps [⟨(some t12), oFieldAddr 1 (.t t2), none, none⟩,
   ⟨(some t13), oLoad1 (.t t12), none, (some (.t t12))⟩,
   ⟨(some t14), oFieldAddr 1 (.t t3), none, none⟩,
   ⟨(some t15), oLoad1 (.t t14), none, (some (.t t14))⟩,
   ⟨(some t16), oExt add64X [(.t t13), (.t t15), (.v (.int .u64 0))], none, none⟩,
   ⟨(some t11), oMov (.t t16), none, none⟩,
   ⟨(some t17), oExtract (.t t11) 0, none, none⟩,
   ⟨(some t18), oExtract (.t t11) 1, none, none⟩,
   ⟨(some t6), oMov (.t t17), none, none⟩,
   ⟨(some t7), oMov (.t t18), none, none⟩])
 (xSeq (xOps [⟨(some t20), oFieldAddr 0 (.t t2), none, none⟩,
   ⟨(some t21), oLoad1 (.t t20), none, (some (.t t20))⟩,
   ⟨(some t22), oConv .u64 (.t t21), none, none⟩,
   ⟨(some t23), oFieldAddr 0 (.t t3), none, none⟩,
   ⟨(some t24), oLoad1 (.t t23), none, (some (.t t23))⟩,
   ⟨(some t25), oConv .u64 (.t t24), none, none⟩,
   ⟨(some t26), oMov (.t t7), none, none⟩,
   ⟨(some t27), oExt add64X [(.t t22), (.t t25), (.t t26)], none, none⟩,
   ⟨(some t19), oMov (.t t27), none, none⟩,
   ⟨(some t28), oExtract (.t t19) 0, none, none⟩,
   ⟨(some t29), oExtract (.t t19) 1, none, none⟩,
   ⟨(some t8), oMov (.t t28), none, none⟩,
   ⟨(some t9), oMov (.t t29), none, none⟩])
 (xSeq (xOps [⟨(some t30), oMov (.t t8), none, none⟩,
   ⟨(some t31), oConv .i64 (.t t30), none, none⟩,
   ⟨(some t32), oMov (.t t6), none, none⟩,
   ⟨(some t33), oBuild [(.int .i64 0), (.int .u64 0)] [(0, 1, (.t t31)), (1, 1, (.t t32))], none, none⟩,
   ⟨(some t10), oNew [(.int .i64 0), (.int .u64 0)], none, none⟩,
   ⟨none, oStore 2 (.t t10) (.t t33), none, none⟩])
 (xSeq (xSeq (xOps [⟨(some t34), oFieldAddr 0 (.t t2), none, none⟩,
   ⟨(some t35), oLoad1 (.t t34), none, (some (.t t34))⟩,
   ⟨(some t36), oBin (int2 (cmpO ltI)) (.t t35) (.v (.int .i64 0)), none, none⟩,
   ⟨(some t37), oFieldAddr 0 (.t t3), none, none⟩,
   ⟨(some t38), oLoad1 (.t t37), none, (some (.t t37))⟩,
   ⟨(some t39), oBin (int2 (cmpO ltI)) (.t t38) (.v (.int .i64 0)), none, none⟩,
   ⟨(some t40), oEqv eqB false (.t t36) (.t t39), none, none⟩,
   ⟨(some t41), oMov (.t t40), none, none⟩,
   ⟨(some t42), oFieldAddr 0 (.t t10), (some (t41, true)), none⟩,
   ⟨(some t43), oLoad1 (.t t42), (some (t41, true)), (some (.t t42))⟩,
   ⟨(some t44), oBin (int2 (cmpO ltI)) (.t t43) (.v (.int .i64 0)), (some (t41, true)), none⟩,
   ⟨(some t45), oFieldAddr 0 (.t t2), (some (t41, true)), none⟩,
   ⟨(some t46), oLoad1 (.t t45), (some (t41, true)), (some (.t t45))⟩,
   ⟨(some t47), oBin (int2 (cmpO ltI)) (.t t46) (.v (.int .i64 0)), (some (t41, true)), none⟩,
   ⟨(some t48), oEqv eqB true (.t t44) (.t t47), (some (t41, true)), none⟩,
   ⟨(some t49), oPick (.t t41) (.t t48) (.v (.bool false)), none, none⟩])
 (xCond (.t t49)
 (xSeq (xOps [⟨(some t50), oBuild [(.int .i64 0), (.int .u64 0)] [], none, none⟩,
   ⟨none, oStore 2 (.t t4) (.t t50), none, none⟩,
   ⟨(some t5), oMov (.v (.bool false)), none, none⟩])
 xRet)
 xSkip))
 (xSeq (xOps [⟨(some t51), oLoadN 2 (.t t10), none, none⟩,
   ⟨none, oStore 2 (.t t4) (.t t51), none, none⟩,
   ⟨(some t5), oMov (.v (.bool true)), none, none⟩])
 xRet))))))⟩
theorem ok174 : cFunc Tryz.prog gl ex Tryz.f174 = some c174 := by kernel_rfl
/-- publican/num.Of -/
def c175 : AFunc := ⟨8, [.cell t2 (some 2)],
 (xSeq (xOps [⟨(some t2), oNew [(.int .i64 0), (.int .u64 0)], none, none⟩])
 (xSeq (xOps [⟨(some t3), oMov (.t t0), none, none⟩,
   ⟨(some t4), oBin (sh2 shrO) (.t t3) (.v (.int .u64 63)), none, none⟩,
   ⟨(some t5), oMov (.t t0), none, none⟩,
   ⟨(some t6), oConv .u64 (.t t5), none, none⟩,
   ⟨(some t7), oBuild [(.int .i64 0), (.int .u64 0)] [(0, 1, (.t t4)), (1, 1, (.t t6))], none, none⟩,
   ⟨none, oStore 2 (.t t2) (.t t7), none, none⟩])
 xRet))⟩
theorem ok175 : cFunc Tryz.prog gl ex Tryz.f175 = some c175 := by kernel_rfl
/-- math/bits.LeadingZeros64 -/
def c177 : AFunc := ⟨6, [.tmp t2],
 (xSeq (xOps [⟨(some t2), oMov (.v (.int .i64 0)), none, none⟩])
 (xSeq (xOps [⟨(some t3), oMov (.t t0), none, none⟩,
   ⟨(some t4), oCall 179 [(.t t3)], none, none⟩,
   ⟨(some t5), oBin (int2 subO) (.v (.int .i64 64)) (.t t4), none, none⟩,
   ⟨(some t2), oMov (.t t5), none, none⟩])
 xRet))⟩
theorem ok177 : cFunc Tryz.prog gl ex Tryz.f177 = some c177 := by kernel_rfl
/-- math/bits.Len64 -/
def c179 : AFunc := ⟨25, [.tmp t2],
 (xSeq (xOps [⟨(some t2), oMov (.v (.int .i64 0)), none, none⟩])
 (xSeq (xSeq (xOps [⟨(some t3), oMov (.t t0), none, none⟩,
   ⟨(some t4), oBin (int2 (cmpO geI)) (.t t3) (.v (.int .u64 4294967296)), none, none⟩])
 (xCond (.t t4)
 (xSeq (xOps [⟨(some t5), oMov (.t t0), none, none⟩,
   ⟨(some t6), oBin (sh2 shrO) (.t t5) (.v (.int .u64 32)), none, none⟩,
   ⟨(some t0), oMov (.t t6), none, none⟩])
 (xOps [⟨(some t2), oMov (.v (.int .i64 32)), none, none⟩]))
 xSkip))
 (xSeq (xSeq (xOps [⟨(some t7), oMov (.t t0), none, none⟩,
   ⟨(some t8), oBin (int2 (cmpO geI)) (.t t7) (.v (.int .u64 65536)), none, none⟩])
 (xCond (.t t8)
 (xSeq (xOps [⟨(some t9), oMov (.t t0), none, none⟩,
   ⟨(some t10), oBin (sh2 shrO) (.t t9) (.v (.int .u64 16)), none, none⟩,
   ⟨(some t0), oMov (.t t10), none, none⟩])
 (xOps [⟨(some t11), oMov (.t t2), none, none⟩,
   ⟨(some t12), oBin (int2 addO) (.t t11) (.v (.int .i64 16)), none, none⟩,
   ⟨(some t2), oMov (.t t12), none, none⟩]))
 xSkip))
 (xSeq (xSeq (xOps [⟨(some t13), oMov (.t t0), none, none⟩,
   ⟨(some t14), oBin (int2 (cmpO geI)) (.t t13) (.v (.int .u64 256)), none, none⟩])
 (xCond (.t t14)
 (xSeq (xOps [⟨(some t15), oMov (.t t0), none, none⟩,
   ⟨(some t16), oBin (sh2 shrO) (.t t15) (.v (.int .u64 8)), none, none⟩,
   ⟨(some t0), oMov (.t t16), none, none⟩])
 (xOps [⟨(some t17), oMov (.t t2), none, none⟩,
   ⟨(some t18), oBin (int2 addO) (.t t17) (.v (.int .i64 8)), none, none⟩,
   ⟨(some t2), oMov (.t t18), none, none⟩]))
 xSkip))
 (xSeq (xOps [⟨(some t19), oMov (.t t2), none, none⟩,
   ⟨(some t20), oMov (.t t0), none, none⟩,
   ⟨(some t21), oConv .u8 (.t t20), none, none⟩,
   ⟨(some t22), oIdxS (.v (.string ⟨⟨[0, 1, 2, 2, 3, 3, 3, 3, 4, 4, 4, 4, 4, 4, 4, 4, 5, 5, 5, 5, 5, 5, 5, 5, 5, 5, 5, 5, 5, 5, 5, 5, 6, 6, 6, 6, 6, 6, 6, 6, 6, 6, 6, 6, 6, 6, 6, 6, 6, 6, 6, 6, 6, 6, 6, 6, 6, 6, 6, 6, 6, 6, 6, 6, 7, 7, 7, 7, 7, 7, 7, 7, 7, 7, 7, 7, 7, 7, 7, 7, 7, 7, 7, 7, 7, 7, 7, 7, 7, 7, 7, 7, 7, 7, 7, 7, 7, 7, 7, 7, 7, 7, 7, 7, 7, 7, 7, 7, 7, 7, 7, 7, 7, 7, 7, 7, 7, 7, 7, 7, 7, 7, 7, 7, 7, 7, 7, 7, 8, 8, 8, 8, 8, 8, 8, 8, 8, 8, 8, 8, 8, 8, 8, 8, 8, 8, 8, 8, 8, 8, 8, 8, 8, 8, 8, 8, 8, 8, 8, 8, 8, 8, 8, 8, 8, 8, 8, 8, 8, 8, 8, 8, 8, 8, 8, 8, 8, 8, 8, 8, 8, 8, 8, 8, 8, 8, 8, 8, 8, 8, 8, 8, 8, 8, 8, 8, 8, 8, 8, 8, 8, 8, 8, 8, 8, 8, 8, 8, 8, 8, 8, 8, 8, 8, 8, 8, 8, 8, 8, 8, 8, 8, 8, 8, 8, 8, 8, 8, 8, 8, 8, 8, 8, 8, 8, 8, 8, 8, 8, 8, 8, 8, 8, 8, 8, 8, 8, 8, 8, 8, 8, 8, 8, 8, 8, 8]⟩⟩)) (.t t21), none, none⟩,
   ⟨(some t23), oConv .i64 (.t t22), none, none⟩,
   ⟨(some t24), oBin (int2 addO) (.t t19) (.t t23), none, none⟩,
   ⟨(some t2), oMov (.t t24), none, none⟩])
 xRet)))))⟩
theorem ok179 : cFunc Tryz.prog gl ex Tryz.f179 = some c179 := by kernel_rfl
end
end Go.Proofs.YtoabiapkdnibkaaGreat.AbsMachK
