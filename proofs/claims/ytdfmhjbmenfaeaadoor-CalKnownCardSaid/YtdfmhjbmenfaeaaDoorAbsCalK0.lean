import Derived.Test.YtdfmhjbmenfaeaaDoorRows
import Derived.Test.YtdfmhjbmenfaeaaDoorAbsCalKT
import Derived.KernelRfl
namespace Go.Proofs.YtdfmhjbmenfaeaaDoor.AbsCalK
open Go Go.Abs Go.Proofs
set_option maxRecDepth 100000
set_option linter.unusedVariables false
noncomputable section
/-- publican/publicanlaw2.CalKnown -/
def c3 : AFunc := ⟨80, [.tmp t0],
 (xSeq (xOps [⟨(some t0), oMov (.v (.bool false)), none⟩])
 (xSeq (xSeq (xOps [⟨(some t15), oCall 10 [], none⟩,
   ⟨(some t16), oNot (.t t15), none⟩])
 (xCond (.t t16)
 (xSeq (xOps [⟨(some t0), oMov (.v (.bool false)), none⟩])
 xRet)
 xSkip))
 (xSeq (xOps [⟨(some t18), oCall 11 [(.v (.int .i64 2199)), (.v (.int .i64 12)), (.v (.int .i64 31))], none⟩,
   ⟨(some t17), oMov (.t t18), none⟩,
   ⟨(some t19), oExtract (.t t17) 0, none⟩,
   ⟨(some t20), oExtract (.t t17) 1, none⟩,
   ⟨(some t1), oMov (.t t19), none⟩,
   ⟨(some t2), oMov (.t t20), none⟩])
 (xSeq (xOps [⟨(some t22), oCall 11 [(.v (.int .i64 2200)), (.v (.int .i64 1)), (.v (.int .i64 1))], none⟩,
   ⟨(some t21), oMov (.t t22), none⟩,
   ⟨(some t23), oExtract (.t t21) 0, none⟩,
   ⟨(some t24), oExtract (.t t21) 1, none⟩,
   ⟨(some t3), oMov (.t t23), none⟩,
   ⟨(some t4), oMov (.t t24), none⟩])
 (xSeq (xOps [⟨(some t26), oCall 11 [(.v (.int .i64 2023)), (.v (.int .i64 2)), (.v (.int .i64 29))], none⟩,
   ⟨(some t25), oMov (.t t26), none⟩,
   ⟨(some t27), oExtract (.t t25) 0, none⟩,
   ⟨(some t28), oExtract (.t t25) 1, none⟩,
   ⟨(some t5), oMov (.t t27), none⟩,
   ⟨(some t6), oMov (.t t28), none⟩])
 (xSeq (xOps [⟨(some t30), oCall 12 [(.v (.int .i64 0)), (.v (.int .i64 (-1)))], none⟩,
   ⟨(some t29), oMov (.t t30), none⟩,
   ⟨(some t31), oExtract (.t t29) 0, none⟩,
   ⟨(some t32), oExtract (.t t29) 1, none⟩,
   ⟨(some t7), oMov (.t t31), none⟩,
   ⟨(some t8), oMov (.t t32), none⟩])
 (xSeq (xOps [⟨(some t34), oCall 13 [(.v (.string ⟨⟨[50, 48, 50, 51, 45, 50, 45, 48, 49]⟩⟩))], none⟩,
   ⟨(some t33), oMov (.t t34), none⟩,
   ⟨(some t35), oExtract (.t t33) 0, none⟩,
   ⟨(some t36), oExtract (.t t33) 1, none⟩,
   ⟨(some t9), oMov (.t t35), none⟩,
   ⟨(some t10), oMov (.t t36), none⟩])
 (xSeq (xOps [⟨(some t38), oCall 14 [(.v (.int .i64 (-1)))], none⟩,
   ⟨(some t37), oMov (.t t38), none⟩,
   ⟨(some t39), oExtract (.t t37) 0, none⟩,
   ⟨(some t40), oExtract (.t t37) 1, none⟩,
   ⟨(some t41), oExtract (.t t37) 2, none⟩,
   ⟨(some t42), oExtract (.t t37) 3, none⟩,
   ⟨(some t11), oMov (.t t39), none⟩,
   ⟨(some t12), oMov (.t t40), none⟩,
   ⟨(some t13), oMov (.t t41), none⟩,
   ⟨(some t14), oMov (.t t42), none⟩])
 (xSeq (xOps [⟨(some t43), oMov (.t t2), none⟩,
   ⟨(some t44), oMov (.t t43), none⟩,
   ⟨(some t45), oMov (.t t1), (some (t44, true))⟩,
   ⟨(some t46), oBin (int2 (cmpO eqI)) (.t t45) (.v (.int .i64 109572)), (some (t44, true))⟩,
   ⟨(some t47), oPick (.t t44) (.t t46) (.v (.bool false)), none⟩,
   ⟨(some t48), oMov (.t t47), none⟩,
   ⟨(some t49), oMov (.t t4), (some (t48, true))⟩,
   ⟨(some t50), oNot (.t t49), (some (t48, true))⟩,
   ⟨(some t51), oPick (.t t48) (.t t50) (.v (.bool false)), none⟩,
   ⟨(some t52), oMov (.t t51), none⟩,
   ⟨(some t53), oMov (.t t6), (some (t52, true))⟩,
   ⟨(some t54), oNot (.t t53), (some (t52, true))⟩,
   ⟨(some t55), oPick (.t t52) (.t t54) (.v (.bool false)), none⟩,
   ⟨(some t56), oMov (.t t55), none⟩,
   ⟨(some t57), oMov (.t t8), (some (t56, true))⟩,
   ⟨(some t58), oNot (.t t57), (some (t56, true))⟩,
   ⟨(some t59), oPick (.t t56) (.t t58) (.v (.bool false)), none⟩,
   ⟨(some t60), oMov (.t t59), none⟩,
   ⟨(some t61), oMov (.t t10), (some (t60, true))⟩,
   ⟨(some t62), oNot (.t t61), (some (t60, true))⟩,
   ⟨(some t63), oPick (.t t60) (.t t62) (.v (.bool false)), none⟩,
   ⟨(some t64), oMov (.t t63), none⟩,
   ⟨(some t65), oMov (.t t14), (some (t64, true))⟩,
   ⟨(some t66), oNot (.t t65), (some (t64, true))⟩,
   ⟨(some t67), oPick (.t t64) (.t t66) (.v (.bool false)), none⟩,
   ⟨(some t68), oMov (.t t67), none⟩,
   ⟨(some t69), oCall 15 [(.v (.int .i64 109573))], (some (t68, true))⟩,
   ⟨(some t70), oBin (str2 (cmpS eqBytes)) (.t t69) (.v (.string ⟨⟨[]⟩⟩)), (some (t68, true))⟩,
   ⟨(some t71), oPick (.t t68) (.t t70) (.v (.bool false)), none⟩,
   ⟨(some t72), oMov (.t t71), none⟩,
   ⟨(some t73), oCall 16 [(.v (.int .i64 (-1)))], (some (t72, true))⟩,
   ⟨(some t74), oBin (int2 (cmpO eqI)) (.t t73) (.v (.int .i64 (-1))), (some (t72, true))⟩,
   ⟨(some t75), oPick (.t t72) (.t t74) (.v (.bool false)), none⟩,
   ⟨(some t76), oMov (.t t75), none⟩,
   ⟨(some t77), oCall 17 [(.v (.int .i64 2023)), (.v (.int .i64 13))], (some (t76, true))⟩,
   ⟨(some t78), oBin (int2 (cmpO eqI)) (.t t77) (.v (.int .i64 0)), (some (t76, true))⟩,
   ⟨(some t79), oPick (.t t76) (.t t78) (.v (.bool false)), none⟩,
   ⟨(some t0), oMov (.t t79), none⟩])
 xRet)))))))))⟩
theorem ok3 : cFunc Tryd.prog gl ex Tryd.f3 = some c3 := by kernel_rfl
/-- publican/publicanlaw2.awake -/
def c10 : AFunc := ⟨86, [.tmp t0],
 (xSeq (xOps [⟨(some t0), oMov (.v (.bool false)), none⟩])
 (xSeq (xOps [⟨(some t14), oCall 11 [(.v (.int .i64 2000)), (.v (.int .i64 3)), (.v (.int .i64 1))], none⟩,
   ⟨(some t13), oMov (.t t14), none⟩,
   ⟨(some t15), oExtract (.t t13) 0, none⟩,
   ⟨(some t16), oExtract (.t t13) 1, none⟩,
   ⟨(some t1), oMov (.t t15), none⟩,
   ⟨(some t2), oMov (.t t16), none⟩])
 (xSeq (xOps [⟨(some t18), oCall 11 [(.v (.int .i64 2023)), (.v (.int .i64 1)), (.v (.int .i64 31))], none⟩,
   ⟨(some t17), oMov (.t t18), none⟩,
   ⟨(some t19), oExtract (.t t17) 0, none⟩,
   ⟨(some t20), oExtract (.t t17) 1, none⟩,
   ⟨(some t3), oMov (.t t19), none⟩,
   ⟨(some t4), oMov (.t t20), none⟩])
 (xSeq (xOps [⟨(some t22), oMov (.t t3), none⟩,
   ⟨(some t23), oCall 12 [(.t t22), (.v (.int .i64 1))], none⟩,
   ⟨(some t21), oMov (.t t23), none⟩,
   ⟨(some t24), oExtract (.t t21) 0, none⟩,
   ⟨(some t25), oExtract (.t t21) 1, none⟩,
   ⟨(some t5), oMov (.t t24), none⟩,
   ⟨(some t6), oMov (.t t25), none⟩])
 (xSeq (xOps [⟨(some t27), oMov (.t t5), none⟩,
   ⟨(some t28), oCall 14 [(.t t27)], none⟩,
   ⟨(some t26), oMov (.t t28), none⟩,
   ⟨(some t29), oExtract (.t t26) 0, none⟩,
   ⟨(some t30), oExtract (.t t26) 1, none⟩,
   ⟨(some t31), oExtract (.t t26) 2, none⟩,
   ⟨(some t32), oExtract (.t t26) 3, none⟩,
   ⟨(some t7), oMov (.t t29), none⟩,
   ⟨(some t8), oMov (.t t30), none⟩,
   ⟨(some t9), oMov (.t t31), none⟩,
   ⟨(some t10), oMov (.t t32), none⟩])
 (xSeq (xOps [⟨(some t34), oCall 13 [(.v (.string ⟨⟨[49, 57, 48, 48, 45, 48, 49, 45, 48, 50]⟩⟩))], none⟩,
   ⟨(some t33), oMov (.t t34), none⟩,
   ⟨(some t35), oExtract (.t t33) 0, none⟩,
   ⟨(some t36), oExtract (.t t33) 1, none⟩,
   ⟨(some t11), oMov (.t t35), none⟩,
   ⟨(some t12), oMov (.t t36), none⟩])
 (xSeq (xOps [⟨(some t37), oMov (.t t2), none⟩,
   ⟨(some t38), oMov (.t t37), none⟩,
   ⟨(some t39), oMov (.t t1), (some (t38, true))⟩,
   ⟨(some t40), oBin (int2 (cmpO eqI)) (.t t39) (.v (.int .i64 36584)), (some (t38, true))⟩,
   ⟨(some t41), oPick (.t t38) (.t t40) (.v (.bool false)), none⟩,
   ⟨(some t42), oMov (.t t41), none⟩,
   ⟨(some t43), oMov (.t t6), (some (t42, true))⟩,
   ⟨(some t44), oPick (.t t42) (.t t43) (.v (.bool false)), none⟩,
   ⟨(some t45), oMov (.t t44), none⟩,
   ⟨(some t46), oMov (.t t10), (some (t45, true))⟩,
   ⟨(some t47), oPick (.t t45) (.t t46) (.v (.bool false)), none⟩,
   ⟨(some t48), oMov (.t t47), none⟩,
   ⟨(some t49), oMov (.t t7), (some (t48, true))⟩,
   ⟨(some t50), oBin (int2 (cmpO eqI)) (.t t49) (.v (.int .i64 2023)), (some (t48, true))⟩,
   ⟨(some t51), oPick (.t t48) (.t t50) (.v (.bool false)), none⟩,
   ⟨(some t52), oMov (.t t51), none⟩,
   ⟨(some t53), oMov (.t t8), (some (t52, true))⟩,
   ⟨(some t54), oBin (int2 (cmpO eqI)) (.t t53) (.v (.int .i64 2)), (some (t52, true))⟩,
   ⟨(some t55), oPick (.t t52) (.t t54) (.v (.bool false)), none⟩,
   ⟨(some t56), oMov (.t t55), none⟩,
   ⟨(some t57), oMov (.t t9), (some (t56, true))⟩,
   ⟨(some t58), oBin (int2 (cmpO eqI)) (.t t57) (.v (.int .i64 28)), (some (t56, true))⟩,
   ⟨(some t59), oPick (.t t56) (.t t58) (.v (.bool false)), none⟩,
   ⟨(some t60), oMov (.t t59), none⟩,
   ⟨(some t61), oCall 15 [(.v (.int .i64 0))], (some (t60, true))⟩,
   ⟨(some t62), oBin (str2 (cmpS eqBytes)) (.t t61) (.v (.string ⟨⟨[49, 57, 48, 48, 45, 48, 49, 45, 48, 49]⟩⟩)), (some (t60, true))⟩,
   ⟨(some t63), oPick (.t t60) (.t t62) (.v (.bool false)), none⟩,
   ⟨(some t64), oMov (.t t63), none⟩,
   ⟨(some t65), oMov (.t t12), (some (t64, true))⟩,
   ⟨(some t66), oPick (.t t64) (.t t65) (.v (.bool false)), none⟩,
   ⟨(some t67), oMov (.t t66), none⟩,
   ⟨(some t68), oMov (.t t11), (some (t67, true))⟩,
   ⟨(some t69), oBin (int2 (cmpO eqI)) (.t t68) (.v (.int .i64 1)), (some (t67, true))⟩,
   ⟨(some t70), oPick (.t t67) (.t t69) (.v (.bool false)), none⟩,
   ⟨(some t71), oMov (.t t70), none⟩,
   ⟨(some t72), oCall 16 [(.v (.int .i64 0))], (some (t71, true))⟩,
   ⟨(some t73), oBin (int2 (cmpO eqI)) (.t t72) (.v (.int .i64 0)), (some (t71, true))⟩,
   ⟨(some t74), oPick (.t t71) (.t t73) (.v (.bool false)), none⟩,
   ⟨(some t75), oMov (.t t74), none⟩,
   ⟨(some t76), oCall 22 [(.v (.int .i64 2000))], (some (t75, true))⟩,
   ⟨(some t77), oPick (.t t75) (.t t76) (.v (.bool false)), none⟩,
   ⟨(some t78), oMov (.t t77), none⟩,
   ⟨(some t79), oCall 22 [(.v (.int .i64 1900))], (some (t78, true))⟩,
   ⟨(some t80), oNot (.t t79), (some (t78, true))⟩,
   ⟨(some t81), oPick (.t t78) (.t t80) (.v (.bool false)), none⟩,
   ⟨(some t82), oMov (.t t81), none⟩,
   ⟨(some t83), oCall 17 [(.v (.int .i64 2024)), (.v (.int .i64 2))], (some (t82, true))⟩,
   ⟨(some t84), oBin (int2 (cmpO eqI)) (.t t83) (.v (.int .i64 29)), (some (t82, true))⟩,
   ⟨(some t85), oPick (.t t82) (.t t84) (.v (.bool false)), none⟩,
   ⟨(some t0), oMov (.t t85), none⟩])
 xRet)))))))⟩
theorem ok10 : cFunc Tryd.prog gl ex Tryd.f10 = some c10 := by kernel_rfl
/-- publican/cal.Of -/
def c11 : AFunc := ⟨43, [.tmp t6, .tmp t7],
 (xSeq (xOps [⟨(some t6), oMov (.v (.int .i64 0)), none⟩,
   ⟨(some t7), oMov (.v (.bool false)), none⟩])
 (xSeq (xSeq (xOps [⟨(some t10), oMov (.t t0), none⟩,
   ⟨(some t11), oBin (int2 (cmpO ltI)) (.t t10) (.v (.int .i64 1900)), none⟩,
   ⟨(some t12), oMov (.t t11), none⟩,
   ⟨(some t13), oMov (.t t0), (some (t12, false))⟩,
   ⟨(some t14), oBin (int2 (cmpO gtI)) (.t t13) (.v (.int .i64 2199)), (some (t12, false))⟩,
   ⟨(some t15), oPick (.t t12) (.v (.bool true)) (.t t14), none⟩,
   ⟨(some t16), oMov (.t t15), none⟩,
   ⟨(some t17), oMov (.t t2), (some (t16, false))⟩,
   ⟨(some t18), oBin (int2 (cmpO ltI)) (.t t17) (.v (.int .i64 1)), (some (t16, false))⟩,
   ⟨(some t19), oPick (.t t16) (.v (.bool true)) (.t t18), none⟩,
   ⟨(some t20), oMov (.t t19), none⟩,
   ⟨(some t21), oMov (.t t2), (some (t20, false))⟩,
   ⟨(some t22), oMov (.t t0), (some (t20, false))⟩,
   ⟨(some t23), oMov (.t t1), (some (t20, false))⟩,
   ⟨(some t24), oCall 17 [(.t t22), (.t t23)], (some (t20, false))⟩,
   ⟨(some t25), oBin (int2 (cmpO gtI)) (.t t21) (.t t24), (some (t20, false))⟩,
   ⟨(some t26), oPick (.t t20) (.v (.bool true)) (.t t25), none⟩])
 (xCond (.t t26)
 (xSeq (xOps [⟨(some t6), oMov (.v (.int .i64 0)), none⟩,
   ⟨(some t7), oMov (.v (.bool false)), none⟩])
 xRet)
 xSkip))
 (xSeq (xOps [⟨(some t27), oMov (.t t0), none⟩,
   ⟨(some t28), oCall 26 [(.t t27)], none⟩,
   ⟨(some t8), oMov (.t t28), none⟩])
 (xSeq (xSeq (xOps [⟨(some t9), oMov (.v (.int .i64 1)), none⟩])
 (xBlock 0 (xLoop (xSeq (xSeq (xOps [⟨(some t29), oMov (.t t9), none⟩,
   ⟨(some t30), oMov (.t t1), none⟩,
   ⟨(some t31), oBin (int2 (cmpO ltI)) (.t t29) (.t t30), none⟩])
 (xCond (.t t31)
 xSkip
 (xExit 0)))
 (xSeq (xBlock 1 (xOps [⟨(some t34), oMov (.t t8), none⟩,
   ⟨(some t35), oMov (.t t0), none⟩,
   ⟨(some t36), oMov (.t t9), none⟩,
   ⟨(some t37), oCall 17 [(.t t35), (.t t36)], none⟩,
   ⟨(some t38), oBin (int2 addO) (.t t34) (.t t37), none⟩,
   ⟨(some t8), oMov (.t t38), none⟩]))
 (xOps [⟨(some t32), oMov (.t t9), none⟩,
   ⟨(some t33), oBin (int2 addO) (.t t32) (.v (.int .i64 1)), none⟩,
   ⟨(some t9), oMov (.t t33), none⟩]))))))
 (xSeq (xOps [⟨(some t39), oMov (.t t8), none⟩,
   ⟨(some t40), oMov (.t t2), none⟩,
   ⟨(some t41), oBin (int2 addO) (.t t39) (.t t40), none⟩,
   ⟨(some t42), oBin (int2 subO) (.t t41) (.v (.int .i64 1)), none⟩,
   ⟨(some t6), oMov (.t t42), none⟩,
   ⟨(some t7), oMov (.v (.bool true)), none⟩])
 xRet)))))⟩
theorem ok11 : cFunc Tryd.prog gl ex Tryd.f11 = some c11 := by kernel_rfl
/-- publican/cal.Months -/
def c12 : AFunc := ⟨58, [.tmp t4, .tmp t5],
 (xSeq (xOps [⟨(some t4), oMov (.v (.int .i64 0)), none⟩,
   ⟨(some t5), oMov (.v (.bool false)), none⟩])
 (xSeq (xOps [⟨(some t12), oMov (.t t0), none⟩,
   ⟨(some t13), oCall 14 [(.t t12)], none⟩,
   ⟨(some t11), oMov (.t t13), none⟩,
   ⟨(some t14), oExtract (.t t11) 0, none⟩,
   ⟨(some t15), oExtract (.t t11) 1, none⟩,
   ⟨(some t16), oExtract (.t t11) 2, none⟩,
   ⟨(some t17), oExtract (.t t11) 3, none⟩,
   ⟨(some t6), oMov (.t t14), none⟩,
   ⟨(some t7), oMov (.t t15), none⟩,
   ⟨(some t8), oMov (.t t16), none⟩,
   ⟨(some t9), oMov (.t t17), none⟩])
 (xSeq (xSeq (xOps [⟨(some t18), oMov (.t t9), none⟩,
   ⟨(some t19), oNot (.t t18), none⟩,
   ⟨(some t20), oMov (.t t19), none⟩,
   ⟨(some t21), oMov (.t t1), (some (t20, false))⟩,
   ⟨(some t22), oBin (int2 (cmpO ltI)) (.t t21) (.v (.int .i64 (-3600))), (some (t20, false))⟩,
   ⟨(some t23), oPick (.t t20) (.v (.bool true)) (.t t22), none⟩,
   ⟨(some t24), oMov (.t t23), none⟩,
   ⟨(some t25), oMov (.t t1), (some (t24, false))⟩,
   ⟨(some t26), oBin (int2 (cmpO gtI)) (.t t25) (.v (.int .i64 3600)), (some (t24, false))⟩,
   ⟨(some t27), oPick (.t t24) (.v (.bool true)) (.t t26), none⟩])
 (xCond (.t t27)
 (xSeq (xOps [⟨(some t4), oMov (.v (.int .i64 0)), none⟩,
   ⟨(some t5), oMov (.v (.bool false)), none⟩])
 xRet)
 xSkip))
 (xSeq (xOps [⟨(some t28), oMov (.t t6), none⟩,
   ⟨(some t29), oBin (int2 subO) (.t t28) (.v (.int .i64 1900)), none⟩,
   ⟨(some t30), oBin (int2 mulO) (.t t29) (.v (.int .i64 12)), none⟩,
   ⟨(some t31), oMov (.t t7), none⟩,
   ⟨(some t32), oBin (int2 addO) (.t t30) (.t t31), none⟩,
   ⟨(some t33), oBin (int2 subO) (.t t32) (.v (.int .i64 1)), none⟩,
   ⟨(some t34), oMov (.t t1), none⟩,
   ⟨(some t35), oBin (int2 addO) (.t t33) (.t t34), none⟩,
   ⟨(some t10), oMov (.t t35), none⟩])
 (xSeq (xSeq (xOps [⟨(some t36), oMov (.t t10), none⟩,
   ⟨(some t37), oBin (int2 (cmpO ltI)) (.t t36) (.v (.int .i64 0)), none⟩,
   ⟨(some t38), oMov (.t t37), none⟩,
   ⟨(some t39), oMov (.t t10), (some (t38, false))⟩,
   ⟨(some t40), oBin (int2 (cmpO geI)) (.t t39) (.v (.int .i64 3600)), (some (t38, false))⟩,
   ⟨(some t41), oPick (.t t38) (.v (.bool true)) (.t t40), none⟩])
 (xCond (.t t41)
 (xSeq (xOps [⟨(some t4), oMov (.v (.int .i64 0)), none⟩,
   ⟨(some t5), oMov (.v (.bool false)), none⟩])
 xRet)
 xSkip))
 (xSeq (xOps [⟨(some t42), oMov (.t t10), none⟩,
   ⟨(some t43), oBin (int2 quoO) (.t t42) (.v (.int .i64 12)), none⟩,
   ⟨(some t44), oBin (int2 addO) (.v (.int .i64 1900)) (.t t43), none⟩,
   ⟨(some t45), oMov (.t t10), none⟩,
   ⟨(some t46), oBin (int2 remO) (.t t45) (.v (.int .i64 12)), none⟩,
   ⟨(some t47), oBin (int2 addO) (.t t46) (.v (.int .i64 1)), none⟩,
   ⟨(some t6), oMov (.t t44), none⟩,
   ⟨(some t7), oMov (.t t47), none⟩])
 (xSeq (xOps [⟨(some t48), oMov (.t t6), none⟩,
   ⟨(some t49), oMov (.t t7), none⟩,
   ⟨(some t50), oMov (.t t8), none⟩,
   ⟨(some t51), oMov (.t t6), none⟩,
   ⟨(some t52), oMov (.t t7), none⟩,
   ⟨(some t53), oCall 17 [(.t t51), (.t t52)], none⟩,
   ⟨(some t54), oMM false (.t t50) [(.t t53)], none⟩,
   ⟨(some t55), oCall 11 [(.t t48), (.t t49), (.t t54)], none⟩,
   ⟨(some t56), oExtract (.t t55) 0, none⟩,
   ⟨(some t57), oExtract (.t t55) 1, none⟩,
   ⟨(some t4), oMov (.t t56), none⟩,
   ⟨(some t5), oMov (.t t57), none⟩])
 xRet)))))))⟩
theorem ok12 : cFunc Tryd.prog gl ex Tryd.f12 = some c12 := by kernel_rfl
/-- publican/cal.Read -/
def c13 : AFunc := ⟨29, [.tmp t2, .tmp t3],
 (xSeq (xOps [⟨(some t2), oMov (.v (.int .i64 0)), none⟩,
   ⟨(some t3), oMov (.v (.bool false)), none⟩])
 (xSeq (xSeq (xOps [⟨(some t4), oMov (.t t0), none⟩,
   ⟨(some t5), oLenS (.t t4), none⟩,
   ⟨(some t6), oBin (int2 (cmpO neI)) (.t t5) (.v (.int .i64 10)), none⟩,
   ⟨(some t7), oMov (.t t6), none⟩,
   ⟨(some t8), oMov (.t t0), (some (t7, false))⟩,
   ⟨(some t9), oIdxS (.t t8) (.v (.int .i64 4)), (some (t7, false))⟩,
   ⟨(some t10), oBin (int2 (cmpO neI)) (.t t9) (.v (.int .u8 45)), (some (t7, false))⟩,
   ⟨(some t11), oPick (.t t7) (.v (.bool true)) (.t t10), none⟩,
   ⟨(some t12), oMov (.t t11), none⟩,
   ⟨(some t13), oMov (.t t0), (some (t12, false))⟩,
   ⟨(some t14), oIdxS (.t t13) (.v (.int .i64 7)), (some (t12, false))⟩,
   ⟨(some t15), oBin (int2 (cmpO neI)) (.t t14) (.v (.int .u8 45)), (some (t12, false))⟩,
   ⟨(some t16), oPick (.t t12) (.v (.bool true)) (.t t15), none⟩])
 (xCond (.t t16)
 (xSeq (xOps [⟨(some t2), oMov (.v (.int .i64 0)), none⟩,
   ⟨(some t3), oMov (.v (.bool false)), none⟩])
 xRet)
 xSkip))
 (xSeq (xReg [⟨(some t17), oMov (.t t0), none⟩,
   ⟨(some t18), oSliceS (.t t17) none (some (.v (.int .i64 4))), none⟩,
   ⟨(some t19), oCall 27 [(.t t18)], none⟩,
   ⟨(some t20), oMov (.t t0), none⟩,
   ⟨(some t21), oSliceS (.t t20) (some (.v (.int .i64 5))) (some (.v (.int .i64 7))), none⟩,
   ⟨(some t22), oCall 27 [(.t t21)], none⟩,
   ⟨(some t23), oMov (.t t0), none⟩,
   ⟨(some t24), oSliceS (.t t23) (some (.v (.int .i64 8))) none, none⟩,
   ⟨(some t25), oCall 27 [(.t t24)], none⟩,
   ⟨(some t26), oCall 11 [(.t t19), (.t t22), (.t t25)], none⟩,
   ⟨(some t27), oExtract (.t t26) 0, none⟩,
   ⟨(some t28), oExtract (.t t26) 1, none⟩,
   ⟨(some t2), oMov (.t t27), none⟩,
   ⟨(some t3), oMov (.t t28), none⟩] [(0, 3), (1, 3), (2, 3), (0, 4), (1, 4), (2, 4), (0, 6), (1, 6), (2, 6), (3, 6), (4, 6), (5, 6), (0, 7), (1, 7), (2, 7), (3, 7), (4, 7), (5, 7), (10, 11)])
 xRet)))⟩
theorem ok13 : cFunc Tryd.prog gl ex Tryd.f13 = some c13 := by kernel_rfl
/-- publican/cal.Date -/
def c14 : AFunc := ⟨40, [.tmp t2, .tmp t3, .tmp t4, .tmp t5],
 (xSeq (xOps [⟨(some t2), oMov (.v (.int .i64 0)), none⟩,
   ⟨(some t3), oMov (.v (.int .i64 0)), none⟩,
   ⟨(some t4), oMov (.v (.int .i64 0)), none⟩,
   ⟨(some t5), oMov (.v (.bool false)), none⟩])
 (xSeq (xSeq (xOps [⟨(some t6), oMov (.t t0), none⟩,
   ⟨(some t7), oCall 28 [(.t t6)], none⟩,
   ⟨(some t8), oNot (.t t7), none⟩])
 (xCond (.t t8)
 (xSeq (xOps [⟨(some t2), oMov (.v (.int .i64 0)), none⟩,
   ⟨(some t3), oMov (.v (.int .i64 0)), none⟩,
   ⟨(some t4), oMov (.v (.int .i64 0)), none⟩,
   ⟨(some t5), oMov (.v (.bool false)), none⟩])
 xRet)
 xSkip))
 (xSeq (xOps [⟨(some t2), oMov (.v (.int .i64 1900)), none⟩])
 (xSeq (xBlock 0 (xLoop (xSeq (xSeq (xOps [⟨(some t9), oMov (.t t2), none⟩,
   ⟨(some t10), oBin (int2 (cmpO ltI)) (.t t9) (.v (.int .i64 2199)), none⟩,
   ⟨(some t11), oMov (.t t10), none⟩,
   ⟨(some t12), oMov (.t t2), (some (t11, true))⟩,
   ⟨(some t13), oBin (int2 addO) (.t t12) (.v (.int .i64 1)), (some (t11, true))⟩,
   ⟨(some t14), oCall 26 [(.t t13)], (some (t11, true))⟩,
   ⟨(some t15), oMov (.t t0), (some (t11, true))⟩,
   ⟨(some t16), oBin (int2 (cmpO leI)) (.t t14) (.t t15), (some (t11, true))⟩,
   ⟨(some t17), oPick (.t t11) (.t t16) (.v (.bool false)), none⟩])
 (xCond (.t t17)
 xSkip
 (xExit 0)))
 (xBlock 1 (xOps [⟨(some t18), oMov (.t t2), none⟩,
   ⟨(some t19), oBin (int2 addO) (.t t18) (.v (.int .i64 1)), none⟩,
   ⟨(some t2), oMov (.t t19), none⟩])))))
 (xSeq (xOps [⟨(some t20), oMov (.t t0), none⟩,
   ⟨(some t21), oMov (.t t2), none⟩,
   ⟨(some t22), oCall 26 [(.t t21)], none⟩,
   ⟨(some t23), oBin (int2 subO) (.t t20) (.t t22), none⟩,
   ⟨(some t0), oMov (.t t23), none⟩])
 (xSeq (xOps [⟨(some t3), oMov (.v (.int .i64 1)), none⟩])
 (xSeq (xBlock 2 (xLoop (xSeq (xSeq (xOps [⟨(some t24), oMov (.t t0), none⟩,
   ⟨(some t25), oMov (.t t2), none⟩,
   ⟨(some t26), oMov (.t t3), none⟩,
   ⟨(some t27), oCall 17 [(.t t25), (.t t26)], none⟩,
   ⟨(some t28), oBin (int2 (cmpO geI)) (.t t24) (.t t27), none⟩])
 (xCond (.t t28)
 xSkip
 (xExit 2)))
 (xBlock 3 (xSeq (xOps [⟨(some t29), oMov (.t t0), none⟩,
   ⟨(some t30), oMov (.t t2), none⟩,
   ⟨(some t31), oMov (.t t3), none⟩,
   ⟨(some t32), oCall 17 [(.t t30), (.t t31)], none⟩,
   ⟨(some t33), oBin (int2 subO) (.t t29) (.t t32), none⟩,
   ⟨(some t0), oMov (.t t33), none⟩])
 (xOps [⟨(some t34), oMov (.t t3), none⟩,
   ⟨(some t35), oBin (int2 addO) (.t t34) (.v (.int .i64 1)), none⟩,
   ⟨(some t3), oMov (.t t35), none⟩]))))))
 (xSeq (xOps [⟨(some t36), oMov (.t t2), none⟩,
   ⟨(some t37), oMov (.t t3), none⟩,
   ⟨(some t38), oMov (.t t0), none⟩,
   ⟨(some t39), oBin (int2 addO) (.t t38) (.v (.int .i64 1)), none⟩,
   ⟨(some t2), oMov (.t t36), none⟩,
   ⟨(some t3), oMov (.t t37), none⟩,
   ⟨(some t4), oMov (.t t39), none⟩,
   ⟨(some t5), oMov (.v (.bool true)), none⟩])
 xRet))))))))⟩
theorem ok14 : cFunc Tryd.prog gl ex Tryd.f14 = some c14 := by kernel_rfl
/-- publican/cal.Text -/
def c15 : AFunc := ⟨26, [.tmp t2],
 (xSeq (xOps [⟨(some t2), oMov (.v (.string ⟨⟨[]⟩⟩)), none⟩])
 (xSeq (xOps [⟨(some t8), oMov (.t t0), none⟩,
   ⟨(some t9), oCall 14 [(.t t8)], none⟩,
   ⟨(some t7), oMov (.t t9), none⟩,
   ⟨(some t10), oExtract (.t t7) 0, none⟩,
   ⟨(some t11), oExtract (.t t7) 1, none⟩,
   ⟨(some t12), oExtract (.t t7) 2, none⟩,
   ⟨(some t13), oExtract (.t t7) 3, none⟩,
   ⟨(some t3), oMov (.t t10), none⟩,
   ⟨(some t4), oMov (.t t11), none⟩,
   ⟨(some t5), oMov (.t t12), none⟩,
   ⟨(some t6), oMov (.t t13), none⟩])
 (xSeq (xSeq (xOps [⟨(some t14), oMov (.t t6), none⟩,
   ⟨(some t15), oNot (.t t14), none⟩])
 (xCond (.t t15)
 (xSeq (xOps [⟨(some t2), oMov (.v (.string ⟨⟨[]⟩⟩)), none⟩])
 xRet)
 xSkip))
 (xSeq (xOps [⟨(some t16), oMov (.t t3), none⟩,
   ⟨(some t17), oCall 29 [(.t t16), (.v (.int .i64 4))], none⟩,
   ⟨(some t18), oBin (str2 catO) (.t t17) (.v (.string ⟨⟨[45]⟩⟩)), none⟩,
   ⟨(some t19), oMov (.t t4), none⟩,
   ⟨(some t20), oCall 29 [(.t t19), (.v (.int .i64 2))], none⟩,
   ⟨(some t21), oBin (str2 catO) (.t t18) (.t t20), none⟩,
   ⟨(some t22), oBin (str2 catO) (.t t21) (.v (.string ⟨⟨[45]⟩⟩)), none⟩,
   ⟨(some t23), oMov (.t t5), none⟩,
   ⟨(some t24), oCall 29 [(.t t23), (.v (.int .i64 2))], none⟩,
   ⟨(some t25), oBin (str2 catO) (.t t22) (.t t24), none⟩,
   ⟨(some t2), oMov (.t t25), none⟩])
 xRet))))⟩
theorem ok15 : cFunc Tryd.prog gl ex Tryd.f15 = some c15 := by kernel_rfl
/-- publican/cal.Weekday -/
def c16 : AFunc := ⟨8, [.tmp t2],
 (xSeq (xOps [⟨(some t2), oMov (.v (.int .i64 0)), none⟩])
 (xSeq (xSeq (xOps [⟨(some t3), oMov (.t t0), none⟩,
   ⟨(some t4), oCall 28 [(.t t3)], none⟩,
   ⟨(some t5), oNot (.t t4), none⟩])
 (xCond (.t t5)
 (xSeq (xOps [⟨(some t2), oMov (.v (.int .i64 (-1))), none⟩])
 xRet)
 xSkip))
 (xSeq (xOps [⟨(some t6), oMov (.t t0), none⟩,
   ⟨(some t7), oBin (int2 remO) (.t t6) (.v (.int .i64 7)), none⟩,
   ⟨(some t2), oMov (.t t7), none⟩])
 xRet)))⟩
theorem ok16 : cFunc Tryd.prog gl ex Tryd.f16 = some c16 := by kernel_rfl
/-- publican/cal.Days -/
def c17 : AFunc := ⟨23, [.tmp t4],
 (xSeq (xOps [⟨(some t4), oMov (.v (.int .i64 0)), none⟩])
 (xSeq (xSeq (xOps [⟨(some t5), oMov (.t t1), none⟩])
 (xBlock 0 (xSeq (xOps [⟨(some t7), oBin (int2 (cmpO eqI)) (.t t5) (.v (.int .i64 2)), none⟩,
   ⟨(some t6), oMov (.t t7), none⟩])
 (xCond (.t t6)
 (xSeq (xSeq (xOps [⟨(some t8), oMov (.t t0), none⟩,
   ⟨(some t9), oCall 22 [(.t t8)], none⟩])
 (xCond (.t t9)
 (xSeq (xOps [⟨(some t4), oMov (.v (.int .i64 29)), none⟩])
 xRet)
 xSkip))
 (xSeq (xOps [⟨(some t4), oMov (.v (.int .i64 28)), none⟩])
 xRet))
 (xSeq (xSeq (xOps [⟨(some t11), oBin (int2 (cmpO eqI)) (.t t5) (.v (.int .i64 4)), none⟩,
   ⟨(some t10), oMov (.t t11), none⟩])
 (xCond (.t t10)
 xSkip
 (xSeq (xOps [⟨(some t12), oBin (int2 (cmpO eqI)) (.t t5) (.v (.int .i64 6)), none⟩,
   ⟨(some t10), oMov (.t t12), none⟩])
 (xCond (.t t10)
 xSkip
 (xSeq (xOps [⟨(some t13), oBin (int2 (cmpO eqI)) (.t t5) (.v (.int .i64 9)), none⟩,
   ⟨(some t10), oMov (.t t13), none⟩])
 (xCond (.t t10)
 xSkip
 (xOps [⟨(some t14), oBin (int2 (cmpO eqI)) (.t t5) (.v (.int .i64 11)), none⟩,
   ⟨(some t10), oMov (.t t14), none⟩])))))))
 (xCond (.t t10)
 (xSeq (xOps [⟨(some t4), oMov (.v (.int .i64 30)), none⟩])
 xRet)
 (xSeq (xSeq (xOps [⟨(some t16), oBin (int2 (cmpO eqI)) (.t t5) (.v (.int .i64 1)), none⟩,
   ⟨(some t15), oMov (.t t16), none⟩])
 (xCond (.t t15)
 xSkip
 (xSeq (xOps [⟨(some t17), oBin (int2 (cmpO eqI)) (.t t5) (.v (.int .i64 3)), none⟩,
   ⟨(some t15), oMov (.t t17), none⟩])
 (xCond (.t t15)
 xSkip
 (xSeq (xOps [⟨(some t18), oBin (int2 (cmpO eqI)) (.t t5) (.v (.int .i64 5)), none⟩,
   ⟨(some t15), oMov (.t t18), none⟩])
 (xCond (.t t15)
 xSkip
 (xSeq (xOps [⟨(some t19), oBin (int2 (cmpO eqI)) (.t t5) (.v (.int .i64 7)), none⟩,
   ⟨(some t15), oMov (.t t19), none⟩])
 (xCond (.t t15)
 xSkip
 (xSeq (xOps [⟨(some t20), oBin (int2 (cmpO eqI)) (.t t5) (.v (.int .i64 8)), none⟩,
   ⟨(some t15), oMov (.t t20), none⟩])
 (xCond (.t t15)
 xSkip
 (xSeq (xOps [⟨(some t21), oBin (int2 (cmpO eqI)) (.t t5) (.v (.int .i64 10)), none⟩,
   ⟨(some t15), oMov (.t t21), none⟩])
 (xCond (.t t15)
 xSkip
 (xOps [⟨(some t22), oBin (int2 (cmpO eqI)) (.t t5) (.v (.int .i64 12)), none⟩,
   ⟨(some t15), oMov (.t t22), none⟩])))))))))))))
 (xCond (.t t15)
 (xSeq (xOps [⟨(some t4), oMov (.v (.int .i64 31)), none⟩])
 xRet)
 xSkip))))))))
 (xSeq (xOps [⟨(some t4), oMov (.v (.int .i64 0)), none⟩])
 xRet)))⟩
theorem ok17 : cFunc Tryd.prog gl ex Tryd.f17 = some c17 := by kernel_rfl
/-- publican/cal.Leap -/
def c22 : AFunc := ⟨16, [.tmp t2],
 (xSeq (xOps [⟨(some t2), oMov (.v (.bool false)), none⟩])
 (xSeq (xOps [⟨(some t3), oMov (.t t0), none⟩,
   ⟨(some t4), oBin (int2 remO) (.t t3) (.v (.int .i64 4)), none⟩,
   ⟨(some t5), oBin (int2 (cmpO eqI)) (.t t4) (.v (.int .i64 0)), none⟩,
   ⟨(some t6), oMov (.t t5), none⟩,
   ⟨(some t7), oMov (.t t0), (some (t6, true))⟩,
   ⟨(some t8), oBin (int2 remO) (.t t7) (.v (.int .i64 100)), (some (t6, true))⟩,
   ⟨(some t9), oBin (int2 (cmpO neI)) (.t t8) (.v (.int .i64 0)), (some (t6, true))⟩,
   ⟨(some t10), oPick (.t t6) (.t t9) (.v (.bool false)), none⟩,
   ⟨(some t11), oMov (.t t10), none⟩,
   ⟨(some t12), oMov (.t t0), (some (t11, false))⟩,
   ⟨(some t13), oBin (int2 remO) (.t t12) (.v (.int .i64 400)), (some (t11, false))⟩,
   ⟨(some t14), oBin (int2 (cmpO eqI)) (.t t13) (.v (.int .i64 0)), (some (t11, false))⟩,
   ⟨(some t15), oPick (.t t11) (.v (.bool true)) (.t t14), none⟩,
   ⟨(some t2), oMov (.t t15), none⟩])
 xRet))⟩
theorem ok22 : cFunc Tryd.prog gl ex Tryd.f22 = some c22 := by kernel_rfl
/-- publican/cal.before -/
def c26 : AFunc := ⟨25, [.tmp t2],
 (xSeq (xOps [⟨(some t2), oMov (.v (.int .i64 0)), none⟩])
 (xSeq (xOps [⟨(some t5), oMov (.t t0), none⟩,
   ⟨(some t6), oBin (int2 subO) (.t t5) (.v (.int .i64 1900)), none⟩,
   ⟨(some t3), oMov (.t t6), none⟩])
 (xSeq (xOps [⟨(some t7), oMov (.t t0), none⟩,
   ⟨(some t8), oBin (int2 subO) (.t t7) (.v (.int .i64 1)), none⟩,
   ⟨(some t9), oBin (int2 quoO) (.t t8) (.v (.int .i64 4)), none⟩,
   ⟨(some t10), oBin (int2 subO) (.t t9) (.v (.int .i64 474)), none⟩,
   ⟨(some t11), oMov (.t t0), none⟩,
   ⟨(some t12), oBin (int2 subO) (.t t11) (.v (.int .i64 1)), none⟩,
   ⟨(some t13), oBin (int2 quoO) (.t t12) (.v (.int .i64 100)), none⟩,
   ⟨(some t14), oBin (int2 subO) (.t t13) (.v (.int .i64 18)), none⟩,
   ⟨(some t15), oBin (int2 subO) (.t t10) (.t t14), none⟩,
   ⟨(some t16), oMov (.t t0), none⟩,
   ⟨(some t17), oBin (int2 subO) (.t t16) (.v (.int .i64 1)), none⟩,
   ⟨(some t18), oBin (int2 quoO) (.t t17) (.v (.int .i64 400)), none⟩,
   ⟨(some t19), oBin (int2 subO) (.t t18) (.v (.int .i64 4)), none⟩,
   ⟨(some t20), oBin (int2 addO) (.t t15) (.t t19), none⟩,
   ⟨(some t4), oMov (.t t20), none⟩])
 (xSeq (xOps [⟨(some t21), oMov (.t t3), none⟩,
   ⟨(some t22), oBin (int2 mulO) (.t t21) (.v (.int .i64 365)), none⟩,
   ⟨(some t23), oMov (.t t4), none⟩,
   ⟨(some t24), oBin (int2 addO) (.t t22) (.t t23), none⟩,
   ⟨(some t2), oMov (.t t24), none⟩])
 xRet))))⟩
theorem ok26 : cFunc Tryd.prog gl ex Tryd.f26 = some c26 := by kernel_rfl
/-- publican/cal.number -/
def c27 : AFunc := ⟨27, [.tmp t2],
 (xSeq (xOps [⟨(some t2), oMov (.v (.int .i64 0)), none⟩])
 (xSeq (xOps [⟨(some t3), oMov (.v (.int .i64 0)), none⟩])
 (xSeq (xSeq (xOps [⟨(some t6), oMov (.t t0), none⟩,
   ⟨(some t7), oStrBytes (.t t6), none⟩,
   ⟨(some t8), oLenL (.t t7), none⟩,
   ⟨(some t9), oMov (.v (.int .i64 0)), none⟩])
 (xBlock 0 (xLoop (xSeq (xOps [⟨(some t10), oBin (int2 (cmpO ltI)) (.t t9) (.t t8), none⟩])
 (xSeq (xCond (.t t10)
 xSkip
 (xExit 0))
 (xSeq (xBlock 1 (xSeq (xOps [⟨(some t11), oIdxAddrL 1 (.t t7) (.t t9), none⟩,
   ⟨(some t12), oLoad1 (.t t11), none⟩,
   ⟨(some t5), oMov (.t t12), none⟩])
 (xSeq (xSeq (xOps [⟨(some t13), oMov (.t t5), none⟩,
   ⟨(some t14), oBin (int2 (cmpO ltI)) (.t t13) (.v (.int .u8 48)), none⟩,
   ⟨(some t15), oMov (.t t14), none⟩,
   ⟨(some t16), oMov (.t t5), (some (t15, false))⟩,
   ⟨(some t17), oBin (int2 (cmpO gtI)) (.t t16) (.v (.int .u8 57)), (some (t15, false))⟩,
   ⟨(some t18), oPick (.t t15) (.v (.bool true)) (.t t17), none⟩])
 (xCond (.t t18)
 (xSeq (xOps [⟨(some t2), oMov (.v (.int .i64 (-1))), none⟩])
 xRet)
 xSkip))
 (xOps [⟨(some t19), oMov (.t t3), none⟩,
   ⟨(some t20), oBin (int2 mulO) (.t t19) (.v (.int .i64 10)), none⟩,
   ⟨(some t21), oMov (.t t5), none⟩,
   ⟨(some t22), oBin (int2 subO) (.t t21) (.v (.int .u8 48)), none⟩,
   ⟨(some t23), oConv .i64 (.t t22), none⟩,
   ⟨(some t24), oBin (int2 addO) (.t t20) (.t t23), none⟩,
   ⟨(some t3), oMov (.t t24), none⟩]))))
 (xOps [⟨(some t25), oBin (int2 addO) (.t t9) (.v (.int .i64 1)), none⟩,
   ⟨(some t9), oMov (.t t25), none⟩])))))))
 (xSeq (xOps [⟨(some t26), oMov (.t t3), none⟩,
   ⟨(some t2), oMov (.t t26), none⟩])
 xRet))))⟩
theorem ok27 : cFunc Tryd.prog gl ex Tryd.f27 = some c27 := by kernel_rfl
/-- publican/cal.day -/
def c28 : AFunc := ⟨9, [.tmp t2],
 (xSeq (xOps [⟨(some t2), oMov (.v (.bool false)), none⟩])
 (xSeq (xOps [⟨(some t3), oMov (.t t0), none⟩,
   ⟨(some t4), oBin (int2 (cmpO geI)) (.t t3) (.v (.int .i64 0)), none⟩,
   ⟨(some t5), oMov (.t t4), none⟩,
   ⟨(some t6), oMov (.t t0), (some (t5, true))⟩,
   ⟨(some t7), oBin (int2 (cmpO leI)) (.t t6) (.v (.int .i64 109572)), (some (t5, true))⟩,
   ⟨(some t8), oPick (.t t5) (.t t7) (.v (.bool false)), none⟩,
   ⟨(some t2), oMov (.t t8), none⟩])
 xRet))⟩
theorem ok28 : cFunc Tryd.prog gl ex Tryd.f28 = some c28 := by kernel_rfl
/-- publican/cal.digits -/
def c29 : AFunc := ⟨15, [.tmp t4],
 (xSeq (xOps [⟨(some t4), oMov (.v (.string ⟨⟨[]⟩⟩)), none⟩])
 (xSeq (xOps [⟨(some t6), oMov (.t t0), none⟩,
   ⟨(some t7), oCall 31 [(.t t6)], none⟩,
   ⟨(some t5), oMov (.t t7), none⟩])
 (xSeq (xBlock 0 (xLoop (xSeq (xSeq (xOps [⟨(some t8), oMov (.t t5), none⟩,
   ⟨(some t9), oLenS (.t t8), none⟩,
   ⟨(some t10), oMov (.t t1), none⟩,
   ⟨(some t11), oBin (int2 (cmpO ltI)) (.t t9) (.t t10), none⟩])
 (xCond (.t t11)
 xSkip
 (xExit 0)))
 (xBlock 1 (xOps [⟨(some t12), oMov (.t t5), none⟩,
   ⟨(some t13), oBin (str2 catO) (.v (.string ⟨⟨[48]⟩⟩)) (.t t12), none⟩,
   ⟨(some t5), oMov (.t t13), none⟩])))))
 (xSeq (xOps [⟨(some t14), oMov (.t t5), none⟩,
   ⟨(some t4), oMov (.t t14), none⟩])
 xRet))))⟩
theorem ok29 : cFunc Tryd.prog gl ex Tryd.f29 = some c29 := by kernel_rfl
/-- strconv.Itoa -/
def c31 : AFunc := ⟨5, [.tmp t2],
 (xSeq (xOps [⟨(some t2), oMov (.v (.string ⟨⟨[]⟩⟩)), none⟩])
 (xSeq (xOps [⟨(some t3), oMov (.t t0), none⟩,
   ⟨(some t4), oCall 32 [(.t t3)], none⟩,
   ⟨(some t2), oMov (.t t4), none⟩])
 xRet))⟩
theorem ok31 : cFunc Tryd.prog gl ex Tryd.f31 = some c31 := by kernel_rfl
/-- internal/strconv.Itoa -/
def c32 : AFunc := ⟨5, [.tmp t2],
 (xSeq (xOps [⟨(some t2), oMov (.v (.string ⟨⟨[]⟩⟩)), none⟩])
 (xSeq (xOps [⟨(some t3), oMov (.t t0), none⟩,
   ⟨(some t4), oCall 33 [(.t t3), (.v (.int .i64 10))], none⟩,
   ⟨(some t2), oMov (.t t4), none⟩])
 xRet))⟩
theorem ok32 : cFunc Tryd.prog gl ex Tryd.f32 = some c32 := by kernel_rfl
/-- internal/strconv.FormatInt -/
def c33 : AFunc := ⟨54, [.tmp t4],
 (xSeq (xOps [⟨(some t4), oMov (.v (.string ⟨⟨[]⟩⟩)), none⟩])
 (xSeq (xSeq (xOps [⟨(some t10), oMov (.t t1), none⟩,
   ⟨(some t11), oBin (int2 (cmpO eqI)) (.t t10) (.v (.int .i64 10)), none⟩])
 (xCond (.t t11)
 (xSeq (xSeq (xOps [⟨(some t12), oMov (.t t0), none⟩,
   ⟨(some t13), oBin (int2 (cmpO leI)) (.v (.int .i64 0)) (.t t12), none⟩,
   ⟨(some t14), oMov (.t t13), none⟩,
   ⟨(some t15), oMov (.t t0), (some (t14, true))⟩,
   ⟨(some t16), oBin (int2 (cmpO ltI)) (.t t15) (.v (.int .i64 100)), (some (t14, true))⟩,
   ⟨(some t17), oPick (.t t14) (.t t16) (.v (.bool false)), none⟩])
 (xCond (.t t17)
 (xSeq (xOps [⟨(some t18), oMov (.t t0), none⟩,
   ⟨(some t19), oCall 34 [(.t t18)], none⟩,
   ⟨(some t4), oMov (.t t19), none⟩])
 xRet)
 xSkip))
 (xSeq (xOps [⟨(some t5), oNew (rep 24 [(.int .u8 0)]), none⟩])
 (xSeq (xOps [⟨(some t20), oMov (.t t0), none⟩,
   ⟨(some t21), oConv .u64 (.t t20), none⟩,
   ⟨(some t6), oMov (.t t21), none⟩])
 (xSeq (xSeq (xOps [⟨(some t22), oMov (.t t0), none⟩,
   ⟨(some t23), oBin (int2 (cmpO ltI)) (.t t22) (.v (.int .i64 0)), none⟩])
 (xCond (.t t23)
 (xOps [⟨(some t24), oMov (.t t6), none⟩,
   ⟨(some t25), oNeg (.t t24), none⟩,
   ⟨(some t6), oMov (.t t25), none⟩])
 xSkip))
 (xSeq (xOps [⟨(some t26), oMov (.t t6), none⟩,
   ⟨(some t27), oCall 35 [(.t t26)], none⟩,
   ⟨(some t7), oMov (.t t27), none⟩])
 (xSeq (xOps [⟨(some t28), oMov (.t t7), none⟩,
   ⟨(some t29), oBin (int2 addO) (.v (.int .i64 1)) (.t t28), none⟩,
   ⟨(some t30), oSliceA 24 1 (.t t5) (some (.v (.int .i64 1))) (some (.t t29)), none⟩,
   ⟨(some t31), oMov (.t t6), none⟩,
   ⟨(some t32), oCall 36 [(.t t30), (.t t31)], none⟩])
 (xSeq (xSeq (xOps [⟨(some t33), oMov (.t t0), none⟩,
   ⟨(some t34), oBin (int2 (cmpO ltI)) (.t t33) (.v (.int .i64 0)), none⟩])
 (xCond (.t t34)
 (xSeq (xOps [⟨(some t35), oIdxAddrA 24 1 (.t t5) (.v (.int .i64 0)), none⟩,
   ⟨none, oStore 1 (.t t35) (.v (.int .u8 45)), none⟩])
 (xSeq (xOps [⟨(some t36), oMov (.t t7), none⟩,
   ⟨(some t37), oBin (int2 addO) (.v (.int .i64 1)) (.t t36), none⟩,
   ⟨(some t38), oSliceA 24 1 (.t t5) none (some (.t t37)), none⟩,
   ⟨(some t39), oBytesStr (.t t38), none⟩,
   ⟨(some t4), oMov (.t t39), none⟩])
 xRet))
 xSkip))
 (xSeq (xOps [⟨(some t40), oMov (.t t7), none⟩,
   ⟨(some t41), oBin (int2 addO) (.v (.int .i64 1)) (.t t40), none⟩,
   ⟨(some t42), oSliceA 24 1 (.t t5) (some (.v (.int .i64 1))) (some (.t t41)), none⟩,
   ⟨(some t43), oBytesStr (.t t42), none⟩,
   ⟨(some t4), oMov (.t t43), none⟩])
 xRet))))))))
 xSkip))
 (xSeq (xOps [⟨(some t45), oMov (.t t0), none⟩,
   ⟨(some t46), oConv .u64 (.t t45), none⟩,
   ⟨(some t47), oMov (.t t1), none⟩,
   ⟨(some t48), oMov (.t t0), none⟩,
   ⟨(some t49), oBin (int2 (cmpO ltI)) (.t t48) (.v (.int .i64 0)), none⟩,
   ⟨(some t50), oCall 37 [(.v (.slice none 0 0)), (.t t46), (.t t47), (.t t49), (.v (.bool false))], none⟩,
   ⟨(some t44), oMov (.t t50), none⟩,
   ⟨(some t51), oExtract (.t t44) 0, none⟩,
   ⟨(some t52), oExtract (.t t44) 1, none⟩,
   ⟨(some t8), oMov (.t t51), none⟩,
   ⟨(some t9), oMov (.t t52), none⟩])
 (xSeq (xOps [⟨(some t53), oMov (.t t9), none⟩,
   ⟨(some t4), oMov (.t t53), none⟩])
 xRet))))⟩
theorem ok33 : cFunc Tryd.prog gl ex Tryd.f33 = some c33 := by kernel_rfl
/-- internal/strconv.small -/
def c34 : AFunc := ⟨15, [.tmp t2],
 (xSeq (xOps [⟨(some t2), oMov (.v (.string ⟨⟨[]⟩⟩)), none⟩])
 (xSeq (xSeq (xOps [⟨(some t3), oMov (.t t0), none⟩,
   ⟨(some t4), oBin (int2 (cmpO ltI)) (.t t3) (.v (.int .i64 10)), none⟩])
 (xCond (.t t4)
 (xSeq (xOps [⟨(some t5), oMov (.t t0), none⟩,
   ⟨(some t6), oMov (.t t0), none⟩,
   ⟨(some t7), oBin (int2 addO) (.t t6) (.v (.int .i64 1)), none⟩,
   ⟨(some t8), oSliceS (.v (.string ⟨⟨[48, 49, 50, 51, 52, 53, 54, 55, 56, 57, 97, 98, 99, 100, 101, 102, 103, 104, 105, 106, 107, 108, 109, 110, 111, 112, 113, 114, 115, 116, 117, 118, 119, 120, 121, 122]⟩⟩)) (some (.t t5)) (some (.t t7)), none⟩,
   ⟨(some t2), oMov (.t t8), none⟩])
 xRet)
 xSkip))
 (xSeq (xOps [⟨(some t9), oMov (.t t0), none⟩,
   ⟨(some t10), oBin (int2 mulO) (.t t9) (.v (.int .i64 2)), none⟩,
   ⟨(some t11), oMov (.t t0), none⟩,
   ⟨(some t12), oBin (int2 mulO) (.t t11) (.v (.int .i64 2)), none⟩,
   ⟨(some t13), oBin (int2 addO) (.t t12) (.v (.int .i64 2)), none⟩,
   ⟨(some t14), oSliceS (.v (.string ⟨⟨[48, 48, 48, 49, 48, 50, 48, 51, 48, 52, 48, 53, 48, 54, 48, 55, 48, 56, 48, 57, 49, 48, 49, 49, 49, 50, 49, 51, 49, 52, 49, 53, 49, 54, 49, 55, 49, 56, 49, 57, 50, 48, 50, 49, 50, 50, 50, 51, 50, 52, 50, 53, 50, 54, 50, 55, 50, 56, 50, 57, 51, 48, 51, 49, 51, 50, 51, 51, 51, 52, 51, 53, 51, 54, 51, 55, 51, 56, 51, 57, 52, 48, 52, 49, 52, 50, 52, 51, 52, 52, 52, 53, 52, 54, 52, 55, 52, 56, 52, 57, 53, 48, 53, 49, 53, 50, 53, 51, 53, 52, 53, 53, 53, 54, 53, 55, 53, 56, 53, 57, 54, 48, 54, 49, 54, 50, 54, 51, 54, 52, 54, 53, 54, 54, 54, 55, 54, 56, 54, 57, 55, 48, 55, 49, 55, 50, 55, 51, 55, 52, 55, 53, 55, 54, 55, 55, 55, 56, 55, 57, 56, 48, 56, 49, 56, 50, 56, 51, 56, 52, 56, 53, 56, 54, 56, 55, 56, 56, 56, 57, 57, 48, 57, 49, 57, 50, 57, 51, 57, 52, 57, 53, 57, 54, 57, 55, 57, 56, 57, 57]⟩⟩)) (some (.t t10)) (some (.t t13)), none⟩,
   ⟨(some t2), oMov (.t t14), none⟩])
 xRet)))⟩
theorem ok34 : cFunc Tryd.prog gl ex Tryd.f34 = some c34 := by kernel_rfl
/-- internal/strconv.numDigits -/
def c35 : AFunc := ⟨15, [.tmp t2],
 (xSeq (xOps [⟨(some t2), oMov (.v (.int .i64 0)), none⟩])
 (xSeq (xOps [⟨(some t4), oMov (.t t0), none⟩,
   ⟨(some t5), oCall 39 [(.t t4)], none⟩,
   ⟨(some t6), oCall 38 [(.t t5)], none⟩,
   ⟨(some t3), oMov (.t t6), none⟩])
 (xSeq (xOps [⟨(some t7), oMov (.t t3), none⟩,
   ⟨(some t8), oMov (.t t0), none⟩,
   ⟨(some t9), oMov (.t t3), none⟩,
   ⟨(some t10), oIdxAddrA 20 1 (.v (.pointer (some ⟨0, 0, none⟩))) (.t t9), none⟩,
   ⟨(some t11), oLoad1 (.t t10), none⟩,
   ⟨(some t12), oBin (int2 (cmpO geI)) (.t t8) (.t t11), none⟩,
   ⟨(some t13), oCall 40 [(.t t12)], none⟩,
   ⟨(some t14), oBin (int2 addO) (.t t7) (.t t13), none⟩,
   ⟨(some t2), oMov (.t t14), none⟩])
 xRet)))⟩
theorem ok35 : cFunc Tryd.prog gl ex Tryd.f35 = some c35 := by kernel_rfl
/-- internal/strconv.formatBase10 -/
def c36 : AFunc := ⟨167, [],
 (xSeq (xOps [⟨(some t17), oMov (.t t0), none⟩,
   ⟨(some t18), oLenL (.t t17), none⟩,
   ⟨(some t4), oMov (.t t18), none⟩])
 (xSeq (xBlock 0 (xLoop (xSeq (xSeq (xOps [⟨(some t19), oMov (.t t4), none⟩,
   ⟨(some t20), oBin (int2 (cmpO geI)) (.t t19) (.v (.int .i64 8)), none⟩])
 (xCond (.t t20)
 xSkip
 (xExit 0)))
 (xBlock 1 (xSeq (xOps [⟨(some t21), oMov (.t t1), none⟩,
   ⟨(some t22), oBin (int2 remO) (.t t21) (.v (.int .u64 100000000)), none⟩,
   ⟨(some t23), oConv .u32 (.t t22), none⟩,
   ⟨(some t5), oMov (.t t23), none⟩])
 (xSeq (xOps [⟨(some t24), oMov (.t t1), none⟩,
   ⟨(some t25), oBin (int2 quoO) (.t t24) (.v (.int .u64 100000000)), none⟩,
   ⟨(some t1), oMov (.t t25), none⟩])
 (xSeq (xOps [⟨(some t26), oMov (.t t5), none⟩,
   ⟨(some t27), oBin (int2 quoO) (.t t26) (.v (.int .u32 10000)), none⟩,
   ⟨(some t28), oMov (.t t5), none⟩,
   ⟨(some t29), oBin (int2 remO) (.t t28) (.v (.int .u32 10000)), none⟩,
   ⟨(some t6), oMov (.t t27), none⟩,
   ⟨(some t7), oMov (.t t29), none⟩])
 (xSeq (xOps [⟨(some t30), oMov (.t t7), none⟩,
   ⟨(some t31), oBin (int2 quoO) (.t t30) (.v (.int .u32 100)), none⟩,
   ⟨(some t32), oBin (int2 mulO) (.t t31) (.v (.int .u32 2)), none⟩,
   ⟨(some t33), oMov (.t t7), none⟩,
   ⟨(some t34), oBin (int2 remO) (.t t33) (.v (.int .u32 100)), none⟩,
   ⟨(some t35), oBin (int2 mulO) (.t t34) (.v (.int .u32 2)), none⟩,
   ⟨(some t8), oMov (.t t32), none⟩,
   ⟨(some t9), oMov (.t t35), none⟩])
 (xSeq (xOps [⟨(some t36), oMov (.t t6), none⟩,
   ⟨(some t37), oBin (int2 quoO) (.t t36) (.v (.int .u32 100)), none⟩,
   ⟨(some t38), oBin (int2 mulO) (.t t37) (.v (.int .u32 2)), none⟩,
   ⟨(some t39), oMov (.t t6), none⟩,
   ⟨(some t40), oBin (int2 remO) (.t t39) (.v (.int .u32 100)), none⟩,
   ⟨(some t41), oBin (int2 mulO) (.t t40) (.v (.int .u32 2)), none⟩,
   ⟨(some t10), oMov (.t t38), none⟩,
   ⟨(some t11), oMov (.t t41), none⟩])
 (xSeq (xReg [⟨(some t42), oMov (.t t0), none⟩,
   ⟨(some t43), oMov (.t t4), none⟩,
   ⟨(some t44), oBin (int2 subO) (.t t43) (.v (.int .i64 1)), none⟩,
   ⟨(some t45), oMov (.t t0), none⟩,
   ⟨(some t46), oMov (.t t4), none⟩,
   ⟨(some t47), oBin (int2 subO) (.t t46) (.v (.int .i64 2)), none⟩,
   ⟨(some t48), oMov (.t t9), none⟩,
   ⟨(some t49), oBin (int2 addO) (.t t48) (.v (.int .u32 1)), none⟩,
   ⟨(some t50), oIdxS (.v (.string ⟨⟨[48, 48, 48, 49, 48, 50, 48, 51, 48, 52, 48, 53, 48, 54, 48, 55, 48, 56, 48, 57, 49, 48, 49, 49, 49, 50, 49, 51, 49, 52, 49, 53, 49, 54, 49, 55, 49, 56, 49, 57, 50, 48, 50, 49, 50, 50, 50, 51, 50, 52, 50, 53, 50, 54, 50, 55, 50, 56, 50, 57, 51, 48, 51, 49, 51, 50, 51, 51, 51, 52, 51, 53, 51, 54, 51, 55, 51, 56, 51, 57, 52, 48, 52, 49, 52, 50, 52, 51, 52, 52, 52, 53, 52, 54, 52, 55, 52, 56, 52, 57, 53, 48, 53, 49, 53, 50, 53, 51, 53, 52, 53, 53, 53, 54, 53, 55, 53, 56, 53, 57, 54, 48, 54, 49, 54, 50, 54, 51, 54, 52, 54, 53, 54, 54, 54, 55, 54, 56, 54, 57, 55, 48, 55, 49, 55, 50, 55, 51, 55, 52, 55, 53, 55, 54, 55, 55, 55, 56, 55, 57, 56, 48, 56, 49, 56, 50, 56, 51, 56, 52, 56, 53, 56, 54, 56, 55, 56, 56, 56, 57, 57, 48, 57, 49, 57, 50, 57, 51, 57, 52, 57, 53, 57, 54, 57, 55, 57, 56, 57, 57]⟩⟩)) (.t t49), none⟩,
   ⟨(some t51), oMov (.t t9), none⟩,
   ⟨(some t52), oIdxS (.v (.string ⟨⟨[48, 48, 48, 49, 48, 50, 48, 51, 48, 52, 48, 53, 48, 54, 48, 55, 48, 56, 48, 57, 49, 48, 49, 49, 49, 50, 49, 51, 49, 52, 49, 53, 49, 54, 49, 55, 49, 56, 49, 57, 50, 48, 50, 49, 50, 50, 50, 51, 50, 52, 50, 53, 50, 54, 50, 55, 50, 56, 50, 57, 51, 48, 51, 49, 51, 50, 51, 51, 51, 52, 51, 53, 51, 54, 51, 55, 51, 56, 51, 57, 52, 48, 52, 49, 52, 50, 52, 51, 52, 52, 52, 53, 52, 54, 52, 55, 52, 56, 52, 57, 53, 48, 53, 49, 53, 50, 53, 51, 53, 52, 53, 53, 53, 54, 53, 55, 53, 56, 53, 57, 54, 48, 54, 49, 54, 50, 54, 51, 54, 52, 54, 53, 54, 54, 54, 55, 54, 56, 54, 57, 55, 48, 55, 49, 55, 50, 55, 51, 55, 52, 55, 53, 55, 54, 55, 55, 55, 56, 55, 57, 56, 48, 56, 49, 56, 50, 56, 51, 56, 52, 56, 53, 56, 54, 56, 55, 56, 56, 56, 57, 57, 48, 57, 49, 57, 50, 57, 51, 57, 52, 57, 53, 57, 54, 57, 55, 57, 56, 57, 57]⟩⟩)) (.t t51), none⟩,
   ⟨(some t53), oIdxAddrL 1 (.t t42) (.t t44), none⟩,
   ⟨none, oStore 1 (.t t53) (.t t50), none⟩,
   ⟨(some t54), oIdxAddrL 1 (.t t45) (.t t47), none⟩,
   ⟨none, oStore 1 (.t t54) (.t t52), none⟩] [(0, 1), (0, 2), (0, 3), (1, 3), (2, 3), (0, 4), (1, 4), (2, 4), (3, 4), (0, 5), (1, 5), (2, 5), (3, 5), (0, 6), (1, 6), (2, 6), (3, 6), (4, 6), (5, 6), (0, 7), (1, 7), (2, 7), (3, 7), (4, 7), (5, 7), (0, 8), (1, 8), (2, 8), (3, 8), (4, 8), (5, 8), (0, 9), (1, 9), (2, 9), (3, 9), (4, 9), (5, 9), (6, 9), (7, 9), (8, 9), (0, 10), (1, 10), (2, 10), (3, 10), (4, 10), (5, 10), (6, 10), (7, 10), (8, 10), (3, 11), (4, 11), (5, 11), (9, 11), (10, 11), (3, 12), (4, 12), (5, 12), (9, 12), (10, 12)])
 (xSeq (xReg [⟨(some t55), oMov (.t t0), none⟩,
   ⟨(some t56), oMov (.t t4), none⟩,
   ⟨(some t57), oBin (int2 subO) (.t t56) (.v (.int .i64 3)), none⟩,
   ⟨(some t58), oMov (.t t0), none⟩,
   ⟨(some t59), oMov (.t t4), none⟩,
   ⟨(some t60), oBin (int2 subO) (.t t59) (.v (.int .i64 4)), none⟩,
   ⟨(some t61), oMov (.t t8), none⟩,
   ⟨(some t62), oBin (int2 addO) (.t t61) (.v (.int .u32 1)), none⟩,
   ⟨(some t63), oIdxS (.v (.string ⟨⟨[48, 48, 48, 49, 48, 50, 48, 51, 48, 52, 48, 53, 48, 54, 48, 55, 48, 56, 48, 57, 49, 48, 49, 49, 49, 50, 49, 51, 49, 52, 49, 53, 49, 54, 49, 55, 49, 56, 49, 57, 50, 48, 50, 49, 50, 50, 50, 51, 50, 52, 50, 53, 50, 54, 50, 55, 50, 56, 50, 57, 51, 48, 51, 49, 51, 50, 51, 51, 51, 52, 51, 53, 51, 54, 51, 55, 51, 56, 51, 57, 52, 48, 52, 49, 52, 50, 52, 51, 52, 52, 52, 53, 52, 54, 52, 55, 52, 56, 52, 57, 53, 48, 53, 49, 53, 50, 53, 51, 53, 52, 53, 53, 53, 54, 53, 55, 53, 56, 53, 57, 54, 48, 54, 49, 54, 50, 54, 51, 54, 52, 54, 53, 54, 54, 54, 55, 54, 56, 54, 57, 55, 48, 55, 49, 55, 50, 55, 51, 55, 52, 55, 53, 55, 54, 55, 55, 55, 56, 55, 57, 56, 48, 56, 49, 56, 50, 56, 51, 56, 52, 56, 53, 56, 54, 56, 55, 56, 56, 56, 57, 57, 48, 57, 49, 57, 50, 57, 51, 57, 52, 57, 53, 57, 54, 57, 55, 57, 56, 57, 57]⟩⟩)) (.t t62), none⟩,
   ⟨(some t64), oMov (.t t8), none⟩,
   ⟨(some t65), oIdxS (.v (.string ⟨⟨[48, 48, 48, 49, 48, 50, 48, 51, 48, 52, 48, 53, 48, 54, 48, 55, 48, 56, 48, 57, 49, 48, 49, 49, 49, 50, 49, 51, 49, 52, 49, 53, 49, 54, 49, 55, 49, 56, 49, 57, 50, 48, 50, 49, 50, 50, 50, 51, 50, 52, 50, 53, 50, 54, 50, 55, 50, 56, 50, 57, 51, 48, 51, 49, 51, 50, 51, 51, 51, 52, 51, 53, 51, 54, 51, 55, 51, 56, 51, 57, 52, 48, 52, 49, 52, 50, 52, 51, 52, 52, 52, 53, 52, 54, 52, 55, 52, 56, 52, 57, 53, 48, 53, 49, 53, 50, 53, 51, 53, 52, 53, 53, 53, 54, 53, 55, 53, 56, 53, 57, 54, 48, 54, 49, 54, 50, 54, 51, 54, 52, 54, 53, 54, 54, 54, 55, 54, 56, 54, 57, 55, 48, 55, 49, 55, 50, 55, 51, 55, 52, 55, 53, 55, 54, 55, 55, 55, 56, 55, 57, 56, 48, 56, 49, 56, 50, 56, 51, 56, 52, 56, 53, 56, 54, 56, 55, 56, 56, 56, 57, 57, 48, 57, 49, 57, 50, 57, 51, 57, 52, 57, 53, 57, 54, 57, 55, 57, 56, 57, 57]⟩⟩)) (.t t64), none⟩,
   ⟨(some t66), oIdxAddrL 1 (.t t55) (.t t57), none⟩,
   ⟨none, oStore 1 (.t t66) (.t t63), none⟩,
   ⟨(some t67), oIdxAddrL 1 (.t t58) (.t t60), none⟩,
   ⟨none, oStore 1 (.t t67) (.t t65), none⟩] [(0, 1), (0, 2), (0, 3), (1, 3), (2, 3), (0, 4), (1, 4), (2, 4), (3, 4), (0, 5), (1, 5), (2, 5), (3, 5), (0, 6), (1, 6), (2, 6), (3, 6), (4, 6), (5, 6), (0, 7), (1, 7), (2, 7), (3, 7), (4, 7), (5, 7), (0, 8), (1, 8), (2, 8), (3, 8), (4, 8), (5, 8), (0, 9), (1, 9), (2, 9), (3, 9), (4, 9), (5, 9), (6, 9), (7, 9), (8, 9), (0, 10), (1, 10), (2, 10), (3, 10), (4, 10), (5, 10), (6, 10), (7, 10), (8, 10), (3, 11), (4, 11), (5, 11), (9, 11), (10, 11), (3, 12), (4, 12), (5, 12), (9, 12), (10, 12)])
 (xSeq (xReg [⟨(some t68), oMov (.t t0), none⟩,
   ⟨(some t69), oMov (.t t4), none⟩,
   ⟨(some t70), oBin (int2 subO) (.t t69) (.v (.int .i64 5)), none⟩,
   ⟨(some t71), oMov (.t t0), none⟩,
   ⟨(some t72), oMov (.t t4), none⟩,
   ⟨(some t73), oBin (int2 subO) (.t t72) (.v (.int .i64 6)), none⟩,
   ⟨(some t74), oMov (.t t11), none⟩,
   ⟨(some t75), oBin (int2 addO) (.t t74) (.v (.int .u32 1)), none⟩,
   ⟨(some t76), oIdxS (.v (.string ⟨⟨[48, 48, 48, 49, 48, 50, 48, 51, 48, 52, 48, 53, 48, 54, 48, 55, 48, 56, 48, 57, 49, 48, 49, 49, 49, 50, 49, 51, 49, 52, 49, 53, 49, 54, 49, 55, 49, 56, 49, 57, 50, 48, 50, 49, 50, 50, 50, 51, 50, 52, 50, 53, 50, 54, 50, 55, 50, 56, 50, 57, 51, 48, 51, 49, 51, 50, 51, 51, 51, 52, 51, 53, 51, 54, 51, 55, 51, 56, 51, 57, 52, 48, 52, 49, 52, 50, 52, 51, 52, 52, 52, 53, 52, 54, 52, 55, 52, 56, 52, 57, 53, 48, 53, 49, 53, 50, 53, 51, 53, 52, 53, 53, 53, 54, 53, 55, 53, 56, 53, 57, 54, 48, 54, 49, 54, 50, 54, 51, 54, 52, 54, 53, 54, 54, 54, 55, 54, 56, 54, 57, 55, 48, 55, 49, 55, 50, 55, 51, 55, 52, 55, 53, 55, 54, 55, 55, 55, 56, 55, 57, 56, 48, 56, 49, 56, 50, 56, 51, 56, 52, 56, 53, 56, 54, 56, 55, 56, 56, 56, 57, 57, 48, 57, 49, 57, 50, 57, 51, 57, 52, 57, 53, 57, 54, 57, 55, 57, 56, 57, 57]⟩⟩)) (.t t75), none⟩,
   ⟨(some t77), oMov (.t t11), none⟩,
   ⟨(some t78), oIdxS (.v (.string ⟨⟨[48, 48, 48, 49, 48, 50, 48, 51, 48, 52, 48, 53, 48, 54, 48, 55, 48, 56, 48, 57, 49, 48, 49, 49, 49, 50, 49, 51, 49, 52, 49, 53, 49, 54, 49, 55, 49, 56, 49, 57, 50, 48, 50, 49, 50, 50, 50, 51, 50, 52, 50, 53, 50, 54, 50, 55, 50, 56, 50, 57, 51, 48, 51, 49, 51, 50, 51, 51, 51, 52, 51, 53, 51, 54, 51, 55, 51, 56, 51, 57, 52, 48, 52, 49, 52, 50, 52, 51, 52, 52, 52, 53, 52, 54, 52, 55, 52, 56, 52, 57, 53, 48, 53, 49, 53, 50, 53, 51, 53, 52, 53, 53, 53, 54, 53, 55, 53, 56, 53, 57, 54, 48, 54, 49, 54, 50, 54, 51, 54, 52, 54, 53, 54, 54, 54, 55, 54, 56, 54, 57, 55, 48, 55, 49, 55, 50, 55, 51, 55, 52, 55, 53, 55, 54, 55, 55, 55, 56, 55, 57, 56, 48, 56, 49, 56, 50, 56, 51, 56, 52, 56, 53, 56, 54, 56, 55, 56, 56, 56, 57, 57, 48, 57, 49, 57, 50, 57, 51, 57, 52, 57, 53, 57, 54, 57, 55, 57, 56, 57, 57]⟩⟩)) (.t t77), none⟩,
   ⟨(some t79), oIdxAddrL 1 (.t t68) (.t t70), none⟩,
   ⟨none, oStore 1 (.t t79) (.t t76), none⟩,
   ⟨(some t80), oIdxAddrL 1 (.t t71) (.t t73), none⟩,
   ⟨none, oStore 1 (.t t80) (.t t78), none⟩] [(0, 1), (0, 2), (0, 3), (1, 3), (2, 3), (0, 4), (1, 4), (2, 4), (3, 4), (0, 5), (1, 5), (2, 5), (3, 5), (0, 6), (1, 6), (2, 6), (3, 6), (4, 6), (5, 6), (0, 7), (1, 7), (2, 7), (3, 7), (4, 7), (5, 7), (0, 8), (1, 8), (2, 8), (3, 8), (4, 8), (5, 8), (0, 9), (1, 9), (2, 9), (3, 9), (4, 9), (5, 9), (6, 9), (7, 9), (8, 9), (0, 10), (1, 10), (2, 10), (3, 10), (4, 10), (5, 10), (6, 10), (7, 10), (8, 10), (3, 11), (4, 11), (5, 11), (9, 11), (10, 11), (3, 12), (4, 12), (5, 12), (9, 12), (10, 12)])
 (xSeq (xReg [⟨(some t81), oMov (.t t0), none⟩,
   ⟨(some t82), oMov (.t t4), none⟩,
   ⟨(some t83), oBin (int2 subO) (.t t82) (.v (.int .i64 7)), none⟩,
   ⟨(some t84), oMov (.t t0), none⟩,
   ⟨(some t85), oMov (.t t4), none⟩,
   ⟨(some t86), oBin (int2 subO) (.t t85) (.v (.int .i64 8)), none⟩,
   ⟨(some t87), oMov (.t t10), none⟩,
   ⟨(some t88), oBin (int2 addO) (.t t87) (.v (.int .u32 1)), none⟩,
   ⟨(some t89), oIdxS (.v (.string ⟨⟨[48, 48, 48, 49, 48, 50, 48, 51, 48, 52, 48, 53, 48, 54, 48, 55, 48, 56, 48, 57, 49, 48, 49, 49, 49, 50, 49, 51, 49, 52, 49, 53, 49, 54, 49, 55, 49, 56, 49, 57, 50, 48, 50, 49, 50, 50, 50, 51, 50, 52, 50, 53, 50, 54, 50, 55, 50, 56, 50, 57, 51, 48, 51, 49, 51, 50, 51, 51, 51, 52, 51, 53, 51, 54, 51, 55, 51, 56, 51, 57, 52, 48, 52, 49, 52, 50, 52, 51, 52, 52, 52, 53, 52, 54, 52, 55, 52, 56, 52, 57, 53, 48, 53, 49, 53, 50, 53, 51, 53, 52, 53, 53, 53, 54, 53, 55, 53, 56, 53, 57, 54, 48, 54, 49, 54, 50, 54, 51, 54, 52, 54, 53, 54, 54, 54, 55, 54, 56, 54, 57, 55, 48, 55, 49, 55, 50, 55, 51, 55, 52, 55, 53, 55, 54, 55, 55, 55, 56, 55, 57, 56, 48, 56, 49, 56, 50, 56, 51, 56, 52, 56, 53, 56, 54, 56, 55, 56, 56, 56, 57, 57, 48, 57, 49, 57, 50, 57, 51, 57, 52, 57, 53, 57, 54, 57, 55, 57, 56, 57, 57]⟩⟩)) (.t t88), none⟩,
   ⟨(some t90), oMov (.t t10), none⟩,
   ⟨(some t91), oIdxS (.v (.string ⟨⟨[48, 48, 48, 49, 48, 50, 48, 51, 48, 52, 48, 53, 48, 54, 48, 55, 48, 56, 48, 57, 49, 48, 49, 49, 49, 50, 49, 51, 49, 52, 49, 53, 49, 54, 49, 55, 49, 56, 49, 57, 50, 48, 50, 49, 50, 50, 50, 51, 50, 52, 50, 53, 50, 54, 50, 55, 50, 56, 50, 57, 51, 48, 51, 49, 51, 50, 51, 51, 51, 52, 51, 53, 51, 54, 51, 55, 51, 56, 51, 57, 52, 48, 52, 49, 52, 50, 52, 51, 52, 52, 52, 53, 52, 54, 52, 55, 52, 56, 52, 57, 53, 48, 53, 49, 53, 50, 53, 51, 53, 52, 53, 53, 53, 54, 53, 55, 53, 56, 53, 57, 54, 48, 54, 49, 54, 50, 54, 51, 54, 52, 54, 53, 54, 54, 54, 55, 54, 56, 54, 57, 55, 48, 55, 49, 55, 50, 55, 51, 55, 52, 55, 53, 55, 54, 55, 55, 55, 56, 55, 57, 56, 48, 56, 49, 56, 50, 56, 51, 56, 52, 56, 53, 56, 54, 56, 55, 56, 56, 56, 57, 57, 48, 57, 49, 57, 50, 57, 51, 57, 52, 57, 53, 57, 54, 57, 55, 57, 56, 57, 57]⟩⟩)) (.t t90), none⟩,
   ⟨(some t92), oIdxAddrL 1 (.t t81) (.t t83), none⟩,
   ⟨none, oStore 1 (.t t92) (.t t89), none⟩,
   ⟨(some t93), oIdxAddrL 1 (.t t84) (.t t86), none⟩,
   ⟨none, oStore 1 (.t t93) (.t t91), none⟩] [(0, 1), (0, 2), (0, 3), (1, 3), (2, 3), (0, 4), (1, 4), (2, 4), (3, 4), (0, 5), (1, 5), (2, 5), (3, 5), (0, 6), (1, 6), (2, 6), (3, 6), (4, 6), (5, 6), (0, 7), (1, 7), (2, 7), (3, 7), (4, 7), (5, 7), (0, 8), (1, 8), (2, 8), (3, 8), (4, 8), (5, 8), (0, 9), (1, 9), (2, 9), (3, 9), (4, 9), (5, 9), (6, 9), (7, 9), (8, 9), (0, 10), (1, 10), (2, 10), (3, 10), (4, 10), (5, 10), (6, 10), (7, 10), (8, 10), (3, 11), (4, 11), (5, 11), (9, 11), (10, 11), (3, 12), (4, 12), (5, 12), (9, 12), (10, 12)])
 (xOps [⟨(some t94), oMov (.t t4), none⟩,
   ⟨(some t95), oBin (int2 subO) (.t t94) (.v (.int .i64 8)), none⟩,
   ⟨(some t4), oMov (.t t95), none⟩]))))))))))))))
 (xSeq (xOps [⟨(some t96), oMov (.t t1), none⟩,
   ⟨(some t97), oConv .u32 (.t t96), none⟩,
   ⟨(some t12), oMov (.t t97), none⟩])
 (xSeq (xSeq (xOps [⟨(some t98), oMov (.t t4), none⟩,
   ⟨(some t99), oBin (int2 (cmpO geI)) (.t t98) (.v (.int .i64 4)), none⟩])
 (xCond (.t t99)
 (xSeq (xOps [⟨(some t100), oMov (.t t12), none⟩,
   ⟨(some t101), oBin (int2 remO) (.t t100) (.v (.int .u32 10000)), none⟩,
   ⟨(some t13), oMov (.t t101), none⟩])
 (xSeq (xOps [⟨(some t102), oMov (.t t12), none⟩,
   ⟨(some t103), oBin (int2 quoO) (.t t102) (.v (.int .u32 10000)), none⟩,
   ⟨(some t12), oMov (.t t103), none⟩])
 (xSeq (xOps [⟨(some t104), oMov (.t t13), none⟩,
   ⟨(some t105), oBin (int2 quoO) (.t t104) (.v (.int .u32 100)), none⟩,
   ⟨(some t106), oBin (int2 mulO) (.t t105) (.v (.int .u32 2)), none⟩,
   ⟨(some t107), oMov (.t t13), none⟩,
   ⟨(some t108), oBin (int2 remO) (.t t107) (.v (.int .u32 100)), none⟩,
   ⟨(some t109), oBin (int2 mulO) (.t t108) (.v (.int .u32 2)), none⟩,
   ⟨(some t14), oMov (.t t106), none⟩,
   ⟨(some t15), oMov (.t t109), none⟩])
 (xSeq (xReg [⟨(some t110), oMov (.t t0), none⟩,
   ⟨(some t111), oMov (.t t4), none⟩,
   ⟨(some t112), oBin (int2 subO) (.t t111) (.v (.int .i64 1)), none⟩,
   ⟨(some t113), oMov (.t t0), none⟩,
   ⟨(some t114), oMov (.t t4), none⟩,
   ⟨(some t115), oBin (int2 subO) (.t t114) (.v (.int .i64 2)), none⟩,
   ⟨(some t116), oMov (.t t15), none⟩,
   ⟨(some t117), oBin (int2 addO) (.t t116) (.v (.int .u32 1)), none⟩,
   ⟨(some t118), oIdxS (.v (.string ⟨⟨[48, 48, 48, 49, 48, 50, 48, 51, 48, 52, 48, 53, 48, 54, 48, 55, 48, 56, 48, 57, 49, 48, 49, 49, 49, 50, 49, 51, 49, 52, 49, 53, 49, 54, 49, 55, 49, 56, 49, 57, 50, 48, 50, 49, 50, 50, 50, 51, 50, 52, 50, 53, 50, 54, 50, 55, 50, 56, 50, 57, 51, 48, 51, 49, 51, 50, 51, 51, 51, 52, 51, 53, 51, 54, 51, 55, 51, 56, 51, 57, 52, 48, 52, 49, 52, 50, 52, 51, 52, 52, 52, 53, 52, 54, 52, 55, 52, 56, 52, 57, 53, 48, 53, 49, 53, 50, 53, 51, 53, 52, 53, 53, 53, 54, 53, 55, 53, 56, 53, 57, 54, 48, 54, 49, 54, 50, 54, 51, 54, 52, 54, 53, 54, 54, 54, 55, 54, 56, 54, 57, 55, 48, 55, 49, 55, 50, 55, 51, 55, 52, 55, 53, 55, 54, 55, 55, 55, 56, 55, 57, 56, 48, 56, 49, 56, 50, 56, 51, 56, 52, 56, 53, 56, 54, 56, 55, 56, 56, 56, 57, 57, 48, 57, 49, 57, 50, 57, 51, 57, 52, 57, 53, 57, 54, 57, 55, 57, 56, 57, 57]⟩⟩)) (.t t117), none⟩,
   ⟨(some t119), oMov (.t t15), none⟩,
   ⟨(some t120), oIdxS (.v (.string ⟨⟨[48, 48, 48, 49, 48, 50, 48, 51, 48, 52, 48, 53, 48, 54, 48, 55, 48, 56, 48, 57, 49, 48, 49, 49, 49, 50, 49, 51, 49, 52, 49, 53, 49, 54, 49, 55, 49, 56, 49, 57, 50, 48, 50, 49, 50, 50, 50, 51, 50, 52, 50, 53, 50, 54, 50, 55, 50, 56, 50, 57, 51, 48, 51, 49, 51, 50, 51, 51, 51, 52, 51, 53, 51, 54, 51, 55, 51, 56, 51, 57, 52, 48, 52, 49, 52, 50, 52, 51, 52, 52, 52, 53, 52, 54, 52, 55, 52, 56, 52, 57, 53, 48, 53, 49, 53, 50, 53, 51, 53, 52, 53, 53, 53, 54, 53, 55, 53, 56, 53, 57, 54, 48, 54, 49, 54, 50, 54, 51, 54, 52, 54, 53, 54, 54, 54, 55, 54, 56, 54, 57, 55, 48, 55, 49, 55, 50, 55, 51, 55, 52, 55, 53, 55, 54, 55, 55, 55, 56, 55, 57, 56, 48, 56, 49, 56, 50, 56, 51, 56, 52, 56, 53, 56, 54, 56, 55, 56, 56, 56, 57, 57, 48, 57, 49, 57, 50, 57, 51, 57, 52, 57, 53, 57, 54, 57, 55, 57, 56, 57, 57]⟩⟩)) (.t t119), none⟩,
   ⟨(some t121), oIdxAddrL 1 (.t t110) (.t t112), none⟩,
   ⟨none, oStore 1 (.t t121) (.t t118), none⟩,
   ⟨(some t122), oIdxAddrL 1 (.t t113) (.t t115), none⟩,
   ⟨none, oStore 1 (.t t122) (.t t120), none⟩] [(0, 1), (0, 2), (0, 3), (1, 3), (2, 3), (0, 4), (1, 4), (2, 4), (3, 4), (0, 5), (1, 5), (2, 5), (3, 5), (0, 6), (1, 6), (2, 6), (3, 6), (4, 6), (5, 6), (0, 7), (1, 7), (2, 7), (3, 7), (4, 7), (5, 7), (0, 8), (1, 8), (2, 8), (3, 8), (4, 8), (5, 8), (0, 9), (1, 9), (2, 9), (3, 9), (4, 9), (5, 9), (6, 9), (7, 9), (8, 9), (0, 10), (1, 10), (2, 10), (3, 10), (4, 10), (5, 10), (6, 10), (7, 10), (8, 10), (3, 11), (4, 11), (5, 11), (9, 11), (10, 11), (3, 12), (4, 12), (5, 12), (9, 12), (10, 12)])
 (xSeq (xReg [⟨(some t123), oMov (.t t0), none⟩,
   ⟨(some t124), oMov (.t t4), none⟩,
   ⟨(some t125), oBin (int2 subO) (.t t124) (.v (.int .i64 3)), none⟩,
   ⟨(some t126), oMov (.t t0), none⟩,
   ⟨(some t127), oMov (.t t4), none⟩,
   ⟨(some t128), oBin (int2 subO) (.t t127) (.v (.int .i64 4)), none⟩,
   ⟨(some t129), oMov (.t t14), none⟩,
   ⟨(some t130), oBin (int2 addO) (.t t129) (.v (.int .u32 1)), none⟩,
   ⟨(some t131), oIdxS (.v (.string ⟨⟨[48, 48, 48, 49, 48, 50, 48, 51, 48, 52, 48, 53, 48, 54, 48, 55, 48, 56, 48, 57, 49, 48, 49, 49, 49, 50, 49, 51, 49, 52, 49, 53, 49, 54, 49, 55, 49, 56, 49, 57, 50, 48, 50, 49, 50, 50, 50, 51, 50, 52, 50, 53, 50, 54, 50, 55, 50, 56, 50, 57, 51, 48, 51, 49, 51, 50, 51, 51, 51, 52, 51, 53, 51, 54, 51, 55, 51, 56, 51, 57, 52, 48, 52, 49, 52, 50, 52, 51, 52, 52, 52, 53, 52, 54, 52, 55, 52, 56, 52, 57, 53, 48, 53, 49, 53, 50, 53, 51, 53, 52, 53, 53, 53, 54, 53, 55, 53, 56, 53, 57, 54, 48, 54, 49, 54, 50, 54, 51, 54, 52, 54, 53, 54, 54, 54, 55, 54, 56, 54, 57, 55, 48, 55, 49, 55, 50, 55, 51, 55, 52, 55, 53, 55, 54, 55, 55, 55, 56, 55, 57, 56, 48, 56, 49, 56, 50, 56, 51, 56, 52, 56, 53, 56, 54, 56, 55, 56, 56, 56, 57, 57, 48, 57, 49, 57, 50, 57, 51, 57, 52, 57, 53, 57, 54, 57, 55, 57, 56, 57, 57]⟩⟩)) (.t t130), none⟩,
   ⟨(some t132), oMov (.t t14), none⟩,
   ⟨(some t133), oIdxS (.v (.string ⟨⟨[48, 48, 48, 49, 48, 50, 48, 51, 48, 52, 48, 53, 48, 54, 48, 55, 48, 56, 48, 57, 49, 48, 49, 49, 49, 50, 49, 51, 49, 52, 49, 53, 49, 54, 49, 55, 49, 56, 49, 57, 50, 48, 50, 49, 50, 50, 50, 51, 50, 52, 50, 53, 50, 54, 50, 55, 50, 56, 50, 57, 51, 48, 51, 49, 51, 50, 51, 51, 51, 52, 51, 53, 51, 54, 51, 55, 51, 56, 51, 57, 52, 48, 52, 49, 52, 50, 52, 51, 52, 52, 52, 53, 52, 54, 52, 55, 52, 56, 52, 57, 53, 48, 53, 49, 53, 50, 53, 51, 53, 52, 53, 53, 53, 54, 53, 55, 53, 56, 53, 57, 54, 48, 54, 49, 54, 50, 54, 51, 54, 52, 54, 53, 54, 54, 54, 55, 54, 56, 54, 57, 55, 48, 55, 49, 55, 50, 55, 51, 55, 52, 55, 53, 55, 54, 55, 55, 55, 56, 55, 57, 56, 48, 56, 49, 56, 50, 56, 51, 56, 52, 56, 53, 56, 54, 56, 55, 56, 56, 56, 57, 57, 48, 57, 49, 57, 50, 57, 51, 57, 52, 57, 53, 57, 54, 57, 55, 57, 56, 57, 57]⟩⟩)) (.t t132), none⟩,
   ⟨(some t134), oIdxAddrL 1 (.t t123) (.t t125), none⟩,
   ⟨none, oStore 1 (.t t134) (.t t131), none⟩,
   ⟨(some t135), oIdxAddrL 1 (.t t126) (.t t128), none⟩,
   ⟨none, oStore 1 (.t t135) (.t t133), none⟩] [(0, 1), (0, 2), (0, 3), (1, 3), (2, 3), (0, 4), (1, 4), (2, 4), (3, 4), (0, 5), (1, 5), (2, 5), (3, 5), (0, 6), (1, 6), (2, 6), (3, 6), (4, 6), (5, 6), (0, 7), (1, 7), (2, 7), (3, 7), (4, 7), (5, 7), (0, 8), (1, 8), (2, 8), (3, 8), (4, 8), (5, 8), (0, 9), (1, 9), (2, 9), (3, 9), (4, 9), (5, 9), (6, 9), (7, 9), (8, 9), (0, 10), (1, 10), (2, 10), (3, 10), (4, 10), (5, 10), (6, 10), (7, 10), (8, 10), (3, 11), (4, 11), (5, 11), (9, 11), (10, 11), (3, 12), (4, 12), (5, 12), (9, 12), (10, 12)])
 (xOps [⟨(some t136), oMov (.t t4), none⟩,
   ⟨(some t137), oBin (int2 subO) (.t t136) (.v (.int .i64 4)), none⟩,
   ⟨(some t4), oMov (.t t137), none⟩]))))))
 xSkip))
 (xSeq (xSeq (xOps [⟨(some t138), oMov (.t t4), none⟩,
   ⟨(some t139), oBin (int2 (cmpO geI)) (.t t138) (.v (.int .i64 2)), none⟩])
 (xCond (.t t139)
 (xSeq (xOps [⟨(some t140), oMov (.t t12), none⟩,
   ⟨(some t141), oBin (int2 remO) (.t t140) (.v (.int .u32 100)), none⟩,
   ⟨(some t142), oBin (int2 mulO) (.t t141) (.v (.int .u32 2)), none⟩,
   ⟨(some t16), oMov (.t t142), none⟩])
 (xSeq (xOps [⟨(some t143), oMov (.t t12), none⟩,
   ⟨(some t144), oBin (int2 quoO) (.t t143) (.v (.int .u32 100)), none⟩,
   ⟨(some t12), oMov (.t t144), none⟩])
 (xSeq (xReg [⟨(some t145), oMov (.t t0), none⟩,
   ⟨(some t146), oMov (.t t4), none⟩,
   ⟨(some t147), oBin (int2 subO) (.t t146) (.v (.int .i64 1)), none⟩,
   ⟨(some t148), oMov (.t t0), none⟩,
   ⟨(some t149), oMov (.t t4), none⟩,
   ⟨(some t150), oBin (int2 subO) (.t t149) (.v (.int .i64 2)), none⟩,
   ⟨(some t151), oMov (.t t16), none⟩,
   ⟨(some t152), oBin (int2 addO) (.t t151) (.v (.int .u32 1)), none⟩,
   ⟨(some t153), oIdxS (.v (.string ⟨⟨[48, 48, 48, 49, 48, 50, 48, 51, 48, 52, 48, 53, 48, 54, 48, 55, 48, 56, 48, 57, 49, 48, 49, 49, 49, 50, 49, 51, 49, 52, 49, 53, 49, 54, 49, 55, 49, 56, 49, 57, 50, 48, 50, 49, 50, 50, 50, 51, 50, 52, 50, 53, 50, 54, 50, 55, 50, 56, 50, 57, 51, 48, 51, 49, 51, 50, 51, 51, 51, 52, 51, 53, 51, 54, 51, 55, 51, 56, 51, 57, 52, 48, 52, 49, 52, 50, 52, 51, 52, 52, 52, 53, 52, 54, 52, 55, 52, 56, 52, 57, 53, 48, 53, 49, 53, 50, 53, 51, 53, 52, 53, 53, 53, 54, 53, 55, 53, 56, 53, 57, 54, 48, 54, 49, 54, 50, 54, 51, 54, 52, 54, 53, 54, 54, 54, 55, 54, 56, 54, 57, 55, 48, 55, 49, 55, 50, 55, 51, 55, 52, 55, 53, 55, 54, 55, 55, 55, 56, 55, 57, 56, 48, 56, 49, 56, 50, 56, 51, 56, 52, 56, 53, 56, 54, 56, 55, 56, 56, 56, 57, 57, 48, 57, 49, 57, 50, 57, 51, 57, 52, 57, 53, 57, 54, 57, 55, 57, 56, 57, 57]⟩⟩)) (.t t152), none⟩,
   ⟨(some t154), oMov (.t t16), none⟩,
   ⟨(some t155), oIdxS (.v (.string ⟨⟨[48, 48, 48, 49, 48, 50, 48, 51, 48, 52, 48, 53, 48, 54, 48, 55, 48, 56, 48, 57, 49, 48, 49, 49, 49, 50, 49, 51, 49, 52, 49, 53, 49, 54, 49, 55, 49, 56, 49, 57, 50, 48, 50, 49, 50, 50, 50, 51, 50, 52, 50, 53, 50, 54, 50, 55, 50, 56, 50, 57, 51, 48, 51, 49, 51, 50, 51, 51, 51, 52, 51, 53, 51, 54, 51, 55, 51, 56, 51, 57, 52, 48, 52, 49, 52, 50, 52, 51, 52, 52, 52, 53, 52, 54, 52, 55, 52, 56, 52, 57, 53, 48, 53, 49, 53, 50, 53, 51, 53, 52, 53, 53, 53, 54, 53, 55, 53, 56, 53, 57, 54, 48, 54, 49, 54, 50, 54, 51, 54, 52, 54, 53, 54, 54, 54, 55, 54, 56, 54, 57, 55, 48, 55, 49, 55, 50, 55, 51, 55, 52, 55, 53, 55, 54, 55, 55, 55, 56, 55, 57, 56, 48, 56, 49, 56, 50, 56, 51, 56, 52, 56, 53, 56, 54, 56, 55, 56, 56, 56, 57, 57, 48, 57, 49, 57, 50, 57, 51, 57, 52, 57, 53, 57, 54, 57, 55, 57, 56, 57, 57]⟩⟩)) (.t t154), none⟩,
   ⟨(some t156), oIdxAddrL 1 (.t t145) (.t t147), none⟩,
   ⟨none, oStore 1 (.t t156) (.t t153), none⟩,
   ⟨(some t157), oIdxAddrL 1 (.t t148) (.t t150), none⟩,
   ⟨none, oStore 1 (.t t157) (.t t155), none⟩] [(0, 1), (0, 2), (0, 3), (1, 3), (2, 3), (0, 4), (1, 4), (2, 4), (3, 4), (0, 5), (1, 5), (2, 5), (3, 5), (0, 6), (1, 6), (2, 6), (3, 6), (4, 6), (5, 6), (0, 7), (1, 7), (2, 7), (3, 7), (4, 7), (5, 7), (0, 8), (1, 8), (2, 8), (3, 8), (4, 8), (5, 8), (0, 9), (1, 9), (2, 9), (3, 9), (4, 9), (5, 9), (6, 9), (7, 9), (8, 9), (0, 10), (1, 10), (2, 10), (3, 10), (4, 10), (5, 10), (6, 10), (7, 10), (8, 10), (3, 11), (4, 11), (5, 11), (9, 11), (10, 11), (3, 12), (4, 12), (5, 12), (9, 12), (10, 12)])
 (xOps [⟨(some t158), oMov (.t t4), none⟩,
   ⟨(some t159), oBin (int2 subO) (.t t158) (.v (.int .i64 2)), none⟩,
   ⟨(some t4), oMov (.t t159), none⟩]))))
 xSkip))
 (xSeq (xOps [⟨(some t160), oMov (.t t4), none⟩,
   ⟨(some t161), oBin (int2 (cmpO gtI)) (.t t160) (.v (.int .i64 0)), none⟩])
 (xCond (.t t161)
 (xOps [⟨(some t162), oMov (.t t0), none⟩,
   ⟨(some t163), oMov (.t t12), none⟩,
   ⟨(some t164), oBin (int2 addO) (.v (.int .u32 48)) (.t t163), none⟩,
   ⟨(some t165), oConv .u8 (.t t164), none⟩,
   ⟨(some t166), oIdxAddrL 1 (.t t162) (.v (.int .i64 0)), none⟩,
   ⟨none, oStore 1 (.t t166) (.t t165), none⟩])
 xSkip)))))))⟩
theorem ok36 : cFunc Tryd.prog gl ex Tryd.f36 = some c36 := by kernel_rfl
end
end Go.Proofs.YtdfmhjbmenfaeaaDoor.AbsCalK
