import Derived.Test.YtdfmhjbmenfaeaaDoorRows
import Derived.Test.YtdfmhjbmenfaeaaDoorAbsCalFT
import Derived.KernelRfl
namespace Go.Proofs.YtdfmhjbmenfaeaaDoor.AbsCalF
open Go Go.Abs Go.Proofs
set_option maxRecDepth 100000
set_option linter.unusedVariables false
noncomputable section
-- publican/publicanlaw2.CalMonths
def c7 : AFunc := ⟨103, [.tmp t4],
 (xSeq (xOps [⟨(some t4), oMov (.v (.bool false)), none, none⟩])
 (xSeq (xSeq (xOps [⟨(some t25), oCall 10 [], none, none⟩,
   ⟨(some t26), oNot (.t t25), none, none⟩])
 (xCond (.t t26)
 (xSeq (xOps [⟨(some t4), oMov (.v (.bool false)), none, none⟩])
 xRet)
 xSkip))
 (xSeq (xOps [⟨(some t28), oMov (.t t0), none, none⟩,
   ⟨(some t29), oMov (.t t1), none, none⟩,
   ⟨(some t30), oCall 12 [(.t t28), (.t t29)], none, none⟩,
   ⟨(some t27), oMov (.t t30), none, none⟩,
   ⟨(some t31), oExtract (.t t27) 0, none, none⟩,
   ⟨(some t32), oExtract (.t t27) 1, none, none⟩,
   ⟨(some t5), oMov (.t t31), none, none⟩,
   ⟨(some t6), oMov (.t t32), none, none⟩])
 (xSeq (xSeq (xOps [⟨(some t33), oMov (.t t6), none, none⟩,
   ⟨(some t34), oNot (.t t33), none, none⟩])
 (xCond (.t t34)
 (xSeq (xOps [⟨(some t4), oMov (.v (.bool true)), none, none⟩])
 xRet)
 xSkip))
 (xSeq (xOps [⟨(some t36), oMov (.t t5), none, none⟩,
   ⟨(some t37), oMov (.t t1), none, none⟩,
   ⟨(some t38), oNeg (.t t37), none, none⟩,
   ⟨(some t39), oCall 12 [(.t t36), (.t t38)], none, none⟩,
   ⟨(some t35), oMov (.t t39), none, none⟩,
   ⟨(some t40), oExtract (.t t35) 0, none, none⟩,
   ⟨(some t41), oExtract (.t t35) 1, none, none⟩,
   ⟨(some t7), oMov (.t t40), none, none⟩,
   ⟨(some t8), oMov (.t t41), none, none⟩])
 (xSeq (xOps [⟨(some t43), oMov (.t t0), none, none⟩,
   ⟨(some t44), oCall 14 [(.t t43)], none, none⟩,
   ⟨(some t42), oMov (.t t44), none, none⟩,
   ⟨(some t45), oExtract (.t t42) 0, none, none⟩,
   ⟨(some t46), oExtract (.t t42) 1, none, none⟩,
   ⟨(some t47), oExtract (.t t42) 2, none, none⟩,
   ⟨(some t48), oExtract (.t t42) 3, none, none⟩,
   ⟨(some t9), oMov (.t t45), none, none⟩,
   ⟨(some t10), oMov (.t t46), none, none⟩,
   ⟨(some t11), oMov (.t t47), none, none⟩,
   ⟨(some t12), oMov (.t t48), none, none⟩])
 (xSeq (xOps [⟨(some t50), oMov (.t t5), none, none⟩,
   ⟨(some t51), oCall 14 [(.t t50)], none, none⟩,
   ⟨(some t49), oMov (.t t51), none, none⟩,
   ⟨(some t52), oExtract (.t t49) 0, none, none⟩,
   ⟨(some t53), oExtract (.t t49) 1, none, none⟩,
   ⟨(some t54), oExtract (.t t49) 2, none, none⟩,
   ⟨(some t55), oExtract (.t t49) 3, none, none⟩,
   ⟨(some t13), oMov (.t t52), none, none⟩,
   ⟨(some t14), oMov (.t t53), none, none⟩,
   ⟨(some t15), oMov (.t t54), none, none⟩,
   ⟨(some t16), oMov (.t t55), none, none⟩])
 (xSeq (xSeq (xOps [⟨(some t56), oMov (.t t8), none, none⟩,
   ⟨(some t57), oNot (.t t56), none, none⟩,
   ⟨(some t58), oMov (.t t57), none, none⟩,
   ⟨(some t59), oMov (.t t7), (some (t58, false)), none⟩,
   ⟨(some t60), oMov (.t t0), (some (t58, false)), none⟩,
   ⟨(some t61), oBin (int2 (cmpO gtI)) (.t t59) (.t t60), (some (t58, false)), none⟩,
   ⟨(some t62), oPick (.t t58) (.v (.bool true)) (.t t61), none, none⟩,
   ⟨(some t63), oMov (.t t62), none, none⟩,
   ⟨(some t64), oMov (.t t15), (some (t63, false)), none⟩,
   ⟨(some t65), oMov (.t t11), (some (t63, false)), none⟩,
   ⟨(some t66), oBin (int2 (cmpO gtI)) (.t t64) (.t t65), (some (t63, false)), none⟩,
   ⟨(some t67), oPick (.t t63) (.v (.bool true)) (.t t66), none, none⟩,
   ⟨(some t68), oMov (.t t67), none, none⟩,
   ⟨(some t69), oMov (.t t15), (some (t68, false)), none⟩,
   ⟨(some t70), oMov (.t t11), (some (t68, false)), none⟩,
   ⟨(some t71), oBin (int2 (cmpO eqI)) (.t t69) (.t t70), (some (t68, false)), none⟩,
   ⟨(some t72), oMov (.t t71), (some (t68, false)), none⟩,
   ⟨(some t73), oMov (.t t7), (some (t72, true)), none⟩,
   ⟨(some t74), oMov (.t t0), (some (t72, true)), none⟩,
   ⟨(some t75), oBin (int2 (cmpO neI)) (.t t73) (.t t74), (some (t72, true)), none⟩,
   ⟨(some t76), oPick (.t t72) (.t t75) (.v (.bool false)), (some (t68, false)), none⟩,
   ⟨(some t77), oPick (.t t68) (.v (.bool true)) (.t t76), none, none⟩])
 (xCond (.t t77)
 (xSeq (xOps [⟨(some t4), oMov (.v (.bool false)), none, none⟩])
 xRet)
 xSkip))
 (xSeq (xOps [⟨(some t79), oMov (.t t0), none, none⟩,
   ⟨(some t80), oCall 14 [(.t t79)], none, none⟩,
   ⟨(some t78), oMov (.t t80), none, none⟩,
   ⟨(some t81), oExtract (.t t78) 0, none, none⟩,
   ⟨(some t82), oExtract (.t t78) 1, none, none⟩,
   ⟨(some t83), oExtract (.t t78) 2, none, none⟩,
   ⟨(some t84), oExtract (.t t78) 3, none, none⟩,
   ⟨(some t17), oMov (.t t81), none, none⟩,
   ⟨(some t18), oMov (.t t82), none, none⟩,
   ⟨(some t19), oMov (.t t83), none, none⟩,
   ⟨(some t20), oMov (.t t84), none, none⟩])
 (xSeq (xOps [⟨(some t86), oMov (.t t5), none, none⟩,
   ⟨(some t87), oCall 14 [(.t t86)], none, none⟩,
   ⟨(some t85), oMov (.t t87), none, none⟩,
   ⟨(some t88), oExtract (.t t85) 0, none, none⟩,
   ⟨(some t89), oExtract (.t t85) 1, none, none⟩,
   ⟨(some t90), oExtract (.t t85) 2, none, none⟩,
   ⟨(some t91), oExtract (.t t85) 3, none, none⟩,
   ⟨(some t21), oMov (.t t88), none, none⟩,
   ⟨(some t22), oMov (.t t89), none, none⟩,
   ⟨(some t23), oMov (.t t90), none, none⟩,
   ⟨(some t24), oMov (.t t91), none, none⟩])
 (xSeq (xOps [⟨(some t92), oMov (.t t21), none, none⟩,
   ⟨(some t93), oBin (int2 mulO) (.v (.int .i64 12)) (.t t92), none, none⟩,
   ⟨(some t94), oMov (.t t22), none, none⟩,
   ⟨(some t95), oBin (int2 addO) (.t t93) (.t t94), none, none⟩,
   ⟨(some t96), oMov (.t t17), none, none⟩,
   ⟨(some t97), oBin (int2 mulO) (.v (.int .i64 12)) (.t t96), none, none⟩,
   ⟨(some t98), oMov (.t t18), none, none⟩,
   ⟨(some t99), oBin (int2 addO) (.t t97) (.t t98), none, none⟩,
   ⟨(some t100), oMov (.t t1), none, none⟩,
   ⟨(some t101), oBin (int2 addO) (.t t99) (.t t100), none, none⟩,
   ⟨(some t102), oBin (int2 (cmpO eqI)) (.t t95) (.t t101), none, none⟩,
   ⟨(some t4), oMov (.t t102), none, none⟩])
 xRet)))))))))))⟩
theorem ok7 : cFunc Tryd.prog gl ex Tryd.f7 = some c7 := by kernel_rfl
-- publican/publicanlaw2.CalYears
def c9 : AFunc := ⟨102, [.tmp t2],
 (xSeq (xOps [⟨(some t2), oMov (.v (.bool false)), none, none⟩])
 (xSeq (xSeq (xOps [⟨(some t13), oCall 10 [], none, none⟩,
   ⟨(some t14), oNot (.t t13), none, none⟩])
 (xCond (.t t14)
 (xSeq (xOps [⟨(some t2), oMov (.v (.bool false)), none, none⟩])
 xRet)
 xSkip))
 (xSeq (xOps [⟨(some t16), oMov (.t t0), none, none⟩,
   ⟨(some t17), oCall 14 [(.t t16)], none, none⟩,
   ⟨(some t15), oMov (.t t17), none, none⟩,
   ⟨(some t18), oExtract (.t t15) 0, none, none⟩,
   ⟨(some t19), oExtract (.t t15) 1, none, none⟩,
   ⟨(some t20), oExtract (.t t15) 2, none, none⟩,
   ⟨(some t21), oExtract (.t t15) 3, none, none⟩,
   ⟨(some t3), oMov (.t t18), none, none⟩,
   ⟨(some t4), oMov (.t t19), none, none⟩,
   ⟨(some t5), oMov (.t t20), none, none⟩,
   ⟨(some t6), oMov (.t t21), none, none⟩])
 (xSeq (xOps [⟨(some t23), oMov (.t t0), none, none⟩,
   ⟨(some t24), oCall 12 [(.t t23), (.v (.int .i64 12))], none, none⟩,
   ⟨(some t22), oMov (.t t24), none, none⟩,
   ⟨(some t25), oExtract (.t t22) 0, none, none⟩,
   ⟨(some t26), oExtract (.t t22) 1, none, none⟩,
   ⟨(some t7), oMov (.t t25), none, none⟩,
   ⟨(some t8), oMov (.t t26), none, none⟩])
 (xSeq (xSeq (xOps [⟨(some t27), oMov (.t t6), none, none⟩,
   ⟨(some t28), oNot (.t t27), none, none⟩,
   ⟨(some t29), oMov (.t t28), none, none⟩,
   ⟨(some t30), oMov (.t t3), (some (t29, false)), none⟩,
   ⟨(some t31), oBin (int2 (cmpO eqI)) (.t t30) (.v (.int .i64 2199)), (some (t29, false)), none⟩,
   ⟨(some t32), oPick (.t t29) (.v (.bool true)) (.t t31), none, none⟩])
 (xCond (.t t32)
 (xSeq (xOps [⟨(some t33), oMov (.t t6), none, none⟩,
   ⟨(some t34), oNot (.t t33), none, none⟩,
   ⟨(some t35), oMov (.t t34), none, none⟩,
   ⟨(some t36), oMov (.t t8), (some (t35, false)), none⟩,
   ⟨(some t37), oNot (.t t36), (some (t35, false)), none⟩,
   ⟨(some t38), oPick (.t t35) (.v (.bool true)) (.t t37), none, none⟩,
   ⟨(some t2), oMov (.t t38), none, none⟩])
 xRet)
 xSkip))
 (xSeq (xOps [⟨(some t40), oMov (.t t7), none, none⟩,
   ⟨(some t41), oCall 14 [(.t t40)], none, none⟩,
   ⟨(some t39), oMov (.t t41), none, none⟩,
   ⟨(some t42), oExtract (.t t39) 0, none, none⟩,
   ⟨(some t43), oExtract (.t t39) 1, none, none⟩,
   ⟨(some t44), oExtract (.t t39) 2, none, none⟩,
   ⟨(some t45), oExtract (.t t39) 3, none, none⟩,
   ⟨(some t9), oMov (.t t42), none, none⟩,
   ⟨(some t10), oMov (.t t43), none, none⟩,
   ⟨(some t11), oMov (.t t44), none, none⟩,
   ⟨(some t12), oMov (.t t45), none, none⟩])
 (xSeq (xSeq (xOps [⟨(some t46), oMov (.t t4), none, none⟩,
   ⟨(some t47), oBin (int2 (cmpO eqI)) (.t t46) (.v (.int .i64 2)), none, none⟩,
   ⟨(some t48), oMov (.t t47), none, none⟩,
   ⟨(some t49), oMov (.t t5), (some (t48, true)), none⟩,
   ⟨(some t50), oBin (int2 (cmpO eqI)) (.t t49) (.v (.int .i64 29)), (some (t48, true)), none⟩,
   ⟨(some t51), oPick (.t t48) (.t t50) (.v (.bool false)), none, none⟩])
 (xCond (.t t51)
 (xSeq (xOps [⟨(some t52), oMov (.t t8), none, none⟩,
   ⟨(some t53), oMov (.t t52), none, none⟩,
   ⟨(some t54), oMov (.t t12), (some (t53, true)), none⟩,
   ⟨(some t55), oPick (.t t53) (.t t54) (.v (.bool false)), none, none⟩,
   ⟨(some t56), oMov (.t t55), none, none⟩,
   ⟨(some t57), oMov (.t t9), (some (t56, true)), none⟩,
   ⟨(some t58), oMov (.t t3), (some (t56, true)), none⟩,
   ⟨(some t59), oBin (int2 addO) (.t t58) (.v (.int .i64 1)), (some (t56, true)), none⟩,
   ⟨(some t60), oBin (int2 (cmpO eqI)) (.t t57) (.t t59), (some (t56, true)), none⟩,
   ⟨(some t61), oPick (.t t56) (.t t60) (.v (.bool false)), none, none⟩,
   ⟨(some t62), oMov (.t t61), none, none⟩,
   ⟨(some t63), oMov (.t t10), (some (t62, true)), none⟩,
   ⟨(some t64), oBin (int2 (cmpO eqI)) (.t t63) (.v (.int .i64 2)), (some (t62, true)), none⟩,
   ⟨(some t65), oPick (.t t62) (.t t64) (.v (.bool false)), none, none⟩,
   ⟨(some t66), oMov (.t t65), none, none⟩,
   ⟨(some t67), oMov (.t t11), (some (t66, true)), none⟩,
   ⟨(some t68), oBin (int2 (cmpO eqI)) (.t t67) (.v (.int .i64 28)), (some (t66, true)), none⟩,
   ⟨(some t69), oPick (.t t66) (.t t68) (.v (.bool false)), none, none⟩,
   ⟨(some t2), oMov (.t t69), none, none⟩])
 xRet)
 xSkip))
 (xSeq (xOps [⟨(some t70), oMov (.t t8), none, none⟩,
   ⟨(some t71), oMov (.t t70), none, none⟩,
   ⟨(some t72), oMov (.t t12), (some (t71, true)), none⟩,
   ⟨(some t73), oPick (.t t71) (.t t72) (.v (.bool false)), none, none⟩,
   ⟨(some t74), oMov (.t t73), none, none⟩,
   ⟨(some t75), oMov (.t t9), (some (t74, true)), none⟩,
   ⟨(some t76), oMov (.t t3), (some (t74, true)), none⟩,
   ⟨(some t77), oBin (int2 addO) (.t t76) (.v (.int .i64 1)), (some (t74, true)), none⟩,
   ⟨(some t78), oBin (int2 (cmpO eqI)) (.t t75) (.t t77), (some (t74, true)), none⟩,
   ⟨(some t79), oPick (.t t74) (.t t78) (.v (.bool false)), none, none⟩,
   ⟨(some t80), oMov (.t t79), none, none⟩,
   ⟨(some t81), oMov (.t t10), (some (t80, true)), none⟩,
   ⟨(some t82), oMov (.t t4), (some (t80, true)), none⟩,
   ⟨(some t83), oBin (int2 (cmpO eqI)) (.t t81) (.t t82), (some (t80, true)), none⟩,
   ⟨(some t84), oPick (.t t80) (.t t83) (.v (.bool false)), none, none⟩,
   ⟨(some t85), oMov (.t t84), none, none⟩,
   ⟨(some t86), oMov (.t t11), (some (t85, true)), none⟩,
   ⟨(some t87), oMov (.t t5), (some (t85, true)), none⟩,
   ⟨(some t88), oBin (int2 (cmpO eqI)) (.t t86) (.t t87), (some (t85, true)), none⟩,
   ⟨(some t89), oPick (.t t85) (.t t88) (.v (.bool false)), none, none⟩,
   ⟨(some t90), oMov (.t t89), none, none⟩,
   ⟨(some t91), oMov (.t t7), (some (t90, true)), none⟩,
   ⟨(some t92), oMov (.t t0), (some (t90, true)), none⟩,
   ⟨(some t93), oBin (int2 subO) (.t t91) (.t t92), (some (t90, true)), none⟩,
   ⟨(some t94), oBin (int2 (cmpO eqI)) (.t t93) (.v (.int .i64 365)), (some (t90, true)), none⟩,
   ⟨(some t95), oMov (.t t94), (some (t90, true)), none⟩,
   ⟨(some t96), oMov (.t t7), (some (t95, false)), none⟩,
   ⟨(some t97), oMov (.t t0), (some (t95, false)), none⟩,
   ⟨(some t98), oBin (int2 subO) (.t t96) (.t t97), (some (t95, false)), none⟩,
   ⟨(some t99), oBin (int2 (cmpO eqI)) (.t t98) (.v (.int .i64 366)), (some (t95, false)), none⟩,
   ⟨(some t100), oPick (.t t95) (.v (.bool true)) (.t t99), (some (t90, true)), none⟩,
   ⟨(some t101), oPick (.t t90) (.t t100) (.v (.bool false)), none, none⟩,
   ⟨(some t2), oMov (.t t101), none, none⟩])
 xRet))))))))⟩
theorem ok9 : cFunc Tryd.prog gl ex Tryd.f9 = some c9 := by kernel_rfl
-- publican/publicanlaw2.awake
def c10 : AFunc := ⟨86, [.tmp t0],
 (xSeq (xOps [⟨(some t0), oMov (.v (.bool false)), none, none⟩])
 (xSeq (xOps [⟨(some t14), oCall 11 [(.v (.int .i64 2000)), (.v (.int .i64 3)), (.v (.int .i64 1))], none, none⟩,
   ⟨(some t13), oMov (.t t14), none, none⟩,
   ⟨(some t15), oExtract (.t t13) 0, none, none⟩,
   ⟨(some t16), oExtract (.t t13) 1, none, none⟩,
   ⟨(some t1), oMov (.t t15), none, none⟩,
   ⟨(some t2), oMov (.t t16), none, none⟩])
 (xSeq (xOps [⟨(some t18), oCall 11 [(.v (.int .i64 2023)), (.v (.int .i64 1)), (.v (.int .i64 31))], none, none⟩,
   ⟨(some t17), oMov (.t t18), none, none⟩,
   ⟨(some t19), oExtract (.t t17) 0, none, none⟩,
   ⟨(some t20), oExtract (.t t17) 1, none, none⟩,
   ⟨(some t3), oMov (.t t19), none, none⟩,
   ⟨(some t4), oMov (.t t20), none, none⟩])
 (xSeq (xOps [⟨(some t22), oMov (.t t3), none, none⟩,
   ⟨(some t23), oCall 12 [(.t t22), (.v (.int .i64 1))], none, none⟩,
   ⟨(some t21), oMov (.t t23), none, none⟩,
   ⟨(some t24), oExtract (.t t21) 0, none, none⟩,
   ⟨(some t25), oExtract (.t t21) 1, none, none⟩,
   ⟨(some t5), oMov (.t t24), none, none⟩,
   ⟨(some t6), oMov (.t t25), none, none⟩])
 (xSeq (xOps [⟨(some t27), oMov (.t t5), none, none⟩,
   ⟨(some t28), oCall 14 [(.t t27)], none, none⟩,
   ⟨(some t26), oMov (.t t28), none, none⟩,
   ⟨(some t29), oExtract (.t t26) 0, none, none⟩,
   ⟨(some t30), oExtract (.t t26) 1, none, none⟩,
   ⟨(some t31), oExtract (.t t26) 2, none, none⟩,
   ⟨(some t32), oExtract (.t t26) 3, none, none⟩,
   ⟨(some t7), oMov (.t t29), none, none⟩,
   ⟨(some t8), oMov (.t t30), none, none⟩,
   ⟨(some t9), oMov (.t t31), none, none⟩,
   ⟨(some t10), oMov (.t t32), none, none⟩])
 (xSeq (xOps [⟨(some t34), oCall 13 [(.v (.string ⟨⟨[49, 57, 48, 48, 45, 48, 49, 45, 48, 50]⟩⟩))], none, none⟩,
   ⟨(some t33), oMov (.t t34), none, none⟩,
   ⟨(some t35), oExtract (.t t33) 0, none, none⟩,
   ⟨(some t36), oExtract (.t t33) 1, none, none⟩,
   ⟨(some t11), oMov (.t t35), none, none⟩,
   ⟨(some t12), oMov (.t t36), none, none⟩])
 (xSeq (xOps [⟨(some t37), oMov (.t t2), none, none⟩,
   ⟨(some t38), oMov (.t t37), none, none⟩,
   ⟨(some t39), oMov (.t t1), (some (t38, true)), none⟩,
   ⟨(some t40), oBin (int2 (cmpO eqI)) (.t t39) (.v (.int .i64 36584)), (some (t38, true)), none⟩,
   ⟨(some t41), oPick (.t t38) (.t t40) (.v (.bool false)), none, none⟩,
   ⟨(some t42), oMov (.t t41), none, none⟩,
   ⟨(some t43), oMov (.t t6), (some (t42, true)), none⟩,
   ⟨(some t44), oPick (.t t42) (.t t43) (.v (.bool false)), none, none⟩,
   ⟨(some t45), oMov (.t t44), none, none⟩,
   ⟨(some t46), oMov (.t t10), (some (t45, true)), none⟩,
   ⟨(some t47), oPick (.t t45) (.t t46) (.v (.bool false)), none, none⟩,
   ⟨(some t48), oMov (.t t47), none, none⟩,
   ⟨(some t49), oMov (.t t7), (some (t48, true)), none⟩,
   ⟨(some t50), oBin (int2 (cmpO eqI)) (.t t49) (.v (.int .i64 2023)), (some (t48, true)), none⟩,
   ⟨(some t51), oPick (.t t48) (.t t50) (.v (.bool false)), none, none⟩,
   ⟨(some t52), oMov (.t t51), none, none⟩,
   ⟨(some t53), oMov (.t t8), (some (t52, true)), none⟩,
   ⟨(some t54), oBin (int2 (cmpO eqI)) (.t t53) (.v (.int .i64 2)), (some (t52, true)), none⟩,
   ⟨(some t55), oPick (.t t52) (.t t54) (.v (.bool false)), none, none⟩,
   ⟨(some t56), oMov (.t t55), none, none⟩,
   ⟨(some t57), oMov (.t t9), (some (t56, true)), none⟩,
   ⟨(some t58), oBin (int2 (cmpO eqI)) (.t t57) (.v (.int .i64 28)), (some (t56, true)), none⟩,
   ⟨(some t59), oPick (.t t56) (.t t58) (.v (.bool false)), none, none⟩,
   ⟨(some t60), oMov (.t t59), none, none⟩,
   ⟨(some t61), oCall 15 [(.v (.int .i64 0))], (some (t60, true)), none⟩,
   ⟨(some t62), oBin (str2 (cmpS eqBytes)) (.t t61) (.v (.string ⟨⟨[49, 57, 48, 48, 45, 48, 49, 45, 48, 49]⟩⟩)), (some (t60, true)), none⟩,
   ⟨(some t63), oPick (.t t60) (.t t62) (.v (.bool false)), none, none⟩,
   ⟨(some t64), oMov (.t t63), none, none⟩,
   ⟨(some t65), oMov (.t t12), (some (t64, true)), none⟩,
   ⟨(some t66), oPick (.t t64) (.t t65) (.v (.bool false)), none, none⟩,
   ⟨(some t67), oMov (.t t66), none, none⟩,
   ⟨(some t68), oMov (.t t11), (some (t67, true)), none⟩,
   ⟨(some t69), oBin (int2 (cmpO eqI)) (.t t68) (.v (.int .i64 1)), (some (t67, true)), none⟩,
   ⟨(some t70), oPick (.t t67) (.t t69) (.v (.bool false)), none, none⟩,
   ⟨(some t71), oMov (.t t70), none, none⟩,
   ⟨(some t72), oCall 16 [(.v (.int .i64 0))], (some (t71, true)), none⟩,
   ⟨(some t73), oBin (int2 (cmpO eqI)) (.t t72) (.v (.int .i64 0)), (some (t71, true)), none⟩,
   ⟨(some t74), oPick (.t t71) (.t t73) (.v (.bool false)), none, none⟩,
   ⟨(some t75), oMov (.t t74), none, none⟩,
   ⟨(some t76), oCall 22 [(.v (.int .i64 2000))], (some (t75, true)), none⟩,
   ⟨(some t77), oPick (.t t75) (.t t76) (.v (.bool false)), none, none⟩,
   ⟨(some t78), oMov (.t t77), none, none⟩,
   ⟨(some t79), oCall 22 [(.v (.int .i64 1900))], (some (t78, true)), none⟩,
   ⟨(some t80), oNot (.t t79), (some (t78, true)), none⟩,
   ⟨(some t81), oPick (.t t78) (.t t80) (.v (.bool false)), none, none⟩,
   ⟨(some t82), oMov (.t t81), none, none⟩,
   ⟨(some t83), oCall 17 [(.v (.int .i64 2024)), (.v (.int .i64 2))], (some (t82, true)), none⟩,
   ⟨(some t84), oBin (int2 (cmpO eqI)) (.t t83) (.v (.int .i64 29)), (some (t82, true)), none⟩,
   ⟨(some t85), oPick (.t t82) (.t t84) (.v (.bool false)), none, none⟩,
   ⟨(some t0), oMov (.t t85), none, none⟩])
 xRet)))))))⟩
theorem ok10 : cFunc Tryd.prog gl ex Tryd.f10 = some c10 := by kernel_rfl
-- publican/cal.Of
def c11_l0 : X := (xSeq (xSeq (xOps [⟨(some t29), oMov (.t t9), none, none⟩,
   ⟨(some t30), oMov (.t t1), none, none⟩,
   ⟨(some t31), oBin (int2 (cmpO ltI)) (.t t29) (.t t30), none, none⟩])
 (xCond (.t t31)
 xSkip
 (xExit 0)))
 (xSeq (xBlock 1 (xOps [⟨(some t34), oMov (.t t8), none, none⟩,
   ⟨(some t35), oMov (.t t0), none, none⟩,
   ⟨(some t36), oMov (.t t9), none, none⟩,
   ⟨(some t37), oCall 17 [(.t t35), (.t t36)], none, none⟩,
   ⟨(some t38), oBin (int2 addO) (.t t34) (.t t37), none, none⟩,
   ⟨(some t8), oMov (.t t38), none, none⟩]))
 (xOps [⟨(some t32), oMov (.t t9), none, none⟩,
   ⟨(some t33), oBin (int2 addO) (.t t32) (.v (.int .i64 1)), none, none⟩,
   ⟨(some t9), oMov (.t t33), none, none⟩])))
def c11_r0 : X := (xSeq (xOps [⟨(some t39), oMov (.t t8), none, none⟩,
   ⟨(some t40), oMov (.t t2), none, none⟩,
   ⟨(some t41), oBin (int2 addO) (.t t39) (.t t40), none, none⟩,
   ⟨(some t42), oBin (int2 subO) (.t t41) (.v (.int .i64 1)), none, none⟩,
   ⟨(some t6), oMov (.t t42), none, none⟩,
   ⟨(some t7), oMov (.v (.bool true)), none, none⟩])
 xRet)
def c11 : AFunc := ⟨43, [.tmp t6, .tmp t7],
 (xSeq (xOps [⟨(some t6), oMov (.v (.int .i64 0)), none, none⟩,
   ⟨(some t7), oMov (.v (.bool false)), none, none⟩])
 (xSeq (xSeq (xOps [⟨(some t10), oMov (.t t0), none, none⟩,
   ⟨(some t11), oBin (int2 (cmpO ltI)) (.t t10) (.v (.int .i64 1900)), none, none⟩,
   ⟨(some t12), oMov (.t t11), none, none⟩,
   ⟨(some t13), oMov (.t t0), (some (t12, false)), none⟩,
   ⟨(some t14), oBin (int2 (cmpO gtI)) (.t t13) (.v (.int .i64 2199)), (some (t12, false)), none⟩,
   ⟨(some t15), oPick (.t t12) (.v (.bool true)) (.t t14), none, none⟩,
   ⟨(some t16), oMov (.t t15), none, none⟩,
   ⟨(some t17), oMov (.t t2), (some (t16, false)), none⟩,
   ⟨(some t18), oBin (int2 (cmpO ltI)) (.t t17) (.v (.int .i64 1)), (some (t16, false)), none⟩,
   ⟨(some t19), oPick (.t t16) (.v (.bool true)) (.t t18), none, none⟩,
   ⟨(some t20), oMov (.t t19), none, none⟩,
   ⟨(some t21), oMov (.t t2), (some (t20, false)), none⟩,
   ⟨(some t22), oMov (.t t0), (some (t20, false)), none⟩,
   ⟨(some t23), oMov (.t t1), (some (t20, false)), none⟩,
   ⟨(some t24), oCall 17 [(.t t22), (.t t23)], (some (t20, false)), none⟩,
   ⟨(some t25), oBin (int2 (cmpO gtI)) (.t t21) (.t t24), (some (t20, false)), none⟩,
   ⟨(some t26), oPick (.t t20) (.v (.bool true)) (.t t25), none, none⟩])
 (xCond (.t t26)
 (xSeq (xOps [⟨(some t6), oMov (.v (.int .i64 0)), none, none⟩,
   ⟨(some t7), oMov (.v (.bool false)), none, none⟩])
 xRet)
 xSkip))
 (xSeq (xOps [⟨(some t27), oMov (.t t0), none, none⟩,
   ⟨(some t28), oCall 26 [(.t t27)], none, none⟩,
   ⟨(some t8), oMov (.t t28), none, none⟩])
 (xSeq (xSeq (xOps [⟨(some t9), oMov (.v (.int .i64 1)), none, none⟩])
 (xBlock 0 (xLoop c11_l0)))
 c11_r0))))⟩
theorem ok11 : cFunc Tryd.prog gl ex Tryd.f11 = some c11 := by kernel_rfl
-- publican/cal.Months
def c12 : AFunc := ⟨58, [.tmp t4, .tmp t5],
 (xSeq (xOps [⟨(some t4), oMov (.v (.int .i64 0)), none, none⟩,
   ⟨(some t5), oMov (.v (.bool false)), none, none⟩])
 (xSeq (xOps [⟨(some t12), oMov (.t t0), none, none⟩,
   ⟨(some t13), oCall 14 [(.t t12)], none, none⟩,
   ⟨(some t11), oMov (.t t13), none, none⟩,
   ⟨(some t14), oExtract (.t t11) 0, none, none⟩,
   ⟨(some t15), oExtract (.t t11) 1, none, none⟩,
   ⟨(some t16), oExtract (.t t11) 2, none, none⟩,
   ⟨(some t17), oExtract (.t t11) 3, none, none⟩,
   ⟨(some t6), oMov (.t t14), none, none⟩,
   ⟨(some t7), oMov (.t t15), none, none⟩,
   ⟨(some t8), oMov (.t t16), none, none⟩,
   ⟨(some t9), oMov (.t t17), none, none⟩])
 (xSeq (xSeq (xOps [⟨(some t18), oMov (.t t9), none, none⟩,
   ⟨(some t19), oNot (.t t18), none, none⟩,
   ⟨(some t20), oMov (.t t19), none, none⟩,
   ⟨(some t21), oMov (.t t1), (some (t20, false)), none⟩,
   ⟨(some t22), oBin (int2 (cmpO ltI)) (.t t21) (.v (.int .i64 (-3600))), (some (t20, false)), none⟩,
   ⟨(some t23), oPick (.t t20) (.v (.bool true)) (.t t22), none, none⟩,
   ⟨(some t24), oMov (.t t23), none, none⟩,
   ⟨(some t25), oMov (.t t1), (some (t24, false)), none⟩,
   ⟨(some t26), oBin (int2 (cmpO gtI)) (.t t25) (.v (.int .i64 3600)), (some (t24, false)), none⟩,
   ⟨(some t27), oPick (.t t24) (.v (.bool true)) (.t t26), none, none⟩])
 (xCond (.t t27)
 (xSeq (xOps [⟨(some t4), oMov (.v (.int .i64 0)), none, none⟩,
   ⟨(some t5), oMov (.v (.bool false)), none, none⟩])
 xRet)
 xSkip))
 (xSeq (xOps [⟨(some t28), oMov (.t t6), none, none⟩,
   ⟨(some t29), oBin (int2 subO) (.t t28) (.v (.int .i64 1900)), none, none⟩,
   ⟨(some t30), oBin (int2 mulO) (.t t29) (.v (.int .i64 12)), none, none⟩,
   ⟨(some t31), oMov (.t t7), none, none⟩,
   ⟨(some t32), oBin (int2 addO) (.t t30) (.t t31), none, none⟩,
   ⟨(some t33), oBin (int2 subO) (.t t32) (.v (.int .i64 1)), none, none⟩,
   ⟨(some t34), oMov (.t t1), none, none⟩,
   ⟨(some t35), oBin (int2 addO) (.t t33) (.t t34), none, none⟩,
   ⟨(some t10), oMov (.t t35), none, none⟩])
 (xSeq (xSeq (xOps [⟨(some t36), oMov (.t t10), none, none⟩,
   ⟨(some t37), oBin (int2 (cmpO ltI)) (.t t36) (.v (.int .i64 0)), none, none⟩,
   ⟨(some t38), oMov (.t t37), none, none⟩,
   ⟨(some t39), oMov (.t t10), (some (t38, false)), none⟩,
   ⟨(some t40), oBin (int2 (cmpO geI)) (.t t39) (.v (.int .i64 3600)), (some (t38, false)), none⟩,
   ⟨(some t41), oPick (.t t38) (.v (.bool true)) (.t t40), none, none⟩])
 (xCond (.t t41)
 (xSeq (xOps [⟨(some t4), oMov (.v (.int .i64 0)), none, none⟩,
   ⟨(some t5), oMov (.v (.bool false)), none, none⟩])
 xRet)
 xSkip))
 (xSeq (xOps [⟨(some t42), oMov (.t t10), none, none⟩,
   ⟨(some t43), oBin (int2 quoO) (.t t42) (.v (.int .i64 12)), none, none⟩,
   ⟨(some t44), oBin (int2 addO) (.v (.int .i64 1900)) (.t t43), none, none⟩,
   ⟨(some t45), oMov (.t t10), none, none⟩,
   ⟨(some t46), oBin (int2 remO) (.t t45) (.v (.int .i64 12)), none, none⟩,
   ⟨(some t47), oBin (int2 addO) (.t t46) (.v (.int .i64 1)), none, none⟩,
   ⟨(some t6), oMov (.t t44), none, none⟩,
   ⟨(some t7), oMov (.t t47), none, none⟩])
 (xSeq (xOps [⟨(some t48), oMov (.t t6), none, none⟩,
   ⟨(some t49), oMov (.t t7), none, none⟩,
   ⟨(some t50), oMov (.t t8), none, none⟩,
   ⟨(some t51), oMov (.t t6), none, none⟩,
   ⟨(some t52), oMov (.t t7), none, none⟩,
   ⟨(some t53), oCall 17 [(.t t51), (.t t52)], none, none⟩,
   ⟨(some t54), oMM false (.t t50) [(.t t53)], none, none⟩,
   ⟨(some t55), oCall 11 [(.t t48), (.t t49), (.t t54)], none, none⟩,
   ⟨(some t56), oExtract (.t t55) 0, none, none⟩,
   ⟨(some t57), oExtract (.t t55) 1, none, none⟩,
   ⟨(some t4), oMov (.t t56), none, none⟩,
   ⟨(some t5), oMov (.t t57), none, none⟩])
 xRet)))))))⟩
theorem ok12 : cFunc Tryd.prog gl ex Tryd.f12 = some c12 := by kernel_rfl
-- publican/cal.Read
def c13 : AFunc := ⟨29, [.tmp t2, .tmp t3],
 (xSeq (xOps [⟨(some t2), oMov (.v (.int .i64 0)), none, none⟩,
   ⟨(some t3), oMov (.v (.bool false)), none, none⟩])
 (xSeq (xSeq (xOps [⟨(some t4), oMov (.t t0), none, none⟩,
   ⟨(some t5), oLenS (.t t4), none, none⟩,
   ⟨(some t6), oBin (int2 (cmpO neI)) (.t t5) (.v (.int .i64 10)), none, none⟩,
   ⟨(some t7), oMov (.t t6), none, none⟩,
   ⟨(some t8), oMov (.t t0), (some (t7, false)), none⟩,
   ⟨(some t9), oIdxS (.t t8) (.v (.int .i64 4)), (some (t7, false)), none⟩,
   ⟨(some t10), oBin (int2 (cmpO neI)) (.t t9) (.v (.int .u8 45)), (some (t7, false)), none⟩,
   ⟨(some t11), oPick (.t t7) (.v (.bool true)) (.t t10), none, none⟩,
   ⟨(some t12), oMov (.t t11), none, none⟩,
   ⟨(some t13), oMov (.t t0), (some (t12, false)), none⟩,
   ⟨(some t14), oIdxS (.t t13) (.v (.int .i64 7)), (some (t12, false)), none⟩,
   ⟨(some t15), oBin (int2 (cmpO neI)) (.t t14) (.v (.int .u8 45)), (some (t12, false)), none⟩,
   ⟨(some t16), oPick (.t t12) (.v (.bool true)) (.t t15), none, none⟩])
 (xCond (.t t16)
 (xSeq (xOps [⟨(some t2), oMov (.v (.int .i64 0)), none, none⟩,
   ⟨(some t3), oMov (.v (.bool false)), none, none⟩])
 xRet)
 xSkip))
 (xSeq (xReg [⟨(some t17), oMov (.t t0), none, none⟩,
   ⟨(some t18), oSliceS (.t t17) none (some (.v (.int .i64 4))), none, none⟩,
   ⟨(some t19), oCall 27 [(.t t18)], none, none⟩,
   ⟨(some t20), oMov (.t t0), none, none⟩,
   ⟨(some t21), oSliceS (.t t20) (some (.v (.int .i64 5))) (some (.v (.int .i64 7))), none, none⟩,
   ⟨(some t22), oCall 27 [(.t t21)], none, none⟩,
   ⟨(some t23), oMov (.t t0), none, none⟩,
   ⟨(some t24), oSliceS (.t t23) (some (.v (.int .i64 8))) none, none, none⟩,
   ⟨(some t25), oCall 27 [(.t t24)], none, none⟩,
   ⟨(some t26), oCall 11 [(.t t19), (.t t22), (.t t25)], none, none⟩,
   ⟨(some t27), oExtract (.t t26) 0, none, none⟩,
   ⟨(some t28), oExtract (.t t26) 1, none, none⟩,
   ⟨(some t2), oMov (.t t27), none, none⟩,
   ⟨(some t3), oMov (.t t28), none, none⟩] [(0, 3), (1, 3), (2, 3), (0, 4), (1, 4), (2, 4), (0, 6), (1, 6), (2, 6), (3, 6), (4, 6), (5, 6), (0, 7), (1, 7), (2, 7), (3, 7), (4, 7), (5, 7), (10, 11)])
 xRet)))⟩
theorem ok13 : cFunc Tryd.prog gl ex Tryd.f13 = some c13 := by kernel_rfl
-- publican/cal.Date
def c14_l0 : X := (xSeq (xSeq (xOps [⟨(some t9), oMov (.t t2), none, none⟩,
   ⟨(some t10), oBin (int2 (cmpO ltI)) (.t t9) (.v (.int .i64 2199)), none, none⟩,
   ⟨(some t11), oMov (.t t10), none, none⟩,
   ⟨(some t12), oMov (.t t2), (some (t11, true)), none⟩,
   ⟨(some t13), oBin (int2 addO) (.t t12) (.v (.int .i64 1)), (some (t11, true)), none⟩,
   ⟨(some t14), oCall 26 [(.t t13)], (some (t11, true)), none⟩,
   ⟨(some t15), oMov (.t t0), (some (t11, true)), none⟩,
   ⟨(some t16), oBin (int2 (cmpO leI)) (.t t14) (.t t15), (some (t11, true)), none⟩,
   ⟨(some t17), oPick (.t t11) (.t t16) (.v (.bool false)), none, none⟩])
 (xCond (.t t17)
 xSkip
 (xExit 0)))
 (xBlock 1 (xOps [⟨(some t18), oMov (.t t2), none, none⟩,
   ⟨(some t19), oBin (int2 addO) (.t t18) (.v (.int .i64 1)), none, none⟩,
   ⟨(some t2), oMov (.t t19), none, none⟩])))
def c14_l1 : X := (xSeq (xSeq (xOps [⟨(some t24), oMov (.t t0), none, none⟩,
   ⟨(some t25), oMov (.t t2), none, none⟩,
   ⟨(some t26), oMov (.t t3), none, none⟩,
   ⟨(some t27), oCall 17 [(.t t25), (.t t26)], none, none⟩,
   ⟨(some t28), oBin (int2 (cmpO geI)) (.t t24) (.t t27), none, none⟩])
 (xCond (.t t28)
 xSkip
 (xExit 2)))
 (xBlock 3 (xSeq (xOps [⟨(some t29), oMov (.t t0), none, none⟩,
   ⟨(some t30), oMov (.t t2), none, none⟩,
   ⟨(some t31), oMov (.t t3), none, none⟩,
   ⟨(some t32), oCall 17 [(.t t30), (.t t31)], none, none⟩,
   ⟨(some t33), oBin (int2 subO) (.t t29) (.t t32), none, none⟩,
   ⟨(some t0), oMov (.t t33), none, none⟩])
 (xOps [⟨(some t34), oMov (.t t3), none, none⟩,
   ⟨(some t35), oBin (int2 addO) (.t t34) (.v (.int .i64 1)), none, none⟩,
   ⟨(some t3), oMov (.t t35), none, none⟩]))))
def c14_r0 : X := (xSeq (xOps [⟨(some t36), oMov (.t t2), none, none⟩,
   ⟨(some t37), oMov (.t t3), none, none⟩,
   ⟨(some t38), oMov (.t t0), none, none⟩,
   ⟨(some t39), oBin (int2 addO) (.t t38) (.v (.int .i64 1)), none, none⟩,
   ⟨(some t2), oMov (.t t36), none, none⟩,
   ⟨(some t3), oMov (.t t37), none, none⟩,
   ⟨(some t4), oMov (.t t39), none, none⟩,
   ⟨(some t5), oMov (.v (.bool true)), none, none⟩])
 xRet)
def c14_r1 : X := (xSeq (xOps [⟨(some t20), oMov (.t t0), none, none⟩,
   ⟨(some t21), oMov (.t t2), none, none⟩,
   ⟨(some t22), oCall 26 [(.t t21)], none, none⟩,
   ⟨(some t23), oBin (int2 subO) (.t t20) (.t t22), none, none⟩,
   ⟨(some t0), oMov (.t t23), none, none⟩])
 (xSeq (xOps [⟨(some t3), oMov (.v (.int .i64 1)), none, none⟩])
 (xSeq (xBlock 2 (xLoop c14_l1))
 c14_r0)))
def c14 : AFunc := ⟨40, [.tmp t2, .tmp t3, .tmp t4, .tmp t5],
 (xSeq (xOps [⟨(some t2), oMov (.v (.int .i64 0)), none, none⟩,
   ⟨(some t3), oMov (.v (.int .i64 0)), none, none⟩,
   ⟨(some t4), oMov (.v (.int .i64 0)), none, none⟩,
   ⟨(some t5), oMov (.v (.bool false)), none, none⟩])
 (xSeq (xSeq (xOps [⟨(some t6), oMov (.t t0), none, none⟩,
   ⟨(some t7), oCall 28 [(.t t6)], none, none⟩,
   ⟨(some t8), oNot (.t t7), none, none⟩])
 (xCond (.t t8)
 (xSeq (xOps [⟨(some t2), oMov (.v (.int .i64 0)), none, none⟩,
   ⟨(some t3), oMov (.v (.int .i64 0)), none, none⟩,
   ⟨(some t4), oMov (.v (.int .i64 0)), none, none⟩,
   ⟨(some t5), oMov (.v (.bool false)), none, none⟩])
 xRet)
 xSkip))
 (xSeq (xOps [⟨(some t2), oMov (.v (.int .i64 1900)), none, none⟩])
 (xSeq (xBlock 0 (xLoop c14_l0))
 c14_r1))))⟩
theorem ok14 : cFunc Tryd.prog gl ex Tryd.f14 = some c14 := by kernel_rfl
-- publican/cal.Text
def c15 : AFunc := ⟨26, [.tmp t2],
 (xSeq (xOps [⟨(some t2), oMov (.v (.string ⟨⟨[]⟩⟩)), none, none⟩])
 (xSeq (xOps [⟨(some t8), oMov (.t t0), none, none⟩,
   ⟨(some t9), oCall 14 [(.t t8)], none, none⟩,
   ⟨(some t7), oMov (.t t9), none, none⟩,
   ⟨(some t10), oExtract (.t t7) 0, none, none⟩,
   ⟨(some t11), oExtract (.t t7) 1, none, none⟩,
   ⟨(some t12), oExtract (.t t7) 2, none, none⟩,
   ⟨(some t13), oExtract (.t t7) 3, none, none⟩,
   ⟨(some t3), oMov (.t t10), none, none⟩,
   ⟨(some t4), oMov (.t t11), none, none⟩,
   ⟨(some t5), oMov (.t t12), none, none⟩,
   ⟨(some t6), oMov (.t t13), none, none⟩])
 (xSeq (xSeq (xOps [⟨(some t14), oMov (.t t6), none, none⟩,
   ⟨(some t15), oNot (.t t14), none, none⟩])
 (xCond (.t t15)
 (xSeq (xOps [⟨(some t2), oMov (.v (.string ⟨⟨[]⟩⟩)), none, none⟩])
 xRet)
 xSkip))
 (xSeq (xOps [⟨(some t16), oMov (.t t3), none, none⟩,
   ⟨(some t17), oCall 29 [(.t t16), (.v (.int .i64 4))], none, none⟩,
   ⟨(some t18), oBin (str2 catO) (.t t17) (.v (.string ⟨⟨[45]⟩⟩)), none, none⟩,
   ⟨(some t19), oMov (.t t4), none, none⟩,
   ⟨(some t20), oCall 29 [(.t t19), (.v (.int .i64 2))], none, none⟩,
   ⟨(some t21), oBin (str2 catO) (.t t18) (.t t20), none, none⟩,
   ⟨(some t22), oBin (str2 catO) (.t t21) (.v (.string ⟨⟨[45]⟩⟩)), none, none⟩,
   ⟨(some t23), oMov (.t t5), none, none⟩,
   ⟨(some t24), oCall 29 [(.t t23), (.v (.int .i64 2))], none, none⟩,
   ⟨(some t25), oBin (str2 catO) (.t t22) (.t t24), none, none⟩,
   ⟨(some t2), oMov (.t t25), none, none⟩])
 xRet))))⟩
theorem ok15 : cFunc Tryd.prog gl ex Tryd.f15 = some c15 := by kernel_rfl
-- publican/cal.Weekday
def c16 : AFunc := ⟨8, [.tmp t2],
 (xSeq (xOps [⟨(some t2), oMov (.v (.int .i64 0)), none, none⟩])
 (xSeq (xSeq (xOps [⟨(some t3), oMov (.t t0), none, none⟩,
   ⟨(some t4), oCall 28 [(.t t3)], none, none⟩,
   ⟨(some t5), oNot (.t t4), none, none⟩])
 (xCond (.t t5)
 (xSeq (xOps [⟨(some t2), oMov (.v (.int .i64 (-1))), none, none⟩])
 xRet)
 xSkip))
 (xSeq (xOps [⟨(some t6), oMov (.t t0), none, none⟩,
   ⟨(some t7), oBin (int2 remO) (.t t6) (.v (.int .i64 7)), none, none⟩,
   ⟨(some t2), oMov (.t t7), none, none⟩])
 xRet)))⟩
theorem ok16 : cFunc Tryd.prog gl ex Tryd.f16 = some c16 := by kernel_rfl
-- publican/cal.Days
def c17 : AFunc := ⟨23, [.tmp t4],
 (xSeq (xOps [⟨(some t4), oMov (.v (.int .i64 0)), none, none⟩])
 (xSeq (xSeq (xOps [⟨(some t5), oMov (.t t1), none, none⟩])
 (xBlock 0 (xSeq (xOps [⟨(some t7), oBin (int2 (cmpO eqI)) (.t t5) (.v (.int .i64 2)), none, none⟩,
   ⟨(some t6), oMov (.t t7), none, none⟩])
 (xCond (.t t6)
 (xSeq (xSeq (xOps [⟨(some t8), oMov (.t t0), none, none⟩,
   ⟨(some t9), oCall 22 [(.t t8)], none, none⟩])
 (xCond (.t t9)
 (xSeq (xOps [⟨(some t4), oMov (.v (.int .i64 29)), none, none⟩])
 xRet)
 xSkip))
 (xSeq (xOps [⟨(some t4), oMov (.v (.int .i64 28)), none, none⟩])
 xRet))
 (xSeq (xSeq (xOps [⟨(some t11), oBin (int2 (cmpO eqI)) (.t t5) (.v (.int .i64 4)), none, none⟩,
   ⟨(some t10), oMov (.t t11), none, none⟩])
 (xCond (.t t10)
 xSkip
 (xSeq (xOps [⟨(some t12), oBin (int2 (cmpO eqI)) (.t t5) (.v (.int .i64 6)), none, none⟩,
   ⟨(some t10), oMov (.t t12), none, none⟩])
 (xCond (.t t10)
 xSkip
 (xSeq (xOps [⟨(some t13), oBin (int2 (cmpO eqI)) (.t t5) (.v (.int .i64 9)), none, none⟩,
   ⟨(some t10), oMov (.t t13), none, none⟩])
 (xCond (.t t10)
 xSkip
 (xOps [⟨(some t14), oBin (int2 (cmpO eqI)) (.t t5) (.v (.int .i64 11)), none, none⟩,
   ⟨(some t10), oMov (.t t14), none, none⟩])))))))
 (xCond (.t t10)
 (xSeq (xOps [⟨(some t4), oMov (.v (.int .i64 30)), none, none⟩])
 xRet)
 (xSeq (xSeq (xOps [⟨(some t16), oBin (int2 (cmpO eqI)) (.t t5) (.v (.int .i64 1)), none, none⟩,
   ⟨(some t15), oMov (.t t16), none, none⟩])
 (xCond (.t t15)
 xSkip
 (xSeq (xOps [⟨(some t17), oBin (int2 (cmpO eqI)) (.t t5) (.v (.int .i64 3)), none, none⟩,
   ⟨(some t15), oMov (.t t17), none, none⟩])
 (xCond (.t t15)
 xSkip
 (xSeq (xOps [⟨(some t18), oBin (int2 (cmpO eqI)) (.t t5) (.v (.int .i64 5)), none, none⟩,
   ⟨(some t15), oMov (.t t18), none, none⟩])
 (xCond (.t t15)
 xSkip
 (xSeq (xOps [⟨(some t19), oBin (int2 (cmpO eqI)) (.t t5) (.v (.int .i64 7)), none, none⟩,
   ⟨(some t15), oMov (.t t19), none, none⟩])
 (xCond (.t t15)
 xSkip
 (xSeq (xOps [⟨(some t20), oBin (int2 (cmpO eqI)) (.t t5) (.v (.int .i64 8)), none, none⟩,
   ⟨(some t15), oMov (.t t20), none, none⟩])
 (xCond (.t t15)
 xSkip
 (xSeq (xOps [⟨(some t21), oBin (int2 (cmpO eqI)) (.t t5) (.v (.int .i64 10)), none, none⟩,
   ⟨(some t15), oMov (.t t21), none, none⟩])
 (xCond (.t t15)
 xSkip
 (xOps [⟨(some t22), oBin (int2 (cmpO eqI)) (.t t5) (.v (.int .i64 12)), none, none⟩,
   ⟨(some t15), oMov (.t t22), none, none⟩])))))))))))))
 (xCond (.t t15)
 (xSeq (xOps [⟨(some t4), oMov (.v (.int .i64 31)), none, none⟩])
 xRet)
 xSkip))))))))
 (xSeq (xOps [⟨(some t4), oMov (.v (.int .i64 0)), none, none⟩])
 xRet)))⟩
theorem ok17 : cFunc Tryd.prog gl ex Tryd.f17 = some c17 := by kernel_rfl
-- publican/cal.Leap
def c22 : AFunc := ⟨16, [.tmp t2],
 (xSeq (xOps [⟨(some t2), oMov (.v (.bool false)), none, none⟩])
 (xSeq (xOps [⟨(some t3), oMov (.t t0), none, none⟩,
   ⟨(some t4), oBin (int2 remO) (.t t3) (.v (.int .i64 4)), none, none⟩,
   ⟨(some t5), oBin (int2 (cmpO eqI)) (.t t4) (.v (.int .i64 0)), none, none⟩,
   ⟨(some t6), oMov (.t t5), none, none⟩,
   ⟨(some t7), oMov (.t t0), (some (t6, true)), none⟩,
   ⟨(some t8), oBin (int2 remO) (.t t7) (.v (.int .i64 100)), (some (t6, true)), none⟩,
   ⟨(some t9), oBin (int2 (cmpO neI)) (.t t8) (.v (.int .i64 0)), (some (t6, true)), none⟩,
   ⟨(some t10), oPick (.t t6) (.t t9) (.v (.bool false)), none, none⟩,
   ⟨(some t11), oMov (.t t10), none, none⟩,
   ⟨(some t12), oMov (.t t0), (some (t11, false)), none⟩,
   ⟨(some t13), oBin (int2 remO) (.t t12) (.v (.int .i64 400)), (some (t11, false)), none⟩,
   ⟨(some t14), oBin (int2 (cmpO eqI)) (.t t13) (.v (.int .i64 0)), (some (t11, false)), none⟩,
   ⟨(some t15), oPick (.t t11) (.v (.bool true)) (.t t14), none, none⟩,
   ⟨(some t2), oMov (.t t15), none, none⟩])
 xRet))⟩
theorem ok22 : cFunc Tryd.prog gl ex Tryd.f22 = some c22 := by kernel_rfl
-- publican/cal.before
def c26 : AFunc := ⟨25, [.tmp t2],
 (xSeq (xOps [⟨(some t2), oMov (.v (.int .i64 0)), none, none⟩])
 (xSeq (xOps [⟨(some t5), oMov (.t t0), none, none⟩,
   ⟨(some t6), oBin (int2 subO) (.t t5) (.v (.int .i64 1900)), none, none⟩,
   ⟨(some t3), oMov (.t t6), none, none⟩])
 (xSeq (xOps [⟨(some t7), oMov (.t t0), none, none⟩,
   ⟨(some t8), oBin (int2 subO) (.t t7) (.v (.int .i64 1)), none, none⟩,
   ⟨(some t9), oBin (int2 quoO) (.t t8) (.v (.int .i64 4)), none, none⟩,
   ⟨(some t10), oBin (int2 subO) (.t t9) (.v (.int .i64 474)), none, none⟩,
   ⟨(some t11), oMov (.t t0), none, none⟩,
   ⟨(some t12), oBin (int2 subO) (.t t11) (.v (.int .i64 1)), none, none⟩,
   ⟨(some t13), oBin (int2 quoO) (.t t12) (.v (.int .i64 100)), none, none⟩,
   ⟨(some t14), oBin (int2 subO) (.t t13) (.v (.int .i64 18)), none, none⟩,
   ⟨(some t15), oBin (int2 subO) (.t t10) (.t t14), none, none⟩,
   ⟨(some t16), oMov (.t t0), none, none⟩,
   ⟨(some t17), oBin (int2 subO) (.t t16) (.v (.int .i64 1)), none, none⟩,
   ⟨(some t18), oBin (int2 quoO) (.t t17) (.v (.int .i64 400)), none, none⟩,
   ⟨(some t19), oBin (int2 subO) (.t t18) (.v (.int .i64 4)), none, none⟩,
   ⟨(some t20), oBin (int2 addO) (.t t15) (.t t19), none, none⟩,
   ⟨(some t4), oMov (.t t20), none, none⟩])
 (xSeq (xOps [⟨(some t21), oMov (.t t3), none, none⟩,
   ⟨(some t22), oBin (int2 mulO) (.t t21) (.v (.int .i64 365)), none, none⟩,
   ⟨(some t23), oMov (.t t4), none, none⟩,
   ⟨(some t24), oBin (int2 addO) (.t t22) (.t t23), none, none⟩,
   ⟨(some t2), oMov (.t t24), none, none⟩])
 xRet))))⟩
theorem ok26 : cFunc Tryd.prog gl ex Tryd.f26 = some c26 := by kernel_rfl
-- publican/cal.number
def c27_l0 : X := (xSeq (xOps [⟨(some t10), oBin (int2 (cmpO ltI)) (.t t9) (.t t8), none, none⟩])
 (xSeq (xCond (.t t10)
 xSkip
 (xExit 0))
 (xSeq (xBlock 1 (xSeq (xOps [⟨(some t11), oIdxAddrL 1 (.t t7) (.t t9), none, none⟩,
   ⟨(some t12), oLoad1 (.t t11), none, (some (.t t11))⟩,
   ⟨(some t5), oMov (.t t12), none, none⟩])
 (xSeq (xSeq (xOps [⟨(some t13), oMov (.t t5), none, none⟩,
   ⟨(some t14), oBin (int2 (cmpO ltI)) (.t t13) (.v (.int .u8 48)), none, none⟩,
   ⟨(some t15), oMov (.t t14), none, none⟩,
   ⟨(some t16), oMov (.t t5), (some (t15, false)), none⟩,
   ⟨(some t17), oBin (int2 (cmpO gtI)) (.t t16) (.v (.int .u8 57)), (some (t15, false)), none⟩,
   ⟨(some t18), oPick (.t t15) (.v (.bool true)) (.t t17), none, none⟩])
 (xCond (.t t18)
 (xSeq (xOps [⟨(some t2), oMov (.v (.int .i64 (-1))), none, none⟩])
 xRet)
 xSkip))
 (xOps [⟨(some t19), oMov (.t t3), none, none⟩,
   ⟨(some t20), oBin (int2 mulO) (.t t19) (.v (.int .i64 10)), none, none⟩,
   ⟨(some t21), oMov (.t t5), none, none⟩,
   ⟨(some t22), oBin (int2 subO) (.t t21) (.v (.int .u8 48)), none, none⟩,
   ⟨(some t23), oConv .i64 (.t t22), none, none⟩,
   ⟨(some t24), oBin (int2 addO) (.t t20) (.t t23), none, none⟩,
   ⟨(some t3), oMov (.t t24), none, none⟩]))))
 (xOps [⟨(some t25), oBin (int2 addO) (.t t9) (.v (.int .i64 1)), none, none⟩,
   ⟨(some t9), oMov (.t t25), none, none⟩]))))
def c27_r0 : X := (xSeq (xOps [⟨(some t26), oMov (.t t3), none, none⟩,
   ⟨(some t2), oMov (.t t26), none, none⟩])
 xRet)
def c27 : AFunc := ⟨27, [.tmp t2],
 (xSeq (xOps [⟨(some t2), oMov (.v (.int .i64 0)), none, none⟩])
 (xSeq (xOps [⟨(some t3), oMov (.v (.int .i64 0)), none, none⟩])
 (xSeq (xSeq (xOps [⟨(some t6), oMov (.t t0), none, none⟩,
   ⟨(some t7), oStrBytes (.t t6), none, none⟩,
   ⟨(some t8), oLenL (.t t7), none, none⟩,
   ⟨(some t9), oMov (.v (.int .i64 0)), none, none⟩])
 (xBlock 0 (xLoop c27_l0)))
 c27_r0)))⟩
theorem ok27 : cFunc Tryd.prog gl ex Tryd.f27 = some c27 := by kernel_rfl
-- publican/cal.day
def c28 : AFunc := ⟨9, [.tmp t2],
 (xSeq (xOps [⟨(some t2), oMov (.v (.bool false)), none, none⟩])
 (xSeq (xOps [⟨(some t3), oMov (.t t0), none, none⟩,
   ⟨(some t4), oBin (int2 (cmpO geI)) (.t t3) (.v (.int .i64 0)), none, none⟩,
   ⟨(some t5), oMov (.t t4), none, none⟩,
   ⟨(some t6), oMov (.t t0), (some (t5, true)), none⟩,
   ⟨(some t7), oBin (int2 (cmpO leI)) (.t t6) (.v (.int .i64 109572)), (some (t5, true)), none⟩,
   ⟨(some t8), oPick (.t t5) (.t t7) (.v (.bool false)), none, none⟩,
   ⟨(some t2), oMov (.t t8), none, none⟩])
 xRet))⟩
theorem ok28 : cFunc Tryd.prog gl ex Tryd.f28 = some c28 := by kernel_rfl
-- publican/cal.digits
def c29_l0 : X := (xSeq (xSeq (xOps [⟨(some t8), oMov (.t t5), none, none⟩,
   ⟨(some t9), oLenS (.t t8), none, none⟩,
   ⟨(some t10), oMov (.t t1), none, none⟩,
   ⟨(some t11), oBin (int2 (cmpO ltI)) (.t t9) (.t t10), none, none⟩])
 (xCond (.t t11)
 xSkip
 (xExit 0)))
 (xBlock 1 (xOps [⟨(some t12), oMov (.t t5), none, none⟩,
   ⟨(some t13), oBin (str2 catO) (.v (.string ⟨⟨[48]⟩⟩)) (.t t12), none, none⟩,
   ⟨(some t5), oMov (.t t13), none, none⟩])))
def c29_r0 : X := (xSeq (xOps [⟨(some t14), oMov (.t t5), none, none⟩,
   ⟨(some t4), oMov (.t t14), none, none⟩])
 xRet)
def c29 : AFunc := ⟨15, [.tmp t4],
 (xSeq (xOps [⟨(some t4), oMov (.v (.string ⟨⟨[]⟩⟩)), none, none⟩])
 (xSeq (xOps [⟨(some t6), oMov (.t t0), none, none⟩,
   ⟨(some t7), oCall 31 [(.t t6)], none, none⟩,
   ⟨(some t5), oMov (.t t7), none, none⟩])
 (xSeq (xBlock 0 (xLoop c29_l0))
 c29_r0)))⟩
theorem ok29 : cFunc Tryd.prog gl ex Tryd.f29 = some c29 := by kernel_rfl
-- strconv.Itoa
def c31 : AFunc := ⟨5, [.tmp t2],
 (xSeq (xOps [⟨(some t2), oMov (.v (.string ⟨⟨[]⟩⟩)), none, none⟩])
 (xSeq (xOps [⟨(some t3), oMov (.t t0), none, none⟩,
   ⟨(some t4), oCall 32 [(.t t3)], none, none⟩,
   ⟨(some t2), oMov (.t t4), none, none⟩])
 xRet))⟩
theorem ok31 : cFunc Tryd.prog gl ex Tryd.f31 = some c31 := by kernel_rfl
-- internal/strconv.Itoa
def c32 : AFunc := ⟨5, [.tmp t2],
 (xSeq (xOps [⟨(some t2), oMov (.v (.string ⟨⟨[]⟩⟩)), none, none⟩])
 (xSeq (xOps [⟨(some t3), oMov (.t t0), none, none⟩,
   ⟨(some t4), oCall 33 [(.t t3), (.v (.int .i64 10))], none, none⟩,
   ⟨(some t2), oMov (.t t4), none, none⟩])
 xRet))⟩
theorem ok32 : cFunc Tryd.prog gl ex Tryd.f32 = some c32 := by kernel_rfl
-- internal/strconv.FormatInt
def c33 : AFunc := ⟨54, [.tmp t4],
 (xSeq (xOps [⟨(some t4), oMov (.v (.string ⟨⟨[]⟩⟩)), none, none⟩])
 (xSeq (xSeq (xOps [⟨(some t10), oMov (.t t1), none, none⟩,
   ⟨(some t11), oBin (int2 (cmpO eqI)) (.t t10) (.v (.int .i64 10)), none, none⟩])
 (xCond (.t t11)
 (xSeq (xSeq (xOps [⟨(some t12), oMov (.t t0), none, none⟩,
   ⟨(some t13), oBin (int2 (cmpO leI)) (.v (.int .i64 0)) (.t t12), none, none⟩,
   ⟨(some t14), oMov (.t t13), none, none⟩,
   ⟨(some t15), oMov (.t t0), (some (t14, true)), none⟩,
   ⟨(some t16), oBin (int2 (cmpO ltI)) (.t t15) (.v (.int .i64 100)), (some (t14, true)), none⟩,
   ⟨(some t17), oPick (.t t14) (.t t16) (.v (.bool false)), none, none⟩])
 (xCond (.t t17)
 (xSeq (xOps [⟨(some t18), oMov (.t t0), none, none⟩,
   ⟨(some t19), oCall 34 [(.t t18)], none, none⟩,
   ⟨(some t4), oMov (.t t19), none, none⟩])
 xRet)
 xSkip))
 (xSeq (xOps [⟨(some t5), oNew (rep 24 [(.int .u8 0)]), none, none⟩])
 (xSeq (xOps [⟨(some t20), oMov (.t t0), none, none⟩,
   ⟨(some t21), oConv .u64 (.t t20), none, none⟩,
   ⟨(some t6), oMov (.t t21), none, none⟩])
 (xSeq (xSeq (xOps [⟨(some t22), oMov (.t t0), none, none⟩,
   ⟨(some t23), oBin (int2 (cmpO ltI)) (.t t22) (.v (.int .i64 0)), none, none⟩])
 (xCond (.t t23)
 (xOps [⟨(some t24), oMov (.t t6), none, none⟩,
   ⟨(some t25), oNeg (.t t24), none, none⟩,
   ⟨(some t6), oMov (.t t25), none, none⟩])
 xSkip))
 (xSeq (xOps [⟨(some t26), oMov (.t t6), none, none⟩,
   ⟨(some t27), oCall 35 [(.t t26)], none, none⟩,
   ⟨(some t7), oMov (.t t27), none, none⟩])
 (xSeq (xOps [⟨(some t28), oMov (.t t7), none, none⟩,
   ⟨(some t29), oBin (int2 addO) (.v (.int .i64 1)) (.t t28), none, none⟩,
   ⟨(some t30), oSliceA 24 1 (.t t5) (some (.v (.int .i64 1))) (some (.t t29)), none, none⟩,
   ⟨(some t31), oMov (.t t6), none, none⟩,
   ⟨(some t32), oCall 36 [(.t t30), (.t t31)], none, none⟩])
 (xSeq (xSeq (xOps [⟨(some t33), oMov (.t t0), none, none⟩,
   ⟨(some t34), oBin (int2 (cmpO ltI)) (.t t33) (.v (.int .i64 0)), none, none⟩])
 (xCond (.t t34)
 (xSeq (xOps [⟨(some t35), oIdxAddrA 24 1 (.t t5) (.v (.int .i64 0)), none, none⟩,
   ⟨none, oStore 1 (.t t35) (.v (.int .u8 45)), none, none⟩])
 (xSeq (xOps [⟨(some t36), oMov (.t t7), none, none⟩,
   ⟨(some t37), oBin (int2 addO) (.v (.int .i64 1)) (.t t36), none, none⟩,
   ⟨(some t38), oSliceA 24 1 (.t t5) none (some (.t t37)), none, none⟩,
   ⟨(some t39), oBytesStr (.t t38), none, none⟩,
   ⟨(some t4), oMov (.t t39), none, none⟩])
 xRet))
 xSkip))
 (xSeq (xOps [⟨(some t40), oMov (.t t7), none, none⟩,
   ⟨(some t41), oBin (int2 addO) (.v (.int .i64 1)) (.t t40), none, none⟩,
   ⟨(some t42), oSliceA 24 1 (.t t5) (some (.v (.int .i64 1))) (some (.t t41)), none, none⟩,
   ⟨(some t43), oBytesStr (.t t42), none, none⟩,
   ⟨(some t4), oMov (.t t43), none, none⟩])
 xRet))))))))
 xSkip))
 (xSeq (xOps [⟨(some t45), oMov (.t t0), none, none⟩,
   ⟨(some t46), oConv .u64 (.t t45), none, none⟩,
   ⟨(some t47), oMov (.t t1), none, none⟩,
   ⟨(some t48), oMov (.t t0), none, none⟩,
   ⟨(some t49), oBin (int2 (cmpO ltI)) (.t t48) (.v (.int .i64 0)), none, none⟩,
   ⟨(some t50), oCall 37 [(.v (.slice none 0 0)), (.t t46), (.t t47), (.t t49), (.v (.bool false))], none, none⟩,
   ⟨(some t44), oMov (.t t50), none, none⟩,
   ⟨(some t51), oExtract (.t t44) 0, none, none⟩,
   ⟨(some t52), oExtract (.t t44) 1, none, none⟩,
   ⟨(some t8), oMov (.t t51), none, none⟩,
   ⟨(some t9), oMov (.t t52), none, none⟩])
 (xSeq (xOps [⟨(some t53), oMov (.t t9), none, none⟩,
   ⟨(some t4), oMov (.t t53), none, none⟩])
 xRet))))⟩
theorem ok33 : cFunc Tryd.prog gl ex Tryd.f33 = some c33 := by kernel_rfl
-- internal/strconv.small
def c34 : AFunc := ⟨15, [.tmp t2],
 (xSeq (xOps [⟨(some t2), oMov (.v (.string ⟨⟨[]⟩⟩)), none, none⟩])
 (xSeq (xSeq (xOps [⟨(some t3), oMov (.t t0), none, none⟩,
   ⟨(some t4), oBin (int2 (cmpO ltI)) (.t t3) (.v (.int .i64 10)), none, none⟩])
 (xCond (.t t4)
 (xSeq (xOps [⟨(some t5), oMov (.t t0), none, none⟩,
   ⟨(some t6), oMov (.t t0), none, none⟩,
   ⟨(some t7), oBin (int2 addO) (.t t6) (.v (.int .i64 1)), none, none⟩,
   ⟨(some t8), oSliceS (.v (.string ⟨⟨[48, 49, 50, 51, 52, 53, 54, 55, 56, 57, 97, 98, 99, 100, 101, 102, 103, 104, 105, 106, 107, 108, 109, 110, 111, 112, 113, 114, 115, 116, 117, 118, 119, 120, 121, 122]⟩⟩)) (some (.t t5)) (some (.t t7)), none, none⟩,
   ⟨(some t2), oMov (.t t8), none, none⟩])
 xRet)
 xSkip))
 (xSeq (xOps [⟨(some t9), oMov (.t t0), none, none⟩,
   ⟨(some t10), oBin (int2 mulO) (.t t9) (.v (.int .i64 2)), none, none⟩,
   ⟨(some t11), oMov (.t t0), none, none⟩,
   ⟨(some t12), oBin (int2 mulO) (.t t11) (.v (.int .i64 2)), none, none⟩,
   ⟨(some t13), oBin (int2 addO) (.t t12) (.v (.int .i64 2)), none, none⟩,
   ⟨(some t14), oSliceS (.v (.string ⟨⟨[48, 48, 48, 49, 48, 50, 48, 51, 48, 52, 48, 53, 48, 54, 48, 55, 48, 56, 48, 57, 49, 48, 49, 49, 49, 50, 49, 51, 49, 52, 49, 53, 49, 54, 49, 55, 49, 56, 49, 57, 50, 48, 50, 49, 50, 50, 50, 51, 50, 52, 50, 53, 50, 54, 50, 55, 50, 56, 50, 57, 51, 48, 51, 49, 51, 50, 51, 51, 51, 52, 51, 53, 51, 54, 51, 55, 51, 56, 51, 57, 52, 48, 52, 49, 52, 50, 52, 51, 52, 52, 52, 53, 52, 54, 52, 55, 52, 56, 52, 57, 53, 48, 53, 49, 53, 50, 53, 51, 53, 52, 53, 53, 53, 54, 53, 55, 53, 56, 53, 57, 54, 48, 54, 49, 54, 50, 54, 51, 54, 52, 54, 53, 54, 54, 54, 55, 54, 56, 54, 57, 55, 48, 55, 49, 55, 50, 55, 51, 55, 52, 55, 53, 55, 54, 55, 55, 55, 56, 55, 57, 56, 48, 56, 49, 56, 50, 56, 51, 56, 52, 56, 53, 56, 54, 56, 55, 56, 56, 56, 57, 57, 48, 57, 49, 57, 50, 57, 51, 57, 52, 57, 53, 57, 54, 57, 55, 57, 56, 57, 57]⟩⟩)) (some (.t t10)) (some (.t t13)), none, none⟩,
   ⟨(some t2), oMov (.t t14), none, none⟩])
 xRet)))⟩
theorem ok34 : cFunc Tryd.prog gl ex Tryd.f34 = some c34 := by kernel_rfl
-- internal/strconv.numDigits
def c35 : AFunc := ⟨15, [.tmp t2],
 (xSeq (xOps [⟨(some t2), oMov (.v (.int .i64 0)), none, none⟩])
 (xSeq (xOps [⟨(some t4), oMov (.t t0), none, none⟩,
   ⟨(some t5), oCall 39 [(.t t4)], none, none⟩,
   ⟨(some t6), oCall 38 [(.t t5)], none, none⟩,
   ⟨(some t3), oMov (.t t6), none, none⟩])
 (xSeq (xOps [⟨(some t7), oMov (.t t3), none, none⟩,
   ⟨(some t8), oMov (.t t0), none, none⟩,
   ⟨(some t9), oMov (.t t3), none, none⟩,
   ⟨(some t10), oIdxAddrA 20 1 (.v (.pointer (some ⟨0, 0, none⟩))) (.t t9), none, none⟩,
   ⟨(some t11), oLoad1 (.t t10), none, (some (.t t10))⟩,
   ⟨(some t12), oBin (int2 (cmpO geI)) (.t t8) (.t t11), none, none⟩,
   ⟨(some t13), oCall 40 [(.t t12)], none, none⟩,
   ⟨(some t14), oBin (int2 addO) (.t t7) (.t t13), none, none⟩,
   ⟨(some t2), oMov (.t t14), none, none⟩])
 xRet)))⟩
theorem ok35 : cFunc Tryd.prog gl ex Tryd.f35 = some c35 := by kernel_rfl
-- internal/strconv.formatBase10
def c36_l0 : X := (xSeq (xSeq (xOps [⟨(some t19), oMov (.t t4), none, none⟩,
   ⟨(some t20), oBin (int2 (cmpO geI)) (.t t19) (.v (.int .i64 8)), none, none⟩])
 (xCond (.t t20)
 xSkip
 (xExit 0)))
 (xBlock 1 (xSeq (xOps [⟨(some t21), oMov (.t t1), none, none⟩,
   ⟨(some t22), oBin (int2 remO) (.t t21) (.v (.int .u64 100000000)), none, none⟩,
   ⟨(some t23), oConv .u32 (.t t22), none, none⟩,
   ⟨(some t5), oMov (.t t23), none, none⟩])
 (xSeq (xOps [⟨(some t24), oMov (.t t1), none, none⟩,
   ⟨(some t25), oBin (int2 quoO) (.t t24) (.v (.int .u64 100000000)), none, none⟩,
   ⟨(some t1), oMov (.t t25), none, none⟩])
 (xSeq (xOps [⟨(some t26), oMov (.t t5), none, none⟩,
   ⟨(some t27), oBin (int2 quoO) (.t t26) (.v (.int .u32 10000)), none, none⟩,
   ⟨(some t28), oMov (.t t5), none, none⟩,
   ⟨(some t29), oBin (int2 remO) (.t t28) (.v (.int .u32 10000)), none, none⟩,
   ⟨(some t6), oMov (.t t27), none, none⟩,
   ⟨(some t7), oMov (.t t29), none, none⟩])
 (xSeq (xOps [⟨(some t30), oMov (.t t7), none, none⟩,
   ⟨(some t31), oBin (int2 quoO) (.t t30) (.v (.int .u32 100)), none, none⟩,
   ⟨(some t32), oBin (int2 mulO) (.t t31) (.v (.int .u32 2)), none, none⟩,
   ⟨(some t33), oMov (.t t7), none, none⟩,
   ⟨(some t34), oBin (int2 remO) (.t t33) (.v (.int .u32 100)), none, none⟩,
   ⟨(some t35), oBin (int2 mulO) (.t t34) (.v (.int .u32 2)), none, none⟩,
   ⟨(some t8), oMov (.t t32), none, none⟩,
   ⟨(some t9), oMov (.t t35), none, none⟩])
 (xSeq (xOps [⟨(some t36), oMov (.t t6), none, none⟩,
   ⟨(some t37), oBin (int2 quoO) (.t t36) (.v (.int .u32 100)), none, none⟩,
   ⟨(some t38), oBin (int2 mulO) (.t t37) (.v (.int .u32 2)), none, none⟩,
   ⟨(some t39), oMov (.t t6), none, none⟩,
   ⟨(some t40), oBin (int2 remO) (.t t39) (.v (.int .u32 100)), none, none⟩,
   ⟨(some t41), oBin (int2 mulO) (.t t40) (.v (.int .u32 2)), none, none⟩,
   ⟨(some t10), oMov (.t t38), none, none⟩,
   ⟨(some t11), oMov (.t t41), none, none⟩])
 (xSeq (xReg [⟨(some t42), oMov (.t t0), none, none⟩,
   ⟨(some t43), oMov (.t t4), none, none⟩,
   ⟨(some t44), oBin (int2 subO) (.t t43) (.v (.int .i64 1)), none, none⟩,
   ⟨(some t45), oMov (.t t0), none, none⟩,
   ⟨(some t46), oMov (.t t4), none, none⟩,
   ⟨(some t47), oBin (int2 subO) (.t t46) (.v (.int .i64 2)), none, none⟩,
   ⟨(some t48), oMov (.t t9), none, none⟩,
   ⟨(some t49), oBin (int2 addO) (.t t48) (.v (.int .u32 1)), none, none⟩,
   ⟨(some t50), oIdxS (.v (.string ⟨⟨[48, 48, 48, 49, 48, 50, 48, 51, 48, 52, 48, 53, 48, 54, 48, 55, 48, 56, 48, 57, 49, 48, 49, 49, 49, 50, 49, 51, 49, 52, 49, 53, 49, 54, 49, 55, 49, 56, 49, 57, 50, 48, 50, 49, 50, 50, 50, 51, 50, 52, 50, 53, 50, 54, 50, 55, 50, 56, 50, 57, 51, 48, 51, 49, 51, 50, 51, 51, 51, 52, 51, 53, 51, 54, 51, 55, 51, 56, 51, 57, 52, 48, 52, 49, 52, 50, 52, 51, 52, 52, 52, 53, 52, 54, 52, 55, 52, 56, 52, 57, 53, 48, 53, 49, 53, 50, 53, 51, 53, 52, 53, 53, 53, 54, 53, 55, 53, 56, 53, 57, 54, 48, 54, 49, 54, 50, 54, 51, 54, 52, 54, 53, 54, 54, 54, 55, 54, 56, 54, 57, 55, 48, 55, 49, 55, 50, 55, 51, 55, 52, 55, 53, 55, 54, 55, 55, 55, 56, 55, 57, 56, 48, 56, 49, 56, 50, 56, 51, 56, 52, 56, 53, 56, 54, 56, 55, 56, 56, 56, 57, 57, 48, 57, 49, 57, 50, 57, 51, 57, 52, 57, 53, 57, 54, 57, 55, 57, 56, 57, 57]⟩⟩)) (.t t49), none, none⟩,
   ⟨(some t51), oMov (.t t9), none, none⟩,
   ⟨(some t52), oIdxS (.v (.string ⟨⟨[48, 48, 48, 49, 48, 50, 48, 51, 48, 52, 48, 53, 48, 54, 48, 55, 48, 56, 48, 57, 49, 48, 49, 49, 49, 50, 49, 51, 49, 52, 49, 53, 49, 54, 49, 55, 49, 56, 49, 57, 50, 48, 50, 49, 50, 50, 50, 51, 50, 52, 50, 53, 50, 54, 50, 55, 50, 56, 50, 57, 51, 48, 51, 49, 51, 50, 51, 51, 51, 52, 51, 53, 51, 54, 51, 55, 51, 56, 51, 57, 52, 48, 52, 49, 52, 50, 52, 51, 52, 52, 52, 53, 52, 54, 52, 55, 52, 56, 52, 57, 53, 48, 53, 49, 53, 50, 53, 51, 53, 52, 53, 53, 53, 54, 53, 55, 53, 56, 53, 57, 54, 48, 54, 49, 54, 50, 54, 51, 54, 52, 54, 53, 54, 54, 54, 55, 54, 56, 54, 57, 55, 48, 55, 49, 55, 50, 55, 51, 55, 52, 55, 53, 55, 54, 55, 55, 55, 56, 55, 57, 56, 48, 56, 49, 56, 50, 56, 51, 56, 52, 56, 53, 56, 54, 56, 55, 56, 56, 56, 57, 57, 48, 57, 49, 57, 50, 57, 51, 57, 52, 57, 53, 57, 54, 57, 55, 57, 56, 57, 57]⟩⟩)) (.t t51), none, none⟩,
   ⟨(some t53), oIdxAddrL 1 (.t t42) (.t t44), none, none⟩,
   ⟨none, oStore 1 (.t t53) (.t t50), none, none⟩,
   ⟨(some t54), oIdxAddrL 1 (.t t45) (.t t47), none, none⟩,
   ⟨none, oStore 1 (.t t54) (.t t52), none, none⟩] [(0, 1), (0, 2), (0, 3), (1, 3), (2, 3), (0, 4), (1, 4), (2, 4), (3, 4), (0, 5), (1, 5), (2, 5), (3, 5), (0, 6), (1, 6), (2, 6), (3, 6), (4, 6), (5, 6), (0, 7), (1, 7), (2, 7), (3, 7), (4, 7), (5, 7), (0, 8), (1, 8), (2, 8), (3, 8), (4, 8), (5, 8), (0, 9), (1, 9), (2, 9), (3, 9), (4, 9), (5, 9), (6, 9), (7, 9), (8, 9), (0, 10), (1, 10), (2, 10), (3, 10), (4, 10), (5, 10), (6, 10), (7, 10), (8, 10), (3, 11), (4, 11), (5, 11), (9, 11), (10, 11), (3, 12), (4, 12), (5, 12), (9, 12), (10, 12)])
 (xSeq (xReg [⟨(some t55), oMov (.t t0), none, none⟩,
   ⟨(some t56), oMov (.t t4), none, none⟩,
   ⟨(some t57), oBin (int2 subO) (.t t56) (.v (.int .i64 3)), none, none⟩,
   ⟨(some t58), oMov (.t t0), none, none⟩,
   ⟨(some t59), oMov (.t t4), none, none⟩,
   ⟨(some t60), oBin (int2 subO) (.t t59) (.v (.int .i64 4)), none, none⟩,
   ⟨(some t61), oMov (.t t8), none, none⟩,
   ⟨(some t62), oBin (int2 addO) (.t t61) (.v (.int .u32 1)), none, none⟩,
   ⟨(some t63), oIdxS (.v (.string ⟨⟨[48, 48, 48, 49, 48, 50, 48, 51, 48, 52, 48, 53, 48, 54, 48, 55, 48, 56, 48, 57, 49, 48, 49, 49, 49, 50, 49, 51, 49, 52, 49, 53, 49, 54, 49, 55, 49, 56, 49, 57, 50, 48, 50, 49, 50, 50, 50, 51, 50, 52, 50, 53, 50, 54, 50, 55, 50, 56, 50, 57, 51, 48, 51, 49, 51, 50, 51, 51, 51, 52, 51, 53, 51, 54, 51, 55, 51, 56, 51, 57, 52, 48, 52, 49, 52, 50, 52, 51, 52, 52, 52, 53, 52, 54, 52, 55, 52, 56, 52, 57, 53, 48, 53, 49, 53, 50, 53, 51, 53, 52, 53, 53, 53, 54, 53, 55, 53, 56, 53, 57, 54, 48, 54, 49, 54, 50, 54, 51, 54, 52, 54, 53, 54, 54, 54, 55, 54, 56, 54, 57, 55, 48, 55, 49, 55, 50, 55, 51, 55, 52, 55, 53, 55, 54, 55, 55, 55, 56, 55, 57, 56, 48, 56, 49, 56, 50, 56, 51, 56, 52, 56, 53, 56, 54, 56, 55, 56, 56, 56, 57, 57, 48, 57, 49, 57, 50, 57, 51, 57, 52, 57, 53, 57, 54, 57, 55, 57, 56, 57, 57]⟩⟩)) (.t t62), none, none⟩,
   ⟨(some t64), oMov (.t t8), none, none⟩,
   ⟨(some t65), oIdxS (.v (.string ⟨⟨[48, 48, 48, 49, 48, 50, 48, 51, 48, 52, 48, 53, 48, 54, 48, 55, 48, 56, 48, 57, 49, 48, 49, 49, 49, 50, 49, 51, 49, 52, 49, 53, 49, 54, 49, 55, 49, 56, 49, 57, 50, 48, 50, 49, 50, 50, 50, 51, 50, 52, 50, 53, 50, 54, 50, 55, 50, 56, 50, 57, 51, 48, 51, 49, 51, 50, 51, 51, 51, 52, 51, 53, 51, 54, 51, 55, 51, 56, 51, 57, 52, 48, 52, 49, 52, 50, 52, 51, 52, 52, 52, 53, 52, 54, 52, 55, 52, 56, 52, 57, 53, 48, 53, 49, 53, 50, 53, 51, 53, 52, 53, 53, 53, 54, 53, 55, 53, 56, 53, 57, 54, 48, 54, 49, 54, 50, 54, 51, 54, 52, 54, 53, 54, 54, 54, 55, 54, 56, 54, 57, 55, 48, 55, 49, 55, 50, 55, 51, 55, 52, 55, 53, 55, 54, 55, 55, 55, 56, 55, 57, 56, 48, 56, 49, 56, 50, 56, 51, 56, 52, 56, 53, 56, 54, 56, 55, 56, 56, 56, 57, 57, 48, 57, 49, 57, 50, 57, 51, 57, 52, 57, 53, 57, 54, 57, 55, 57, 56, 57, 57]⟩⟩)) (.t t64), none, none⟩,
   ⟨(some t66), oIdxAddrL 1 (.t t55) (.t t57), none, none⟩,
   ⟨none, oStore 1 (.t t66) (.t t63), none, none⟩,
   ⟨(some t67), oIdxAddrL 1 (.t t58) (.t t60), none, none⟩,
   ⟨none, oStore 1 (.t t67) (.t t65), none, none⟩] [(0, 1), (0, 2), (0, 3), (1, 3), (2, 3), (0, 4), (1, 4), (2, 4), (3, 4), (0, 5), (1, 5), (2, 5), (3, 5), (0, 6), (1, 6), (2, 6), (3, 6), (4, 6), (5, 6), (0, 7), (1, 7), (2, 7), (3, 7), (4, 7), (5, 7), (0, 8), (1, 8), (2, 8), (3, 8), (4, 8), (5, 8), (0, 9), (1, 9), (2, 9), (3, 9), (4, 9), (5, 9), (6, 9), (7, 9), (8, 9), (0, 10), (1, 10), (2, 10), (3, 10), (4, 10), (5, 10), (6, 10), (7, 10), (8, 10), (3, 11), (4, 11), (5, 11), (9, 11), (10, 11), (3, 12), (4, 12), (5, 12), (9, 12), (10, 12)])
 (xSeq (xReg [⟨(some t68), oMov (.t t0), none, none⟩,
   ⟨(some t69), oMov (.t t4), none, none⟩,
   ⟨(some t70), oBin (int2 subO) (.t t69) (.v (.int .i64 5)), none, none⟩,
   ⟨(some t71), oMov (.t t0), none, none⟩,
   ⟨(some t72), oMov (.t t4), none, none⟩,
   ⟨(some t73), oBin (int2 subO) (.t t72) (.v (.int .i64 6)), none, none⟩,
   ⟨(some t74), oMov (.t t11), none, none⟩,
   ⟨(some t75), oBin (int2 addO) (.t t74) (.v (.int .u32 1)), none, none⟩,
   ⟨(some t76), oIdxS (.v (.string ⟨⟨[48, 48, 48, 49, 48, 50, 48, 51, 48, 52, 48, 53, 48, 54, 48, 55, 48, 56, 48, 57, 49, 48, 49, 49, 49, 50, 49, 51, 49, 52, 49, 53, 49, 54, 49, 55, 49, 56, 49, 57, 50, 48, 50, 49, 50, 50, 50, 51, 50, 52, 50, 53, 50, 54, 50, 55, 50, 56, 50, 57, 51, 48, 51, 49, 51, 50, 51, 51, 51, 52, 51, 53, 51, 54, 51, 55, 51, 56, 51, 57, 52, 48, 52, 49, 52, 50, 52, 51, 52, 52, 52, 53, 52, 54, 52, 55, 52, 56, 52, 57, 53, 48, 53, 49, 53, 50, 53, 51, 53, 52, 53, 53, 53, 54, 53, 55, 53, 56, 53, 57, 54, 48, 54, 49, 54, 50, 54, 51, 54, 52, 54, 53, 54, 54, 54, 55, 54, 56, 54, 57, 55, 48, 55, 49, 55, 50, 55, 51, 55, 52, 55, 53, 55, 54, 55, 55, 55, 56, 55, 57, 56, 48, 56, 49, 56, 50, 56, 51, 56, 52, 56, 53, 56, 54, 56, 55, 56, 56, 56, 57, 57, 48, 57, 49, 57, 50, 57, 51, 57, 52, 57, 53, 57, 54, 57, 55, 57, 56, 57, 57]⟩⟩)) (.t t75), none, none⟩,
   ⟨(some t77), oMov (.t t11), none, none⟩,
   ⟨(some t78), oIdxS (.v (.string ⟨⟨[48, 48, 48, 49, 48, 50, 48, 51, 48, 52, 48, 53, 48, 54, 48, 55, 48, 56, 48, 57, 49, 48, 49, 49, 49, 50, 49, 51, 49, 52, 49, 53, 49, 54, 49, 55, 49, 56, 49, 57, 50, 48, 50, 49, 50, 50, 50, 51, 50, 52, 50, 53, 50, 54, 50, 55, 50, 56, 50, 57, 51, 48, 51, 49, 51, 50, 51, 51, 51, 52, 51, 53, 51, 54, 51, 55, 51, 56, 51, 57, 52, 48, 52, 49, 52, 50, 52, 51, 52, 52, 52, 53, 52, 54, 52, 55, 52, 56, 52, 57, 53, 48, 53, 49, 53, 50, 53, 51, 53, 52, 53, 53, 53, 54, 53, 55, 53, 56, 53, 57, 54, 48, 54, 49, 54, 50, 54, 51, 54, 52, 54, 53, 54, 54, 54, 55, 54, 56, 54, 57, 55, 48, 55, 49, 55, 50, 55, 51, 55, 52, 55, 53, 55, 54, 55, 55, 55, 56, 55, 57, 56, 48, 56, 49, 56, 50, 56, 51, 56, 52, 56, 53, 56, 54, 56, 55, 56, 56, 56, 57, 57, 48, 57, 49, 57, 50, 57, 51, 57, 52, 57, 53, 57, 54, 57, 55, 57, 56, 57, 57]⟩⟩)) (.t t77), none, none⟩,
   ⟨(some t79), oIdxAddrL 1 (.t t68) (.t t70), none, none⟩,
   ⟨none, oStore 1 (.t t79) (.t t76), none, none⟩,
   ⟨(some t80), oIdxAddrL 1 (.t t71) (.t t73), none, none⟩,
   ⟨none, oStore 1 (.t t80) (.t t78), none, none⟩] [(0, 1), (0, 2), (0, 3), (1, 3), (2, 3), (0, 4), (1, 4), (2, 4), (3, 4), (0, 5), (1, 5), (2, 5), (3, 5), (0, 6), (1, 6), (2, 6), (3, 6), (4, 6), (5, 6), (0, 7), (1, 7), (2, 7), (3, 7), (4, 7), (5, 7), (0, 8), (1, 8), (2, 8), (3, 8), (4, 8), (5, 8), (0, 9), (1, 9), (2, 9), (3, 9), (4, 9), (5, 9), (6, 9), (7, 9), (8, 9), (0, 10), (1, 10), (2, 10), (3, 10), (4, 10), (5, 10), (6, 10), (7, 10), (8, 10), (3, 11), (4, 11), (5, 11), (9, 11), (10, 11), (3, 12), (4, 12), (5, 12), (9, 12), (10, 12)])
 (xSeq (xReg [⟨(some t81), oMov (.t t0), none, none⟩,
   ⟨(some t82), oMov (.t t4), none, none⟩,
   ⟨(some t83), oBin (int2 subO) (.t t82) (.v (.int .i64 7)), none, none⟩,
   ⟨(some t84), oMov (.t t0), none, none⟩,
   ⟨(some t85), oMov (.t t4), none, none⟩,
   ⟨(some t86), oBin (int2 subO) (.t t85) (.v (.int .i64 8)), none, none⟩,
   ⟨(some t87), oMov (.t t10), none, none⟩,
   ⟨(some t88), oBin (int2 addO) (.t t87) (.v (.int .u32 1)), none, none⟩,
   ⟨(some t89), oIdxS (.v (.string ⟨⟨[48, 48, 48, 49, 48, 50, 48, 51, 48, 52, 48, 53, 48, 54, 48, 55, 48, 56, 48, 57, 49, 48, 49, 49, 49, 50, 49, 51, 49, 52, 49, 53, 49, 54, 49, 55, 49, 56, 49, 57, 50, 48, 50, 49, 50, 50, 50, 51, 50, 52, 50, 53, 50, 54, 50, 55, 50, 56, 50, 57, 51, 48, 51, 49, 51, 50, 51, 51, 51, 52, 51, 53, 51, 54, 51, 55, 51, 56, 51, 57, 52, 48, 52, 49, 52, 50, 52, 51, 52, 52, 52, 53, 52, 54, 52, 55, 52, 56, 52, 57, 53, 48, 53, 49, 53, 50, 53, 51, 53, 52, 53, 53, 53, 54, 53, 55, 53, 56, 53, 57, 54, 48, 54, 49, 54, 50, 54, 51, 54, 52, 54, 53, 54, 54, 54, 55, 54, 56, 54, 57, 55, 48, 55, 49, 55, 50, 55, 51, 55, 52, 55, 53, 55, 54, 55, 55, 55, 56, 55, 57, 56, 48, 56, 49, 56, 50, 56, 51, 56, 52, 56, 53, 56, 54, 56, 55, 56, 56, 56, 57, 57, 48, 57, 49, 57, 50, 57, 51, 57, 52, 57, 53, 57, 54, 57, 55, 57, 56, 57, 57]⟩⟩)) (.t t88), none, none⟩,
   ⟨(some t90), oMov (.t t10), none, none⟩,
   ⟨(some t91), oIdxS (.v (.string ⟨⟨[48, 48, 48, 49, 48, 50, 48, 51, 48, 52, 48, 53, 48, 54, 48, 55, 48, 56, 48, 57, 49, 48, 49, 49, 49, 50, 49, 51, 49, 52, 49, 53, 49, 54, 49, 55, 49, 56, 49, 57, 50, 48, 50, 49, 50, 50, 50, 51, 50, 52, 50, 53, 50, 54, 50, 55, 50, 56, 50, 57, 51, 48, 51, 49, 51, 50, 51, 51, 51, 52, 51, 53, 51, 54, 51, 55, 51, 56, 51, 57, 52, 48, 52, 49, 52, 50, 52, 51, 52, 52, 52, 53, 52, 54, 52, 55, 52, 56, 52, 57, 53, 48, 53, 49, 53, 50, 53, 51, 53, 52, 53, 53, 53, 54, 53, 55, 53, 56, 53, 57, 54, 48, 54, 49, 54, 50, 54, 51, 54, 52, 54, 53, 54, 54, 54, 55, 54, 56, 54, 57, 55, 48, 55, 49, 55, 50, 55, 51, 55, 52, 55, 53, 55, 54, 55, 55, 55, 56, 55, 57, 56, 48, 56, 49, 56, 50, 56, 51, 56, 52, 56, 53, 56, 54, 56, 55, 56, 56, 56, 57, 57, 48, 57, 49, 57, 50, 57, 51, 57, 52, 57, 53, 57, 54, 57, 55, 57, 56, 57, 57]⟩⟩)) (.t t90), none, none⟩,
   ⟨(some t92), oIdxAddrL 1 (.t t81) (.t t83), none, none⟩,
   ⟨none, oStore 1 (.t t92) (.t t89), none, none⟩,
   ⟨(some t93), oIdxAddrL 1 (.t t84) (.t t86), none, none⟩,
   ⟨none, oStore 1 (.t t93) (.t t91), none, none⟩] [(0, 1), (0, 2), (0, 3), (1, 3), (2, 3), (0, 4), (1, 4), (2, 4), (3, 4), (0, 5), (1, 5), (2, 5), (3, 5), (0, 6), (1, 6), (2, 6), (3, 6), (4, 6), (5, 6), (0, 7), (1, 7), (2, 7), (3, 7), (4, 7), (5, 7), (0, 8), (1, 8), (2, 8), (3, 8), (4, 8), (5, 8), (0, 9), (1, 9), (2, 9), (3, 9), (4, 9), (5, 9), (6, 9), (7, 9), (8, 9), (0, 10), (1, 10), (2, 10), (3, 10), (4, 10), (5, 10), (6, 10), (7, 10), (8, 10), (3, 11), (4, 11), (5, 11), (9, 11), (10, 11), (3, 12), (4, 12), (5, 12), (9, 12), (10, 12)])
 (xOps [⟨(some t94), oMov (.t t4), none, none⟩,
   ⟨(some t95), oBin (int2 subO) (.t t94) (.v (.int .i64 8)), none, none⟩,
   ⟨(some t4), oMov (.t t95), none, none⟩]))))))))))))
def c36_r0 : X := (xSeq (xOps [⟨(some t96), oMov (.t t1), none, none⟩,
   ⟨(some t97), oConv .u32 (.t t96), none, none⟩,
   ⟨(some t12), oMov (.t t97), none, none⟩])
 (xSeq (xSeq (xOps [⟨(some t98), oMov (.t t4), none, none⟩,
   ⟨(some t99), oBin (int2 (cmpO geI)) (.t t98) (.v (.int .i64 4)), none, none⟩])
 (xCond (.t t99)
 (xSeq (xOps [⟨(some t100), oMov (.t t12), none, none⟩,
   ⟨(some t101), oBin (int2 remO) (.t t100) (.v (.int .u32 10000)), none, none⟩,
   ⟨(some t13), oMov (.t t101), none, none⟩])
 (xSeq (xOps [⟨(some t102), oMov (.t t12), none, none⟩,
   ⟨(some t103), oBin (int2 quoO) (.t t102) (.v (.int .u32 10000)), none, none⟩,
   ⟨(some t12), oMov (.t t103), none, none⟩])
 (xSeq (xOps [⟨(some t104), oMov (.t t13), none, none⟩,
   ⟨(some t105), oBin (int2 quoO) (.t t104) (.v (.int .u32 100)), none, none⟩,
   ⟨(some t106), oBin (int2 mulO) (.t t105) (.v (.int .u32 2)), none, none⟩,
   ⟨(some t107), oMov (.t t13), none, none⟩,
   ⟨(some t108), oBin (int2 remO) (.t t107) (.v (.int .u32 100)), none, none⟩,
   ⟨(some t109), oBin (int2 mulO) (.t t108) (.v (.int .u32 2)), none, none⟩,
   ⟨(some t14), oMov (.t t106), none, none⟩,
   ⟨(some t15), oMov (.t t109), none, none⟩])
 (xSeq (xReg [⟨(some t110), oMov (.t t0), none, none⟩,
   ⟨(some t111), oMov (.t t4), none, none⟩,
   ⟨(some t112), oBin (int2 subO) (.t t111) (.v (.int .i64 1)), none, none⟩,
   ⟨(some t113), oMov (.t t0), none, none⟩,
   ⟨(some t114), oMov (.t t4), none, none⟩,
   ⟨(some t115), oBin (int2 subO) (.t t114) (.v (.int .i64 2)), none, none⟩,
   ⟨(some t116), oMov (.t t15), none, none⟩,
   ⟨(some t117), oBin (int2 addO) (.t t116) (.v (.int .u32 1)), none, none⟩,
   ⟨(some t118), oIdxS (.v (.string ⟨⟨[48, 48, 48, 49, 48, 50, 48, 51, 48, 52, 48, 53, 48, 54, 48, 55, 48, 56, 48, 57, 49, 48, 49, 49, 49, 50, 49, 51, 49, 52, 49, 53, 49, 54, 49, 55, 49, 56, 49, 57, 50, 48, 50, 49, 50, 50, 50, 51, 50, 52, 50, 53, 50, 54, 50, 55, 50, 56, 50, 57, 51, 48, 51, 49, 51, 50, 51, 51, 51, 52, 51, 53, 51, 54, 51, 55, 51, 56, 51, 57, 52, 48, 52, 49, 52, 50, 52, 51, 52, 52, 52, 53, 52, 54, 52, 55, 52, 56, 52, 57, 53, 48, 53, 49, 53, 50, 53, 51, 53, 52, 53, 53, 53, 54, 53, 55, 53, 56, 53, 57, 54, 48, 54, 49, 54, 50, 54, 51, 54, 52, 54, 53, 54, 54, 54, 55, 54, 56, 54, 57, 55, 48, 55, 49, 55, 50, 55, 51, 55, 52, 55, 53, 55, 54, 55, 55, 55, 56, 55, 57, 56, 48, 56, 49, 56, 50, 56, 51, 56, 52, 56, 53, 56, 54, 56, 55, 56, 56, 56, 57, 57, 48, 57, 49, 57, 50, 57, 51, 57, 52, 57, 53, 57, 54, 57, 55, 57, 56, 57, 57]⟩⟩)) (.t t117), none, none⟩,
   ⟨(some t119), oMov (.t t15), none, none⟩,
   ⟨(some t120), oIdxS (.v (.string ⟨⟨[48, 48, 48, 49, 48, 50, 48, 51, 48, 52, 48, 53, 48, 54, 48, 55, 48, 56, 48, 57, 49, 48, 49, 49, 49, 50, 49, 51, 49, 52, 49, 53, 49, 54, 49, 55, 49, 56, 49, 57, 50, 48, 50, 49, 50, 50, 50, 51, 50, 52, 50, 53, 50, 54, 50, 55, 50, 56, 50, 57, 51, 48, 51, 49, 51, 50, 51, 51, 51, 52, 51, 53, 51, 54, 51, 55, 51, 56, 51, 57, 52, 48, 52, 49, 52, 50, 52, 51, 52, 52, 52, 53, 52, 54, 52, 55, 52, 56, 52, 57, 53, 48, 53, 49, 53, 50, 53, 51, 53, 52, 53, 53, 53, 54, 53, 55, 53, 56, 53, 57, 54, 48, 54, 49, 54, 50, 54, 51, 54, 52, 54, 53, 54, 54, 54, 55, 54, 56, 54, 57, 55, 48, 55, 49, 55, 50, 55, 51, 55, 52, 55, 53, 55, 54, 55, 55, 55, 56, 55, 57, 56, 48, 56, 49, 56, 50, 56, 51, 56, 52, 56, 53, 56, 54, 56, 55, 56, 56, 56, 57, 57, 48, 57, 49, 57, 50, 57, 51, 57, 52, 57, 53, 57, 54, 57, 55, 57, 56, 57, 57]⟩⟩)) (.t t119), none, none⟩,
   ⟨(some t121), oIdxAddrL 1 (.t t110) (.t t112), none, none⟩,
   ⟨none, oStore 1 (.t t121) (.t t118), none, none⟩,
   ⟨(some t122), oIdxAddrL 1 (.t t113) (.t t115), none, none⟩,
   ⟨none, oStore 1 (.t t122) (.t t120), none, none⟩] [(0, 1), (0, 2), (0, 3), (1, 3), (2, 3), (0, 4), (1, 4), (2, 4), (3, 4), (0, 5), (1, 5), (2, 5), (3, 5), (0, 6), (1, 6), (2, 6), (3, 6), (4, 6), (5, 6), (0, 7), (1, 7), (2, 7), (3, 7), (4, 7), (5, 7), (0, 8), (1, 8), (2, 8), (3, 8), (4, 8), (5, 8), (0, 9), (1, 9), (2, 9), (3, 9), (4, 9), (5, 9), (6, 9), (7, 9), (8, 9), (0, 10), (1, 10), (2, 10), (3, 10), (4, 10), (5, 10), (6, 10), (7, 10), (8, 10), (3, 11), (4, 11), (5, 11), (9, 11), (10, 11), (3, 12), (4, 12), (5, 12), (9, 12), (10, 12)])
 (xSeq (xReg [⟨(some t123), oMov (.t t0), none, none⟩,
   ⟨(some t124), oMov (.t t4), none, none⟩,
   ⟨(some t125), oBin (int2 subO) (.t t124) (.v (.int .i64 3)), none, none⟩,
   ⟨(some t126), oMov (.t t0), none, none⟩,
   ⟨(some t127), oMov (.t t4), none, none⟩,
   ⟨(some t128), oBin (int2 subO) (.t t127) (.v (.int .i64 4)), none, none⟩,
   ⟨(some t129), oMov (.t t14), none, none⟩,
   ⟨(some t130), oBin (int2 addO) (.t t129) (.v (.int .u32 1)), none, none⟩,
   ⟨(some t131), oIdxS (.v (.string ⟨⟨[48, 48, 48, 49, 48, 50, 48, 51, 48, 52, 48, 53, 48, 54, 48, 55, 48, 56, 48, 57, 49, 48, 49, 49, 49, 50, 49, 51, 49, 52, 49, 53, 49, 54, 49, 55, 49, 56, 49, 57, 50, 48, 50, 49, 50, 50, 50, 51, 50, 52, 50, 53, 50, 54, 50, 55, 50, 56, 50, 57, 51, 48, 51, 49, 51, 50, 51, 51, 51, 52, 51, 53, 51, 54, 51, 55, 51, 56, 51, 57, 52, 48, 52, 49, 52, 50, 52, 51, 52, 52, 52, 53, 52, 54, 52, 55, 52, 56, 52, 57, 53, 48, 53, 49, 53, 50, 53, 51, 53, 52, 53, 53, 53, 54, 53, 55, 53, 56, 53, 57, 54, 48, 54, 49, 54, 50, 54, 51, 54, 52, 54, 53, 54, 54, 54, 55, 54, 56, 54, 57, 55, 48, 55, 49, 55, 50, 55, 51, 55, 52, 55, 53, 55, 54, 55, 55, 55, 56, 55, 57, 56, 48, 56, 49, 56, 50, 56, 51, 56, 52, 56, 53, 56, 54, 56, 55, 56, 56, 56, 57, 57, 48, 57, 49, 57, 50, 57, 51, 57, 52, 57, 53, 57, 54, 57, 55, 57, 56, 57, 57]⟩⟩)) (.t t130), none, none⟩,
   ⟨(some t132), oMov (.t t14), none, none⟩,
   ⟨(some t133), oIdxS (.v (.string ⟨⟨[48, 48, 48, 49, 48, 50, 48, 51, 48, 52, 48, 53, 48, 54, 48, 55, 48, 56, 48, 57, 49, 48, 49, 49, 49, 50, 49, 51, 49, 52, 49, 53, 49, 54, 49, 55, 49, 56, 49, 57, 50, 48, 50, 49, 50, 50, 50, 51, 50, 52, 50, 53, 50, 54, 50, 55, 50, 56, 50, 57, 51, 48, 51, 49, 51, 50, 51, 51, 51, 52, 51, 53, 51, 54, 51, 55, 51, 56, 51, 57, 52, 48, 52, 49, 52, 50, 52, 51, 52, 52, 52, 53, 52, 54, 52, 55, 52, 56, 52, 57, 53, 48, 53, 49, 53, 50, 53, 51, 53, 52, 53, 53, 53, 54, 53, 55, 53, 56, 53, 57, 54, 48, 54, 49, 54, 50, 54, 51, 54, 52, 54, 53, 54, 54, 54, 55, 54, 56, 54, 57, 55, 48, 55, 49, 55, 50, 55, 51, 55, 52, 55, 53, 55, 54, 55, 55, 55, 56, 55, 57, 56, 48, 56, 49, 56, 50, 56, 51, 56, 52, 56, 53, 56, 54, 56, 55, 56, 56, 56, 57, 57, 48, 57, 49, 57, 50, 57, 51, 57, 52, 57, 53, 57, 54, 57, 55, 57, 56, 57, 57]⟩⟩)) (.t t132), none, none⟩,
   ⟨(some t134), oIdxAddrL 1 (.t t123) (.t t125), none, none⟩,
   ⟨none, oStore 1 (.t t134) (.t t131), none, none⟩,
   ⟨(some t135), oIdxAddrL 1 (.t t126) (.t t128), none, none⟩,
   ⟨none, oStore 1 (.t t135) (.t t133), none, none⟩] [(0, 1), (0, 2), (0, 3), (1, 3), (2, 3), (0, 4), (1, 4), (2, 4), (3, 4), (0, 5), (1, 5), (2, 5), (3, 5), (0, 6), (1, 6), (2, 6), (3, 6), (4, 6), (5, 6), (0, 7), (1, 7), (2, 7), (3, 7), (4, 7), (5, 7), (0, 8), (1, 8), (2, 8), (3, 8), (4, 8), (5, 8), (0, 9), (1, 9), (2, 9), (3, 9), (4, 9), (5, 9), (6, 9), (7, 9), (8, 9), (0, 10), (1, 10), (2, 10), (3, 10), (4, 10), (5, 10), (6, 10), (7, 10), (8, 10), (3, 11), (4, 11), (5, 11), (9, 11), (10, 11), (3, 12), (4, 12), (5, 12), (9, 12), (10, 12)])
 (xOps [⟨(some t136), oMov (.t t4), none, none⟩,
   ⟨(some t137), oBin (int2 subO) (.t t136) (.v (.int .i64 4)), none, none⟩,
   ⟨(some t4), oMov (.t t137), none, none⟩]))))))
 xSkip))
 (xSeq (xSeq (xOps [⟨(some t138), oMov (.t t4), none, none⟩,
   ⟨(some t139), oBin (int2 (cmpO geI)) (.t t138) (.v (.int .i64 2)), none, none⟩])
 (xCond (.t t139)
 (xSeq (xOps [⟨(some t140), oMov (.t t12), none, none⟩,
   ⟨(some t141), oBin (int2 remO) (.t t140) (.v (.int .u32 100)), none, none⟩,
   ⟨(some t142), oBin (int2 mulO) (.t t141) (.v (.int .u32 2)), none, none⟩,
   ⟨(some t16), oMov (.t t142), none, none⟩])
 (xSeq (xOps [⟨(some t143), oMov (.t t12), none, none⟩,
   ⟨(some t144), oBin (int2 quoO) (.t t143) (.v (.int .u32 100)), none, none⟩,
   ⟨(some t12), oMov (.t t144), none, none⟩])
 (xSeq (xReg [⟨(some t145), oMov (.t t0), none, none⟩,
   ⟨(some t146), oMov (.t t4), none, none⟩,
   ⟨(some t147), oBin (int2 subO) (.t t146) (.v (.int .i64 1)), none, none⟩,
   ⟨(some t148), oMov (.t t0), none, none⟩,
   ⟨(some t149), oMov (.t t4), none, none⟩,
   ⟨(some t150), oBin (int2 subO) (.t t149) (.v (.int .i64 2)), none, none⟩,
   ⟨(some t151), oMov (.t t16), none, none⟩,
   ⟨(some t152), oBin (int2 addO) (.t t151) (.v (.int .u32 1)), none, none⟩,
   ⟨(some t153), oIdxS (.v (.string ⟨⟨[48, 48, 48, 49, 48, 50, 48, 51, 48, 52, 48, 53, 48, 54, 48, 55, 48, 56, 48, 57, 49, 48, 49, 49, 49, 50, 49, 51, 49, 52, 49, 53, 49, 54, 49, 55, 49, 56, 49, 57, 50, 48, 50, 49, 50, 50, 50, 51, 50, 52, 50, 53, 50, 54, 50, 55, 50, 56, 50, 57, 51, 48, 51, 49, 51, 50, 51, 51, 51, 52, 51, 53, 51, 54, 51, 55, 51, 56, 51, 57, 52, 48, 52, 49, 52, 50, 52, 51, 52, 52, 52, 53, 52, 54, 52, 55, 52, 56, 52, 57, 53, 48, 53, 49, 53, 50, 53, 51, 53, 52, 53, 53, 53, 54, 53, 55, 53, 56, 53, 57, 54, 48, 54, 49, 54, 50, 54, 51, 54, 52, 54, 53, 54, 54, 54, 55, 54, 56, 54, 57, 55, 48, 55, 49, 55, 50, 55, 51, 55, 52, 55, 53, 55, 54, 55, 55, 55, 56, 55, 57, 56, 48, 56, 49, 56, 50, 56, 51, 56, 52, 56, 53, 56, 54, 56, 55, 56, 56, 56, 57, 57, 48, 57, 49, 57, 50, 57, 51, 57, 52, 57, 53, 57, 54, 57, 55, 57, 56, 57, 57]⟩⟩)) (.t t152), none, none⟩,
   ⟨(some t154), oMov (.t t16), none, none⟩,
   ⟨(some t155), oIdxS (.v (.string ⟨⟨[48, 48, 48, 49, 48, 50, 48, 51, 48, 52, 48, 53, 48, 54, 48, 55, 48, 56, 48, 57, 49, 48, 49, 49, 49, 50, 49, 51, 49, 52, 49, 53, 49, 54, 49, 55, 49, 56, 49, 57, 50, 48, 50, 49, 50, 50, 50, 51, 50, 52, 50, 53, 50, 54, 50, 55, 50, 56, 50, 57, 51, 48, 51, 49, 51, 50, 51, 51, 51, 52, 51, 53, 51, 54, 51, 55, 51, 56, 51, 57, 52, 48, 52, 49, 52, 50, 52, 51, 52, 52, 52, 53, 52, 54, 52, 55, 52, 56, 52, 57, 53, 48, 53, 49, 53, 50, 53, 51, 53, 52, 53, 53, 53, 54, 53, 55, 53, 56, 53, 57, 54, 48, 54, 49, 54, 50, 54, 51, 54, 52, 54, 53, 54, 54, 54, 55, 54, 56, 54, 57, 55, 48, 55, 49, 55, 50, 55, 51, 55, 52, 55, 53, 55, 54, 55, 55, 55, 56, 55, 57, 56, 48, 56, 49, 56, 50, 56, 51, 56, 52, 56, 53, 56, 54, 56, 55, 56, 56, 56, 57, 57, 48, 57, 49, 57, 50, 57, 51, 57, 52, 57, 53, 57, 54, 57, 55, 57, 56, 57, 57]⟩⟩)) (.t t154), none, none⟩,
   ⟨(some t156), oIdxAddrL 1 (.t t145) (.t t147), none, none⟩,
   ⟨none, oStore 1 (.t t156) (.t t153), none, none⟩,
   ⟨(some t157), oIdxAddrL 1 (.t t148) (.t t150), none, none⟩,
   ⟨none, oStore 1 (.t t157) (.t t155), none, none⟩] [(0, 1), (0, 2), (0, 3), (1, 3), (2, 3), (0, 4), (1, 4), (2, 4), (3, 4), (0, 5), (1, 5), (2, 5), (3, 5), (0, 6), (1, 6), (2, 6), (3, 6), (4, 6), (5, 6), (0, 7), (1, 7), (2, 7), (3, 7), (4, 7), (5, 7), (0, 8), (1, 8), (2, 8), (3, 8), (4, 8), (5, 8), (0, 9), (1, 9), (2, 9), (3, 9), (4, 9), (5, 9), (6, 9), (7, 9), (8, 9), (0, 10), (1, 10), (2, 10), (3, 10), (4, 10), (5, 10), (6, 10), (7, 10), (8, 10), (3, 11), (4, 11), (5, 11), (9, 11), (10, 11), (3, 12), (4, 12), (5, 12), (9, 12), (10, 12)])
 (xOps [⟨(some t158), oMov (.t t4), none, none⟩,
   ⟨(some t159), oBin (int2 subO) (.t t158) (.v (.int .i64 2)), none, none⟩,
   ⟨(some t4), oMov (.t t159), none, none⟩]))))
 xSkip))
 (xSeq (xOps [⟨(some t160), oMov (.t t4), none, none⟩,
   ⟨(some t161), oBin (int2 (cmpO gtI)) (.t t160) (.v (.int .i64 0)), none, none⟩])
 (xCond (.t t161)
 (xOps [⟨(some t162), oMov (.t t0), none, none⟩,
   ⟨(some t163), oMov (.t t12), none, none⟩,
   ⟨(some t164), oBin (int2 addO) (.v (.int .u32 48)) (.t t163), none, none⟩,
   ⟨(some t165), oConv .u8 (.t t164), none, none⟩,
   ⟨(some t166), oIdxAddrL 1 (.t t162) (.v (.int .i64 0)), none, none⟩,
   ⟨none, oStore 1 (.t t166) (.t t165), none, none⟩])
 xSkip)))))
def c36 : AFunc := ⟨167, [],
 (xSeq (xOps [⟨(some t17), oMov (.t t0), none, none⟩,
   ⟨(some t18), oLenL (.t t17), none, none⟩,
   ⟨(some t4), oMov (.t t18), none, none⟩])
 (xSeq (xBlock 0 (xLoop c36_l0))
 c36_r0))⟩
theorem ok36 : cFunc Tryd.prog gl ex Tryd.f36 = some c36 := by kernel_rfl
end
end Go.Proofs.YtdfmhjbmenfaeaaDoor.AbsCalF
