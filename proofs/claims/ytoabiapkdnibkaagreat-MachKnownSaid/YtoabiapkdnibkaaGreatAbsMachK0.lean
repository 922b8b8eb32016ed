import Derived.Test.YtoabiapkdnibkaaGreatRows
import Derived.Test.YtoabiapkdnibkaaGreatAbsMachKT
import Derived.KernelRfl
namespace Go.Proofs.YtoabiapkdnibkaaGreat.AbsMachK
open Go Go.Abs Go.Proofs
set_option maxRecDepth 100000
set_option linter.unusedVariables false
noncomputable section
/-- publican/publicanlaw18.MachKnown -/
def c3 : AFunc := ⟨81, [.tmp t0],
 (xSeq (xOps [⟨(some t0), oMov (.v (.bool false)), none, none⟩])
 (xSeq (xSeq (xOps [⟨(some t10), oCall 6 [], none, none⟩,
   ⟨(some t11), oNot (.t t10), none, none⟩])
 (xCond (.t t11)
 (xSeq (xOps [⟨(some t0), oMov (.v (.bool false)), none, none⟩])
 xRet)
 xSkip))
 (xSeq (xOps [⟨(some t13), oBuild (rep 7 [(.slice none 0 0)]) [], none, none⟩,
   ⟨(some t14), oCall 7 [(.t t13), (.v (.slice none 0 0))], none, none⟩,
   ⟨(some t12), oMov (.t t14), none, none⟩,
   ⟨(some t15), oExtract (.t t12) 0, none, none⟩,
   ⟨(some t16), oExtract (.t t12) 1, none, none⟩,
   ⟨(some t1), oNew [(.slice none 0 0), (.int .i64 0), (.string ⟨⟨[]⟩⟩), (.int .i64 0)], none, none⟩,
   ⟨none, oStore 4 (.t t1) (.t t15), none, none⟩,
   ⟨(some t2), oMov (.t t16), none, none⟩])
 (xSeq (xOps [⟨(some t18), oCall 8 [(.v (.slice none 0 0)), (.v (.slice none 0 0))], none, none⟩,
   ⟨(some t17), oMov (.t t18), none, none⟩,
   ⟨(some t19), oExtract (.t t17) 0, none, none⟩,
   ⟨(some t20), oExtract (.t t17) 1, none, none⟩,
   ⟨(some t3), oNew [(.slice none 0 0), (.int .i64 0), (.string ⟨⟨[]⟩⟩), (.int .i64 0)], none, none⟩,
   ⟨none, oStore 4 (.t t3) (.t t19), none, none⟩,
   ⟨(some t4), oMov (.t t20), none, none⟩])
 (xSeq (xOps [⟨(some t22), oCall 9 [], none, none⟩,
   ⟨(some t23), oBuild [(.int .i64 0), (.int .i64 0), (.slice none 0 0)] [(0, 1, (.v (.int .i64 2)))], none, none⟩,
   ⟨(some t24), oBuildSlice 1 [(.int .i64 0), (.int .i64 0), (.slice none 0 0)] [(0, 3, (.t t23))], none, none⟩,
   ⟨(some t25), oCall 7 [(.t t22), (.t t24)], none, none⟩,
   ⟨(some t21), oMov (.t t25), none, none⟩,
   ⟨(some t26), oExtract (.t t21) 0, none, none⟩,
   ⟨(some t27), oExtract (.t t21) 1, none, none⟩,
   ⟨(some t5), oNew [(.slice none 0 0), (.int .i64 0), (.string ⟨⟨[]⟩⟩), (.int .i64 0)], none, none⟩,
   ⟨none, oStore 4 (.t t5) (.t t26), none, none⟩,
   ⟨(some t6), oMov (.t t27), none, none⟩])
 (xSeq (xOps [⟨(some t28), oCall 9 [], none, none⟩,
   ⟨(some t7), oNew (rep 7 [(.slice none 0 0)]), none, none⟩,
   ⟨none, oStore 7 (.t t7) (.t t28), none, none⟩])
 (xSeq (xOps [⟨(some t29), oFieldAddr 0 (.t t7), none, none⟩,
   ⟨(some t30), oLoad1 (.t t29), none, (some (.t t29))⟩,
   ⟨(some t31), oIdxAddrL 3 (.t t30) (.v (.int .i64 0)), none, none⟩,
   ⟨(some t32), oFieldAddr 1 (.t t31), none, none⟩,
   ⟨none, oStore 1 (.t t32) (.v (.int .i64 0)), none, none⟩])
 (xSeq (xOps [⟨(some t33), oBuild [(.int .i64 0), (.int .i64 0), (.int .i64 0), (.int .i64 0)] [(0, 1, (.v (.int .i64 21)))], none, none⟩,
   ⟨(some t34), oBuild [(.int .i64 0), (.int .i64 0), (.int .i64 0), (.int .i64 0)] [(0, 1, (.v (.int .i64 0)))], none, none⟩,
   ⟨(some t35), oBuild [(.int .i64 0), (.int .i64 0), (.int .i64 0), (.int .i64 0)] [(0, 1, (.v (.int .i64 0)))], none, none⟩,
   ⟨(some t36), oBuild [(.int .i64 0), (.int .i64 0), (.int .i64 0), (.int .i64 0)] [(0, 1, (.v (.int .i64 7))), (1, 1, (.v (.int .i64 2)))], none, none⟩,
   ⟨(some t37), oBuild [(.int .i64 0), (.int .i64 0), (.int .i64 0), (.int .i64 0)] [(0, 1, (.v (.int .i64 22)))], none, none⟩,
   ⟨(some t38), oBuild [(.int .i64 0), (.int .i64 0), (.int .i64 0), (.int .i64 0)] [(0, 1, (.v (.int .i64 23)))], none, none⟩,
   ⟨(some t39), oBuildSlice 6 (rep 24 [(.int .i64 0)]) [(0, 4, (.t t33)), (4, 4, (.t t34)), (8, 4, (.t t35)), (12, 4, (.t t36)), (16, 4, (.t t37)), (20, 4, (.t t38))], none, none⟩,
   ⟨(some t40), oFieldAddr 6 (.t t7), none, none⟩,
   ⟨none, oStore 1 (.t t40) (.t t39), none, none⟩])
 (xSeq (xOps [⟨(some t42), oLoadN 7 (.t t7), none, none⟩,
   ⟨(some t43), oCall 7 [(.t t42), (.v (.slice none 0 0))], none, none⟩,
   ⟨(some t41), oMov (.t t43), none, none⟩,
   ⟨(some t44), oExtract (.t t41) 0, none, none⟩,
   ⟨(some t45), oExtract (.t t41) 1, none, none⟩,
   ⟨(some t8), oNew [(.slice none 0 0), (.int .i64 0), (.string ⟨⟨[]⟩⟩), (.int .i64 0)], none, none⟩,
   ⟨none, oStore 4 (.t t8) (.t t44), none, none⟩,
   ⟨(some t9), oMov (.t t45), none, none⟩])
 (xSeq (xOps [⟨(some t46), oMov (.t t2), none, none⟩,
   ⟨(some t47), oBin (int2 (cmpO eqI)) (.t t46) (.v (.int .i64 9)), none, none⟩,
   ⟨(some t48), oMov (.t t47), none, none⟩,
   ⟨(some t49), oMov (.t t4), (some (t48, true)), none⟩,
   ⟨(some t50), oBin (int2 (cmpO eqI)) (.t t49) (.v (.int .i64 3)), (some (t48, true)), none⟩,
   ⟨(some t51), oPick (.t t48) (.t t50) (.v (.bool false)), none, none⟩,
   ⟨(some t52), oMov (.t t51), none, none⟩,
   ⟨(some t53), oMov (.t t6), (some (t52, true)), none⟩,
   ⟨(some t54), oBin (int2 (cmpO eqI)) (.t t53) (.v (.int .i64 1)), (some (t52, true)), none⟩,
   ⟨(some t55), oPick (.t t52) (.t t54) (.v (.bool false)), none, none⟩,
   ⟨(some t56), oMov (.t t55), none, none⟩,
   ⟨(some t57), oMov (.t t9), (some (t56, true)), none⟩,
   ⟨(some t58), oBin (int2 (cmpO eqI)) (.t t57) (.v (.int .i64 0)), (some (t56, true)), none⟩,
   ⟨(some t59), oPick (.t t56) (.t t58) (.v (.bool false)), none, none⟩,
   ⟨(some t60), oMov (.t t59), none, none⟩,
   ⟨(some t61), oFieldAddr 1 (.t t8), (some (t60, true)), none⟩,
   ⟨(some t62), oLoad1 (.t t61), (some (t60, true)), (some (.t t61))⟩,
   ⟨(some t63), oBin (int2 (cmpO eqI)) (.t t62) (.v (.int .i64 11)), (some (t60, true)), none⟩,
   ⟨(some t64), oPick (.t t60) (.t t63) (.v (.bool false)), none, none⟩,
   ⟨(some t65), oMov (.t t64), none, none⟩,
   ⟨(some t66), oFieldAddr 2 (.t t8), (some (t65, true)), none⟩,
   ⟨(some t67), oLoad1 (.t t66), (some (t65, true)), (some (.t t66))⟩,
   ⟨(some t68), oBin (str2 (cmpS eqBytes)) (.t t67) (.v (.string ⟨⟨[97]⟩⟩)), (some (t65, true)), none⟩,
   ⟨(some t69), oPick (.t t65) (.t t68) (.v (.bool false)), none, none⟩,
   ⟨(some t70), oMov (.t t69), none, none⟩,
   ⟨(some t71), oFieldAddr 3 (.t t8), (some (t70, true)), none⟩,
   ⟨(some t72), oLoad1 (.t t71), (some (t70, true)), (some (.t t71))⟩,
   ⟨(some t73), oBin (int2 (cmpO eqI)) (.t t72) (.v (.int .i64 4)), (some (t70, true)), none⟩,
   ⟨(some t74), oPick (.t t70) (.t t73) (.v (.bool false)), none, none⟩,
   ⟨(some t75), oMov (.t t74), none, none⟩,
   ⟨(some t76), oFieldAddr 0 (.t t8), (some (t75, true)), none⟩,
   ⟨(some t77), oLoad1 (.t t76), (some (t75, true)), (some (.t t76))⟩,
   ⟨(some t78), oLenL (.t t77), (some (t75, true)), none⟩,
   ⟨(some t79), oBin (int2 (cmpO eqI)) (.t t78) (.v (.int .i64 0)), (some (t75, true)), none⟩,
   ⟨(some t80), oPick (.t t75) (.t t79) (.v (.bool false)), none, none⟩,
   ⟨(some t0), oMov (.t t80), none, none⟩])
 xRet))))))))))⟩
theorem ok3 : cFunc Tryz.prog gl ex Tryz.f3 = some c3 := by kernel_rfl
/-- publican/publicanlaw18.awake -/
def c6 : AFunc := ⟨57, [.tmp t0],
 (xSeq (xOps [⟨(some t0), oMov (.v (.bool false)), none, none⟩])
 (xSeq (xOps [⟨(some t6), oCall 9 [], none, none⟩,
   ⟨(some t7), oCall 7 [(.t t6), (.v (.slice none 0 0))], none, none⟩,
   ⟨(some t5), oMov (.t t7), none, none⟩,
   ⟨(some t8), oExtract (.t t5) 0, none, none⟩,
   ⟨(some t9), oExtract (.t t5) 1, none, none⟩,
   ⟨(some t1), oNew [(.slice none 0 0), (.int .i64 0), (.string ⟨⟨[]⟩⟩), (.int .i64 0)], none, none⟩,
   ⟨none, oStore 4 (.t t1) (.t t8), none, none⟩,
   ⟨(some t2), oMov (.t t9), none, none⟩])
 (xSeq (xOps [⟨(some t11), oCall 9 [], none, none⟩,
   ⟨(some t12), oCall 19 [(.t t11)], none, none⟩,
   ⟨(some t13), oCall 8 [(.t t12), (.v (.slice none 0 0))], none, none⟩,
   ⟨(some t10), oMov (.t t13), none, none⟩,
   ⟨(some t14), oExtract (.t t10) 0, none, none⟩,
   ⟨(some t15), oExtract (.t t10) 1, none, none⟩,
   ⟨(some t3), oNew [(.slice none 0 0), (.int .i64 0), (.string ⟨⟨[]⟩⟩), (.int .i64 0)], none, none⟩,
   ⟨none, oStore 4 (.t t3) (.t t14), none, none⟩,
   ⟨(some t4), oMov (.t t15), none, none⟩])
 (xSeq (xOps [⟨(some t16), oMov (.t t2), none, none⟩,
   ⟨(some t17), oBin (int2 (cmpO eqI)) (.t t16) (.v (.int .i64 0)), none, none⟩,
   ⟨(some t18), oMov (.t t17), none, none⟩,
   ⟨(some t19), oFieldAddr 1 (.t t1), (some (t18, true)), none⟩,
   ⟨(some t20), oLoad1 (.t t19), (some (t18, true)), (some (.t t19))⟩,
   ⟨(some t21), oBin (int2 (cmpO eqI)) (.t t20) (.v (.int .i64 0)), (some (t18, true)), none⟩,
   ⟨(some t22), oPick (.t t18) (.t t21) (.v (.bool false)), none, none⟩,
   ⟨(some t23), oMov (.t t22), none, none⟩,
   ⟨(some t24), oFieldAddr 3 (.t t1), (some (t23, true)), none⟩,
   ⟨(some t25), oLoad1 (.t t24), (some (t23, true)), (some (.t t24))⟩,
   ⟨(some t26), oBin (int2 (cmpO eqI)) (.t t25) (.v (.int .i64 4)), (some (t23, true)), none⟩,
   ⟨(some t27), oPick (.t t23) (.t t26) (.v (.bool false)), none, none⟩,
   ⟨(some t28), oMov (.t t27), none, none⟩,
   ⟨(some t29), oFieldAddr 0 (.t t1), (some (t28, true)), none⟩,
   ⟨(some t30), oLoad1 (.t t29), (some (t28, true)), (some (.t t29))⟩,
   ⟨(some t31), oLenL (.t t30), (some (t28, true)), none⟩,
   ⟨(some t32), oBin (int2 (cmpO eqI)) (.t t31) (.v (.int .i64 1)), (some (t28, true)), none⟩,
   ⟨(some t33), oPick (.t t28) (.t t32) (.v (.bool false)), none, none⟩,
   ⟨(some t34), oMov (.t t33), none, none⟩,
   ⟨(some t35), oFieldAddr 0 (.t t1), (some (t34, true)), none⟩,
   ⟨(some t36), oLoad1 (.t t35), (some (t34, true)), (some (.t t35))⟩,
   ⟨(some t37), oIdxAddrL 3 (.t t36) (.v (.int .i64 0)), (some (t34, true)), none⟩,
   ⟨(some t38), oFieldAddr 1 (.t t37), (some (t34, true)), none⟩,
   ⟨(some t39), oLoad1 (.t t38), (some (t34, true)), (some (.t t38))⟩,
   ⟨(some t40), oBin (int2 (cmpO eqI)) (.t t39) (.v (.int .i64 7)), (some (t34, true)), none⟩,
   ⟨(some t41), oPick (.t t34) (.t t40) (.v (.bool false)), none, none⟩,
   ⟨(some t42), oMov (.t t41), none, none⟩,
   ⟨(some t43), oMov (.t t4), (some (t42, true)), none⟩,
   ⟨(some t44), oBin (int2 (cmpO eqI)) (.t t43) (.v (.int .i64 0)), (some (t42, true)), none⟩,
   ⟨(some t45), oPick (.t t42) (.t t44) (.v (.bool false)), none, none⟩,
   ⟨(some t46), oMov (.t t45), none, none⟩,
   ⟨(some t47), oFieldAddr 0 (.t t3), (some (t46, true)), none⟩,
   ⟨(some t48), oLoad1 (.t t47), (some (t46, true)), (some (.t t47))⟩,
   ⟨(some t49), oLenL (.t t48), (some (t46, true)), none⟩,
   ⟨(some t50), oBin (int2 (cmpO eqI)) (.t t49) (.v (.int .i64 1)), (some (t46, true)), none⟩,
   ⟨(some t51), oPick (.t t46) (.t t50) (.v (.bool false)), none, none⟩,
   ⟨(some t52), oMov (.t t51), none, none⟩,
   ⟨(some t53), oFieldAddr 3 (.t t3), (some (t52, true)), none⟩,
   ⟨(some t54), oLoad1 (.t t53), (some (t52, true)), (some (.t t53))⟩,
   ⟨(some t55), oBin (int2 (cmpO eqI)) (.t t54) (.v (.int .i64 4)), (some (t52, true)), none⟩,
   ⟨(some t56), oPick (.t t52) (.t t55) (.v (.bool false)), none, none⟩,
   ⟨(some t0), oMov (.t t56), none, none⟩])
 xRet))))⟩
theorem ok6 : cFunc Tryz.prog gl ex Tryz.f6 = some c6 := by kernel_rfl
/-- publican/mach.Run -/
def c7 : AFunc := ⟨100, [.cell t4 (some 4), .tmp t5],
 (xSeq (xOps [⟨(some t2), oBox (.t t0), none, none⟩,
   ⟨(some t4), oNew [(.slice none 0 0), (.int .i64 0), (.string ⟨⟨[]⟩⟩), (.int .i64 0)], none, none⟩,
   ⟨(some t5), oMov (.v (.int .i64 0)), none, none⟩])
 (xSeq (xSeq (xOps [⟨(some t16), oLoadN 7 (.t t2), none, none⟩,
   ⟨(some t17), oCall 20 [(.t t16)], none, none⟩,
   ⟨(some t15), oMov (.t t17), none, none⟩,
   ⟨(some t18), oExtract (.t t15) 0, none, none⟩,
   ⟨(some t19), oExtract (.t t15) 1, none, none⟩,
   ⟨(some t20), oExtract (.t t15) 2, none, none⟩,
   ⟨(some t6), oNew [(.int .i64 0), (.int .i64 0)], none, none⟩,
   ⟨(some t7), oNew [(.int .i64 0), (.int .i64 0)], none, none⟩,
   ⟨none, oStore 2 (.t t6) (.t t18), none, none⟩,
   ⟨none, oStore 2 (.t t7) (.t t19), none, none⟩,
   ⟨(some t8), oMov (.t t20), none, none⟩])
 (xSeq (xOps [⟨(some t21), oMov (.t t8), none, none⟩,
   ⟨(some t22), oNot (.t t21), none, none⟩])
 (xCond (.t t22)
 (xSeq (xOps [⟨(some t23), oBuild [(.slice none 0 0), (.int .i64 0), (.string ⟨⟨[]⟩⟩), (.int .i64 0)] [], none, none⟩,
   ⟨none, oStore 4 (.t t4) (.t t23), none, none⟩,
   ⟨(some t5), oMov (.v (.int .i64 9)), none, none⟩])
 xRet)
 xSkip)))
 (xSeq (xSeq (xOps [⟨(some t24), oFieldAddr 2 (.t t2), none, none⟩,
   ⟨(some t25), oLoad1 (.t t24), none, (some (.t t24))⟩,
   ⟨(some t26), oMov (.t t1), none, none⟩,
   ⟨(some t27), oCall 21 [(.t t25), (.t t26), (.v (.func (.func 22) #[] #[]))], none, none⟩,
   ⟨(some t28), oNot (.t t27), none, none⟩])
 (xCond (.t t28)
 (xSeq (xOps [⟨(some t29), oBuild [(.slice none 0 0), (.int .i64 0), (.string ⟨⟨[]⟩⟩), (.int .i64 0)] [], none, none⟩,
   ⟨none, oStore 4 (.t t4) (.t t29), none, none⟩,
   ⟨(some t5), oMov (.v (.int .i64 1)), none, none⟩])
 xRet)
 xSkip))
 (xSeq (xReg [⟨(some t30), oLoadN 7 (.t t2), none, none⟩,
   ⟨(some t31), oMov (.t t1), none, none⟩,
   ⟨(some t32), oFieldAddr 3 (.t t2), none, none⟩,
   ⟨(some t33), oLoad1 (.t t32), none, (some (.t t32))⟩,
   ⟨(some t34), oLenL (.t t33), none, none⟩,
   ⟨(some t35), oMakeSlice 3 40 [(.int .i64 0), (.int .i64 0), (.slice none 0 0)] (.t t34) (.t t34), none, none⟩,
   ⟨(some t36), oBuild [(.slice none 0 0), (.slice none 0 0), (.slice none 0 0), (.slice none 0 0), (.slice none 0 0), (.slice none 0 0), (.slice none 0 0), (.slice none 0 0), (.slice none 0 0), (.slice none 0 0), (.slice none 0 0), (.int .i64 0), (.int .i64 0)] [(0, 7, (.t t30)), (7, 1, (.t t31)), (10, 1, (.t t35)), (11, 1, (.v (.int .i64 (-1))))], none, none⟩,
   ⟨(some t37), oBox (.t t36), none, none⟩,
   ⟨(some t9), oMov (.t t37), none, none⟩] [(0, 1), (0, 2), (1, 2), (0, 3), (1, 3), (0, 4), (1, 4), (0, 5), (1, 5)])
 (xSeq (xSeq (xOps [⟨(some t38), oFieldAddr 4 (.t t2), none, none⟩,
   ⟨(some t39), oLoad1 (.t t38), none, (some (.t t38))⟩,
   ⟨(some t40), oLenL (.t t39), none, none⟩,
   ⟨(some t41), oMov (.v (.int .i64 0)), none, none⟩])
 (xBlock 0 (xLoop (xSeq (xOps [⟨(some t42), oBin (int2 (cmpO ltI)) (.t t41) (.t t40), none, none⟩])
 (xSeq (xCond (.t t42)
 xSkip
 (xExit 0))
 (xSeq (xBlock 1 (xSeq (xOps [⟨(some t43), oIdxAddrL 1 (.t t39) (.t t41), none, none⟩,
   ⟨(some t44), oLoad1 (.t t43), none, (some (.t t43))⟩,
   ⟨(some t11), oMov (.t t44), none, none⟩])
 (xOps [⟨(some t45), oMov (.t t9), none, none⟩,
   ⟨(some t46), oMov (.t t9), none, none⟩,
   ⟨(some t47), oNilCheck (.t t46), none, none⟩,
   ⟨(some t48), oFieldAddr 9 (.t t47), none, none⟩,
   ⟨(some t49), oLoad1 (.t t48), none, (some (.t t48))⟩,
   ⟨(some t50), oMov (.t t11), none, none⟩,
   ⟨(some t51), oBuild [(.int .i64 0), (.int .i64 0), (.slice none 0 0)] [(0, 1, (.t t50))], none, none⟩,
   ⟨(some t52), oBuildSlice 1 [(.int .i64 0), (.int .i64 0), (.slice none 0 0)] [(0, 3, (.t t51))], none, none⟩,
   ⟨(some t53), oAppend 3 40 (.t t49) (.t t52), none, none⟩,
   ⟨(some t54), oNilCheck (.t t45), none, none⟩,
   ⟨(some t55), oFieldAddr 9 (.t t54), none, none⟩,
   ⟨none, oStore 1 (.t t55) (.t t53), none, none⟩])))
 (xOps [⟨(some t56), oBin (int2 addO) (.t t41) (.v (.int .i64 1)), none, none⟩,
   ⟨(some t41), oMov (.t t56), none, none⟩])))))))
 (xSeq (xOps [⟨(some t12), oNew [(.slice none 0 0), (.int .i64 0), (.string ⟨⟨[]⟩⟩), (.int .i64 0)], none, none⟩])
 (xBlock 2 (xLoop (xBlock 3 (xSeq (xReg [⟨(some t57), oFieldAddr 6 (.t t2), none, none⟩,
   ⟨(some t58), oLoad1 (.t t57), none, (some (.t t57))⟩,
   ⟨(some t59), oMov (.t t9), none, none⟩,
   ⟨(some t60), oNilCheck (.t t59), none, none⟩,
   ⟨(some t61), oFieldAddr 12 (.t t60), none, none⟩,
   ⟨(some t62), oLoad1 (.t t61), none, (some (.t t61))⟩,
   ⟨(some t63), oIdxAddrL 4 (.t t58) (.t t62), none, none⟩,
   ⟨(some t64), oLoadN 4 (.t t63), none, none⟩,
   ⟨(some t13), oNew [(.int .i64 0), (.int .i64 0), (.int .i64 0), (.int .i64 0)], none, none⟩,
   ⟨none, oStore 4 (.t t13) (.t t64), none, none⟩] [(0, 2), (1, 2), (0, 3), (1, 3), (0, 4), (1, 4), (0, 5), (1, 5), (0, 8), (1, 8), (2, 8), (3, 8), (4, 8), (5, 8), (6, 8), (7, 8)])
 (xSeq (xOps [⟨(some t65), oFieldAddr 3 (.t t12), none, none⟩,
   ⟨(some t66), oLoad1 (.t t65), none, (some (.t t65))⟩,
   ⟨(some t67), oBin (int2 addO) (.t t66) (.v (.int .i64 1)), none, none⟩,
   ⟨(some t68), oFieldAddr 3 (.t t12), none, none⟩,
   ⟨none, oStore 1 (.t t68) (.t t67), none, none⟩])
 (xSeq (xSeq (xOps [⟨(some t69), oMov (.t t9), none, none⟩,
   ⟨(some t70), oLoadN 4 (.t t13), none, none⟩,
   ⟨(some t71), oCall 23 [(.t t69), (.t t70)], none, none⟩,
   ⟨(some t14), oMov (.t t71), none, none⟩])
 (xSeq (xOps [⟨(some t72), oMov (.t t14), none, none⟩,
   ⟨(some t73), oBin (int2 (cmpO neI)) (.t t72) (.v (.int .i64 0)), none, none⟩])
 (xCond (.t t73)
 (xSeq (xOps [⟨(some t74), oMov (.t t14), none, none⟩,
   ⟨(some t75), oFieldAddr 1 (.t t12), none, none⟩,
   ⟨none, oStore 1 (.t t75) (.t t74), none, none⟩])
 (xSeq (xSeq (xOps [⟨(some t76), oMov (.t t9), none, none⟩,
   ⟨(some t77), oNilCheck (.t t76), none, none⟩,
   ⟨(some t78), oFieldAddr 11 (.t t77), none, none⟩,
   ⟨(some t79), oLoad1 (.t t78), none, (some (.t t78))⟩,
   ⟨(some t80), oBin (int2 (cmpO geI)) (.t t79) (.v (.int .i64 0)), none, none⟩])
 (xCond (.t t80)
 (xReg [⟨(some t81), oFieldAddr 5 (.t t2), none, none⟩,
   ⟨(some t82), oLoad1 (.t t81), none, (some (.t t81))⟩,
   ⟨(some t83), oMov (.t t9), none, none⟩,
   ⟨(some t84), oNilCheck (.t t83), none, none⟩,
   ⟨(some t85), oFieldAddr 11 (.t t84), none, none⟩,
   ⟨(some t86), oLoad1 (.t t85), none, (some (.t t85))⟩,
   ⟨(some t87), oIdxAddrL 1 (.t t82) (.t t86), none, none⟩,
   ⟨(some t88), oLoad1 (.t t87), none, (some (.t t87))⟩,
   ⟨(some t89), oFieldAddr 2 (.t t12), none, none⟩,
   ⟨none, oStore 1 (.t t89) (.t t88), none, none⟩] [(0, 2), (1, 2), (0, 3), (1, 3), (0, 4), (1, 4), (0, 5), (1, 5)])
 xSkip))
 (xSeq (xOps [⟨(some t90), oLoadN 4 (.t t12), none, none⟩,
   ⟨none, oStore 4 (.t t4) (.t t90), none, none⟩,
   ⟨(some t5), oMov (.v (.int .i64 0)), none, none⟩])
 xRet)))
 xSkip)))
 (xSeq (xOps [⟨(some t91), oFieldAddr 0 (.t t13), none, none⟩,
   ⟨(some t92), oLoad1 (.t t91), none, (some (.t t91))⟩,
   ⟨(some t93), oBin (int2 (cmpO eqI)) (.t t92) (.v (.int .i64 23)), none, none⟩])
 (xCond (.t t93)
 (xSeq (xOps [⟨(some t94), oMov (.t t9), none, none⟩,
   ⟨(some t95), oNilCheck (.t t94), none, none⟩,
   ⟨(some t96), oFieldAddr 10 (.t t95), none, none⟩,
   ⟨(some t97), oLoad1 (.t t96), none, (some (.t t96))⟩,
   ⟨(some t98), oFieldAddr 0 (.t t12), none, none⟩,
   ⟨none, oStore 1 (.t t98) (.t t97), none, none⟩])
 (xSeq (xOps [⟨(some t99), oLoadN 4 (.t t12), none, none⟩,
   ⟨none, oStore 4 (.t t4) (.t t99), none, none⟩,
   ⟨(some t5), oMov (.v (.int .i64 0)), none, none⟩])
 xRet))
 xSkip))))))))))))))⟩
theorem ok7 : cFunc Tryz.prog gl ex Tryz.f7 = some c7 := by kernel_rfl
/-- publican/mach.Bytes -/
def c8 : AFunc := ⟨22, [.cell t4 (some 4), .tmp t5],
 (xSeq (xOps [⟨(some t4), oNew [(.slice none 0 0), (.int .i64 0), (.string ⟨⟨[]⟩⟩), (.int .i64 0)], none, none⟩,
   ⟨(some t5), oMov (.v (.int .i64 0)), none, none⟩])
 (xSeq (xOps [⟨(some t9), oMov (.t t0), none, none⟩,
   ⟨(some t10), oCall 24 [(.t t9)], none, none⟩,
   ⟨(some t8), oMov (.t t10), none, none⟩,
   ⟨(some t11), oExtract (.t t8) 0, none, none⟩,
   ⟨(some t12), oExtract (.t t8) 1, none, none⟩,
   ⟨(some t6), oNew (rep 7 [(.slice none 0 0)]), none, none⟩,
   ⟨none, oStore 7 (.t t6) (.t t11), none, none⟩,
   ⟨(some t7), oMov (.t t12), none, none⟩])
 (xSeq (xSeq (xOps [⟨(some t13), oMov (.t t7), none, none⟩,
   ⟨(some t14), oBin (int2 (cmpO neI)) (.t t13) (.v (.int .i64 0)), none, none⟩])
 (xCond (.t t14)
 (xSeq (xOps [⟨(some t15), oBuild [(.slice none 0 0), (.int .i64 0), (.string ⟨⟨[]⟩⟩), (.int .i64 0)] [], none, none⟩,
   ⟨(some t16), oMov (.t t7), none, none⟩,
   ⟨none, oStore 4 (.t t4) (.t t15), none, none⟩,
   ⟨(some t5), oMov (.t t16), none, none⟩])
 xRet)
 xSkip))
 (xSeq (xOps [⟨(some t17), oLoadN 7 (.t t6), none, none⟩,
   ⟨(some t18), oMov (.t t1), none, none⟩,
   ⟨(some t19), oCall 7 [(.t t17), (.t t18)], none, none⟩,
   ⟨(some t20), oExtract (.t t19) 0, none, none⟩,
   ⟨(some t21), oExtract (.t t19) 1, none, none⟩,
   ⟨none, oStore 4 (.t t4) (.t t20), none, none⟩,
   ⟨(some t5), oMov (.t t21), none, none⟩])
 xRet))))⟩
theorem ok8 : cFunc Tryz.prog gl ex Tryz.f8 = some c8 := by kernel_rfl
/-- publican/publicanlaw18.one -/
def c9 : AFunc := ⟨11, [.cell t0 (some 7)],
 (xSeq (xOps [⟨(some t0), oNew (rep 7 [(.slice none 0 0)]), none, none⟩])
 (xSeq (xOps [⟨(some t1), oBuild [(.int .i64 0), (.int .i64 0), (.slice none 0 0)] [(0, 1, (.v (.int .i64 2))), (1, 1, (.v (.int .i64 7)))], none, none⟩,
   ⟨(some t2), oBuildSlice 1 [(.int .i64 0), (.int .i64 0), (.slice none 0 0)] [(0, 3, (.t t1))], none, none⟩,
   ⟨(some t3), oBuildSlice 1 [(.int .i64 0)] [(0, 1, (.v (.int .i64 2)))], none, none⟩,
   ⟨(some t4), oBuildSlice 1 [(.string ⟨⟨[]⟩⟩)] [(0, 1, (.v (.string ⟨⟨[97]⟩⟩)))], none, none⟩,
   ⟨(some t5), oBuild [(.int .i64 0), (.int .i64 0), (.int .i64 0), (.int .i64 0)] [(0, 1, (.v (.int .i64 21)))], none, none⟩,
   ⟨(some t6), oBuild [(.int .i64 0), (.int .i64 0), (.int .i64 0), (.int .i64 0)] [(0, 1, (.v (.int .i64 0)))], none, none⟩,
   ⟨(some t7), oBuild [(.int .i64 0), (.int .i64 0), (.int .i64 0), (.int .i64 0)] [(0, 1, (.v (.int .i64 22)))], none, none⟩,
   ⟨(some t8), oBuild [(.int .i64 0), (.int .i64 0), (.int .i64 0), (.int .i64 0)] [(0, 1, (.v (.int .i64 23)))], none, none⟩,
   ⟨(some t9), oBuildSlice 4 (rep 16 [(.int .i64 0)]) [(0, 4, (.t t5)), (4, 4, (.t t6)), (8, 4, (.t t7)), (12, 4, (.t t8))], none, none⟩,
   ⟨(some t10), oBuild (rep 7 [(.slice none 0 0)]) [(0, 1, (.t t2)), (3, 1, (.t t3)), (5, 1, (.t t4)), (6, 1, (.t t9))], none, none⟩,
   ⟨none, oStore 7 (.t t0) (.t t10), none, none⟩])
 xRet))⟩
theorem ok9 : cFunc Tryz.prog gl ex Tryz.f9 = some c9 := by kernel_rfl
/-- publican/code.Encode -/
def c19 : AFunc := ⟨165, [.tmp t2],
 (xSeq (xOps [⟨(some t1), oBox (.t t0), none, none⟩,
   ⟨(some t2), oMov (.v (.slice none 0 0)), none, none⟩])
 (xSeq (xOps [⟨(some t13), oCall 48 [], none, none⟩,
   ⟨(some t14), oBuild [(.slice none 0 0)] [(0, 1, (.t t13))], none, none⟩,
   ⟨(some t15), oBox (.t t14), none, none⟩,
   ⟨(some t3), oMov (.t t15), none, none⟩])
 (xSeq (xOps [⟨(some t16), oMov (.t t3), none, none⟩,
   ⟨(some t17), oFieldAddr 0 (.t t1), none, none⟩,
   ⟨(some t18), oLoad1 (.t t17), none, (some (.t t17))⟩,
   ⟨(some t19), oLenL (.t t18), none, none⟩,
   ⟨(some t20), oConv .u64 (.t t19), none, none⟩,
   ⟨(some t21), oCall 49 [(.t t16), (.t t20)], none, none⟩])
 (xSeq (xSeq (xOps [⟨(some t22), oFieldAddr 0 (.t t1), none, none⟩,
   ⟨(some t23), oLoad1 (.t t22), none, (some (.t t22))⟩,
   ⟨(some t24), oLenL (.t t23), none, none⟩,
   ⟨(some t25), oMov (.v (.int .i64 0)), none, none⟩])
 (xBlock 0 (xLoop (xSeq (xOps [⟨(some t26), oBin (int2 (cmpO ltI)) (.t t25) (.t t24), none, none⟩])
 (xSeq (xCond (.t t26)
 xSkip
 (xExit 0))
 (xSeq (xBlock 1 (xSeq (xOps [⟨(some t27), oIdxAddrL 3 (.t t23) (.t t25), none, none⟩,
   ⟨(some t28), oLoadN 3 (.t t27), none, none⟩,
   ⟨(some t5), oNew [(.int .i64 0), (.int .i64 0), (.slice none 0 0)], none, none⟩,
   ⟨none, oStore 3 (.t t5) (.t t28), none, none⟩])
 (xOps [⟨(some t29), oMov (.t t3), none, none⟩,
   ⟨(some t30), oFieldAddr 0 (.t t5), none, none⟩,
   ⟨(some t31), oLoad1 (.t t30), none, (some (.t t30))⟩,
   ⟨(some t32), oFieldAddr 1 (.t t5), none, none⟩,
   ⟨(some t33), oLoad1 (.t t32), none, (some (.t t32))⟩,
   ⟨(some t34), oBuildSlice 2 [(.int .i64 0), (.int .i64 0)] [(0, 1, (.t t31)), (1, 1, (.t t33))], none, none⟩,
   ⟨(some t35), oCall 50 [(.t t29), (.t t34)], none, none⟩])))
 (xOps [⟨(some t36), oBin (int2 addO) (.t t25) (.v (.int .i64 1)), none, none⟩,
   ⟨(some t25), oMov (.t t36), none, none⟩])))))))
 (xSeq (xOps [⟨(some t37), oMov (.t t3), none, none⟩,
   ⟨(some t38), oFieldAddr 1 (.t t1), none, none⟩,
   ⟨(some t39), oLoad1 (.t t38), none, (some (.t t38))⟩,
   ⟨(some t40), oLenL (.t t39), none, none⟩,
   ⟨(some t41), oConv .u64 (.t t40), none, none⟩,
   ⟨(some t42), oCall 49 [(.t t37), (.t t41)], none, none⟩])
 (xSeq (xSeq (xOps [⟨(some t43), oFieldAddr 1 (.t t1), none, none⟩,
   ⟨(some t44), oLoad1 (.t t43), none, (some (.t t43))⟩,
   ⟨(some t45), oLenL (.t t44), none, none⟩,
   ⟨(some t46), oMov (.v (.int .i64 0)), none, none⟩])
 (xBlock 2 (xLoop (xSeq (xOps [⟨(some t47), oBin (int2 (cmpO ltI)) (.t t46) (.t t45), none, none⟩])
 (xSeq (xCond (.t t47)
 xSkip
 (xExit 2))
 (xSeq (xBlock 3 (xSeq (xOps [⟨(some t48), oIdxAddrL 4 (.t t44) (.t t46), none, none⟩,
   ⟨(some t49), oLoadN 4 (.t t48), none, none⟩,
   ⟨(some t7), oNew [(.int .i64 0), (.int .i64 0), (.slice none 0 0), (.slice none 0 0)], none, none⟩,
   ⟨none, oStore 4 (.t t7) (.t t49), none, none⟩])
 (xSeq (xOps [⟨(some t50), oMov (.t t3), none, none⟩,
   ⟨(some t51), oFieldAddr 0 (.t t7), none, none⟩,
   ⟨(some t52), oLoad1 (.t t51), none, (some (.t t51))⟩,
   ⟨(some t53), oFieldAddr 1 (.t t7), none, none⟩,
   ⟨(some t54), oLoad1 (.t t53), none, (some (.t t53))⟩,
   ⟨(some t55), oBuildSlice 2 [(.int .i64 0), (.int .i64 0)] [(0, 1, (.t t52)), (1, 1, (.t t54))], none, none⟩,
   ⟨(some t56), oCall 50 [(.t t50), (.t t55)], none, none⟩])
 (xSeq (xOps [⟨(some t57), oMov (.t t3), none, none⟩,
   ⟨(some t58), oFieldAddr 2 (.t t7), none, none⟩,
   ⟨(some t59), oLoad1 (.t t58), none, (some (.t t58))⟩,
   ⟨(some t60), oLenL (.t t59), none, none⟩,
   ⟨(some t61), oConv .u64 (.t t60), none, none⟩,
   ⟨(some t62), oCall 49 [(.t t57), (.t t61)], none, none⟩])
 (xSeq (xOps [⟨(some t63), oMov (.t t3), none, none⟩,
   ⟨(some t64), oFieldAddr 2 (.t t7), none, none⟩,
   ⟨(some t65), oLoad1 (.t t64), none, (some (.t t64))⟩,
   ⟨(some t66), oCall 50 [(.t t63), (.t t65)], none, none⟩])
 (xSeq (xOps [⟨(some t67), oMov (.t t3), none, none⟩,
   ⟨(some t68), oFieldAddr 3 (.t t7), none, none⟩,
   ⟨(some t69), oLoad1 (.t t68), none, (some (.t t68))⟩,
   ⟨(some t70), oLenL (.t t69), none, none⟩,
   ⟨(some t71), oConv .u64 (.t t70), none, none⟩,
   ⟨(some t72), oCall 49 [(.t t67), (.t t71)], none, none⟩])
 (xOps [⟨(some t73), oMov (.t t3), none, none⟩,
   ⟨(some t74), oFieldAddr 3 (.t t7), none, none⟩,
   ⟨(some t75), oLoad1 (.t t74), none, (some (.t t74))⟩,
   ⟨(some t76), oCall 50 [(.t t73), (.t t75)], none, none⟩])))))))
 (xOps [⟨(some t77), oBin (int2 addO) (.t t46) (.v (.int .i64 1)), none, none⟩,
   ⟨(some t46), oMov (.t t77), none, none⟩])))))))
 (xSeq (xOps [⟨(some t78), oMov (.t t3), none, none⟩,
   ⟨(some t79), oFieldAddr 2 (.t t1), none, none⟩,
   ⟨(some t80), oLoad1 (.t t79), none, (some (.t t79))⟩,
   ⟨(some t81), oCall 51 [(.t t78), (.t t80)], none, none⟩])
 (xSeq (xOps [⟨(some t82), oMov (.t t3), none, none⟩,
   ⟨(some t83), oFieldAddr 3 (.t t1), none, none⟩,
   ⟨(some t84), oLoad1 (.t t83), none, (some (.t t83))⟩,
   ⟨(some t85), oCall 51 [(.t t82), (.t t84)], none, none⟩])
 (xSeq (xOps [⟨(some t86), oMov (.t t3), none, none⟩,
   ⟨(some t87), oFieldAddr 4 (.t t1), none, none⟩,
   ⟨(some t88), oLoad1 (.t t87), none, (some (.t t87))⟩,
   ⟨(some t89), oCall 51 [(.t t86), (.t t88)], none, none⟩])
 (xSeq (xOps [⟨(some t90), oMov (.t t3), none, none⟩,
   ⟨(some t91), oFieldAddr 5 (.t t1), none, none⟩,
   ⟨(some t92), oLoad1 (.t t91), none, (some (.t t91))⟩,
   ⟨(some t93), oLenL (.t t92), none, none⟩,
   ⟨(some t94), oConv .u64 (.t t93), none, none⟩,
   ⟨(some t95), oCall 49 [(.t t90), (.t t94)], none, none⟩])
 (xSeq (xSeq (xOps [⟨(some t96), oFieldAddr 5 (.t t1), none, none⟩,
   ⟨(some t97), oLoad1 (.t t96), none, (some (.t t96))⟩,
   ⟨(some t98), oLenL (.t t97), none, none⟩,
   ⟨(some t99), oMov (.v (.int .i64 0)), none, none⟩])
 (xBlock 4 (xLoop (xSeq (xOps [⟨(some t100), oBin (int2 (cmpO ltI)) (.t t99) (.t t98), none, none⟩])
 (xSeq (xCond (.t t100)
 xSkip
 (xExit 4))
 (xSeq (xBlock 5 (xSeq (xOps [⟨(some t101), oIdxAddrL 1 (.t t97) (.t t99), none, none⟩,
   ⟨(some t102), oLoad1 (.t t101), none, (some (.t t101))⟩,
   ⟨(some t9), oMov (.t t102), none, none⟩])
 (xSeq (xOps [⟨(some t103), oMov (.t t3), none, none⟩,
   ⟨(some t104), oMov (.t t9), none, none⟩,
   ⟨(some t105), oLenS (.t t104), none, none⟩,
   ⟨(some t106), oConv .u64 (.t t105), none, none⟩,
   ⟨(some t107), oCall 49 [(.t t103), (.t t106)], none, none⟩])
 (xOps [⟨(some t108), oMov (.t t3), none, none⟩,
   ⟨(some t109), oMov (.t t3), none, none⟩,
   ⟨(some t110), oNilCheck (.t t109), none, none⟩,
   ⟨(some t111), oFieldAddr 0 (.t t110), none, none⟩,
   ⟨(some t112), oLoad1 (.t t111), none, (some (.t t111))⟩,
   ⟨(some t113), oMov (.t t9), none, none⟩,
   ⟨(some t114), oAppend 1 1 (.t t112) (.t t113), none, none⟩,
   ⟨(some t115), oNilCheck (.t t108), none, none⟩,
   ⟨(some t116), oFieldAddr 0 (.t t115), none, none⟩,
   ⟨none, oStore 1 (.t t116) (.t t114), none, none⟩]))))
 (xOps [⟨(some t117), oBin (int2 addO) (.t t99) (.v (.int .i64 1)), none, none⟩,
   ⟨(some t99), oMov (.t t117), none, none⟩])))))))
 (xSeq (xOps [⟨(some t118), oMov (.t t3), none, none⟩,
   ⟨(some t119), oFieldAddr 6 (.t t1), none, none⟩,
   ⟨(some t120), oLoad1 (.t t119), none, (some (.t t119))⟩,
   ⟨(some t121), oLenL (.t t120), none, none⟩,
   ⟨(some t122), oConv .u64 (.t t121), none, none⟩,
   ⟨(some t123), oCall 49 [(.t t118), (.t t122)], none, none⟩])
 (xSeq (xSeq (xOps [⟨(some t124), oFieldAddr 6 (.t t1), none, none⟩,
   ⟨(some t125), oLoad1 (.t t124), none, (some (.t t124))⟩,
   ⟨(some t126), oLenL (.t t125), none, none⟩,
   ⟨(some t127), oMov (.v (.int .i64 0)), none, none⟩])
 (xBlock 6 (xLoop (xSeq (xOps [⟨(some t128), oBin (int2 (cmpO ltI)) (.t t127) (.t t126), none, none⟩])
 (xSeq (xCond (.t t128)
 xSkip
 (xExit 6))
 (xSeq (xBlock 7 (xSeq (xOps [⟨(some t129), oIdxAddrL 4 (.t t125) (.t t127), none, none⟩,
   ⟨(some t130), oLoadN 4 (.t t129), none, none⟩,
   ⟨(some t11), oNew [(.int .i64 0), (.int .i64 0), (.int .i64 0), (.int .i64 0)], none, none⟩,
   ⟨none, oStore 4 (.t t11) (.t t130), none, none⟩])
 (xOps [⟨(some t131), oMov (.t t3), none, none⟩,
   ⟨(some t132), oFieldAddr 0 (.t t11), none, none⟩,
   ⟨(some t133), oLoad1 (.t t132), none, (some (.t t132))⟩,
   ⟨(some t134), oFieldAddr 1 (.t t11), none, none⟩,
   ⟨(some t135), oLoad1 (.t t134), none, (some (.t t134))⟩,
   ⟨(some t136), oFieldAddr 2 (.t t11), none, none⟩,
   ⟨(some t137), oLoad1 (.t t136), none, (some (.t t136))⟩,
   ⟨(some t138), oFieldAddr 3 (.t t11), none, none⟩,
   ⟨(some t139), oLoad1 (.t t138), none, (some (.t t138))⟩,
   ⟨(some t140), oBuildSlice 4 [(.int .i64 0), (.int .i64 0), (.int .i64 0), (.int .i64 0)] [(0, 1, (.t t133)), (1, 1, (.t t135)), (2, 1, (.t t137)), (3, 1, (.t t139))], none, none⟩,
   ⟨(some t141), oCall 50 [(.t t131), (.t t140)], none, none⟩])))
 (xOps [⟨(some t142), oBin (int2 addO) (.t t127) (.v (.int .i64 1)), none, none⟩,
   ⟨(some t127), oMov (.t t142), none, none⟩])))))))
 (xSeq (xOps [⟨(some t143), oMov (.t t3), none, none⟩,
   ⟨(some t144), oNilCheck (.t t143), none, none⟩,
   ⟨(some t145), oFieldAddr 0 (.t t144), none, none⟩,
   ⟨(some t146), oLoad1 (.t t145), none, (some (.t t145))⟩,
   ⟨(some t147), oCall 52 [(.t t146)], none, none⟩,
   ⟨(some t12), oMov (.t t147), none, none⟩])
 (xSeq (xOps [⟨(some t148), oMov (.t t3), none, none⟩,
   ⟨(some t149), oNilCheck (.t t148), none, none⟩,
   ⟨(some t150), oFieldAddr 0 (.t t149), none, none⟩,
   ⟨(some t151), oLoad1 (.t t150), none, (some (.t t150))⟩,
   ⟨(some t152), oMov (.t t12), none, none⟩,
   ⟨(some t153), oConv .u8 (.t t152), none, none⟩,
   ⟨(some t154), oMov (.t t12), none, none⟩,
   ⟨(some t155), oBin (sh2 shrO) (.t t154) (.v (.int .u64 8)), none, none⟩,
   ⟨(some t156), oConv .u8 (.t t155), none, none⟩,
   ⟨(some t157), oMov (.t t12), none, none⟩,
   ⟨(some t158), oBin (sh2 shrO) (.t t157) (.v (.int .u64 16)), none, none⟩,
   ⟨(some t159), oConv .u8 (.t t158), none, none⟩,
   ⟨(some t160), oMov (.t t12), none, none⟩,
   ⟨(some t161), oBin (sh2 shrO) (.t t160) (.v (.int .u64 24)), none, none⟩,
   ⟨(some t162), oConv .u8 (.t t161), none, none⟩,
   ⟨(some t163), oBuildSlice 4 [(.int .u8 0), (.int .u8 0), (.int .u8 0), (.int .u8 0)] [(0, 1, (.t t153)), (1, 1, (.t t156)), (2, 1, (.t t159)), (3, 1, (.t t162))], none, none⟩,
   ⟨(some t164), oAppend 1 1 (.t t151) (.t t163), none, none⟩,
   ⟨(some t2), oMov (.t t164), none, none⟩])
 xRet)))))))))))))))⟩
theorem ok19 : cFunc Tryz.prog gl ex Tryz.f19 = some c19 := by kernel_rfl
/-- publican/verify.Check -/
def c20 : AFunc := ⟨95, [.cell t2 (some 2), .cell t3 (some 2), .tmp t4],
 (xSeq (xOps [⟨(some t1), oBox (.t t0), none, none⟩,
   ⟨(some t2), oNew [(.int .i64 0), (.int .i64 0)], none, none⟩,
   ⟨(some t3), oNew [(.int .i64 0), (.int .i64 0)], none, none⟩,
   ⟨(some t4), oMov (.v (.bool false)), none, none⟩])
 (xSeq (xSeq (xOps [⟨(some t14), oLoadN 7 (.t t1), none, none⟩,
   ⟨(some t15), oCall 53 [(.t t14)], none, none⟩,
   ⟨(some t16), oNot (.t t15), none, none⟩])
 (xCond (.t t16)
 (xSeq (xOps [⟨(some t17), oBuild [(.int .i64 0), (.int .i64 0)] [], none, none⟩,
   ⟨(some t18), oBuild [(.int .i64 0), (.int .i64 0)] [(0, 1, (.v (.int .i64 (-1)))), (1, 1, (.v (.int .i64 1)))], none, none⟩,
   ⟨none, oStore 2 (.t t2) (.t t17), none, none⟩,
   ⟨none, oStore 2 (.t t3) (.t t18), none, none⟩,
   ⟨(some t4), oMov (.v (.bool false)), none, none⟩])
 xRet)
 xSkip))
 (xSeq (xSeq (xOps [⟨(some t19), oLoadN 7 (.t t1), none, none⟩,
   ⟨(some t20), oCall 54 [(.t t19)], none, none⟩,
   ⟨(some t5), oMov (.t t20), none, none⟩])
 (xSeq (xOps [⟨(some t21), oMov (.t t5), none, none⟩,
   ⟨(some t22), oBin (int2 (cmpO neI)) (.t t21) (.v (.int .i64 (-1))), none, none⟩])
 (xCond (.t t22)
 (xSeq (xOps [⟨(some t23), oBuild [(.int .i64 0), (.int .i64 0)] [], none, none⟩,
   ⟨(some t24), oMov (.t t5), none, none⟩,
   ⟨(some t25), oBuild [(.int .i64 0), (.int .i64 0)] [(0, 1, (.t t24)), (1, 1, (.v (.int .i64 2)))], none, none⟩,
   ⟨none, oStore 2 (.t t2) (.t t23), none, none⟩,
   ⟨none, oStore 2 (.t t3) (.t t25), none, none⟩,
   ⟨(some t4), oMov (.v (.bool false)), none, none⟩])
 xRet)
 xSkip)))
 (xSeq (xOps [⟨(some t26), oLoadN 7 (.t t1), none, none⟩,
   ⟨(some t27), oBuild [(.slice none 0 0), (.slice none 0 0), (.slice none 0 0), (.slice none 0 0), (.slice none 0 0), (.slice none 0 0), (.slice none 0 0), (.slice none 0 0), (.int .i64 0)] [(0, 7, (.t t26))], none, none⟩,
   ⟨(some t28), oBox (.t t27), none, none⟩,
   ⟨(some t6), oMov (.t t28), none, none⟩])
 (xSeq (xSeq (xOps [⟨(some t29), oFieldAddr 6 (.t t1), none, none⟩,
   ⟨(some t30), oLoad1 (.t t29), none, (some (.t t29))⟩,
   ⟨(some t31), oLenL (.t t30), none, none⟩,
   ⟨(some t32), oMov (.v (.int .i64 0)), none, none⟩])
 (xBlock 0 (xLoop (xSeq (xOps [⟨(some t33), oBin (int2 (cmpO ltI)) (.t t32) (.t t31), none, none⟩])
 (xSeq (xCond (.t t33)
 xSkip
 (xExit 0))
 (xSeq (xBlock 1 (xSeq (xOps [⟨(some t34), oMov (.t t32), none, none⟩,
   ⟨(some t35), oIdxAddrL 4 (.t t30) (.t t32), none, none⟩,
   ⟨(some t36), oLoadN 4 (.t t35), none, none⟩,
   ⟨(some t8), oNew [(.int .i64 0), (.int .i64 0), (.int .i64 0), (.int .i64 0)], none, none⟩,
   ⟨(some t7), oMov (.t t34), none, none⟩,
   ⟨none, oStore 4 (.t t8) (.t t36), none, none⟩])
 (xSeq (xOps [⟨(some t37), oMov (.t t6), none, none⟩,
   ⟨(some t38), oLoadN 4 (.t t8), none, none⟩,
   ⟨(some t39), oCall 55 [(.t t37), (.t t38)], none, none⟩,
   ⟨(some t40), oNot (.t t39), none, none⟩])
 (xCond (.t t40)
 (xSeq (xOps [⟨(some t41), oBuild [(.int .i64 0), (.int .i64 0)] [], none, none⟩,
   ⟨(some t42), oMov (.t t7), none, none⟩,
   ⟨(some t43), oBuild [(.int .i64 0), (.int .i64 0)] [(0, 1, (.t t42)), (1, 1, (.v (.int .i64 3)))], none, none⟩,
   ⟨none, oStore 2 (.t t2) (.t t41), none, none⟩,
   ⟨none, oStore 2 (.t t3) (.t t43), none, none⟩,
   ⟨(some t4), oMov (.v (.bool false)), none, none⟩])
 xRet)
 xSkip))))
 (xOps [⟨(some t44), oBin (int2 addO) (.t t32) (.v (.int .i64 1)), none, none⟩,
   ⟨(some t32), oMov (.t t44), none, none⟩])))))))
 (xSeq (xOps [⟨(some t45), oMov (.t t6), none, none⟩,
   ⟨(some t46), oCall 56 [(.t t45)], none, none⟩])
 (xSeq (xSeq (xOps [⟨(some t47), oFieldAddr 6 (.t t1), none, none⟩,
   ⟨(some t48), oLoad1 (.t t47), none, (some (.t t47))⟩,
   ⟨(some t49), oLenL (.t t48), none, none⟩,
   ⟨(some t50), oMov (.v (.int .i64 0)), none, none⟩])
 (xBlock 2 (xLoop (xSeq (xOps [⟨(some t51), oBin (int2 (cmpO ltI)) (.t t50) (.t t49), none, none⟩])
 (xSeq (xCond (.t t51)
 xSkip
 (xExit 2))
 (xSeq (xBlock 3 (xSeq (xOps [⟨(some t52), oMov (.t t50), none, none⟩,
   ⟨(some t53), oIdxAddrL 4 (.t t48) (.t t50), none, none⟩,
   ⟨(some t54), oLoadN 4 (.t t53), none, none⟩,
   ⟨(some t10), oNew [(.int .i64 0), (.int .i64 0), (.int .i64 0), (.int .i64 0)], none, none⟩,
   ⟨(some t9), oMov (.t t52), none, none⟩,
   ⟨none, oStore 4 (.t t10) (.t t54), none, none⟩])
 (xSeq (xOps [⟨(some t55), oMov (.t t6), none, none⟩,
   ⟨(some t56), oMov (.t t9), none, none⟩,
   ⟨(some t57), oLoadN 4 (.t t10), none, none⟩,
   ⟨(some t58), oCall 57 [(.t t55), (.t t56), (.t t57)], none, none⟩,
   ⟨(some t59), oNot (.t t58), none, none⟩])
 (xCond (.t t59)
 (xSeq (xOps [⟨(some t60), oBuild [(.int .i64 0), (.int .i64 0)] [], none, none⟩,
   ⟨(some t61), oMov (.t t9), none, none⟩,
   ⟨(some t62), oBuild [(.int .i64 0), (.int .i64 0)] [(0, 1, (.t t61)), (1, 1, (.v (.int .i64 4)))], none, none⟩,
   ⟨none, oStore 2 (.t t2) (.t t60), none, none⟩,
   ⟨none, oStore 2 (.t t3) (.t t62), none, none⟩,
   ⟨(some t4), oMov (.v (.bool false)), none, none⟩])
 xRet)
 xSkip))))
 (xOps [⟨(some t63), oBin (int2 addO) (.t t50) (.v (.int .i64 1)), none, none⟩,
   ⟨(some t50), oMov (.t t63), none, none⟩])))))))
 (xSeq (xSeq (xOps [⟨(some t64), oMov (.t t6), none, none⟩,
   ⟨(some t65), oCall 58 [(.t t64)], none, none⟩,
   ⟨(some t11), oMov (.t t65), none, none⟩])
 (xSeq (xOps [⟨(some t66), oMov (.t t11), none, none⟩,
   ⟨(some t67), oBin (int2 (cmpO neI)) (.t t66) (.v (.int .i64 (-1))), none, none⟩])
 (xCond (.t t67)
 (xSeq (xOps [⟨(some t68), oBuild [(.int .i64 0), (.int .i64 0)] [], none, none⟩,
   ⟨(some t69), oMov (.t t11), none, none⟩,
   ⟨(some t70), oBuild [(.int .i64 0), (.int .i64 0)] [(0, 1, (.t t69)), (1, 1, (.v (.int .i64 5)))], none, none⟩,
   ⟨none, oStore 2 (.t t2) (.t t68), none, none⟩,
   ⟨none, oStore 2 (.t t3) (.t t70), none, none⟩,
   ⟨(some t4), oMov (.v (.bool false)), none, none⟩])
 xRet)
 xSkip)))
 (xSeq (xSeq (xOps [⟨(some t71), oMov (.t t6), none, none⟩,
   ⟨(some t72), oCall 59 [(.t t71)], none, none⟩,
   ⟨(some t12), oMov (.t t72), none, none⟩])
 (xSeq (xOps [⟨(some t73), oMov (.t t12), none, none⟩,
   ⟨(some t74), oBin (int2 (cmpO neI)) (.t t73) (.v (.int .i64 (-1))), none, none⟩])
 (xCond (.t t74)
 (xSeq (xOps [⟨(some t75), oBuild [(.int .i64 0), (.int .i64 0)] [], none, none⟩,
   ⟨(some t76), oMov (.t t12), none, none⟩,
   ⟨(some t77), oBuild [(.int .i64 0), (.int .i64 0)] [(0, 1, (.t t76)), (1, 1, (.v (.int .i64 6)))], none, none⟩,
   ⟨none, oStore 2 (.t t2) (.t t75), none, none⟩,
   ⟨none, oStore 2 (.t t3) (.t t77), none, none⟩,
   ⟨(some t4), oMov (.v (.bool false)), none, none⟩])
 xRet)
 xSkip)))
 (xSeq (xOps [⟨(some t78), oMov (.t t6), none, none⟩,
   ⟨(some t79), oFieldAddr 6 (.t t1), none, none⟩,
   ⟨(some t80), oLoad1 (.t t79), none, (some (.t t79))⟩,
   ⟨(some t81), oLenL (.t t80), none, none⟩,
   ⟨(some t82), oBin (int2 subO) (.t t81) (.v (.int .i64 1)), none, none⟩,
   ⟨(some t83), oCall 60 [(.t t78), (.v (.int .i64 0)), (.t t82)], none, none⟩,
   ⟨(some t13), oMov (.t t83), none, none⟩])
 (xSeq (xSeq (xOps [⟨(some t84), oMov (.t t13), none, none⟩,
   ⟨(some t85), oBin (int2 (cmpO gtI)) (.t t84) (.v (.int .i64 1099511627776)), none, none⟩])
 (xCond (.t t85)
 (xSeq (xOps [⟨(some t86), oBuild [(.int .i64 0), (.int .i64 0)] [], none, none⟩,
   ⟨(some t87), oBuild [(.int .i64 0), (.int .i64 0)] [(0, 1, (.v (.int .i64 (-1)))), (1, 1, (.v (.int .i64 7)))], none, none⟩,
   ⟨none, oStore 2 (.t t2) (.t t86), none, none⟩,
   ⟨none, oStore 2 (.t t3) (.t t87), none, none⟩,
   ⟨(some t4), oMov (.v (.bool false)), none, none⟩])
 xRet)
 xSkip))
 (xSeq (xOps [⟨(some t88), oMov (.t t13), none, none⟩,
   ⟨(some t89), oMov (.t t6), none, none⟩,
   ⟨(some t90), oNilCheck (.t t89), none, none⟩,
   ⟨(some t91), oFieldAddr 8 (.t t90), none, none⟩,
   ⟨(some t92), oLoad1 (.t t91), none, (some (.t t91))⟩,
   ⟨(some t93), oBuild [(.int .i64 0), (.int .i64 0)] [(0, 1, (.t t88)), (1, 1, (.t t92))], none, none⟩,
   ⟨(some t94), oBuild [(.int .i64 0), (.int .i64 0)] [], none, none⟩,
   ⟨none, oStore 2 (.t t2) (.t t93), none, none⟩,
   ⟨none, oStore 2 (.t t3) (.t t94), none, none⟩,
   ⟨(some t4), oMov (.v (.bool true)), none, none⟩])
 xRet))))))))))))⟩
theorem ok20 : cFunc Tryz.prog gl ex Tryz.f20 = some c20 := by kernel_rfl
/-- slices.EqualFunc[[]publican/api.Kind,[]publican/api.Value,publican/api.Kind,publican/api.Value] -/
def c21 : AFunc := ⟨32, [.tmp t6],
 (xSeq (xOps [⟨(some t6), oMov (.v (.bool false)), none, none⟩])
 (xSeq (xSeq (xOps [⟨(some t10), oMov (.t t0), none, none⟩,
   ⟨(some t11), oLenL (.t t10), none, none⟩,
   ⟨(some t12), oMov (.t t1), none, none⟩,
   ⟨(some t13), oLenL (.t t12), none, none⟩,
   ⟨(some t14), oBin (int2 (cmpO neI)) (.t t11) (.t t13), none, none⟩])
 (xCond (.t t14)
 (xSeq (xOps [⟨(some t6), oMov (.v (.bool false)), none, none⟩])
 xRet)
 xSkip))
 (xSeq (xSeq (xOps [⟨(some t15), oMov (.t t0), none, none⟩,
   ⟨(some t16), oLenL (.t t15), none, none⟩,
   ⟨(some t17), oMov (.v (.int .i64 0)), none, none⟩])
 (xBlock 0 (xLoop (xSeq (xOps [⟨(some t18), oBin (int2 (cmpO ltI)) (.t t17) (.t t16), none, none⟩])
 (xSeq (xCond (.t t18)
 xSkip
 (xExit 0))
 (xSeq (xBlock 1 (xSeq (xOps [⟨(some t19), oMov (.t t17), none, none⟩,
   ⟨(some t20), oIdxAddrL 1 (.t t15) (.t t17), none, none⟩,
   ⟨(some t21), oLoad1 (.t t20), none, (some (.t t20))⟩,
   ⟨(some t7), oMov (.t t19), none, none⟩,
   ⟨(some t8), oMov (.t t21), none, none⟩])
 (xSeq (xOps [⟨(some t22), oMov (.t t1), none, none⟩,
   ⟨(some t23), oMov (.t t7), none, none⟩,
   ⟨(some t24), oIdxAddrL 3 (.t t22) (.t t23), none, none⟩,
   ⟨(some t25), oLoadN 3 (.t t24), none, none⟩,
   ⟨(some t9), oNew [(.int .i64 0), (.int .i64 0), (.slice none 0 0)], none, none⟩,
   ⟨none, oStore 3 (.t t9) (.t t25), none, none⟩])
 (xSeq (xOps [⟨(some t26), oMov (.t t2), none, none⟩,
   ⟨(some t27), oMov (.t t8), none, none⟩,
   ⟨(some t28), oLoadN 3 (.t t9), none, none⟩,
   ⟨(some t29), oCallV (.t t26) [(.t t27), (.t t28)], none, none⟩,
   ⟨(some t30), oNot (.t t29), none, none⟩])
 (xCond (.t t30)
 (xSeq (xOps [⟨(some t6), oMov (.v (.bool false)), none, none⟩])
 xRet)
 xSkip)))))
 (xOps [⟨(some t31), oBin (int2 addO) (.t t17) (.v (.int .i64 1)), none, none⟩,
   ⟨(some t17), oMov (.t t31), none, none⟩])))))))
 (xSeq (xOps [⟨(some t6), oMov (.v (.bool true)), none, none⟩])
 xRet))))⟩
theorem ok21 : cFunc Tryz.prog gl ex Tryz.f21 = some c21 := by kernel_rfl
/-- publican/mean.FitsKind -/
def c22 : AFunc := ⟨38, [.tmp t4],
 (xSeq (xOps [⟨(some t3), oBox (.t t1), none, none⟩,
   ⟨(some t4), oMov (.v (.bool false)), none, none⟩])
 (xSeq (xSeq (xOps [⟨(some t6), oFieldAddr 0 (.t t3), none, none⟩,
   ⟨(some t7), oLoad1 (.t t6), none, (some (.t t6))⟩,
   ⟨(some t8), oMov (.t t0), none, none⟩,
   ⟨(some t9), oBin (int2 (cmpO neI)) (.t t7) (.t t8), none, none⟩])
 (xCond (.t t9)
 (xSeq (xOps [⟨(some t4), oMov (.v (.bool false)), none, none⟩])
 xRet)
 xSkip))
 (xSeq (xSeq (xOps [⟨(some t10), oMov (.t t0), none, none⟩,
   ⟨(some t11), oBin (int2 (cmpO neI)) (.t t10) (.v (.int .i64 6)), none, none⟩])
 (xCond (.t t11)
 (xSeq (xOps [⟨(some t12), oMov (.t t0), none, none⟩,
   ⟨(some t13), oFieldAddr 1 (.t t3), none, none⟩,
   ⟨(some t14), oLoad1 (.t t13), none, (some (.t t13))⟩,
   ⟨(some t15), oCall 61 [(.t t12), (.t t14)], none, none⟩,
   ⟨(some t16), oMov (.t t15), none, none⟩,
   ⟨(some t17), oFieldAddr 2 (.t t3), (some (t16, true)), none⟩,
   ⟨(some t18), oLoad1 (.t t17), (some (t16, true)), (some (.t t17))⟩,
   ⟨(some t19), oLenL (.t t18), (some (t16, true)), none⟩,
   ⟨(some t20), oBin (int2 (cmpO eqI)) (.t t19) (.v (.int .i64 0)), (some (t16, true)), none⟩,
   ⟨(some t21), oPick (.t t16) (.t t20) (.v (.bool false)), none, none⟩,
   ⟨(some t4), oMov (.t t21), none, none⟩])
 xRet)
 xSkip))
 (xSeq (xOps [⟨(some t5), oMov (.v (.func (.func 62) #[] #[])), none, none⟩])
 (xSeq (xOps [⟨(some t22), oFieldAddr 1 (.t t3), none, none⟩,
   ⟨(some t23), oLoad1 (.t t22), none, (some (.t t22))⟩,
   ⟨(some t24), oBin (int2 (cmpO eqI)) (.t t23) (.v (.int .i64 0)), none, none⟩,
   ⟨(some t25), oMov (.t t24), none, none⟩,
   ⟨(some t26), oFieldAddr 2 (.t t3), (some (t25, true)), none⟩,
   ⟨(some t27), oLoad1 (.t t26), (some (t25, true)), (some (.t t26))⟩,
   ⟨(some t28), oLenL (.t t27), (some (t25, true)), none⟩,
   ⟨(some t29), oBin (int2 (cmpO leI)) (.t t28) (.v (.int .i64 16)), (some (t25, true)), none⟩,
   ⟨(some t30), oPick (.t t25) (.t t29) (.v (.bool false)), none, none⟩,
   ⟨(some t31), oMov (.t t30), none, none⟩,
   ⟨(some t32), oFieldAddr 2 (.t t3), (some (t31, true)), none⟩,
   ⟨(some t33), oLoad1 (.t t32), (some (t31, true)), (some (.t t32))⟩,
   ⟨(some t34), oMov (.t t5), (some (t31, true)), none⟩,
   ⟨(some t35), oCall 63 [(.t t33), (.t t34)], (some (t31, true)), none⟩,
   ⟨(some t36), oNot (.t t35), (some (t31, true)), none⟩,
   ⟨(some t37), oPick (.t t31) (.t t36) (.v (.bool false)), none, none⟩,
   ⟨(some t4), oMov (.t t37), none, none⟩])
 xRet)))))⟩
theorem ok22 : cFunc Tryz.prog gl ex Tryz.f22 = some c22 := by kernel_rfl
/-- (*publican/mach.machine).step -/
def c23 : AFunc := ⟨208, [.tmp t4],
 (xSeq (xOps [⟨(some t3), oBox (.t t1), none, none⟩,
   ⟨(some t4), oMov (.v (.int .i64 0)), none, none⟩])
 (xSeq (xOps [⟨(some t8), oMov (.t t0), none, none⟩,
   ⟨(some t9), oNilCheck (.t t8), none, none⟩,
   ⟨(some t10), oFieldAddr 12 (.t t9), none, none⟩,
   ⟨(some t11), oLoad1 (.t t10), none, (some (.t t10))⟩,
   ⟨(some t12), oBin (int2 addO) (.t t11) (.v (.int .i64 1)), none, none⟩,
   ⟨(some t13), oNilCheck (.t t8), none, none⟩,
   ⟨(some t14), oFieldAddr 12 (.t t13), none, none⟩,
   ⟨none, oStore 1 (.t t14) (.t t12), none, none⟩])
 (xSeq (xSeq (xOps [⟨(some t16), oFieldAddr 0 (.t t3), none, none⟩,
   ⟨(some t17), oLoad1 (.t t16), none, (some (.t t16))⟩,
   ⟨(some t18), oCall 64 [(.t t17)], none, none⟩,
   ⟨(some t15), oMov (.t t18), none, none⟩,
   ⟨(some t19), oExtract (.t t15) 0, none, none⟩,
   ⟨(some t20), oExtract (.t t15) 1, none, none⟩,
   ⟨(some t5), oMov (.t t19), none, none⟩,
   ⟨(some t6), oMov (.t t20), none, none⟩])
 (xSeq (xOps [⟨(some t21), oMov (.t t6), none, none⟩,
   ⟨(some t22), oBin (int2 (cmpO gtI)) (.t t21) (.v (.int .i64 0)), none, none⟩])
 (xCond (.t t22)
 (xSeq (xOps [⟨(some t23), oMov (.t t0), none, none⟩,
   ⟨(some t24), oMov (.t t5), none, none⟩,
   ⟨(some t25), oMov (.t t6), none, none⟩,
   ⟨(some t26), oCall 65 [(.t t23), (.t t24), (.t t25)], none, none⟩,
   ⟨(some t4), oMov (.t t26), none, none⟩])
 xRet)
 xSkip)))
 (xSeq (xSeq (xOps [⟨(some t27), oFieldAddr 0 (.t t3), none, none⟩,
   ⟨(some t28), oLoad1 (.t t27), none, (some (.t t27))⟩])
 (xBlock 0 (xSeq (xOps [⟨(some t30), oBin (int2 (cmpO eqI)) (.t t28) (.v (.int .i64 0)), none, none⟩,
   ⟨(some t29), oMov (.t t30), none, none⟩])
 (xCond (.t t29)
 (xReg [⟨(some t31), oMov (.t t0), none, none⟩,
   ⟨(some t32), oMov (.t t0), none, none⟩,
   ⟨(some t33), oNilCheck (.t t32), none, none⟩,
   ⟨(some t34), oFieldAddr 0 (.t t33), none, none⟩,
   ⟨(some t35), oFieldAddr 0 (.t t34), none, none⟩,
   ⟨(some t36), oLoad1 (.t t35), none, (some (.t t35))⟩,
   ⟨(some t37), oFieldAddr 1 (.t t3), none, none⟩,
   ⟨(some t38), oLoad1 (.t t37), none, (some (.t t37))⟩,
   ⟨(some t39), oIdxAddrL 3 (.t t36) (.t t38), none, none⟩,
   ⟨(some t40), oLoadN 3 (.t t39), none, none⟩,
   ⟨(some t41), oCall 66 [(.t t31), (.t t40)], none, none⟩] [(0, 1), (0, 2), (0, 3), (0, 4), (0, 5), (0, 6), (1, 6), (2, 6), (3, 6), (4, 6), (5, 6), (0, 7), (1, 7), (2, 7), (3, 7), (4, 7), (5, 7), (0, 8), (0, 9)])
 (xSeq (xOps [⟨(some t43), oBin (int2 (cmpO eqI)) (.t t28) (.v (.int .i64 1)), none, none⟩,
   ⟨(some t42), oMov (.t t43), none, none⟩])
 (xCond (.t t42)
 (xReg [⟨(some t44), oMov (.t t0), none, none⟩,
   ⟨(some t45), oMov (.t t0), none, none⟩,
   ⟨(some t46), oNilCheck (.t t45), none, none⟩,
   ⟨(some t47), oFieldAddr 7 (.t t46), none, none⟩,
   ⟨(some t48), oLoad1 (.t t47), none, (some (.t t47))⟩,
   ⟨(some t49), oFieldAddr 1 (.t t3), none, none⟩,
   ⟨(some t50), oLoad1 (.t t49), none, (some (.t t49))⟩,
   ⟨(some t51), oIdxAddrL 3 (.t t48) (.t t50), none, none⟩,
   ⟨(some t52), oLoadN 3 (.t t51), none, none⟩,
   ⟨(some t53), oCall 66 [(.t t44), (.t t52)], none, none⟩] [(0, 1), (0, 2), (0, 3), (0, 4), (0, 5), (1, 5), (2, 5), (3, 5), (4, 5), (0, 6), (1, 6), (2, 6), (3, 6), (4, 6), (0, 7), (0, 8)])
 (xSeq (xOps [⟨(some t55), oBin (int2 (cmpO eqI)) (.t t28) (.v (.int .i64 2)), none, none⟩,
   ⟨(some t54), oMov (.t t55), none, none⟩])
 (xCond (.t t54)
 (xReg [⟨(some t56), oMov (.t t0), none, none⟩,
   ⟨(some t57), oMov (.t t0), none, none⟩,
   ⟨(some t58), oNilCheck (.t t57), none, none⟩,
   ⟨(some t59), oFieldAddr 9 (.t t58), none, none⟩,
   ⟨(some t60), oLoad1 (.t t59), none, (some (.t t59))⟩,
   ⟨(some t61), oFieldAddr 1 (.t t3), none, none⟩,
   ⟨(some t62), oLoad1 (.t t61), none, (some (.t t61))⟩,
   ⟨(some t63), oIdxAddrL 3 (.t t60) (.t t62), none, none⟩,
   ⟨(some t64), oLoadN 3 (.t t63), none, none⟩,
   ⟨(some t65), oCall 66 [(.t t56), (.t t64)], none, none⟩] [(0, 1), (0, 2), (0, 3), (0, 4), (0, 5), (1, 5), (2, 5), (3, 5), (4, 5), (0, 6), (1, 6), (2, 6), (3, 6), (4, 6), (0, 7), (0, 8)])
 (xSeq (xOps [⟨(some t67), oBin (int2 (cmpO eqI)) (.t t28) (.v (.int .i64 3)), none, none⟩,
   ⟨(some t66), oMov (.t t67), none, none⟩])
 (xCond (.t t66)
 (xReg [⟨(some t68), oMov (.t t0), none, none⟩,
   ⟨(some t69), oNilCheck (.t t68), none, none⟩,
   ⟨(some t70), oFieldAddr 9 (.t t69), none, none⟩,
   ⟨(some t71), oLoad1 (.t t70), none, (some (.t t70))⟩,
   ⟨(some t72), oFieldAddr 1 (.t t3), none, none⟩,
   ⟨(some t73), oLoad1 (.t t72), none, (some (.t t72))⟩,
   ⟨(some t74), oMov (.t t0), none, none⟩,
   ⟨(some t75), oCall 67 [(.t t74)], none, none⟩,
   ⟨(some t76), oIdxAddrL 3 (.t t71) (.t t73), none, none⟩,
   ⟨none, oStore 3 (.t t76) (.t t75), none, none⟩] [(0, 4), (1, 4), (2, 4), (3, 4), (0, 5), (1, 5), (2, 5), (3, 5), (0, 6), (1, 6), (2, 6), (3, 6), (4, 6), (5, 6), (0, 7), (1, 7), (2, 7), (3, 7), (4, 7), (5, 7)])
 (xSeq (xOps [⟨(some t78), oBin (int2 (cmpO eqI)) (.t t28) (.v (.int .i64 15)), none, none⟩,
   ⟨(some t77), oMov (.t t78), none, none⟩])
 (xCond (.t t77)
 (xReg [⟨(some t79), oMov (.t t0), none, none⟩,
   ⟨(some t80), oMov (.t t0), none, none⟩,
   ⟨(some t81), oNilCheck (.t t80), none, none⟩,
   ⟨(some t82), oFieldAddr 7 (.t t81), none, none⟩,
   ⟨(some t83), oLoad1 (.t t82), none, (some (.t t82))⟩,
   ⟨(some t84), oFieldAddr 1 (.t t3), none, none⟩,
   ⟨(some t85), oLoad1 (.t t84), none, (some (.t t84))⟩,
   ⟨(some t86), oIdxAddrL 3 (.t t83) (.t t85), none, none⟩,
   ⟨(some t87), oFieldAddr 2 (.t t86), none, none⟩,
   ⟨(some t88), oLoad1 (.t t87), none, (some (.t t87))⟩,
   ⟨(some t89), oLenL (.t t88), none, none⟩,
   ⟨(some t90), oBuild [(.int .i64 0), (.int .i64 0), (.slice none 0 0)] [(0, 1, (.v (.int .i64 2))), (1, 1, (.t t89))], none, none⟩,
   ⟨(some t91), oCall 66 [(.t t79), (.t t90)], none, none⟩] [(0, 1), (0, 2), (0, 3), (0, 4), (0, 5), (1, 5), (2, 5), (3, 5), (4, 5), (0, 6), (1, 6), (2, 6), (3, 6), (4, 6), (0, 7), (0, 8), (0, 9), (0, 10), (0, 11)])
 (xSeq (xOps [⟨(some t93), oBin (int2 (cmpO eqI)) (.t t28) (.v (.int .i64 16)), none, none⟩,
   ⟨(some t92), oMov (.t t93), none, none⟩])
 (xCond (.t t92)
 (xReg [⟨(some t94), oMov (.t t0), none, none⟩,
   ⟨(some t95), oMov (.t t0), none, none⟩,
   ⟨(some t96), oNilCheck (.t t95), none, none⟩,
   ⟨(some t97), oFieldAddr 0 (.t t96), none, none⟩,
   ⟨(some t98), oFieldAddr 1 (.t t97), none, none⟩,
   ⟨(some t99), oLoad1 (.t t98), none, (some (.t t98))⟩,
   ⟨(some t100), oFieldAddr 1 (.t t3), none, none⟩,
   ⟨(some t101), oLoad1 (.t t100), none, (some (.t t100))⟩,
   ⟨(some t102), oIdxAddrL 4 (.t t99) (.t t101), none, none⟩,
   ⟨(some t103), oLoadN 4 (.t t102), none, none⟩,
   ⟨(some t104), oMov (.t t0), none, none⟩,
   ⟨(some t105), oCall 67 [(.t t104)], none, none⟩,
   ⟨(some t106), oField none 1 (.t t105), none, none⟩,
   ⟨(some t107), oCall 68 [(.t t103), (.t t106)], none, none⟩,
   ⟨(some t108), oCall 66 [(.t t94), (.t t107)], none, none⟩] [(0, 1), (0, 2), (0, 3), (0, 4), (0, 5), (0, 6), (1, 6), (2, 6), (3, 6), (4, 6), (5, 6), (0, 7), (1, 7), (2, 7), (3, 7), (4, 7), (5, 7), (0, 8), (0, 9), (0, 10), (1, 10), (2, 10), (3, 10), (4, 10), (5, 10), (6, 10), (7, 10), (8, 10), (9, 10), (0, 11), (1, 11), (2, 11), (3, 11), (4, 11), (5, 11), (6, 11), (7, 11), (8, 11), (9, 11), (0, 12), (1, 12), (2, 12), (3, 12), (4, 12), (5, 12), (6, 12), (7, 12), (8, 12), (9, 12), (0, 13)])
 (xSeq (xOps [⟨(some t110), oBin (int2 (cmpO eqI)) (.t t28) (.v (.int .i64 17)), none, none⟩,
   ⟨(some t109), oMov (.t t110), none, none⟩])
 (xCond (.t t109)
 (xOps [⟨(some t111), oMov (.t t0), none, none⟩,
   ⟨(some t112), oFieldAddr 1 (.t t3), none, none⟩,
   ⟨(some t113), oLoad1 (.t t112), none, (some (.t t112))⟩,
   ⟨(some t114), oNilCheck (.t t111), none, none⟩,
   ⟨(some t115), oFieldAddr 12 (.t t114), none, none⟩,
   ⟨none, oStore 1 (.t t115) (.t t113), none, none⟩])
 (xSeq (xOps [⟨(some t117), oBin (int2 (cmpO eqI)) (.t t28) (.v (.int .i64 18)), none, none⟩,
   ⟨(some t116), oMov (.t t117), none, none⟩])
 (xCond (.t t116)
 (xSeq (xOps [⟨(some t118), oMov (.t t0), none, none⟩,
   ⟨(some t119), oCall 67 [(.t t118)], none, none⟩,
   ⟨(some t120), oField none 1 (.t t119), none, none⟩,
   ⟨(some t121), oBin (int2 (cmpO eqI)) (.t t120) (.v (.int .i64 0)), none, none⟩])
 (xCond (.t t121)
 (xOps [⟨(some t122), oMov (.t t0), none, none⟩,
   ⟨(some t123), oFieldAddr 1 (.t t3), none, none⟩,
   ⟨(some t124), oLoad1 (.t t123), none, (some (.t t123))⟩,
   ⟨(some t125), oNilCheck (.t t122), none, none⟩,
   ⟨(some t126), oFieldAddr 12 (.t t125), none, none⟩,
   ⟨none, oStore 1 (.t t126) (.t t124), none, none⟩])
 xSkip))
 (xSeq (xOps [⟨(some t128), oBin (int2 (cmpO eqI)) (.t t28) (.v (.int .i64 19)), none, none⟩,
   ⟨(some t127), oMov (.t t128), none, none⟩])
 (xCond (.t t127)
 (xSeq (xReg [⟨(some t129), oMov (.t t0), none, none⟩,
   ⟨(some t130), oNilCheck (.t t129), none, none⟩,
   ⟨(some t131), oFieldAddr 7 (.t t130), none, none⟩,
   ⟨(some t132), oLoad1 (.t t131), none, (some (.t t131))⟩,
   ⟨(some t133), oFieldAddr 1 (.t t3), none, none⟩,
   ⟨(some t134), oLoad1 (.t t133), none, (some (.t t133))⟩,
   ⟨(some t135), oIdxAddrL 3 (.t t132) (.t t134), none, none⟩,
   ⟨(some t136), oFieldAddr 2 (.t t135), none, none⟩,
   ⟨(some t137), oLoad1 (.t t136), none, (some (.t t136))⟩,
   ⟨(some t138), oLenL (.t t137), none, none⟩,
   ⟨(some t139), oBin (int2 (cmpO eqI)) (.t t138) (.v (.int .i64 0)), none, none⟩] [(0, 4), (1, 4), (2, 4), (3, 4), (0, 5), (1, 5), (2, 5), (3, 5)])
 (xCond (.t t139)
 (xOps [⟨(some t140), oMov (.t t0), none, none⟩,
   ⟨(some t141), oFieldAddr 3 (.t t3), none, none⟩,
   ⟨(some t142), oLoad1 (.t t141), none, (some (.t t141))⟩,
   ⟨(some t143), oNilCheck (.t t140), none, none⟩,
   ⟨(some t144), oFieldAddr 12 (.t t143), none, none⟩,
   ⟨none, oStore 1 (.t t144) (.t t142), none, none⟩])
 (xOps [⟨(some t145), oMov (.t t0), none, none⟩,
   ⟨(some t146), oLoadN 4 (.t t3), none, none⟩,
   ⟨(some t147), oCall 69 [(.t t145), (.t t146), (.v (.int .i64 0))], none, none⟩])))
 (xSeq (xOps [⟨(some t149), oBin (int2 (cmpO eqI)) (.t t28) (.v (.int .i64 20)), none, none⟩,
   ⟨(some t148), oMov (.t t149), none, none⟩])
 (xCond (.t t148)
 (xSeq (xReg [⟨(some t150), oMov (.t t0), none, none⟩,
   ⟨(some t151), oNilCheck (.t t150), none, none⟩,
   ⟨(some t152), oFieldAddr 9 (.t t151), none, none⟩,
   ⟨(some t153), oLoad1 (.t t152), none, (some (.t t152))⟩,
   ⟨(some t154), oFieldAddr 2 (.t t3), none, none⟩,
   ⟨(some t155), oLoad1 (.t t154), none, (some (.t t154))⟩,
   ⟨(some t156), oIdxAddrL 3 (.t t153) (.t t155), none, none⟩,
   ⟨(some t157), oFieldAddr 1 (.t t156), none, none⟩,
   ⟨(some t158), oLoad1 (.t t157), none, (some (.t t157))⟩,
   ⟨(some t159), oBin (int2 addO) (.t t158) (.v (.int .i64 1)), none, none⟩,
   ⟨(some t7), oMov (.t t159), none, none⟩] [(0, 4), (1, 4), (2, 4), (3, 4), (0, 5), (1, 5), (2, 5), (3, 5)])
 (xSeq (xReg [⟨(some t160), oMov (.t t7), none, none⟩,
   ⟨(some t161), oMov (.t t0), none, none⟩,
   ⟨(some t162), oNilCheck (.t t161), none, none⟩,
   ⟨(some t163), oFieldAddr 7 (.t t162), none, none⟩,
   ⟨(some t164), oLoad1 (.t t163), none, (some (.t t163))⟩,
   ⟨(some t165), oFieldAddr 1 (.t t3), none, none⟩,
   ⟨(some t166), oLoad1 (.t t165), none, (some (.t t165))⟩,
   ⟨(some t167), oIdxAddrL 3 (.t t164) (.t t166), none, none⟩,
   ⟨(some t168), oFieldAddr 2 (.t t167), none, none⟩,
   ⟨(some t169), oLoad1 (.t t168), none, (some (.t t168))⟩,
   ⟨(some t170), oLenL (.t t169), none, none⟩,
   ⟨(some t171), oBin (int2 (cmpO ltI)) (.t t160) (.t t170), none, none⟩] [(0, 1), (0, 2), (0, 3), (0, 4), (0, 5), (1, 5), (2, 5), (3, 5), (4, 5), (0, 6), (1, 6), (2, 6), (3, 6), (4, 6), (0, 7), (0, 8), (0, 9), (0, 10)])
 (xCond (.t t171)
 (xSeq (xOps [⟨(some t172), oMov (.t t0), none, none⟩,
   ⟨(some t173), oLoadN 4 (.t t3), none, none⟩,
   ⟨(some t174), oMov (.t t7), none, none⟩,
   ⟨(some t175), oCall 69 [(.t t172), (.t t173), (.t t174)], none, none⟩])
 (xOps [⟨(some t176), oMov (.t t0), none, none⟩,
   ⟨(some t177), oFieldAddr 3 (.t t3), none, none⟩,
   ⟨(some t178), oLoad1 (.t t177), none, (some (.t t177))⟩,
   ⟨(some t179), oNilCheck (.t t176), none, none⟩,
   ⟨(some t180), oFieldAddr 12 (.t t179), none, none⟩,
   ⟨none, oStore 1 (.t t180) (.t t178), none, none⟩]))
 (xReg [⟨(some t181), oMov (.t t0), none, none⟩,
   ⟨(some t182), oNilCheck (.t t181), none, none⟩,
   ⟨(some t183), oFieldAddr 9 (.t t182), none, none⟩,
   ⟨(some t184), oLoad1 (.t t183), none, (some (.t t183))⟩,
   ⟨(some t185), oFieldAddr 2 (.t t3), none, none⟩,
   ⟨(some t186), oLoad1 (.t t185), none, (some (.t t185))⟩,
   ⟨(some t187), oMov (.t t7), none, none⟩,
   ⟨(some t188), oIdxAddrL 3 (.t t184) (.t t186), none, none⟩,
   ⟨(some t189), oFieldAddr 1 (.t t188), none, none⟩,
   ⟨none, oStore 1 (.t t189) (.t t187), none, none⟩] [(0, 4), (1, 4), (2, 4), (3, 4), (0, 5), (1, 5), (2, 5), (3, 5), (0, 6), (1, 6), (2, 6), (3, 6), (4, 6), (5, 6)]))))
 (xSeq (xOps [⟨(some t191), oBin (int2 (cmpO eqI)) (.t t28) (.v (.int .i64 21)), none, none⟩,
   ⟨(some t190), oMov (.t t191), none, none⟩])
 (xCond (.t t190)
 (xOps [⟨(some t192), oMov (.t t0), none, none⟩,
   ⟨(some t193), oFieldAddr 1 (.t t3), none, none⟩,
   ⟨(some t194), oLoad1 (.t t193), none, (some (.t t193))⟩,
   ⟨(some t195), oNilCheck (.t t192), none, none⟩,
   ⟨(some t196), oFieldAddr 11 (.t t195), none, none⟩,
   ⟨none, oStore 1 (.t t196) (.t t194), none, none⟩])
 (xSeq (xOps [⟨(some t198), oBin (int2 (cmpO eqI)) (.t t28) (.v (.int .i64 22)), none, none⟩,
   ⟨(some t197), oMov (.t t198), none, none⟩])
 (xCond (.t t197)
 (xReg [⟨(some t199), oMov (.t t0), none, none⟩,
   ⟨(some t200), oNilCheck (.t t199), none, none⟩,
   ⟨(some t201), oFieldAddr 10 (.t t200), none, none⟩,
   ⟨(some t202), oLoad1 (.t t201), none, (some (.t t201))⟩,
   ⟨(some t203), oFieldAddr 1 (.t t3), none, none⟩,
   ⟨(some t204), oLoad1 (.t t203), none, (some (.t t203))⟩,
   ⟨(some t205), oMov (.t t0), none, none⟩,
   ⟨(some t206), oCall 67 [(.t t205)], none, none⟩,
   ⟨(some t207), oIdxAddrL 3 (.t t202) (.t t204), none, none⟩,
   ⟨none, oStore 3 (.t t207) (.t t206), none, none⟩] [(0, 4), (1, 4), (2, 4), (3, 4), (0, 5), (1, 5), (2, 5), (3, 5), (0, 6), (1, 6), (2, 6), (3, 6), (4, 6), (5, 6), (0, 7), (1, 7), (2, 7), (3, 7), (4, 7), (5, 7)])
 xSkip))))))))))))))))))))))))))
 (xSeq (xOps [⟨(some t4), oMov (.v (.int .i64 0)), none, none⟩])
 xRet)))))⟩
theorem ok23 : cFunc Tryz.prog gl ex Tryz.f23 = some c23 := by kernel_rfl
/-- publican/code.Decode -/
def c24 : AFunc := ⟨99, [.cell t2 (some 7), .tmp t3],
 (xSeq (xOps [⟨(some t2), oNew (rep 7 [(.slice none 0 0)]), none, none⟩,
   ⟨(some t3), oMov (.v (.int .i64 0)), none, none⟩])
 (xSeq (xOps [⟨(some t10), oCall 48 [], none, none⟩,
   ⟨(some t11), oLenL (.t t10), none, none⟩,
   ⟨(some t4), oMov (.t t11), none, none⟩])
 (xSeq (xSeq (xReg [⟨(some t12), oMov (.t t0), none, none⟩,
   ⟨(some t13), oLenL (.t t12), none, none⟩,
   ⟨(some t14), oMov (.t t4), none, none⟩,
   ⟨(some t15), oBin (int2 addO) (.t t14) (.v (.int .i64 4)), none, none⟩,
   ⟨(some t16), oBin (int2 (cmpO ltI)) (.t t13) (.t t15), none, none⟩,
   ⟨(some t17), oMov (.t t16), none, none⟩,
   ⟨(some t18), oMov (.t t0), (some (t17, false)), none⟩,
   ⟨(some t19), oMov (.t t4), (some (t17, false)), none⟩,
   ⟨(some t20), oSliceL 1 (.t t18) none (some (.t t19)) none, (some (t17, false)), none⟩,
   ⟨(some t21), oCall 48 [], (some (t17, false)), none⟩,
   ⟨(some t22), oCall 70 [(.t t20), (.t t21)], (some (t17, false)), none⟩,
   ⟨(some t23), oNot (.t t22), (some (t17, false)), none⟩,
   ⟨(some t24), oPick (.t t17) (.v (.bool true)) (.t t23), none, none⟩] [(0, 2), (1, 2), (0, 3), (1, 3), (6, 7), (6, 9), (7, 9), (8, 9)])
 (xCond (.t t24)
 (xSeq (xOps [⟨(some t25), oBuild (rep 7 [(.slice none 0 0)]) [], none, none⟩,
   ⟨none, oStore 7 (.t t2) (.t t25), none, none⟩,
   ⟨(some t3), oMov (.v (.int .i64 3)), none, none⟩])
 xRet)
 xSkip))
 (xSeq (xReg [⟨(some t26), oMov (.t t0), none, none⟩,
   ⟨(some t27), oMov (.t t0), none, none⟩,
   ⟨(some t28), oLenL (.t t27), none, none⟩,
   ⟨(some t29), oBin (int2 subO) (.t t28) (.v (.int .i64 4)), none, none⟩,
   ⟨(some t30), oSliceL 1 (.t t26) none (some (.t t29)) none, none, none⟩,
   ⟨(some t31), oMov (.t t0), none, none⟩,
   ⟨(some t32), oMov (.t t0), none, none⟩,
   ⟨(some t33), oLenL (.t t32), none, none⟩,
   ⟨(some t34), oBin (int2 subO) (.t t33) (.v (.int .i64 4)), none, none⟩,
   ⟨(some t35), oSliceL 1 (.t t31) none (some (.t t34)) none, none, none⟩,
   ⟨(some t36), oCall 52 [(.t t35)], none, none⟩,
   ⟨(some t5), oMov (.t t30), none, none⟩,
   ⟨(some t6), oMov (.t t36), none, none⟩] [(0, 1), (0, 2), (0, 3), (0, 5), (1, 5), (2, 5), (3, 5), (4, 5), (0, 6), (1, 6), (2, 6), (3, 6), (4, 6), (5, 6), (0, 7), (1, 7), (2, 7), (3, 7), (4, 7), (5, 7), (0, 8), (1, 8), (2, 8), (3, 8), (4, 8), (5, 8), (0, 9), (1, 9), (2, 9), (3, 9), (4, 9), (0, 10), (1, 10), (2, 10), (3, 10), (4, 10)])
 (xSeq (xSeq (xOps [⟨(some t37), oMov (.t t0), none, none⟩,
   ⟨(some t38), oMov (.t t5), none, none⟩,
   ⟨(some t39), oLenL (.t t38), none, none⟩,
   ⟨(some t40), oSliceL 1 (.t t37) (some (.t t39)) none none, none, none⟩,
   ⟨(some t41), oMov (.t t6), none, none⟩,
   ⟨(some t42), oConv .u8 (.t t41), none, none⟩,
   ⟨(some t43), oMov (.t t6), none, none⟩,
   ⟨(some t44), oBin (sh2 shrO) (.t t43) (.v (.int .u64 8)), none, none⟩,
   ⟨(some t45), oConv .u8 (.t t44), none, none⟩,
   ⟨(some t46), oMov (.t t6), none, none⟩,
   ⟨(some t47), oBin (sh2 shrO) (.t t46) (.v (.int .u64 16)), none, none⟩,
   ⟨(some t48), oConv .u8 (.t t47), none, none⟩,
   ⟨(some t49), oMov (.t t6), none, none⟩,
   ⟨(some t50), oBin (sh2 shrO) (.t t49) (.v (.int .u64 24)), none, none⟩,
   ⟨(some t51), oConv .u8 (.t t50), none, none⟩,
   ⟨(some t52), oBuildSlice 4 [(.int .u8 0), (.int .u8 0), (.int .u8 0), (.int .u8 0)] [(0, 1, (.t t42)), (1, 1, (.t t45)), (2, 1, (.t t48)), (3, 1, (.t t51))], none, none⟩,
   ⟨(some t53), oCall 70 [(.t t40), (.t t52)], none, none⟩,
   ⟨(some t54), oNot (.t t53), none, none⟩])
 (xCond (.t t54)
 (xSeq (xOps [⟨(some t55), oBuild (rep 7 [(.slice none 0 0)]) [], none, none⟩,
   ⟨none, oStore 7 (.t t2) (.t t55), none, none⟩,
   ⟨(some t3), oMov (.v (.int .i64 3)), none, none⟩])
 xRet)
 xSkip))
 (xSeq (xOps [⟨(some t56), oMov (.t t5), none, none⟩,
   ⟨(some t57), oMov (.t t4), none, none⟩,
   ⟨(some t58), oSliceL 1 (.t t56) (some (.t t57)) none none, none, none⟩,
   ⟨(some t59), oCall 71 [(.t t58)], none, none⟩,
   ⟨(some t7), oNew [(.pointer none)], none, none⟩,
   ⟨none, oStore 1 (.t t7) (.t t59), none, none⟩])
 (xSeq (xOps [⟨(some t60), oFunc (.func 72) [] [(.t t7)], none, none⟩,
   ⟨(some t8), oNew [.nilFunc], none, none⟩,
   ⟨none, oStore 1 (.t t8) (.t t60), none, none⟩])
 (xSeq (xOps [⟨(some t9), oNew (rep 7 [(.slice none 0 0)]), none, none⟩])
 (xSeq (xOps [⟨(some t61), oLoad1 (.t t7), none, (some (.t t7))⟩,
   ⟨(some t62), oFunc (.func 75) [] [(.t t8), (.t t7)], none, none⟩,
   ⟨(some t63), oCall 74 [(.t t61), (.t t62)], none, none⟩,
   ⟨(some t64), oFieldAddr 0 (.t t9), none, none⟩,
   ⟨none, oStore 1 (.t t64) (.t t63), none, none⟩])
 (xSeq (xOps [⟨(some t65), oLoad1 (.t t7), none, (some (.t t7))⟩,
   ⟨(some t66), oFunc (.func 77) [] [(.t t8), (.t t7)], none, none⟩,
   ⟨(some t67), oCall 76 [(.t t65), (.t t66)], none, none⟩,
   ⟨(some t68), oFieldAddr 1 (.t t9), none, none⟩,
   ⟨none, oStore 1 (.t t68) (.t t67), none, none⟩])
 (xSeq (xOps [⟨(some t69), oLoad1 (.t t7), none, (some (.t t7))⟩,
   ⟨(some t70), oLoad1 (.t t8), none, (some (.t t8))⟩,
   ⟨(some t71), oCall 79 [(.t t69), (.t t70)], none, none⟩,
   ⟨(some t72), oFieldAddr 2 (.t t9), none, none⟩,
   ⟨none, oStore 1 (.t t72) (.t t71), none, none⟩])
 (xSeq (xOps [⟨(some t73), oLoad1 (.t t7), none, (some (.t t7))⟩,
   ⟨(some t74), oLoad1 (.t t8), none, (some (.t t8))⟩,
   ⟨(some t75), oCall 79 [(.t t73), (.t t74)], none, none⟩,
   ⟨(some t76), oFieldAddr 3 (.t t9), none, none⟩,
   ⟨none, oStore 1 (.t t76) (.t t75), none, none⟩])
 (xSeq (xOps [⟨(some t77), oLoad1 (.t t7), none, (some (.t t7))⟩,
   ⟨(some t78), oLoad1 (.t t8), none, (some (.t t8))⟩,
   ⟨(some t79), oCall 79 [(.t t77), (.t t78)], none, none⟩,
   ⟨(some t80), oFieldAddr 4 (.t t9), none, none⟩,
   ⟨none, oStore 1 (.t t80) (.t t79), none, none⟩])
 (xSeq (xOps [⟨(some t81), oLoad1 (.t t7), none, (some (.t t7))⟩,
   ⟨(some t82), oLoad1 (.t t7), none, (some (.t t7))⟩,
   ⟨(some t83), oFunc (.func 81) [(.t t82)] [], none, none⟩,
   ⟨(some t84), oCall 80 [(.t t81), (.t t83)], none, none⟩,
   ⟨(some t85), oFieldAddr 5 (.t t9), none, none⟩,
   ⟨none, oStore 1 (.t t85) (.t t84), none, none⟩])
 (xSeq (xOps [⟨(some t86), oLoad1 (.t t7), none, (some (.t t7))⟩,
   ⟨(some t87), oFunc (.func 83) [] [(.t t7)], none, none⟩,
   ⟨(some t88), oCall 82 [(.t t86), (.t t87)], none, none⟩,
   ⟨(some t89), oFieldAddr 6 (.t t9), none, none⟩,
   ⟨none, oStore 1 (.t t89) (.t t88), none, none⟩])
 (xSeq (xSeq (xOps [⟨(some t90), oLoad1 (.t t7), none, (some (.t t7))⟩,
   ⟨(some t91), oCall 84 [(.t t90)], none, none⟩,
   ⟨(some t92), oMov (.t t91), none, none⟩,
   ⟨(some t93), oLoad1 (.t t7), (some (t92, false)), (some (.t t7))⟩,
   ⟨(some t94), oCall 85 [(.t t93)], (some (t92, false)), none⟩,
   ⟨(some t95), oBin (int2 (cmpO gtI)) (.t t94) (.v (.int .i64 0)), (some (t92, false)), none⟩,
   ⟨(some t96), oPick (.t t92) (.v (.bool true)) (.t t95), none, none⟩])
 (xCond (.t t96)
 (xSeq (xOps [⟨(some t97), oBuild (rep 7 [(.slice none 0 0)]) [], none, none⟩,
   ⟨none, oStore 7 (.t t2) (.t t97), none, none⟩,
   ⟨(some t3), oMov (.v (.int .i64 3)), none, none⟩])
 xRet)
 xSkip))
 (xSeq (xOps [⟨(some t98), oLoadN 7 (.t t9), none, none⟩,
   ⟨none, oStore 7 (.t t2) (.t t98), none, none⟩,
   ⟨(some t3), oMov (.v (.int .i64 0)), none, none⟩])
 xRet)))))))))))))))))⟩
theorem ok24 : cFunc Tryz.prog gl ex Tryz.f24 = some c24 := by kernel_rfl
end
end Go.Proofs.YtoabiapkdnibkaaGreat.AbsMachK
