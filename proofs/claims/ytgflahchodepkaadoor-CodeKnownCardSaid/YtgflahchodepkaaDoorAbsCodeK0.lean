import Derived.Test.YtgflahchodepkaaDoorRows
import Derived.Test.YtgflahchodepkaaDoorAbsCodeKT
import Derived.KernelRfl
namespace Go.Proofs.YtgflahchodepkaaDoor.AbsCodeK
open Go Go.Abs Go.Proofs
set_option maxRecDepth 100000
set_option linter.unusedVariables false
noncomputable section
/-- publican/publicanlaw14.CodeKnown -/
def c3 : AFunc := ⟨34, [.tmp t0],
 (xSeq (xOps [⟨(some t0), oMov (.v (.bool false)), none⟩])
 (xSeq (xSeq (xOps [⟨(some t3), oCall 7 [], none⟩,
   ⟨(some t4), oNot (.t t3), none⟩])
 (xCond (.t t4)
 (xSeq (xOps [⟨(some t0), oMov (.v (.bool false)), none⟩])
 xRet)
 xSkip))
 (xSeq (xOps [⟨(some t6), oCall 8 [(.v (.slice none 0 0))], none⟩,
   ⟨(some t5), oMov (.t t6), none⟩,
   ⟨(some t7), oExtract (.t t5) 0, none⟩,
   ⟨(some t8), oExtract (.t t5) 1, none⟩,
   ⟨(some t1), oNew (rep 7 [(.slice none 0 0)]), none⟩,
   ⟨none, oStore 7 (.t t1) (.t t7), none⟩,
   ⟨(some t2), oMov (.t t8), none⟩])
 (xSeq (xOps [⟨(some t9), oMov (.t t2), none⟩,
   ⟨(some t10), oBin (int2 (cmpO eqI)) (.t t9) (.v (.int .i64 3)), none⟩,
   ⟨(some t11), oMov (.t t10), none⟩,
   ⟨(some t12), oCall 9 [(.v (.int .i64 24))], (some (t11, true))⟩,
   ⟨(some t13), oBin (str2 (cmpS eqBytes)) (.t t12) (.v (.string ⟨⟨[]⟩⟩)), (some (t11, true))⟩,
   ⟨(some t14), oPick (.t t11) (.t t13) (.v (.bool false)), none⟩,
   ⟨(some t15), oMov (.t t14), none⟩,
   ⟨(some t16), oCall 9 [(.v (.int .i64 (-1)))], (some (t15, true))⟩,
   ⟨(some t17), oBin (str2 (cmpS eqBytes)) (.t t16) (.v (.string ⟨⟨[]⟩⟩)), (some (t15, true))⟩,
   ⟨(some t18), oPick (.t t15) (.t t17) (.v (.bool false)), none⟩,
   ⟨(some t19), oMov (.t t18), none⟩,
   ⟨(some t20), oBuild [(.int .i64 0), (.int .i64 0), (.int .i64 0), (.int .i64 0)] [(0, 1, (.v (.int .i64 19))), (1, 1, (.v (.int .i64 1))), (2, 1, (.v (.int .i64 2))), (3, 1, (.v (.int .i64 3)))], (some (t19, true))⟩,
   ⟨(some t21), oCall 10 [(.t t20)], (some (t19, true))⟩,
   ⟨(some t22), oBin (str2 (cmpS eqBytes)) (.t t21) (.v (.string ⟨⟨[102, 105, 114, 115, 116, 32, 49, 32, 50, 32, 51]⟩⟩)), (some (t19, true))⟩,
   ⟨(some t23), oPick (.t t19) (.t t22) (.v (.bool false)), none⟩,
   ⟨(some t24), oMov (.t t23), none⟩,
   ⟨(some t25), oBuild [(.int .i64 0), (.int .i64 0), (.int .i64 0), (.int .i64 0)] [(0, 1, (.v (.int .i64 23))), (1, 1, (.v (.int .i64 9)))], (some (t24, true))⟩,
   ⟨(some t26), oCall 10 [(.t t25)], (some (t24, true))⟩,
   ⟨(some t27), oBin (str2 (cmpS eqBytes)) (.t t26) (.v (.string ⟨⟨[104, 97, 108, 116]⟩⟩)), (some (t24, true))⟩,
   ⟨(some t28), oPick (.t t24) (.t t27) (.v (.bool false)), none⟩,
   ⟨(some t29), oMov (.t t28), none⟩,
   ⟨(some t30), oBuild [(.int .i64 0), (.int .i64 0), (.int .i64 0), (.int .i64 0)] [(0, 1, (.v (.int .i64 (-1))))], (some (t29, true))⟩,
   ⟨(some t31), oCall 10 [(.t t30)], (some (t29, true))⟩,
   ⟨(some t32), oBin (str2 (cmpS eqBytes)) (.t t31) (.v (.string ⟨⟨[]⟩⟩)), (some (t29, true))⟩,
   ⟨(some t33), oPick (.t t29) (.t t32) (.v (.bool false)), none⟩,
   ⟨(some t0), oMov (.t t33), none⟩])
 xRet))))⟩
theorem ok3 : cFunc Tryd.prog gl ex Tryd.f3 = some c3 := by kernel_rfl
/-- publican/publicanlaw14.awake -/
def c7 : AFunc := ⟨44, [.tmp t0],
 (xSeq (xOps [⟨(some t0), oMov (.v (.bool false)), none⟩])
 (xSeq (xOps [⟨(some t4), oCall 18 [], none⟩,
   ⟨(some t5), oCall 12 [(.t t4)], none⟩,
   ⟨(some t1), oMov (.t t5), none⟩])
 (xSeq (xOps [⟨(some t7), oMov (.t t1), none⟩,
   ⟨(some t8), oCall 8 [(.t t7)], none⟩,
   ⟨(some t6), oMov (.t t8), none⟩,
   ⟨(some t9), oExtract (.t t6) 0, none⟩,
   ⟨(some t10), oExtract (.t t6) 1, none⟩,
   ⟨(some t2), oNew (rep 7 [(.slice none 0 0)]), none⟩,
   ⟨none, oStore 7 (.t t2) (.t t9), none⟩,
   ⟨(some t3), oMov (.t t10), none⟩])
 (xSeq (xReg [⟨(some t11), oMov (.t t3), none⟩,
   ⟨(some t12), oBin (int2 (cmpO eqI)) (.t t11) (.v (.int .i64 0)), none⟩,
   ⟨(some t13), oMov (.t t12), none⟩,
   ⟨(some t14), oMov (.t t1), (some (t13, true))⟩,
   ⟨(some t15), oLenL (.t t14), (some (t13, true))⟩,
   ⟨(some t16), oBin (int2 (cmpO gtI)) (.t t15) (.v (.int .i64 8)), (some (t13, true))⟩,
   ⟨(some t17), oPick (.t t13) (.t t16) (.v (.bool false)), none⟩,
   ⟨(some t18), oMov (.t t17), none⟩,
   ⟨(some t19), oMov (.t t1), (some (t18, true))⟩,
   ⟨(some t20), oSliceL 1 (.t t19) none (some (.v (.int .i64 4))) none, (some (t18, true))⟩,
   ⟨(some t21), oBytesStr (.t t20), (some (t18, true))⟩,
   ⟨(some t22), oBin (str2 (cmpS eqBytes)) (.t t21) (.v (.string ⟨⟨[70, 73, 83, 67]⟩⟩)), (some (t18, true))⟩,
   ⟨(some t23), oPick (.t t18) (.t t22) (.v (.bool false)), none⟩,
   ⟨(some t24), oMov (.t t23), none⟩,
   ⟨(some t25), oLoadN 7 (.t t2), (some (t24, true))⟩,
   ⟨(some t26), oCall 18 [], (some (t24, true))⟩,
   ⟨(some t27), oCall 14 [(.t t25), (.t t26)], (some (t24, true))⟩,
   ⟨(some t28), oPick (.t t24) (.t t27) (.v (.bool false)), none⟩,
   ⟨(some t29), oMov (.t t28), none⟩,
   ⟨(some t30), oLoadN 7 (.t t2), (some (t29, true))⟩,
   ⟨(some t31), oBuild (rep 7 [(.slice none 0 0)]) [], (some (t29, true))⟩,
   ⟨(some t32), oCall 14 [(.t t30), (.t t31)], (some (t29, true))⟩,
   ⟨(some t33), oNot (.t t32), (some (t29, true))⟩,
   ⟨(some t34), oPick (.t t29) (.t t33) (.v (.bool false)), none⟩,
   ⟨(some t35), oMov (.t t34), none⟩,
   ⟨(some t36), oBuild [(.int .i64 0), (.int .i64 0), (.int .i64 0), (.int .i64 0)] [(0, 1, (.v (.int .i64 4))), (1, 1, (.v (.int .i64 3)))], (some (t35, true))⟩,
   ⟨(some t37), oCall 10 [(.t t36)], (some (t35, true))⟩,
   ⟨(some t38), oBin (str2 (cmpS eqBytes)) (.t t37) (.v (.string ⟨⟨[97, 100, 100, 32, 51]⟩⟩)), (some (t35, true))⟩,
   ⟨(some t39), oPick (.t t35) (.t t38) (.v (.bool false)), none⟩,
   ⟨(some t40), oMov (.t t39), none⟩,
   ⟨(some t41), oCall 9 [(.v (.int .i64 23))], (some (t40, true))⟩,
   ⟨(some t42), oBin (str2 (cmpS eqBytes)) (.t t41) (.v (.string ⟨⟨[104, 97, 108, 116]⟩⟩)), (some (t40, true))⟩,
   ⟨(some t43), oPick (.t t40) (.t t42) (.v (.bool false)), none⟩,
   ⟨(some t0), oMov (.t t43), none⟩] [(14, 15), (19, 20)])
 xRet))))⟩
theorem ok7 : cFunc Tryd.prog gl ex Tryd.f7 = some c7 := by kernel_rfl
/-- publican/code.Decode -/
def c8 : AFunc := ⟨99, [.cell t2 (some 7), .tmp t3],
 (xSeq (xOps [⟨(some t2), oNew (rep 7 [(.slice none 0 0)]), none⟩,
   ⟨(some t3), oMov (.v (.int .i64 0)), none⟩])
 (xSeq (xOps [⟨(some t10), oCall 19 [], none⟩,
   ⟨(some t11), oLenL (.t t10), none⟩,
   ⟨(some t4), oMov (.t t11), none⟩])
 (xSeq (xSeq (xReg [⟨(some t12), oMov (.t t0), none⟩,
   ⟨(some t13), oLenL (.t t12), none⟩,
   ⟨(some t14), oMov (.t t4), none⟩,
   ⟨(some t15), oBin (int2 addO) (.t t14) (.v (.int .i64 4)), none⟩,
   ⟨(some t16), oBin (int2 (cmpO ltI)) (.t t13) (.t t15), none⟩,
   ⟨(some t17), oMov (.t t16), none⟩,
   ⟨(some t18), oMov (.t t0), (some (t17, false))⟩,
   ⟨(some t19), oMov (.t t4), (some (t17, false))⟩,
   ⟨(some t20), oSliceL 1 (.t t18) none (some (.t t19)) none, (some (t17, false))⟩,
   ⟨(some t21), oCall 19 [], (some (t17, false))⟩,
   ⟨(some t22), oCall 20 [(.t t20), (.t t21)], (some (t17, false))⟩,
   ⟨(some t23), oNot (.t t22), (some (t17, false))⟩,
   ⟨(some t24), oPick (.t t17) (.v (.bool true)) (.t t23), none⟩] [(0, 2), (1, 2), (0, 3), (1, 3), (6, 7), (6, 9), (7, 9), (8, 9)])
 (xCond (.t t24)
 (xSeq (xOps [⟨(some t25), oBuild (rep 7 [(.slice none 0 0)]) [], none⟩,
   ⟨none, oStore 7 (.t t2) (.t t25), none⟩,
   ⟨(some t3), oMov (.v (.int .i64 3)), none⟩])
 xRet)
 xSkip))
 (xSeq (xReg [⟨(some t26), oMov (.t t0), none⟩,
   ⟨(some t27), oMov (.t t0), none⟩,
   ⟨(some t28), oLenL (.t t27), none⟩,
   ⟨(some t29), oBin (int2 subO) (.t t28) (.v (.int .i64 4)), none⟩,
   ⟨(some t30), oSliceL 1 (.t t26) none (some (.t t29)) none, none⟩,
   ⟨(some t31), oMov (.t t0), none⟩,
   ⟨(some t32), oMov (.t t0), none⟩,
   ⟨(some t33), oLenL (.t t32), none⟩,
   ⟨(some t34), oBin (int2 subO) (.t t33) (.v (.int .i64 4)), none⟩,
   ⟨(some t35), oSliceL 1 (.t t31) none (some (.t t34)) none, none⟩,
   ⟨(some t36), oCall 21 [(.t t35)], none⟩,
   ⟨(some t5), oMov (.t t30), none⟩,
   ⟨(some t6), oMov (.t t36), none⟩] [(0, 1), (0, 2), (0, 3), (0, 5), (1, 5), (2, 5), (3, 5), (4, 5), (0, 6), (1, 6), (2, 6), (3, 6), (4, 6), (5, 6), (0, 7), (1, 7), (2, 7), (3, 7), (4, 7), (5, 7), (0, 8), (1, 8), (2, 8), (3, 8), (4, 8), (5, 8), (0, 9), (1, 9), (2, 9), (3, 9), (4, 9), (0, 10), (1, 10), (2, 10), (3, 10), (4, 10)])
 (xSeq (xSeq (xOps [⟨(some t37), oMov (.t t0), none⟩,
   ⟨(some t38), oMov (.t t5), none⟩,
   ⟨(some t39), oLenL (.t t38), none⟩,
   ⟨(some t40), oSliceL 1 (.t t37) (some (.t t39)) none none, none⟩,
   ⟨(some t41), oMov (.t t6), none⟩,
   ⟨(some t42), oConv .u8 (.t t41), none⟩,
   ⟨(some t43), oMov (.t t6), none⟩,
   ⟨(some t44), oBin (sh2 shrO) (.t t43) (.v (.int .u64 8)), none⟩,
   ⟨(some t45), oConv .u8 (.t t44), none⟩,
   ⟨(some t46), oMov (.t t6), none⟩,
   ⟨(some t47), oBin (sh2 shrO) (.t t46) (.v (.int .u64 16)), none⟩,
   ⟨(some t48), oConv .u8 (.t t47), none⟩,
   ⟨(some t49), oMov (.t t6), none⟩,
   ⟨(some t50), oBin (sh2 shrO) (.t t49) (.v (.int .u64 24)), none⟩,
   ⟨(some t51), oConv .u8 (.t t50), none⟩,
   ⟨(some t52), oBuildSlice 4 [(.int .u8 0), (.int .u8 0), (.int .u8 0), (.int .u8 0)] [(0, 1, (.t t42)), (1, 1, (.t t45)), (2, 1, (.t t48)), (3, 1, (.t t51))], none⟩,
   ⟨(some t53), oCall 20 [(.t t40), (.t t52)], none⟩,
   ⟨(some t54), oNot (.t t53), none⟩])
 (xCond (.t t54)
 (xSeq (xOps [⟨(some t55), oBuild (rep 7 [(.slice none 0 0)]) [], none⟩,
   ⟨none, oStore 7 (.t t2) (.t t55), none⟩,
   ⟨(some t3), oMov (.v (.int .i64 3)), none⟩])
 xRet)
 xSkip))
 (xSeq (xOps [⟨(some t56), oMov (.t t5), none⟩,
   ⟨(some t57), oMov (.t t4), none⟩,
   ⟨(some t58), oSliceL 1 (.t t56) (some (.t t57)) none none, none⟩,
   ⟨(some t59), oCall 22 [(.t t58)], none⟩,
   ⟨(some t7), oNew [(.pointer none)], none⟩,
   ⟨none, oStore 1 (.t t7) (.t t59), none⟩])
 (xSeq (xOps [⟨(some t60), oFunc (.func 23) [] [(.t t7)], none⟩,
   ⟨(some t8), oNew [.nilFunc], none⟩,
   ⟨none, oStore 1 (.t t8) (.t t60), none⟩])
 (xSeq (xOps [⟨(some t9), oNew (rep 7 [(.slice none 0 0)]), none⟩])
 (xSeq (xOps [⟨(some t61), oLoad1 (.t t7), none⟩,
   ⟨(some t62), oFunc (.func 26) [] [(.t t8), (.t t7)], none⟩,
   ⟨(some t63), oCall 25 [(.t t61), (.t t62)], none⟩,
   ⟨(some t64), oFieldAddr 0 (.t t9), none⟩,
   ⟨none, oStore 1 (.t t64) (.t t63), none⟩])
 (xSeq (xOps [⟨(some t65), oLoad1 (.t t7), none⟩,
   ⟨(some t66), oFunc (.func 28) [] [(.t t8), (.t t7)], none⟩,
   ⟨(some t67), oCall 27 [(.t t65), (.t t66)], none⟩,
   ⟨(some t68), oFieldAddr 1 (.t t9), none⟩,
   ⟨none, oStore 1 (.t t68) (.t t67), none⟩])
 (xSeq (xOps [⟨(some t69), oLoad1 (.t t7), none⟩,
   ⟨(some t70), oLoad1 (.t t8), none⟩,
   ⟨(some t71), oCall 30 [(.t t69), (.t t70)], none⟩,
   ⟨(some t72), oFieldAddr 2 (.t t9), none⟩,
   ⟨none, oStore 1 (.t t72) (.t t71), none⟩])
 (xSeq (xOps [⟨(some t73), oLoad1 (.t t7), none⟩,
   ⟨(some t74), oLoad1 (.t t8), none⟩,
   ⟨(some t75), oCall 30 [(.t t73), (.t t74)], none⟩,
   ⟨(some t76), oFieldAddr 3 (.t t9), none⟩,
   ⟨none, oStore 1 (.t t76) (.t t75), none⟩])
 (xSeq (xOps [⟨(some t77), oLoad1 (.t t7), none⟩,
   ⟨(some t78), oLoad1 (.t t8), none⟩,
   ⟨(some t79), oCall 30 [(.t t77), (.t t78)], none⟩,
   ⟨(some t80), oFieldAddr 4 (.t t9), none⟩,
   ⟨none, oStore 1 (.t t80) (.t t79), none⟩])
 (xSeq (xOps [⟨(some t81), oLoad1 (.t t7), none⟩,
   ⟨(some t82), oLoad1 (.t t7), none⟩,
   ⟨(some t83), oFunc (.func 32) [(.t t82)] [], none⟩,
   ⟨(some t84), oCall 31 [(.t t81), (.t t83)], none⟩,
   ⟨(some t85), oFieldAddr 5 (.t t9), none⟩,
   ⟨none, oStore 1 (.t t85) (.t t84), none⟩])
 (xSeq (xOps [⟨(some t86), oLoad1 (.t t7), none⟩,
   ⟨(some t87), oFunc (.func 34) [] [(.t t7)], none⟩,
   ⟨(some t88), oCall 33 [(.t t86), (.t t87)], none⟩,
   ⟨(some t89), oFieldAddr 6 (.t t9), none⟩,
   ⟨none, oStore 1 (.t t89) (.t t88), none⟩])
 (xSeq (xSeq (xOps [⟨(some t90), oLoad1 (.t t7), none⟩,
   ⟨(some t91), oCall 35 [(.t t90)], none⟩,
   ⟨(some t92), oMov (.t t91), none⟩,
   ⟨(some t93), oLoad1 (.t t7), (some (t92, false))⟩,
   ⟨(some t94), oCall 36 [(.t t93)], (some (t92, false))⟩,
   ⟨(some t95), oBin (int2 (cmpO gtI)) (.t t94) (.v (.int .i64 0)), (some (t92, false))⟩,
   ⟨(some t96), oPick (.t t92) (.v (.bool true)) (.t t95), none⟩])
 (xCond (.t t96)
 (xSeq (xOps [⟨(some t97), oBuild (rep 7 [(.slice none 0 0)]) [], none⟩,
   ⟨none, oStore 7 (.t t2) (.t t97), none⟩,
   ⟨(some t3), oMov (.v (.int .i64 3)), none⟩])
 xRet)
 xSkip))
 (xSeq (xOps [⟨(some t98), oLoadN 7 (.t t9), none⟩,
   ⟨none, oStore 7 (.t t2) (.t t98), none⟩,
   ⟨(some t3), oMov (.v (.int .i64 0)), none⟩])
 xRet)))))))))))))))))⟩
theorem ok8 : cFunc Tryd.prog gl ex Tryd.f8 = some c8 := by kernel_rfl
/-- publican/code.Name -/
def c9 : AFunc := ⟨6, [.tmp t2],
 (xSeq (xOps [⟨(some t2), oMov (.v (.string ⟨⟨[]⟩⟩)), none⟩])
 (xSeq (xOps [⟨(some t3), oMov (.t t0), none⟩,
   ⟨(some t4), oCall 37 [(.t t3)], none⟩,
   ⟨(some t5), oField none 0 (.t t4), none⟩,
   ⟨(some t2), oMov (.t t5), none⟩])
 xRet))⟩
theorem ok9 : cFunc Tryd.prog gl ex Tryd.f9 = some c9 := by kernel_rfl
/-- publican/code.Show -/
def c10 : AFunc := ⟨34, [.tmp t2],
 (xSeq (xOps [⟨(some t1), oBox (.t t0), none⟩,
   ⟨(some t2), oMov (.v (.string ⟨⟨[]⟩⟩)), none⟩])
 (xSeq (xOps [⟨(some t7), oFieldAddr 0 (.t t1), none⟩,
   ⟨(some t8), oLoad1 (.t t7), none⟩,
   ⟨(some t9), oCall 37 [(.t t8)], none⟩,
   ⟨(some t3), oNew [(.string ⟨⟨[]⟩⟩), (.int .i64 0)], none⟩,
   ⟨none, oStore 2 (.t t3) (.t t9), none⟩])
 (xSeq (xOps [⟨(some t10), oFieldAddr 0 (.t t3), none⟩,
   ⟨(some t11), oLoad1 (.t t10), none⟩,
   ⟨(some t4), oMov (.t t11), none⟩])
 (xSeq (xSeq (xOps [⟨(some t12), oFieldAddr 1 (.t t1), none⟩,
   ⟨(some t13), oLoad1 (.t t12), none⟩,
   ⟨(some t14), oFieldAddr 2 (.t t1), none⟩,
   ⟨(some t15), oLoad1 (.t t14), none⟩,
   ⟨(some t16), oFieldAddr 3 (.t t1), none⟩,
   ⟨(some t17), oLoad1 (.t t16), none⟩,
   ⟨(some t18), oBuildSlice 3 [(.int .i64 0), (.int .i64 0), (.int .i64 0)] [(0, 1, (.t t13)), (1, 1, (.t t15)), (2, 1, (.t t17))], none⟩,
   ⟨(some t19), oFieldAddr 1 (.t t3), none⟩,
   ⟨(some t20), oLoad1 (.t t19), none⟩,
   ⟨(some t21), oSliceL 1 (.t t18) none (some (.t t20)) none, none⟩,
   ⟨(some t22), oLenL (.t t21), none⟩,
   ⟨(some t23), oMov (.v (.int .i64 0)), none⟩])
 (xBlock 0 (xLoop (xSeq (xOps [⟨(some t24), oBin (int2 (cmpO ltI)) (.t t23) (.t t22), none⟩])
 (xSeq (xCond (.t t24)
 xSkip
 (xExit 0))
 (xSeq (xBlock 1 (xSeq (xOps [⟨(some t25), oIdxAddrL 1 (.t t21) (.t t23), none⟩,
   ⟨(some t26), oLoad1 (.t t25), none⟩,
   ⟨(some t6), oMov (.t t26), none⟩])
 (xOps [⟨(some t27), oMov (.t t4), none⟩,
   ⟨(some t28), oMov (.t t6), none⟩,
   ⟨(some t29), oCall 38 [(.t t28)], none⟩,
   ⟨(some t30), oBin (str2 catO) (.v (.string ⟨⟨[32]⟩⟩)) (.t t29), none⟩,
   ⟨(some t31), oBin (str2 catO) (.t t27) (.t t30), none⟩,
   ⟨(some t4), oMov (.t t31), none⟩])))
 (xOps [⟨(some t32), oBin (int2 addO) (.t t23) (.v (.int .i64 1)), none⟩,
   ⟨(some t23), oMov (.t t32), none⟩])))))))
 (xSeq (xOps [⟨(some t33), oMov (.t t4), none⟩,
   ⟨(some t2), oMov (.t t33), none⟩])
 xRet)))))⟩
theorem ok10 : cFunc Tryd.prog gl ex Tryd.f10 = some c10 := by kernel_rfl
/-- publican/code.Encode -/
def c12 : AFunc := ⟨165, [.tmp t2],
 (xSeq (xOps [⟨(some t1), oBox (.t t0), none⟩,
   ⟨(some t2), oMov (.v (.slice none 0 0)), none⟩])
 (xSeq (xOps [⟨(some t13), oCall 19 [], none⟩,
   ⟨(some t14), oBuild [(.slice none 0 0)] [(0, 1, (.t t13))], none⟩,
   ⟨(some t15), oBox (.t t14), none⟩,
   ⟨(some t3), oMov (.t t15), none⟩])
 (xSeq (xOps [⟨(some t16), oMov (.t t3), none⟩,
   ⟨(some t17), oFieldAddr 0 (.t t1), none⟩,
   ⟨(some t18), oLoad1 (.t t17), none⟩,
   ⟨(some t19), oLenL (.t t18), none⟩,
   ⟨(some t20), oConv .u64 (.t t19), none⟩,
   ⟨(some t21), oCall 39 [(.t t16), (.t t20)], none⟩])
 (xSeq (xSeq (xOps [⟨(some t22), oFieldAddr 0 (.t t1), none⟩,
   ⟨(some t23), oLoad1 (.t t22), none⟩,
   ⟨(some t24), oLenL (.t t23), none⟩,
   ⟨(some t25), oMov (.v (.int .i64 0)), none⟩])
 (xBlock 0 (xLoop (xSeq (xOps [⟨(some t26), oBin (int2 (cmpO ltI)) (.t t25) (.t t24), none⟩])
 (xSeq (xCond (.t t26)
 xSkip
 (xExit 0))
 (xSeq (xBlock 1 (xSeq (xOps [⟨(some t27), oIdxAddrL 3 (.t t23) (.t t25), none⟩,
   ⟨(some t28), oLoadN 3 (.t t27), none⟩,
   ⟨(some t5), oNew [(.int .i64 0), (.int .i64 0), (.slice none 0 0)], none⟩,
   ⟨none, oStore 3 (.t t5) (.t t28), none⟩])
 (xOps [⟨(some t29), oMov (.t t3), none⟩,
   ⟨(some t30), oFieldAddr 0 (.t t5), none⟩,
   ⟨(some t31), oLoad1 (.t t30), none⟩,
   ⟨(some t32), oFieldAddr 1 (.t t5), none⟩,
   ⟨(some t33), oLoad1 (.t t32), none⟩,
   ⟨(some t34), oBuildSlice 2 [(.int .i64 0), (.int .i64 0)] [(0, 1, (.t t31)), (1, 1, (.t t33))], none⟩,
   ⟨(some t35), oCall 40 [(.t t29), (.t t34)], none⟩])))
 (xOps [⟨(some t36), oBin (int2 addO) (.t t25) (.v (.int .i64 1)), none⟩,
   ⟨(some t25), oMov (.t t36), none⟩])))))))
 (xSeq (xOps [⟨(some t37), oMov (.t t3), none⟩,
   ⟨(some t38), oFieldAddr 1 (.t t1), none⟩,
   ⟨(some t39), oLoad1 (.t t38), none⟩,
   ⟨(some t40), oLenL (.t t39), none⟩,
   ⟨(some t41), oConv .u64 (.t t40), none⟩,
   ⟨(some t42), oCall 39 [(.t t37), (.t t41)], none⟩])
 (xSeq (xSeq (xOps [⟨(some t43), oFieldAddr 1 (.t t1), none⟩,
   ⟨(some t44), oLoad1 (.t t43), none⟩,
   ⟨(some t45), oLenL (.t t44), none⟩,
   ⟨(some t46), oMov (.v (.int .i64 0)), none⟩])
 (xBlock 2 (xLoop (xSeq (xOps [⟨(some t47), oBin (int2 (cmpO ltI)) (.t t46) (.t t45), none⟩])
 (xSeq (xCond (.t t47)
 xSkip
 (xExit 2))
 (xSeq (xBlock 3 (xSeq (xOps [⟨(some t48), oIdxAddrL 4 (.t t44) (.t t46), none⟩,
   ⟨(some t49), oLoadN 4 (.t t48), none⟩,
   ⟨(some t7), oNew [(.int .i64 0), (.int .i64 0), (.slice none 0 0), (.slice none 0 0)], none⟩,
   ⟨none, oStore 4 (.t t7) (.t t49), none⟩])
 (xSeq (xOps [⟨(some t50), oMov (.t t3), none⟩,
   ⟨(some t51), oFieldAddr 0 (.t t7), none⟩,
   ⟨(some t52), oLoad1 (.t t51), none⟩,
   ⟨(some t53), oFieldAddr 1 (.t t7), none⟩,
   ⟨(some t54), oLoad1 (.t t53), none⟩,
   ⟨(some t55), oBuildSlice 2 [(.int .i64 0), (.int .i64 0)] [(0, 1, (.t t52)), (1, 1, (.t t54))], none⟩,
   ⟨(some t56), oCall 40 [(.t t50), (.t t55)], none⟩])
 (xSeq (xOps [⟨(some t57), oMov (.t t3), none⟩,
   ⟨(some t58), oFieldAddr 2 (.t t7), none⟩,
   ⟨(some t59), oLoad1 (.t t58), none⟩,
   ⟨(some t60), oLenL (.t t59), none⟩,
   ⟨(some t61), oConv .u64 (.t t60), none⟩,
   ⟨(some t62), oCall 39 [(.t t57), (.t t61)], none⟩])
 (xSeq (xOps [⟨(some t63), oMov (.t t3), none⟩,
   ⟨(some t64), oFieldAddr 2 (.t t7), none⟩,
   ⟨(some t65), oLoad1 (.t t64), none⟩,
   ⟨(some t66), oCall 40 [(.t t63), (.t t65)], none⟩])
 (xSeq (xOps [⟨(some t67), oMov (.t t3), none⟩,
   ⟨(some t68), oFieldAddr 3 (.t t7), none⟩,
   ⟨(some t69), oLoad1 (.t t68), none⟩,
   ⟨(some t70), oLenL (.t t69), none⟩,
   ⟨(some t71), oConv .u64 (.t t70), none⟩,
   ⟨(some t72), oCall 39 [(.t t67), (.t t71)], none⟩])
 (xOps [⟨(some t73), oMov (.t t3), none⟩,
   ⟨(some t74), oFieldAddr 3 (.t t7), none⟩,
   ⟨(some t75), oLoad1 (.t t74), none⟩,
   ⟨(some t76), oCall 40 [(.t t73), (.t t75)], none⟩])))))))
 (xOps [⟨(some t77), oBin (int2 addO) (.t t46) (.v (.int .i64 1)), none⟩,
   ⟨(some t46), oMov (.t t77), none⟩])))))))
 (xSeq (xOps [⟨(some t78), oMov (.t t3), none⟩,
   ⟨(some t79), oFieldAddr 2 (.t t1), none⟩,
   ⟨(some t80), oLoad1 (.t t79), none⟩,
   ⟨(some t81), oCall 41 [(.t t78), (.t t80)], none⟩])
 (xSeq (xOps [⟨(some t82), oMov (.t t3), none⟩,
   ⟨(some t83), oFieldAddr 3 (.t t1), none⟩,
   ⟨(some t84), oLoad1 (.t t83), none⟩,
   ⟨(some t85), oCall 41 [(.t t82), (.t t84)], none⟩])
 (xSeq (xOps [⟨(some t86), oMov (.t t3), none⟩,
   ⟨(some t87), oFieldAddr 4 (.t t1), none⟩,
   ⟨(some t88), oLoad1 (.t t87), none⟩,
   ⟨(some t89), oCall 41 [(.t t86), (.t t88)], none⟩])
 (xSeq (xOps [⟨(some t90), oMov (.t t3), none⟩,
   ⟨(some t91), oFieldAddr 5 (.t t1), none⟩,
   ⟨(some t92), oLoad1 (.t t91), none⟩,
   ⟨(some t93), oLenL (.t t92), none⟩,
   ⟨(some t94), oConv .u64 (.t t93), none⟩,
   ⟨(some t95), oCall 39 [(.t t90), (.t t94)], none⟩])
 (xSeq (xSeq (xOps [⟨(some t96), oFieldAddr 5 (.t t1), none⟩,
   ⟨(some t97), oLoad1 (.t t96), none⟩,
   ⟨(some t98), oLenL (.t t97), none⟩,
   ⟨(some t99), oMov (.v (.int .i64 0)), none⟩])
 (xBlock 4 (xLoop (xSeq (xOps [⟨(some t100), oBin (int2 (cmpO ltI)) (.t t99) (.t t98), none⟩])
 (xSeq (xCond (.t t100)
 xSkip
 (xExit 4))
 (xSeq (xBlock 5 (xSeq (xOps [⟨(some t101), oIdxAddrL 1 (.t t97) (.t t99), none⟩,
   ⟨(some t102), oLoad1 (.t t101), none⟩,
   ⟨(some t9), oMov (.t t102), none⟩])
 (xSeq (xOps [⟨(some t103), oMov (.t t3), none⟩,
   ⟨(some t104), oMov (.t t9), none⟩,
   ⟨(some t105), oLenS (.t t104), none⟩,
   ⟨(some t106), oConv .u64 (.t t105), none⟩,
   ⟨(some t107), oCall 39 [(.t t103), (.t t106)], none⟩])
 (xOps [⟨(some t108), oMov (.t t3), none⟩,
   ⟨(some t109), oMov (.t t3), none⟩,
   ⟨(some t110), oNilCheck (.t t109), none⟩,
   ⟨(some t111), oFieldAddr 0 (.t t110), none⟩,
   ⟨(some t112), oLoad1 (.t t111), none⟩,
   ⟨(some t113), oMov (.t t9), none⟩,
   ⟨(some t114), oAppend 1 1 (.t t112) (.t t113), none⟩,
   ⟨(some t115), oNilCheck (.t t108), none⟩,
   ⟨(some t116), oFieldAddr 0 (.t t115), none⟩,
   ⟨none, oStore 1 (.t t116) (.t t114), none⟩]))))
 (xOps [⟨(some t117), oBin (int2 addO) (.t t99) (.v (.int .i64 1)), none⟩,
   ⟨(some t99), oMov (.t t117), none⟩])))))))
 (xSeq (xOps [⟨(some t118), oMov (.t t3), none⟩,
   ⟨(some t119), oFieldAddr 6 (.t t1), none⟩,
   ⟨(some t120), oLoad1 (.t t119), none⟩,
   ⟨(some t121), oLenL (.t t120), none⟩,
   ⟨(some t122), oConv .u64 (.t t121), none⟩,
   ⟨(some t123), oCall 39 [(.t t118), (.t t122)], none⟩])
 (xSeq (xSeq (xOps [⟨(some t124), oFieldAddr 6 (.t t1), none⟩,
   ⟨(some t125), oLoad1 (.t t124), none⟩,
   ⟨(some t126), oLenL (.t t125), none⟩,
   ⟨(some t127), oMov (.v (.int .i64 0)), none⟩])
 (xBlock 6 (xLoop (xSeq (xOps [⟨(some t128), oBin (int2 (cmpO ltI)) (.t t127) (.t t126), none⟩])
 (xSeq (xCond (.t t128)
 xSkip
 (xExit 6))
 (xSeq (xBlock 7 (xSeq (xOps [⟨(some t129), oIdxAddrL 4 (.t t125) (.t t127), none⟩,
   ⟨(some t130), oLoadN 4 (.t t129), none⟩,
   ⟨(some t11), oNew [(.int .i64 0), (.int .i64 0), (.int .i64 0), (.int .i64 0)], none⟩,
   ⟨none, oStore 4 (.t t11) (.t t130), none⟩])
 (xOps [⟨(some t131), oMov (.t t3), none⟩,
   ⟨(some t132), oFieldAddr 0 (.t t11), none⟩,
   ⟨(some t133), oLoad1 (.t t132), none⟩,
   ⟨(some t134), oFieldAddr 1 (.t t11), none⟩,
   ⟨(some t135), oLoad1 (.t t134), none⟩,
   ⟨(some t136), oFieldAddr 2 (.t t11), none⟩,
   ⟨(some t137), oLoad1 (.t t136), none⟩,
   ⟨(some t138), oFieldAddr 3 (.t t11), none⟩,
   ⟨(some t139), oLoad1 (.t t138), none⟩,
   ⟨(some t140), oBuildSlice 4 [(.int .i64 0), (.int .i64 0), (.int .i64 0), (.int .i64 0)] [(0, 1, (.t t133)), (1, 1, (.t t135)), (2, 1, (.t t137)), (3, 1, (.t t139))], none⟩,
   ⟨(some t141), oCall 40 [(.t t131), (.t t140)], none⟩])))
 (xOps [⟨(some t142), oBin (int2 addO) (.t t127) (.v (.int .i64 1)), none⟩,
   ⟨(some t127), oMov (.t t142), none⟩])))))))
 (xSeq (xOps [⟨(some t143), oMov (.t t3), none⟩,
   ⟨(some t144), oNilCheck (.t t143), none⟩,
   ⟨(some t145), oFieldAddr 0 (.t t144), none⟩,
   ⟨(some t146), oLoad1 (.t t145), none⟩,
   ⟨(some t147), oCall 21 [(.t t146)], none⟩,
   ⟨(some t12), oMov (.t t147), none⟩])
 (xSeq (xOps [⟨(some t148), oMov (.t t3), none⟩,
   ⟨(some t149), oNilCheck (.t t148), none⟩,
   ⟨(some t150), oFieldAddr 0 (.t t149), none⟩,
   ⟨(some t151), oLoad1 (.t t150), none⟩,
   ⟨(some t152), oMov (.t t12), none⟩,
   ⟨(some t153), oConv .u8 (.t t152), none⟩,
   ⟨(some t154), oMov (.t t12), none⟩,
   ⟨(some t155), oBin (sh2 shrO) (.t t154) (.v (.int .u64 8)), none⟩,
   ⟨(some t156), oConv .u8 (.t t155), none⟩,
   ⟨(some t157), oMov (.t t12), none⟩,
   ⟨(some t158), oBin (sh2 shrO) (.t t157) (.v (.int .u64 16)), none⟩,
   ⟨(some t159), oConv .u8 (.t t158), none⟩,
   ⟨(some t160), oMov (.t t12), none⟩,
   ⟨(some t161), oBin (sh2 shrO) (.t t160) (.v (.int .u64 24)), none⟩,
   ⟨(some t162), oConv .u8 (.t t161), none⟩,
   ⟨(some t163), oBuildSlice 4 [(.int .u8 0), (.int .u8 0), (.int .u8 0), (.int .u8 0)] [(0, 1, (.t t153)), (1, 1, (.t t156)), (2, 1, (.t t159)), (3, 1, (.t t162))], none⟩,
   ⟨(some t164), oAppend 1 1 (.t t151) (.t t163), none⟩,
   ⟨(some t2), oMov (.t t164), none⟩])
 xRet)))))))))))))))⟩
theorem ok12 : cFunc Tryd.prog gl ex Tryd.f12 = some c12 := by kernel_rfl
/-- publican/code.Same -/
def c14 : AFunc := ⟨10, [.tmp t4],
 (xSeq (xOps [⟨(some t2), oBox (.t t0), none⟩,
   ⟨(some t3), oBox (.t t1), none⟩,
   ⟨(some t4), oMov (.v (.bool false)), none⟩])
 (xSeq (xReg [⟨(some t5), oLoadN 7 (.t t2), none⟩,
   ⟨(some t6), oCall 12 [(.t t5)], none⟩,
   ⟨(some t7), oLoadN 7 (.t t3), none⟩,
   ⟨(some t8), oCall 12 [(.t t7)], none⟩,
   ⟨(some t9), oCall 20 [(.t t6), (.t t8)], none⟩,
   ⟨(some t4), oMov (.t t9), none⟩] [(0, 2), (1, 2)])
 xRet))⟩
theorem ok14 : cFunc Tryd.prog gl ex Tryd.f14 = some c14 := by kernel_rfl
/-- publican/publicanlaw14.small -/
def c18 : AFunc := ⟨11, [.cell t0 (some 7)],
 (xSeq (xOps [⟨(some t0), oNew (rep 7 [(.slice none 0 0)]), none⟩])
 (xSeq (xOps [⟨(some t1), oBuild [(.int .i64 0), (.int .i64 0), (.slice none 0 0)] [(0, 1, (.v (.int .i64 2))), (1, 1, (.v (.int .i64 (-1))))], none⟩,
   ⟨(some t2), oBuildSlice 1 [(.int .i64 0), (.int .i64 0), (.slice none 0 0)] [(0, 3, (.t t1))], none⟩,
   ⟨(some t3), oBuildSlice 1 [(.int .i64 0)] [(0, 1, (.v (.int .i64 2)))], none⟩,
   ⟨(some t4), oBuildSlice 1 [(.string ⟨⟨[]⟩⟩)] [(0, 1, (.v (.string ⟨⟨[97]⟩⟩)))], none⟩,
   ⟨(some t5), oBuild [(.int .i64 0), (.int .i64 0), (.int .i64 0), (.int .i64 0)] [(0, 1, (.v (.int .i64 21)))], none⟩,
   ⟨(some t6), oBuild [(.int .i64 0), (.int .i64 0), (.int .i64 0), (.int .i64 0)] [(0, 1, (.v (.int .i64 0)))], none⟩,
   ⟨(some t7), oBuild [(.int .i64 0), (.int .i64 0), (.int .i64 0), (.int .i64 0)] [(0, 1, (.v (.int .i64 22)))], none⟩,
   ⟨(some t8), oBuild [(.int .i64 0), (.int .i64 0), (.int .i64 0), (.int .i64 0)] [(0, 1, (.v (.int .i64 23)))], none⟩,
   ⟨(some t9), oBuildSlice 4 (rep 16 [(.int .i64 0)]) [(0, 4, (.t t5)), (4, 4, (.t t6)), (8, 4, (.t t7)), (12, 4, (.t t8))], none⟩,
   ⟨(some t10), oBuild (rep 7 [(.slice none 0 0)]) [(0, 1, (.t t2)), (3, 1, (.t t3)), (5, 1, (.t t4)), (6, 1, (.t t9))], none⟩,
   ⟨none, oStore 7 (.t t0) (.t t10), none⟩])
 xRet))⟩
theorem ok18 : cFunc Tryd.prog gl ex Tryd.f18 = some c18 := by kernel_rfl
/-- publican/code.magic -/
def c19 : AFunc := ⟨2, [.tmp t0],
 (xSeq (xOps [⟨(some t0), oMov (.v (.slice none 0 0)), none⟩])
 (xSeq (xOps [⟨(some t1), oBuildSlice 4 [(.int .u8 0), (.int .u8 0), (.int .u8 0), (.int .u8 0)] [(0, 1, (.v (.int .u8 70))), (1, 1, (.v (.int .u8 73))), (2, 1, (.v (.int .u8 83))), (3, 1, (.v (.int .u8 67)))], none⟩,
   ⟨(some t0), oMov (.t t1), none⟩])
 xRet))⟩
theorem ok19 : cFunc Tryd.prog gl ex Tryd.f19 = some c19 := by kernel_rfl
/-- slices.Equal[[]byte,byte] -/
def c20 : AFunc := ⟨26, [.tmp t4],
 (xSeq (xOps [⟨(some t4), oMov (.v (.bool false)), none⟩])
 (xSeq (xSeq (xOps [⟨(some t6), oMov (.t t0), none⟩,
   ⟨(some t7), oLenL (.t t6), none⟩,
   ⟨(some t8), oMov (.t t1), none⟩,
   ⟨(some t9), oLenL (.t t8), none⟩,
   ⟨(some t10), oBin (int2 (cmpO neI)) (.t t7) (.t t9), none⟩])
 (xCond (.t t10)
 (xSeq (xOps [⟨(some t4), oMov (.v (.bool false)), none⟩])
 xRet)
 xSkip))
 (xSeq (xSeq (xOps [⟨(some t11), oMov (.t t0), none⟩,
   ⟨(some t12), oLenL (.t t11), none⟩,
   ⟨(some t13), oMov (.v (.int .i64 0)), none⟩])
 (xBlock 0 (xLoop (xSeq (xOps [⟨(some t14), oBin (int2 (cmpO ltI)) (.t t13) (.t t12), none⟩])
 (xSeq (xCond (.t t14)
 xSkip
 (xExit 0))
 (xSeq (xBlock 1 (xSeq (xOps [⟨(some t15), oMov (.t t13), none⟩,
   ⟨(some t5), oMov (.t t15), none⟩])
 (xSeq (xReg [⟨(some t16), oMov (.t t0), none⟩,
   ⟨(some t17), oMov (.t t5), none⟩,
   ⟨(some t18), oIdxAddrL 1 (.t t16) (.t t17), none⟩,
   ⟨(some t19), oLoad1 (.t t18), none⟩,
   ⟨(some t20), oMov (.t t1), none⟩,
   ⟨(some t21), oMov (.t t5), none⟩,
   ⟨(some t22), oIdxAddrL 1 (.t t20) (.t t21), none⟩,
   ⟨(some t23), oLoad1 (.t t22), none⟩,
   ⟨(some t24), oBin (int2 (cmpO neI)) (.t t19) (.t t23), none⟩] [(0, 1), (0, 4), (1, 4), (2, 4), (3, 4), (0, 5), (1, 5), (2, 5), (3, 5), (4, 5), (0, 6), (1, 6), (2, 6), (3, 6), (0, 7), (1, 7), (2, 7), (3, 7)])
 (xCond (.t t24)
 (xSeq (xOps [⟨(some t4), oMov (.v (.bool false)), none⟩])
 xRet)
 xSkip))))
 (xOps [⟨(some t25), oBin (int2 addO) (.t t13) (.v (.int .i64 1)), none⟩,
   ⟨(some t13), oMov (.t t25), none⟩])))))))
 (xSeq (xOps [⟨(some t4), oMov (.v (.bool true)), none⟩])
 xRet))))⟩
theorem ok20 : cFunc Tryd.prog gl ex Tryd.f20 = some c20 := by kernel_rfl
/-- publican/pack.Sum -/
def c21 : AFunc := ⟨30, [.tmp t2],
 (xSeq (xOps [⟨(some t2), oMov (.v (.int .u32 0)), none⟩])
 (xSeq (xOps [⟨(some t3), oMov (.v (.int .u32 4294967295)), none⟩])
 (xSeq (xSeq (xOps [⟨(some t6), oMov (.t t0), none⟩,
   ⟨(some t7), oLenL (.t t6), none⟩,
   ⟨(some t8), oMov (.v (.int .i64 0)), none⟩])
 (xBlock 0 (xLoop (xSeq (xOps [⟨(some t9), oBin (int2 (cmpO ltI)) (.t t8) (.t t7), none⟩])
 (xSeq (xCond (.t t9)
 xSkip
 (xExit 0))
 (xSeq (xBlock 1 (xSeq (xOps [⟨(some t10), oIdxAddrL 1 (.t t6) (.t t8), none⟩,
   ⟨(some t11), oLoad1 (.t t10), none⟩,
   ⟨(some t5), oMov (.t t11), none⟩])
 (xSeq (xOps [⟨(some t12), oMov (.t t3), none⟩,
   ⟨(some t13), oMov (.t t5), none⟩,
   ⟨(some t14), oConv .u32 (.t t13), none⟩,
   ⟨(some t15), oBin (int2 xorO) (.t t12) (.t t14), none⟩,
   ⟨(some t3), oMov (.t t15), none⟩])
 (xSeq (xOps [⟨(some t16), oMov (.v (.int .i64 0)), none⟩])
 (xBlock 2 (xLoop (xSeq (xOps [⟨(some t17), oBin (int2 (cmpO ltI)) (.t t16) (.v (.int .i64 8)), none⟩])
 (xSeq (xCond (.t t17)
 xSkip
 (xExit 2))
 (xSeq (xBlock 3 (xSeq (xOps [⟨(some t18), oMov (.t t3), none⟩,
   ⟨(some t19), oBin (int2 andO) (.t t18) (.v (.int .u32 1)), none⟩,
   ⟨(some t20), oBin (int2 (cmpO eqI)) (.t t19) (.v (.int .u32 1)), none⟩])
 (xCond (.t t20)
 (xOps [⟨(some t21), oMov (.t t3), none⟩,
   ⟨(some t22), oBin (sh2 shrO) (.t t21) (.v (.int .u64 1)), none⟩,
   ⟨(some t23), oBin (int2 xorO) (.t t22) (.v (.int .u32 3988292384)), none⟩,
   ⟨(some t3), oMov (.t t23), none⟩])
 (xOps [⟨(some t24), oMov (.t t3), none⟩,
   ⟨(some t25), oBin (sh2 shrO) (.t t24) (.v (.int .u64 1)), none⟩,
   ⟨(some t3), oMov (.t t25), none⟩]))))
 (xOps [⟨(some t26), oBin (int2 addO) (.t t16) (.v (.int .i64 1)), none⟩,
   ⟨(some t16), oMov (.t t26), none⟩]))))))))))
 (xOps [⟨(some t27), oBin (int2 addO) (.t t8) (.v (.int .i64 1)), none⟩,
   ⟨(some t8), oMov (.t t27), none⟩])))))))
 (xSeq (xOps [⟨(some t28), oMov (.t t3), none⟩,
   ⟨(some t29), oCompl (.t t28), none⟩,
   ⟨(some t2), oMov (.t t29), none⟩])
 xRet))))⟩
theorem ok21 : cFunc Tryd.prog gl ex Tryd.f21 = some c21 := by kernel_rfl
/-- publican/pack.Read -/
def c22 : AFunc := ⟨7, [.tmp t2],
 (xSeq (xOps [⟨(some t2), oMov (.v (.pointer none)), none⟩])
 (xSeq (xOps [⟨(some t3), oMov (.t t0), none⟩,
   ⟨(some t4), oCall 55 [(.t t3)], none⟩,
   ⟨(some t5), oBuild [(.slice none 0 0), (.bool false)] [(0, 1, (.t t4))], none⟩,
   ⟨(some t6), oBox (.t t5), none⟩,
   ⟨(some t2), oMov (.t t6), none⟩])
 xRet))⟩
theorem ok22 : cFunc Tryd.prog gl ex Tryd.f22 = some c22 := by kernel_rfl
/-- publican/code.Decode$1 -/
def c23 : AFunc := ⟨4, [.tmp t1],
 (xSeq (xOps [⟨(some t1), oMov (.v (.int .i64 0)), none⟩])
 (xSeq (xOps [⟨(some t2), oLoad1 (.t t0), none⟩,
   ⟨(some t3), oCall 24 [(.t t2)], none⟩,
   ⟨(some t1), oMov (.t t3), none⟩])
 xRet))⟩
theorem ok23 : cFunc Tryd.prog gl ex Tryd.f23 = some c23 := by kernel_rfl
/-- (*publican/pack.Reader).I -/
def c24 : AFunc := ⟨14, [.tmp t2],
 (xSeq (xOps [⟨(some t2), oMov (.v (.int .i64 0)), none⟩])
 (xSeq (xOps [⟨(some t4), oMov (.t t0), none⟩,
   ⟨(some t5), oCall 56 [(.t t4)], none⟩,
   ⟨(some t3), oMov (.t t5), none⟩])
 (xSeq (xOps [⟨(some t6), oMov (.t t3), none⟩,
   ⟨(some t7), oBin (sh2 shrO) (.t t6) (.v (.int .u64 1)), none⟩,
   ⟨(some t8), oConv .i64 (.t t7), none⟩,
   ⟨(some t9), oMov (.t t3), none⟩,
   ⟨(some t10), oBin (int2 andO) (.t t9) (.v (.int .u64 1)), none⟩,
   ⟨(some t11), oConv .i64 (.t t10), none⟩,
   ⟨(some t12), oNeg (.t t11), none⟩,
   ⟨(some t13), oBin (int2 xorO) (.t t8) (.t t12), none⟩,
   ⟨(some t2), oMov (.t t13), none⟩])
 xRet)))⟩
theorem ok24 : cFunc Tryd.prog gl ex Tryd.f24 = some c24 := by kernel_rfl
/-- publican/code.list[publican/api.Value] -/
def c25 : AFunc := ⟨33, [.tmp t4],
 (xSeq (xOps [⟨(some t4), oMov (.v (.slice none 0 0)), none⟩])
 (xSeq (xOps [⟨(some t7), oMov (.t t0), none⟩,
   ⟨(some t8), oCall 56 [(.t t7)], none⟩,
   ⟨(some t5), oMov (.t t8), none⟩])
 (xSeq (xSeq (xOps [⟨(some t9), oMov (.t t5), none⟩,
   ⟨(some t10), oMov (.t t0), none⟩,
   ⟨(some t11), oCall 36 [(.t t10)], none⟩,
   ⟨(some t12), oConv .u64 (.t t11), none⟩,
   ⟨(some t13), oBin (int2 (cmpO gtI)) (.t t9) (.t t12), none⟩])
 (xCond (.t t13)
 (xSeq (xOps [⟨(some t14), oMov (.t t0), none⟩,
   ⟨(some t15), oCall 32 [(.t t14)], none⟩])
 (xSeq (xBlock 0 (xLoop (xSeq (xSeq (xOps [⟨(some t16), oMov (.t t0), none⟩,
   ⟨(some t17), oCall 35 [(.t t16)], none⟩,
   ⟨(some t18), oNot (.t t17), none⟩])
 (xCond (.t t18)
 xSkip
 (xExit 0)))
 (xBlock 1 (xOps [⟨(some t19), oMov (.t t0), none⟩,
   ⟨(some t20), oCall 56 [(.t t19)], none⟩])))))
 (xSeq (xOps [⟨(some t4), oMov (.v (.slice none 0 0)), none⟩])
 xRet)))
 xSkip))
 (xSeq (xOps [⟨(some t6), oMov (.v (.slice none 0 0)), none⟩])
 (xSeq (xSeq (xOps [⟨(some t21), oMov (.t t5), none⟩,
   ⟨(some t22), oMov (.v (.int .u64 0)), none⟩])
 (xBlock 2 (xLoop (xSeq (xOps [⟨(some t23), oBin (int2 (cmpO ltI)) (.t t22) (.t t21), none⟩])
 (xSeq (xCond (.t t23)
 xSkip
 (xExit 2))
 (xSeq (xBlock 3 (xSeq (xSeq (xOps [⟨(some t24), oMov (.t t0), none⟩,
   ⟨(some t25), oCall 35 [(.t t24)], none⟩])
 (xCond (.t t25)
 (xSeq (xOps [⟨(some t4), oMov (.v (.slice none 0 0)), none⟩])
 xRet)
 xSkip))
 (xOps [⟨(some t26), oMov (.t t6), none⟩,
   ⟨(some t27), oMov (.t t1), none⟩,
   ⟨(some t28), oCallV (.t t27) [], none⟩,
   ⟨(some t29), oBuildSlice 1 [(.int .i64 0), (.int .i64 0), (.slice none 0 0)] [(0, 3, (.t t28))], none⟩,
   ⟨(some t30), oAppend 3 40 (.t t26) (.t t29), none⟩,
   ⟨(some t6), oMov (.t t30), none⟩])))
 (xOps [⟨(some t31), oBin (int2 addO) (.t t22) (.v (.int .u64 1)), none⟩,
   ⟨(some t22), oMov (.t t31), none⟩])))))))
 (xSeq (xOps [⟨(some t32), oMov (.t t6), none⟩,
   ⟨(some t4), oMov (.t t32), none⟩])
 xRet))))))⟩
theorem ok25 : cFunc Tryd.prog gl ex Tryd.f25 = some c25 := by kernel_rfl
/-- publican/code.Decode$2 -/
def c26 : AFunc := ⟨8, [.cell t2 (some 3)],
 (xSeq (xOps [⟨(some t2), oNew [(.int .i64 0), (.int .i64 0), (.slice none 0 0)], none⟩])
 (xSeq (xReg [⟨(some t3), oLoad1 (.t t0), none⟩,
   ⟨(some t4), oCallV (.t t3) [], none⟩,
   ⟨(some t5), oLoad1 (.t t1), none⟩,
   ⟨(some t6), oCall 24 [(.t t5)], none⟩,
   ⟨(some t7), oBuild [(.int .i64 0), (.int .i64 0), (.slice none 0 0)] [(0, 1, (.t t4)), (1, 1, (.t t6))], none⟩,
   ⟨none, oStore 3 (.t t2) (.t t7), none⟩] [(0, 2), (1, 2)])
 xRet))⟩
theorem ok26 : cFunc Tryd.prog gl ex Tryd.f26 = some c26 := by kernel_rfl
/-- publican/code.list[publican/code.Table] -/
def c27 : AFunc := ⟨33, [.tmp t4],
 (xSeq (xOps [⟨(some t4), oMov (.v (.slice none 0 0)), none⟩])
 (xSeq (xOps [⟨(some t7), oMov (.t t0), none⟩,
   ⟨(some t8), oCall 56 [(.t t7)], none⟩,
   ⟨(some t5), oMov (.t t8), none⟩])
 (xSeq (xSeq (xOps [⟨(some t9), oMov (.t t5), none⟩,
   ⟨(some t10), oMov (.t t0), none⟩,
   ⟨(some t11), oCall 36 [(.t t10)], none⟩,
   ⟨(some t12), oConv .u64 (.t t11), none⟩,
   ⟨(some t13), oBin (int2 (cmpO gtI)) (.t t9) (.t t12), none⟩])
 (xCond (.t t13)
 (xSeq (xOps [⟨(some t14), oMov (.t t0), none⟩,
   ⟨(some t15), oCall 32 [(.t t14)], none⟩])
 (xSeq (xBlock 0 (xLoop (xSeq (xSeq (xOps [⟨(some t16), oMov (.t t0), none⟩,
   ⟨(some t17), oCall 35 [(.t t16)], none⟩,
   ⟨(some t18), oNot (.t t17), none⟩])
 (xCond (.t t18)
 xSkip
 (xExit 0)))
 (xBlock 1 (xOps [⟨(some t19), oMov (.t t0), none⟩,
   ⟨(some t20), oCall 56 [(.t t19)], none⟩])))))
 (xSeq (xOps [⟨(some t4), oMov (.v (.slice none 0 0)), none⟩])
 xRet)))
 xSkip))
 (xSeq (xOps [⟨(some t6), oMov (.v (.slice none 0 0)), none⟩])
 (xSeq (xSeq (xOps [⟨(some t21), oMov (.t t5), none⟩,
   ⟨(some t22), oMov (.v (.int .u64 0)), none⟩])
 (xBlock 2 (xLoop (xSeq (xOps [⟨(some t23), oBin (int2 (cmpO ltI)) (.t t22) (.t t21), none⟩])
 (xSeq (xCond (.t t23)
 xSkip
 (xExit 2))
 (xSeq (xBlock 3 (xSeq (xSeq (xOps [⟨(some t24), oMov (.t t0), none⟩,
   ⟨(some t25), oCall 35 [(.t t24)], none⟩])
 (xCond (.t t25)
 (xSeq (xOps [⟨(some t4), oMov (.v (.slice none 0 0)), none⟩])
 xRet)
 xSkip))
 (xOps [⟨(some t26), oMov (.t t6), none⟩,
   ⟨(some t27), oMov (.t t1), none⟩,
   ⟨(some t28), oCallV (.t t27) [], none⟩,
   ⟨(some t29), oBuildSlice 1 [(.int .i64 0), (.int .i64 0), (.slice none 0 0), (.slice none 0 0)] [(0, 4, (.t t28))], none⟩,
   ⟨(some t30), oAppend 4 64 (.t t26) (.t t29), none⟩,
   ⟨(some t6), oMov (.t t30), none⟩])))
 (xOps [⟨(some t31), oBin (int2 addO) (.t t22) (.v (.int .u64 1)), none⟩,
   ⟨(some t22), oMov (.t t31), none⟩])))))))
 (xSeq (xOps [⟨(some t32), oMov (.t t6), none⟩,
   ⟨(some t4), oMov (.t t32), none⟩])
 xRet))))))⟩
theorem ok27 : cFunc Tryd.prog gl ex Tryd.f27 = some c27 := by kernel_rfl
/-- publican/code.Decode$3 -/
def c28 : AFunc := ⟨16, [.cell t2 (some 4)],
 (xSeq (xOps [⟨(some t2), oNew [(.int .i64 0), (.int .i64 0), (.slice none 0 0), (.slice none 0 0)], none⟩])
 (xSeq (xReg [⟨(some t3), oLoad1 (.t t0), none⟩,
   ⟨(some t4), oCallV (.t t3) [], none⟩,
   ⟨(some t5), oLoad1 (.t t0), none⟩,
   ⟨(some t6), oCallV (.t t5) [], none⟩,
   ⟨(some t7), oLoad1 (.t t1), none⟩,
   ⟨(some t8), oLoad1 (.t t1), none⟩,
   ⟨(some t9), oFunc (.func 24) [(.t t8)] [], none⟩,
   ⟨(some t10), oCall 29 [(.t t7), (.t t9)], none⟩,
   ⟨(some t11), oLoad1 (.t t1), none⟩,
   ⟨(some t12), oLoad1 (.t t1), none⟩,
   ⟨(some t13), oFunc (.func 24) [(.t t12)] [], none⟩,
   ⟨(some t14), oCall 29 [(.t t11), (.t t13)], none⟩,
   ⟨(some t15), oBuild [(.int .i64 0), (.int .i64 0), (.slice none 0 0), (.slice none 0 0)] [(0, 1, (.t t4)), (1, 1, (.t t6)), (2, 1, (.t t10)), (3, 1, (.t t14))], none⟩,
   ⟨none, oStore 4 (.t t2) (.t t15), none⟩] [(0, 2), (1, 2), (0, 4), (1, 4), (2, 4), (3, 4), (0, 5), (1, 5), (2, 5), (3, 5), (4, 5), (0, 6), (1, 6), (2, 6), (3, 6), (4, 6), (0, 8), (1, 8), (2, 8), (3, 8), (4, 8), (5, 8), (6, 8), (7, 8), (0, 9), (1, 9), (2, 9), (3, 9), (4, 9), (5, 9), (6, 9), (7, 9), (8, 9), (0, 10), (1, 10), (2, 10), (3, 10), (4, 10), (5, 10), (6, 10), (7, 10), (8, 10)])
 xRet))⟩
theorem ok28 : cFunc Tryd.prog gl ex Tryd.f28 = some c28 := by kernel_rfl
/-- publican/code.list[int64] -/
def c29 : AFunc := ⟨33, [.tmp t4],
 (xSeq (xOps [⟨(some t4), oMov (.v (.slice none 0 0)), none⟩])
 (xSeq (xOps [⟨(some t7), oMov (.t t0), none⟩,
   ⟨(some t8), oCall 56 [(.t t7)], none⟩,
   ⟨(some t5), oMov (.t t8), none⟩])
 (xSeq (xSeq (xOps [⟨(some t9), oMov (.t t5), none⟩,
   ⟨(some t10), oMov (.t t0), none⟩,
   ⟨(some t11), oCall 36 [(.t t10)], none⟩,
   ⟨(some t12), oConv .u64 (.t t11), none⟩,
   ⟨(some t13), oBin (int2 (cmpO gtI)) (.t t9) (.t t12), none⟩])
 (xCond (.t t13)
 (xSeq (xOps [⟨(some t14), oMov (.t t0), none⟩,
   ⟨(some t15), oCall 32 [(.t t14)], none⟩])
 (xSeq (xBlock 0 (xLoop (xSeq (xSeq (xOps [⟨(some t16), oMov (.t t0), none⟩,
   ⟨(some t17), oCall 35 [(.t t16)], none⟩,
   ⟨(some t18), oNot (.t t17), none⟩])
 (xCond (.t t18)
 xSkip
 (xExit 0)))
 (xBlock 1 (xOps [⟨(some t19), oMov (.t t0), none⟩,
   ⟨(some t20), oCall 56 [(.t t19)], none⟩])))))
 (xSeq (xOps [⟨(some t4), oMov (.v (.slice none 0 0)), none⟩])
 xRet)))
 xSkip))
 (xSeq (xOps [⟨(some t6), oMov (.v (.slice none 0 0)), none⟩])
 (xSeq (xSeq (xOps [⟨(some t21), oMov (.t t5), none⟩,
   ⟨(some t22), oMov (.v (.int .u64 0)), none⟩])
 (xBlock 2 (xLoop (xSeq (xOps [⟨(some t23), oBin (int2 (cmpO ltI)) (.t t22) (.t t21), none⟩])
 (xSeq (xCond (.t t23)
 xSkip
 (xExit 2))
 (xSeq (xBlock 3 (xSeq (xSeq (xOps [⟨(some t24), oMov (.t t0), none⟩,
   ⟨(some t25), oCall 35 [(.t t24)], none⟩])
 (xCond (.t t25)
 (xSeq (xOps [⟨(some t4), oMov (.v (.slice none 0 0)), none⟩])
 xRet)
 xSkip))
 (xOps [⟨(some t26), oMov (.t t6), none⟩,
   ⟨(some t27), oMov (.t t1), none⟩,
   ⟨(some t28), oCallV (.t t27) [], none⟩,
   ⟨(some t29), oBuildSlice 1 [(.int .i64 0)] [(0, 1, (.t t28))], none⟩,
   ⟨(some t30), oAppend 1 8 (.t t26) (.t t29), none⟩,
   ⟨(some t6), oMov (.t t30), none⟩])))
 (xOps [⟨(some t31), oBin (int2 addO) (.t t22) (.v (.int .u64 1)), none⟩,
   ⟨(some t22), oMov (.t t31), none⟩])))))))
 (xSeq (xOps [⟨(some t32), oMov (.t t6), none⟩,
   ⟨(some t4), oMov (.t t32), none⟩])
 xRet))))))⟩
theorem ok29 : cFunc Tryd.prog gl ex Tryd.f29 = some c29 := by kernel_rfl
/-- publican/code.list[publican/api.Kind] -/
def c30 : AFunc := ⟨33, [.tmp t4],
 (xSeq (xOps [⟨(some t4), oMov (.v (.slice none 0 0)), none⟩])
 (xSeq (xOps [⟨(some t7), oMov (.t t0), none⟩,
   ⟨(some t8), oCall 56 [(.t t7)], none⟩,
   ⟨(some t5), oMov (.t t8), none⟩])
 (xSeq (xSeq (xOps [⟨(some t9), oMov (.t t5), none⟩,
   ⟨(some t10), oMov (.t t0), none⟩,
   ⟨(some t11), oCall 36 [(.t t10)], none⟩,
   ⟨(some t12), oConv .u64 (.t t11), none⟩,
   ⟨(some t13), oBin (int2 (cmpO gtI)) (.t t9) (.t t12), none⟩])
 (xCond (.t t13)
 (xSeq (xOps [⟨(some t14), oMov (.t t0), none⟩,
   ⟨(some t15), oCall 32 [(.t t14)], none⟩])
 (xSeq (xBlock 0 (xLoop (xSeq (xSeq (xOps [⟨(some t16), oMov (.t t0), none⟩,
   ⟨(some t17), oCall 35 [(.t t16)], none⟩,
   ⟨(some t18), oNot (.t t17), none⟩])
 (xCond (.t t18)
 xSkip
 (xExit 0)))
 (xBlock 1 (xOps [⟨(some t19), oMov (.t t0), none⟩,
   ⟨(some t20), oCall 56 [(.t t19)], none⟩])))))
 (xSeq (xOps [⟨(some t4), oMov (.v (.slice none 0 0)), none⟩])
 xRet)))
 xSkip))
 (xSeq (xOps [⟨(some t6), oMov (.v (.slice none 0 0)), none⟩])
 (xSeq (xSeq (xOps [⟨(some t21), oMov (.t t5), none⟩,
   ⟨(some t22), oMov (.v (.int .u64 0)), none⟩])
 (xBlock 2 (xLoop (xSeq (xOps [⟨(some t23), oBin (int2 (cmpO ltI)) (.t t22) (.t t21), none⟩])
 (xSeq (xCond (.t t23)
 xSkip
 (xExit 2))
 (xSeq (xBlock 3 (xSeq (xSeq (xOps [⟨(some t24), oMov (.t t0), none⟩,
   ⟨(some t25), oCall 35 [(.t t24)], none⟩])
 (xCond (.t t25)
 (xSeq (xOps [⟨(some t4), oMov (.v (.slice none 0 0)), none⟩])
 xRet)
 xSkip))
 (xOps [⟨(some t26), oMov (.t t6), none⟩,
   ⟨(some t27), oMov (.t t1), none⟩,
   ⟨(some t28), oCallV (.t t27) [], none⟩,
   ⟨(some t29), oBuildSlice 1 [(.int .i64 0)] [(0, 1, (.t t28))], none⟩,
   ⟨(some t30), oAppend 1 8 (.t t26) (.t t29), none⟩,
   ⟨(some t6), oMov (.t t30), none⟩])))
 (xOps [⟨(some t31), oBin (int2 addO) (.t t22) (.v (.int .u64 1)), none⟩,
   ⟨(some t22), oMov (.t t31), none⟩])))))))
 (xSeq (xOps [⟨(some t32), oMov (.t t6), none⟩,
   ⟨(some t4), oMov (.t t32), none⟩])
 xRet))))))⟩
theorem ok30 : cFunc Tryd.prog gl ex Tryd.f30 = some c30 := by kernel_rfl
/-- publican/code.list[string] -/
def c31 : AFunc := ⟨33, [.tmp t4],
 (xSeq (xOps [⟨(some t4), oMov (.v (.slice none 0 0)), none⟩])
 (xSeq (xOps [⟨(some t7), oMov (.t t0), none⟩,
   ⟨(some t8), oCall 56 [(.t t7)], none⟩,
   ⟨(some t5), oMov (.t t8), none⟩])
 (xSeq (xSeq (xOps [⟨(some t9), oMov (.t t5), none⟩,
   ⟨(some t10), oMov (.t t0), none⟩,
   ⟨(some t11), oCall 36 [(.t t10)], none⟩,
   ⟨(some t12), oConv .u64 (.t t11), none⟩,
   ⟨(some t13), oBin (int2 (cmpO gtI)) (.t t9) (.t t12), none⟩])
 (xCond (.t t13)
 (xSeq (xOps [⟨(some t14), oMov (.t t0), none⟩,
   ⟨(some t15), oCall 32 [(.t t14)], none⟩])
 (xSeq (xBlock 0 (xLoop (xSeq (xSeq (xOps [⟨(some t16), oMov (.t t0), none⟩,
   ⟨(some t17), oCall 35 [(.t t16)], none⟩,
   ⟨(some t18), oNot (.t t17), none⟩])
 (xCond (.t t18)
 xSkip
 (xExit 0)))
 (xBlock 1 (xOps [⟨(some t19), oMov (.t t0), none⟩,
   ⟨(some t20), oCall 56 [(.t t19)], none⟩])))))
 (xSeq (xOps [⟨(some t4), oMov (.v (.slice none 0 0)), none⟩])
 xRet)))
 xSkip))
 (xSeq (xOps [⟨(some t6), oMov (.v (.slice none 0 0)), none⟩])
 (xSeq (xSeq (xOps [⟨(some t21), oMov (.t t5), none⟩,
   ⟨(some t22), oMov (.v (.int .u64 0)), none⟩])
 (xBlock 2 (xLoop (xSeq (xOps [⟨(some t23), oBin (int2 (cmpO ltI)) (.t t22) (.t t21), none⟩])
 (xSeq (xCond (.t t23)
 xSkip
 (xExit 2))
 (xSeq (xBlock 3 (xSeq (xSeq (xOps [⟨(some t24), oMov (.t t0), none⟩,
   ⟨(some t25), oCall 35 [(.t t24)], none⟩])
 (xCond (.t t25)
 (xSeq (xOps [⟨(some t4), oMov (.v (.slice none 0 0)), none⟩])
 xRet)
 xSkip))
 (xOps [⟨(some t26), oMov (.t t6), none⟩,
   ⟨(some t27), oMov (.t t1), none⟩,
   ⟨(some t28), oCallV (.t t27) [], none⟩,
   ⟨(some t29), oBuildSlice 1 [(.string ⟨⟨[]⟩⟩)] [(0, 1, (.t t28))], none⟩,
   ⟨(some t30), oAppend 1 16 (.t t26) (.t t29), none⟩,
   ⟨(some t6), oMov (.t t30), none⟩])))
 (xOps [⟨(some t31), oBin (int2 addO) (.t t22) (.v (.int .u64 1)), none⟩,
   ⟨(some t22), oMov (.t t31), none⟩])))))))
 (xSeq (xOps [⟨(some t32), oMov (.t t6), none⟩,
   ⟨(some t4), oMov (.t t32), none⟩])
 xRet))))))⟩
theorem ok31 : cFunc Tryd.prog gl ex Tryd.f31 = some c31 := by kernel_rfl
/-- (*publican/pack.Reader).S -/
def c32 : AFunc := ⟨34, [.tmp t2],
 (xSeq (xOps [⟨(some t2), oMov (.v (.string ⟨⟨[]⟩⟩)), none⟩])
 (xSeq (xOps [⟨(some t5), oMov (.t t0), none⟩,
   ⟨(some t6), oCall 56 [(.t t5)], none⟩,
   ⟨(some t3), oMov (.t t6), none⟩])
 (xSeq (xSeq (xOps [⟨(some t7), oMov (.t t3), none⟩,
   ⟨(some t8), oMov (.t t0), none⟩,
   ⟨(some t9), oNilCheck (.t t8), none⟩,
   ⟨(some t10), oFieldAddr 0 (.t t9), none⟩,
   ⟨(some t11), oLoad1 (.t t10), none⟩,
   ⟨(some t12), oLenL (.t t11), none⟩,
   ⟨(some t13), oConv .u64 (.t t12), none⟩,
   ⟨(some t14), oBin (int2 (cmpO gtI)) (.t t7) (.t t13), none⟩])
 (xCond (.t t14)
 (xSeq (xOps [⟨(some t15), oMov (.t t0), none⟩,
   ⟨(some t16), oCall 57 [(.t t15)], none⟩])
 (xSeq (xOps [⟨(some t2), oMov (.v (.string ⟨⟨[]⟩⟩)), none⟩])
 xRet))
 xSkip))
 (xSeq (xOps [⟨(some t17), oMov (.t t0), none⟩,
   ⟨(some t18), oNilCheck (.t t17), none⟩,
   ⟨(some t19), oFieldAddr 0 (.t t18), none⟩,
   ⟨(some t20), oLoad1 (.t t19), none⟩,
   ⟨(some t21), oMov (.t t3), none⟩,
   ⟨(some t22), oSliceL 1 (.t t20) none (some (.t t21)) none, none⟩,
   ⟨(some t23), oBytesStr (.t t22), none⟩,
   ⟨(some t4), oMov (.t t23), none⟩])
 (xSeq (xOps [⟨(some t24), oMov (.t t0), none⟩,
   ⟨(some t25), oMov (.t t0), none⟩,
   ⟨(some t26), oNilCheck (.t t25), none⟩,
   ⟨(some t27), oFieldAddr 0 (.t t26), none⟩,
   ⟨(some t28), oLoad1 (.t t27), none⟩,
   ⟨(some t29), oMov (.t t3), none⟩,
   ⟨(some t30), oSliceL 1 (.t t28) (some (.t t29)) none none, none⟩,
   ⟨(some t31), oNilCheck (.t t24), none⟩,
   ⟨(some t32), oFieldAddr 0 (.t t31), none⟩,
   ⟨none, oStore 1 (.t t32) (.t t30), none⟩])
 (xSeq (xOps [⟨(some t33), oMov (.t t4), none⟩,
   ⟨(some t2), oMov (.t t33), none⟩])
 xRet))))))⟩
theorem ok32 : cFunc Tryd.prog gl ex Tryd.f32 = some c32 := by kernel_rfl
/-- publican/code.list[publican/code.Instr] -/
def c33 : AFunc := ⟨33, [.tmp t4],
 (xSeq (xOps [⟨(some t4), oMov (.v (.slice none 0 0)), none⟩])
 (xSeq (xOps [⟨(some t7), oMov (.t t0), none⟩,
   ⟨(some t8), oCall 56 [(.t t7)], none⟩,
   ⟨(some t5), oMov (.t t8), none⟩])
 (xSeq (xSeq (xOps [⟨(some t9), oMov (.t t5), none⟩,
   ⟨(some t10), oMov (.t t0), none⟩,
   ⟨(some t11), oCall 36 [(.t t10)], none⟩,
   ⟨(some t12), oConv .u64 (.t t11), none⟩,
   ⟨(some t13), oBin (int2 (cmpO gtI)) (.t t9) (.t t12), none⟩])
 (xCond (.t t13)
 (xSeq (xOps [⟨(some t14), oMov (.t t0), none⟩,
   ⟨(some t15), oCall 32 [(.t t14)], none⟩])
 (xSeq (xBlock 0 (xLoop (xSeq (xSeq (xOps [⟨(some t16), oMov (.t t0), none⟩,
   ⟨(some t17), oCall 35 [(.t t16)], none⟩,
   ⟨(some t18), oNot (.t t17), none⟩])
 (xCond (.t t18)
 xSkip
 (xExit 0)))
 (xBlock 1 (xOps [⟨(some t19), oMov (.t t0), none⟩,
   ⟨(some t20), oCall 56 [(.t t19)], none⟩])))))
 (xSeq (xOps [⟨(some t4), oMov (.v (.slice none 0 0)), none⟩])
 xRet)))
 xSkip))
 (xSeq (xOps [⟨(some t6), oMov (.v (.slice none 0 0)), none⟩])
 (xSeq (xSeq (xOps [⟨(some t21), oMov (.t t5), none⟩,
   ⟨(some t22), oMov (.v (.int .u64 0)), none⟩])
 (xBlock 2 (xLoop (xSeq (xOps [⟨(some t23), oBin (int2 (cmpO ltI)) (.t t22) (.t t21), none⟩])
 (xSeq (xCond (.t t23)
 xSkip
 (xExit 2))
 (xSeq (xBlock 3 (xSeq (xSeq (xOps [⟨(some t24), oMov (.t t0), none⟩,
   ⟨(some t25), oCall 35 [(.t t24)], none⟩])
 (xCond (.t t25)
 (xSeq (xOps [⟨(some t4), oMov (.v (.slice none 0 0)), none⟩])
 xRet)
 xSkip))
 (xOps [⟨(some t26), oMov (.t t6), none⟩,
   ⟨(some t27), oMov (.t t1), none⟩,
   ⟨(some t28), oCallV (.t t27) [], none⟩,
   ⟨(some t29), oBuildSlice 1 [(.int .i64 0), (.int .i64 0), (.int .i64 0), (.int .i64 0)] [(0, 4, (.t t28))], none⟩,
   ⟨(some t30), oAppend 4 32 (.t t26) (.t t29), none⟩,
   ⟨(some t6), oMov (.t t30), none⟩])))
 (xOps [⟨(some t31), oBin (int2 addO) (.t t22) (.v (.int .u64 1)), none⟩,
   ⟨(some t22), oMov (.t t31), none⟩])))))))
 (xSeq (xOps [⟨(some t32), oMov (.t t6), none⟩,
   ⟨(some t4), oMov (.t t32), none⟩])
 xRet))))))⟩
theorem ok33 : cFunc Tryd.prog gl ex Tryd.f33 = some c33 := by kernel_rfl
/-- publican/code.Decode$4 -/
def c34 : AFunc := ⟨11, [.cell t1 (some 4)],
 (xSeq (xOps [⟨(some t1), oNew [(.int .i64 0), (.int .i64 0), (.int .i64 0), (.int .i64 0)], none⟩])
 (xSeq (xReg [⟨(some t2), oLoad1 (.t t0), none⟩,
   ⟨(some t3), oCall 24 [(.t t2)], none⟩,
   ⟨(some t4), oLoad1 (.t t0), none⟩,
   ⟨(some t5), oCall 24 [(.t t4)], none⟩,
   ⟨(some t6), oLoad1 (.t t0), none⟩,
   ⟨(some t7), oCall 24 [(.t t6)], none⟩,
   ⟨(some t8), oLoad1 (.t t0), none⟩,
   ⟨(some t9), oCall 24 [(.t t8)], none⟩,
   ⟨(some t10), oBuild [(.int .i64 0), (.int .i64 0), (.int .i64 0), (.int .i64 0)] [(0, 1, (.t t3)), (1, 1, (.t t5)), (2, 1, (.t t7)), (3, 1, (.t t9))], none⟩,
   ⟨none, oStore 4 (.t t1) (.t t10), none⟩] [(0, 2), (1, 2), (0, 4), (1, 4), (2, 4), (3, 4), (0, 6), (1, 6), (2, 6), (3, 6), (4, 6), (5, 6)])
 xRet))⟩
theorem ok34 : cFunc Tryd.prog gl ex Tryd.f34 = some c34 := by kernel_rfl
/-- (*publican/pack.Reader).Bad -/
def c35 : AFunc := ⟨7, [.tmp t2],
 (xSeq (xOps [⟨(some t2), oMov (.v (.bool false)), none⟩])
 (xSeq (xOps [⟨(some t3), oMov (.t t0), none⟩,
   ⟨(some t4), oNilCheck (.t t3), none⟩,
   ⟨(some t5), oFieldAddr 1 (.t t4), none⟩,
   ⟨(some t6), oLoad1 (.t t5), none⟩,
   ⟨(some t2), oMov (.t t6), none⟩])
 xRet))⟩
theorem ok35 : cFunc Tryd.prog gl ex Tryd.f35 = some c35 := by kernel_rfl
/-- (*publican/pack.Reader).Left -/
def c36 : AFunc := ⟨8, [.tmp t2],
 (xSeq (xOps [⟨(some t2), oMov (.v (.int .i64 0)), none⟩])
 (xSeq (xOps [⟨(some t3), oMov (.t t0), none⟩,
   ⟨(some t4), oNilCheck (.t t3), none⟩,
   ⟨(some t5), oFieldAddr 0 (.t t4), none⟩,
   ⟨(some t6), oLoad1 (.t t5), none⟩,
   ⟨(some t7), oLenL (.t t6), none⟩,
   ⟨(some t2), oMov (.t t7), none⟩])
 xRet))⟩
theorem ok36 : cFunc Tryd.prog gl ex Tryd.f36 = some c36 := by kernel_rfl
/-- publican/code.find -/
def c37 : AFunc := ⟨42, [.cell t2 (some 2)],
 (xSeq (xOps [⟨(some t2), oNew [(.string ⟨⟨[]⟩⟩), (.int .i64 0)], none⟩])
 (xSeq (xOps [⟨(some t4), oBuild [(.string ⟨⟨[]⟩⟩), (.int .i64 0)] [(0, 1, (.v (.string ⟨⟨[99, 111, 110, 115, 116]⟩⟩))), (1, 1, (.v (.int .i64 1)))], none⟩,
   ⟨(some t5), oBuild [(.string ⟨⟨[]⟩⟩), (.int .i64 0)] [(0, 1, (.v (.string ⟨⟨[105, 110]⟩⟩))), (1, 1, (.v (.int .i64 1)))], none⟩,
   ⟨(some t6), oBuild [(.string ⟨⟨[]⟩⟩), (.int .i64 0)] [(0, 1, (.v (.string ⟨⟨[108, 111, 97, 100]⟩⟩))), (1, 1, (.v (.int .i64 1)))], none⟩,
   ⟨(some t7), oBuild [(.string ⟨⟨[]⟩⟩), (.int .i64 0)] [(0, 1, (.v (.string ⟨⟨[115, 116, 111, 114, 101]⟩⟩))), (1, 1, (.v (.int .i64 1)))], none⟩,
   ⟨(some t8), oBuild [(.string ⟨⟨[]⟩⟩), (.int .i64 0)] [(0, 1, (.v (.string ⟨⟨[97, 100, 100]⟩⟩))), (1, 1, (.v (.int .i64 1)))], none⟩,
   ⟨(some t9), oBuild [(.string ⟨⟨[]⟩⟩), (.int .i64 0)] [(0, 1, (.v (.string ⟨⟨[115, 117, 98]⟩⟩))), (1, 1, (.v (.int .i64 1)))], none⟩,
   ⟨(some t10), oBuild [(.string ⟨⟨[]⟩⟩), (.int .i64 0)] [(0, 1, (.v (.string ⟨⟨[109, 117, 108]⟩⟩))), (1, 1, (.v (.int .i64 1)))], none⟩,
   ⟨(some t11), oBuild [(.string ⟨⟨[]⟩⟩), (.int .i64 0)] [(0, 1, (.v (.string ⟨⟨[100, 105, 118]⟩⟩))), (1, 1, (.v (.int .i64 1)))], none⟩,
   ⟨(some t12), oBuild [(.string ⟨⟨[]⟩⟩), (.int .i64 0)] [(0, 1, (.v (.string ⟨⟨[110, 101, 103]⟩⟩))), (1, 1, (.v (.int .i64 1)))], none⟩,
   ⟨(some t13), oBuild [(.string ⟨⟨[]⟩⟩), (.int .i64 0)] [(0, 1, (.v (.string ⟨⟨[110, 111, 116]⟩⟩))), (1, 1, (.v (.int .i64 0)))], none⟩,
   ⟨(some t14), oBuild [(.string ⟨⟨[]⟩⟩), (.int .i64 0)] [(0, 1, (.v (.string ⟨⟨[108, 116]⟩⟩))), (1, 1, (.v (.int .i64 1)))], none⟩,
   ⟨(some t15), oBuild [(.string ⟨⟨[]⟩⟩), (.int .i64 0)] [(0, 1, (.v (.string ⟨⟨[108, 101]⟩⟩))), (1, 1, (.v (.int .i64 1)))], none⟩,
   ⟨(some t16), oBuild [(.string ⟨⟨[]⟩⟩), (.int .i64 0)] [(0, 1, (.v (.string ⟨⟨[101, 113]⟩⟩))), (1, 1, (.v (.int .i64 1)))], none⟩,
   ⟨(some t17), oBuild [(.string ⟨⟨[]⟩⟩), (.int .i64 0)] [(0, 1, (.v (.string ⟨⟨[109, 105, 110]⟩⟩))), (1, 1, (.v (.int .i64 1)))], none⟩,
   ⟨(some t18), oBuild [(.string ⟨⟨[]⟩⟩), (.int .i64 0)] [(0, 1, (.v (.string ⟨⟨[109, 97, 120]⟩⟩))), (1, 1, (.v (.int .i64 1)))], none⟩,
   ⟨(some t19), oBuild [(.string ⟨⟨[]⟩⟩), (.int .i64 0)] [(0, 1, (.v (.string ⟨⟨[108, 101, 110]⟩⟩))), (1, 1, (.v (.int .i64 1)))], none⟩,
   ⟨(some t20), oBuild [(.string ⟨⟨[]⟩⟩), (.int .i64 0)] [(0, 1, (.v (.string ⟨⟨[97, 116]⟩⟩))), (1, 1, (.v (.int .i64 1)))], none⟩,
   ⟨(some t21), oBuild [(.string ⟨⟨[]⟩⟩), (.int .i64 0)] [(0, 1, (.v (.string ⟨⟨[106, 117, 109, 112]⟩⟩))), (1, 1, (.v (.int .i64 1)))], none⟩,
   ⟨(some t22), oBuild [(.string ⟨⟨[]⟩⟩), (.int .i64 0)] [(0, 1, (.v (.string ⟨⟨[117, 110, 108, 101, 115, 115]⟩⟩))), (1, 1, (.v (.int .i64 1)))], none⟩,
   ⟨(some t23), oBuild [(.string ⟨⟨[]⟩⟩), (.int .i64 0)] [(0, 1, (.v (.string ⟨⟨[102, 105, 114, 115, 116]⟩⟩))), (1, 1, (.v (.int .i64 3)))], none⟩,
   ⟨(some t24), oBuild [(.string ⟨⟨[]⟩⟩), (.int .i64 0)] [(0, 1, (.v (.string ⟨⟨[110, 101, 120, 116]⟩⟩))), (1, 1, (.v (.int .i64 3)))], none⟩,
   ⟨(some t25), oBuild [(.string ⟨⟨[]⟩⟩), (.int .i64 0)] [(0, 1, (.v (.string ⟨⟨[109, 97, 114, 107]⟩⟩))), (1, 1, (.v (.int .i64 1)))], none⟩,
   ⟨(some t26), oBuild [(.string ⟨⟨[]⟩⟩), (.int .i64 0)] [(0, 1, (.v (.string ⟨⟨[111, 117, 116]⟩⟩))), (1, 1, (.v (.int .i64 1)))], none⟩,
   ⟨(some t27), oBuild [(.string ⟨⟨[]⟩⟩), (.int .i64 0)] [(0, 1, (.v (.string ⟨⟨[104, 97, 108, 116]⟩⟩))), (1, 1, (.v (.int .i64 0)))], none⟩,
   ⟨(some t28), oBuildSlice 24 [(.string ⟨⟨[]⟩⟩), (.int .i64 0), (.string ⟨⟨[]⟩⟩), (.int .i64 0), (.string ⟨⟨[]⟩⟩), (.int .i64 0), (.string ⟨⟨[]⟩⟩), (.int .i64 0), (.string ⟨⟨[]⟩⟩), (.int .i64 0), (.string ⟨⟨[]⟩⟩), (.int .i64 0), (.string ⟨⟨[]⟩⟩), (.int .i64 0), (.string ⟨⟨[]⟩⟩), (.int .i64 0), (.string ⟨⟨[]⟩⟩), (.int .i64 0), (.string ⟨⟨[]⟩⟩), (.int .i64 0), (.string ⟨⟨[]⟩⟩), (.int .i64 0), (.string ⟨⟨[]⟩⟩), (.int .i64 0), (.string ⟨⟨[]⟩⟩), (.int .i64 0), (.string ⟨⟨[]⟩⟩), (.int .i64 0), (.string ⟨⟨[]⟩⟩), (.int .i64 0), (.string ⟨⟨[]⟩⟩), (.int .i64 0), (.string ⟨⟨[]⟩⟩), (.int .i64 0), (.string ⟨⟨[]⟩⟩), (.int .i64 0), (.string ⟨⟨[]⟩⟩), (.int .i64 0), (.string ⟨⟨[]⟩⟩), (.int .i64 0), (.string ⟨⟨[]⟩⟩), (.int .i64 0), (.string ⟨⟨[]⟩⟩), (.int .i64 0), (.string ⟨⟨[]⟩⟩), (.int .i64 0), (.string ⟨⟨[]⟩⟩), (.int .i64 0)] [(0, 2, (.t t4)), (2, 2, (.t t5)), (4, 2, (.t t6)), (6, 2, (.t t7)), (8, 2, (.t t8)), (10, 2, (.t t9)), (12, 2, (.t t10)), (14, 2, (.t t11)), (16, 2, (.t t12)), (18, 2, (.t t13)), (20, 2, (.t t14)), (22, 2, (.t t15)), (24, 2, (.t t16)), (26, 2, (.t t17)), (28, 2, (.t t18)), (30, 2, (.t t19)), (32, 2, (.t t20)), (34, 2, (.t t21)), (36, 2, (.t t22)), (38, 2, (.t t23)), (40, 2, (.t t24)), (42, 2, (.t t25)), (44, 2, (.t t26)), (46, 2, (.t t27))], none⟩,
   ⟨(some t3), oMov (.t t28), none⟩])
 (xSeq (xSeq (xOps [⟨(some t29), oMov (.t t0), none⟩,
   ⟨(some t30), oBin (int2 (cmpO ltI)) (.t t29) (.v (.int .i64 0)), none⟩,
   ⟨(some t31), oMov (.t t30), none⟩,
   ⟨(some t32), oMov (.t t0), (some (t31, false))⟩,
   ⟨(some t33), oMov (.t t3), (some (t31, false))⟩,
   ⟨(some t34), oLenL (.t t33), (some (t31, false))⟩,
   ⟨(some t35), oBin (int2 (cmpO geI)) (.t t32) (.t t34), (some (t31, false))⟩,
   ⟨(some t36), oPick (.t t31) (.v (.bool true)) (.t t35), none⟩])
 (xCond (.t t36)
 (xSeq (xOps [⟨(some t37), oBuild [(.string ⟨⟨[]⟩⟩), (.int .i64 0)] [], none⟩,
   ⟨none, oStore 2 (.t t2) (.t t37), none⟩])
 xRet)
 xSkip))
 (xSeq (xOps [⟨(some t38), oMov (.t t3), none⟩,
   ⟨(some t39), oMov (.t t0), none⟩,
   ⟨(some t40), oIdxAddrL 2 (.t t38) (.t t39), none⟩,
   ⟨(some t41), oLoadN 2 (.t t40), none⟩,
   ⟨none, oStore 2 (.t t2) (.t t41), none⟩])
 xRet))))⟩
theorem ok37 : cFunc Tryd.prog gl ex Tryd.f37 = some c37 := by kernel_rfl
/-- strconv.Itoa -/
def c38 : AFunc := ⟨5, [.tmp t2],
 (xSeq (xOps [⟨(some t2), oMov (.v (.string ⟨⟨[]⟩⟩)), none⟩])
 (xSeq (xOps [⟨(some t3), oMov (.t t0), none⟩,
   ⟨(some t4), oCall 58 [(.t t3)], none⟩,
   ⟨(some t2), oMov (.t t4), none⟩])
 xRet))⟩
theorem ok38 : cFunc Tryd.prog gl ex Tryd.f38 = some c38 := by kernel_rfl
/-- (*publican/code.writer).u -/
def c39 : AFunc := ⟨32, [],
 (xSeq (xBlock 0 (xLoop (xSeq (xSeq (xOps [⟨(some t4), oMov (.t t1), none⟩,
   ⟨(some t5), oBin (int2 (cmpO gtI)) (.t t4) (.v (.int .u64 127)), none⟩])
 (xCond (.t t5)
 xSkip
 (xExit 0)))
 (xSeq (xBlock 1 (xOps [⟨(some t8), oMov (.t t0), none⟩,
   ⟨(some t9), oMov (.t t0), none⟩,
   ⟨(some t10), oNilCheck (.t t9), none⟩,
   ⟨(some t11), oFieldAddr 0 (.t t10), none⟩,
   ⟨(some t12), oLoad1 (.t t11), none⟩,
   ⟨(some t13), oMov (.t t1), none⟩,
   ⟨(some t14), oBin (int2 andO) (.t t13) (.v (.int .u64 127)), none⟩,
   ⟨(some t15), oBin (int2 orO) (.t t14) (.v (.int .u64 128)), none⟩,
   ⟨(some t16), oConv .u8 (.t t15), none⟩,
   ⟨(some t17), oBuildSlice 1 [(.int .u8 0)] [(0, 1, (.t t16))], none⟩,
   ⟨(some t18), oAppend 1 1 (.t t12) (.t t17), none⟩,
   ⟨(some t19), oNilCheck (.t t8), none⟩,
   ⟨(some t20), oFieldAddr 0 (.t t19), none⟩,
   ⟨none, oStore 1 (.t t20) (.t t18), none⟩]))
 (xOps [⟨(some t6), oMov (.t t1), none⟩,
   ⟨(some t7), oBin (sh2 shrO) (.t t6) (.v (.int .u64 7)), none⟩,
   ⟨(some t1), oMov (.t t7), none⟩])))))
 (xOps [⟨(some t21), oMov (.t t0), none⟩,
   ⟨(some t22), oMov (.t t0), none⟩,
   ⟨(some t23), oNilCheck (.t t22), none⟩,
   ⟨(some t24), oFieldAddr 0 (.t t23), none⟩,
   ⟨(some t25), oLoad1 (.t t24), none⟩,
   ⟨(some t26), oMov (.t t1), none⟩,
   ⟨(some t27), oConv .u8 (.t t26), none⟩,
   ⟨(some t28), oBuildSlice 1 [(.int .u8 0)] [(0, 1, (.t t27))], none⟩,
   ⟨(some t29), oAppend 1 1 (.t t25) (.t t28), none⟩,
   ⟨(some t30), oNilCheck (.t t21), none⟩,
   ⟨(some t31), oFieldAddr 0 (.t t30), none⟩,
   ⟨none, oStore 1 (.t t31) (.t t29), none⟩]))⟩
theorem ok39 : cFunc Tryd.prog gl ex Tryd.f39 = some c39 := by kernel_rfl
/-- (*publican/code.writer).i -/
def c40 : AFunc := ⟨22, [],
 (xSeq (xOps [⟨(some t6), oMov (.t t1), none⟩,
   ⟨(some t7), oLenL (.t t6), none⟩,
   ⟨(some t8), oMov (.v (.int .i64 0)), none⟩])
 (xBlock 0 (xLoop (xSeq (xOps [⟨(some t9), oBin (int2 (cmpO ltI)) (.t t8) (.t t7), none⟩])
 (xSeq (xCond (.t t9)
 xSkip
 (xExit 0))
 (xSeq (xBlock 1 (xSeq (xOps [⟨(some t10), oIdxAddrL 1 (.t t6) (.t t8), none⟩,
   ⟨(some t11), oLoad1 (.t t10), none⟩,
   ⟨(some t5), oMov (.t t11), none⟩])
 (xOps [⟨(some t12), oMov (.t t0), none⟩,
   ⟨(some t13), oMov (.t t5), none⟩,
   ⟨(some t14), oBin (sh2 shlO) (.t t13) (.v (.int .u64 1)), none⟩,
   ⟨(some t15), oConv .u64 (.t t14), none⟩,
   ⟨(some t16), oMov (.t t5), none⟩,
   ⟨(some t17), oBin (sh2 shrO) (.t t16) (.v (.int .u64 63)), none⟩,
   ⟨(some t18), oConv .u64 (.t t17), none⟩,
   ⟨(some t19), oBin (int2 xorO) (.t t15) (.t t18), none⟩,
   ⟨(some t20), oCall 39 [(.t t12), (.t t19)], none⟩])))
 (xOps [⟨(some t21), oBin (int2 addO) (.t t8) (.v (.int .i64 1)), none⟩,
   ⟨(some t8), oMov (.t t21), none⟩])))))))⟩
theorem ok40 : cFunc Tryd.prog gl ex Tryd.f40 = some c40 := by kernel_rfl
/-- (*publican/code.writer).kinds -/
def c41 : AFunc := ⟨22, [],
 (xSeq (xOps [⟨(some t6), oMov (.t t0), none⟩,
   ⟨(some t7), oMov (.t t1), none⟩,
   ⟨(some t8), oLenL (.t t7), none⟩,
   ⟨(some t9), oConv .u64 (.t t8), none⟩,
   ⟨(some t10), oCall 39 [(.t t6), (.t t9)], none⟩])
 (xSeq (xOps [⟨(some t11), oMov (.t t1), none⟩,
   ⟨(some t12), oLenL (.t t11), none⟩,
   ⟨(some t13), oMov (.v (.int .i64 0)), none⟩])
 (xBlock 0 (xLoop (xSeq (xOps [⟨(some t14), oBin (int2 (cmpO ltI)) (.t t13) (.t t12), none⟩])
 (xSeq (xCond (.t t14)
 xSkip
 (xExit 0))
 (xSeq (xBlock 1 (xSeq (xOps [⟨(some t15), oIdxAddrL 1 (.t t11) (.t t13), none⟩,
   ⟨(some t16), oLoad1 (.t t15), none⟩,
   ⟨(some t5), oMov (.t t16), none⟩])
 (xOps [⟨(some t17), oMov (.t t0), none⟩,
   ⟨(some t18), oMov (.t t5), none⟩,
   ⟨(some t19), oBuildSlice 1 [(.int .i64 0)] [(0, 1, (.t t18))], none⟩,
   ⟨(some t20), oCall 40 [(.t t17), (.t t19)], none⟩])))
 (xOps [⟨(some t21), oBin (int2 addO) (.t t13) (.v (.int .i64 1)), none⟩,
   ⟨(some t13), oMov (.t t21), none⟩]))))))))⟩
theorem ok41 : cFunc Tryd.prog gl ex Tryd.f41 = some c41 := by kernel_rfl
/-- slices.Clone[[]byte,byte] -/
def c55 : AFunc := ⟨8, [.tmp t2],
 (xSeq (xOps [⟨(some t2), oMov (.v (.slice none 0 0)), none⟩])
 (xSeq (xSeq (xOps [⟨(some t3), oMov (.t t0), none⟩,
   ⟨(some t4), oEqv eqL false (.t t3) (.v (.slice none 0 0)), none⟩])
 (xCond (.t t4)
 (xSeq (xOps [⟨(some t2), oMov (.v (.slice none 0 0)), none⟩])
 xRet)
 xSkip))
 (xSeq (xOps [⟨(some t5), oBuildSlice 0 [] [], none⟩,
   ⟨(some t6), oMov (.t t0), none⟩,
   ⟨(some t7), oAppend 1 1 (.t t5) (.t t6), none⟩,
   ⟨(some t2), oMov (.t t7), none⟩])
 xRet)))⟩
theorem ok55 : cFunc Tryd.prog gl ex Tryd.f55 = some c55 := by kernel_rfl
end
end Go.Proofs.YtgflahchodepkaaDoor.AbsCodeK
