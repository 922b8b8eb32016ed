import Derived.Test.YtoabiapkdnibkaaGreatRows
import Derived.Test.YtoabiapkdnibkaaGreatAbsMachKT
import Derived.KernelRfl
namespace Go.Proofs.YtoabiapkdnibkaaGreat.AbsMachK
open Go Go.Abs Go.Proofs
set_option maxRecDepth 100000
set_option linter.unusedVariables false
noncomputable section
/-- publican/code.magic -/
def c48 : AFunc := ⟨2, [.tmp t0],
 (xSeq (xOps [⟨(some t0), oMov (.v (.slice none 0 0)), none, none⟩])
 (xSeq (xOps [⟨(some t1), oBuildSlice 4 [(.int .u8 0), (.int .u8 0), (.int .u8 0), (.int .u8 0)] [(0, 1, (.v (.int .u8 70))), (1, 1, (.v (.int .u8 73))), (2, 1, (.v (.int .u8 83))), (3, 1, (.v (.int .u8 67)))], none, none⟩,
   ⟨(some t0), oMov (.t t1), none, none⟩])
 xRet))⟩
theorem ok48 : cFunc Tryz.prog gl ex Tryz.f48 = some c48 := by kernel_rfl
/-- (*publican/code.writer).u -/
def c49 : AFunc := ⟨32, [],
 (xSeq (xBlock 0 (xLoop (xSeq (xSeq (xOps [⟨(some t4), oMov (.t t1), none, none⟩,
   ⟨(some t5), oBin (int2 (cmpO gtI)) (.t t4) (.v (.int .u64 127)), none, none⟩])
 (xCond (.t t5)
 xSkip
 (xExit 0)))
 (xSeq (xBlock 1 (xOps [⟨(some t8), oMov (.t t0), none, none⟩,
   ⟨(some t9), oMov (.t t0), none, none⟩,
   ⟨(some t10), oNilCheck (.t t9), none, none⟩,
   ⟨(some t11), oFieldAddr 0 (.t t10), none, none⟩,
   ⟨(some t12), oLoad1 (.t t11), none, (some (.t t11))⟩,
   ⟨(some t13), oMov (.t t1), none, none⟩,
   ⟨(some t14), oBin (int2 andO) (.t t13) (.v (.int .u64 127)), none, none⟩,
   ⟨(some t15), oBin (int2 orO) (.t t14) (.v (.int .u64 128)), none, none⟩,
   ⟨(some t16), oConv .u8 (.t t15), none, none⟩,
   ⟨(some t17), oBuildSlice 1 [(.int .u8 0)] [(0, 1, (.t t16))], none, none⟩,
   ⟨(some t18), oAppend 1 1 (.t t12) (.t t17), none, none⟩,
   ⟨(some t19), oNilCheck (.t t8), none, none⟩,
   ⟨(some t20), oFieldAddr 0 (.t t19), none, none⟩,
   ⟨none, oStore 1 (.t t20) (.t t18), none, none⟩]))
 (xOps [⟨(some t6), oMov (.t t1), none, none⟩,
   ⟨(some t7), oBin (sh2 shrO) (.t t6) (.v (.int .u64 7)), none, none⟩,
   ⟨(some t1), oMov (.t t7), none, none⟩])))))
 (xOps [⟨(some t21), oMov (.t t0), none, none⟩,
   ⟨(some t22), oMov (.t t0), none, none⟩,
   ⟨(some t23), oNilCheck (.t t22), none, none⟩,
   ⟨(some t24), oFieldAddr 0 (.t t23), none, none⟩,
   ⟨(some t25), oLoad1 (.t t24), none, (some (.t t24))⟩,
   ⟨(some t26), oMov (.t t1), none, none⟩,
   ⟨(some t27), oConv .u8 (.t t26), none, none⟩,
   ⟨(some t28), oBuildSlice 1 [(.int .u8 0)] [(0, 1, (.t t27))], none, none⟩,
   ⟨(some t29), oAppend 1 1 (.t t25) (.t t28), none, none⟩,
   ⟨(some t30), oNilCheck (.t t21), none, none⟩,
   ⟨(some t31), oFieldAddr 0 (.t t30), none, none⟩,
   ⟨none, oStore 1 (.t t31) (.t t29), none, none⟩]))⟩
theorem ok49 : cFunc Tryz.prog gl ex Tryz.f49 = some c49 := by kernel_rfl
/-- (*publican/code.writer).i -/
def c50 : AFunc := ⟨22, [],
 (xSeq (xOps [⟨(some t6), oMov (.t t1), none, none⟩,
   ⟨(some t7), oLenL (.t t6), none, none⟩,
   ⟨(some t8), oMov (.v (.int .i64 0)), none, none⟩])
 (xBlock 0 (xLoop (xSeq (xOps [⟨(some t9), oBin (int2 (cmpO ltI)) (.t t8) (.t t7), none, none⟩])
 (xSeq (xCond (.t t9)
 xSkip
 (xExit 0))
 (xSeq (xBlock 1 (xSeq (xOps [⟨(some t10), oIdxAddrL 1 (.t t6) (.t t8), none, none⟩,
   ⟨(some t11), oLoad1 (.t t10), none, (some (.t t10))⟩,
   ⟨(some t5), oMov (.t t11), none, none⟩])
 (xOps [⟨(some t12), oMov (.t t0), none, none⟩,
   ⟨(some t13), oMov (.t t5), none, none⟩,
   ⟨(some t14), oBin (sh2 shlO) (.t t13) (.v (.int .u64 1)), none, none⟩,
   ⟨(some t15), oConv .u64 (.t t14), none, none⟩,
   ⟨(some t16), oMov (.t t5), none, none⟩,
   ⟨(some t17), oBin (sh2 shrO) (.t t16) (.v (.int .u64 63)), none, none⟩,
   ⟨(some t18), oConv .u64 (.t t17), none, none⟩,
   ⟨(some t19), oBin (int2 xorO) (.t t15) (.t t18), none, none⟩,
   ⟨(some t20), oCall 49 [(.t t12), (.t t19)], none, none⟩])))
 (xOps [⟨(some t21), oBin (int2 addO) (.t t8) (.v (.int .i64 1)), none, none⟩,
   ⟨(some t8), oMov (.t t21), none, none⟩])))))))⟩
theorem ok50 : cFunc Tryz.prog gl ex Tryz.f50 = some c50 := by kernel_rfl
/-- (*publican/code.writer).kinds -/
def c51 : AFunc := ⟨22, [],
 (xSeq (xOps [⟨(some t6), oMov (.t t0), none, none⟩,
   ⟨(some t7), oMov (.t t1), none, none⟩,
   ⟨(some t8), oLenL (.t t7), none, none⟩,
   ⟨(some t9), oConv .u64 (.t t8), none, none⟩,
   ⟨(some t10), oCall 49 [(.t t6), (.t t9)], none, none⟩])
 (xSeq (xOps [⟨(some t11), oMov (.t t1), none, none⟩,
   ⟨(some t12), oLenL (.t t11), none, none⟩,
   ⟨(some t13), oMov (.v (.int .i64 0)), none, none⟩])
 (xBlock 0 (xLoop (xSeq (xOps [⟨(some t14), oBin (int2 (cmpO ltI)) (.t t13) (.t t12), none, none⟩])
 (xSeq (xCond (.t t14)
 xSkip
 (xExit 0))
 (xSeq (xBlock 1 (xSeq (xOps [⟨(some t15), oIdxAddrL 1 (.t t11) (.t t13), none, none⟩,
   ⟨(some t16), oLoad1 (.t t15), none, (some (.t t15))⟩,
   ⟨(some t5), oMov (.t t16), none, none⟩])
 (xOps [⟨(some t17), oMov (.t t0), none, none⟩,
   ⟨(some t18), oMov (.t t5), none, none⟩,
   ⟨(some t19), oBuildSlice 1 [(.int .i64 0)] [(0, 1, (.t t18))], none, none⟩,
   ⟨(some t20), oCall 50 [(.t t17), (.t t19)], none, none⟩])))
 (xOps [⟨(some t21), oBin (int2 addO) (.t t13) (.v (.int .i64 1)), none, none⟩,
   ⟨(some t13), oMov (.t t21), none, none⟩]))))))))⟩
theorem ok51 : cFunc Tryz.prog gl ex Tryz.f51 = some c51 := by kernel_rfl
/-- publican/pack.Sum -/
def c52 : AFunc := ⟨30, [.tmp t2],
 (xSeq (xOps [⟨(some t2), oMov (.v (.int .u32 0)), none, none⟩])
 (xSeq (xOps [⟨(some t3), oMov (.v (.int .u32 4294967295)), none, none⟩])
 (xSeq (xSeq (xOps [⟨(some t6), oMov (.t t0), none, none⟩,
   ⟨(some t7), oLenL (.t t6), none, none⟩,
   ⟨(some t8), oMov (.v (.int .i64 0)), none, none⟩])
 (xBlock 0 (xLoop (xSeq (xOps [⟨(some t9), oBin (int2 (cmpO ltI)) (.t t8) (.t t7), none, none⟩])
 (xSeq (xCond (.t t9)
 xSkip
 (xExit 0))
 (xSeq (xBlock 1 (xSeq (xOps [⟨(some t10), oIdxAddrL 1 (.t t6) (.t t8), none, none⟩,
   ⟨(some t11), oLoad1 (.t t10), none, (some (.t t10))⟩,
   ⟨(some t5), oMov (.t t11), none, none⟩])
 (xSeq (xOps [⟨(some t12), oMov (.t t3), none, none⟩,
   ⟨(some t13), oMov (.t t5), none, none⟩,
   ⟨(some t14), oConv .u32 (.t t13), none, none⟩,
   ⟨(some t15), oBin (int2 xorO) (.t t12) (.t t14), none, none⟩,
   ⟨(some t3), oMov (.t t15), none, none⟩])
 (xSeq (xOps [⟨(some t16), oMov (.v (.int .i64 0)), none, none⟩])
 (xBlock 2 (xLoop (xSeq (xOps [⟨(some t17), oBin (int2 (cmpO ltI)) (.t t16) (.v (.int .i64 8)), none, none⟩])
 (xSeq (xCond (.t t17)
 xSkip
 (xExit 2))
 (xSeq (xBlock 3 (xSeq (xOps [⟨(some t18), oMov (.t t3), none, none⟩,
   ⟨(some t19), oBin (int2 andO) (.t t18) (.v (.int .u32 1)), none, none⟩,
   ⟨(some t20), oBin (int2 (cmpO eqI)) (.t t19) (.v (.int .u32 1)), none, none⟩])
 (xCond (.t t20)
 (xOps [⟨(some t21), oMov (.t t3), none, none⟩,
   ⟨(some t22), oBin (sh2 shrO) (.t t21) (.v (.int .u64 1)), none, none⟩,
   ⟨(some t23), oBin (int2 xorO) (.t t22) (.v (.int .u32 3988292384)), none, none⟩,
   ⟨(some t3), oMov (.t t23), none, none⟩])
 (xOps [⟨(some t24), oMov (.t t3), none, none⟩,
   ⟨(some t25), oBin (sh2 shrO) (.t t24) (.v (.int .u64 1)), none, none⟩,
   ⟨(some t3), oMov (.t t25), none, none⟩]))))
 (xOps [⟨(some t26), oBin (int2 addO) (.t t16) (.v (.int .i64 1)), none, none⟩,
   ⟨(some t16), oMov (.t t26), none, none⟩]))))))))))
 (xOps [⟨(some t27), oBin (int2 addO) (.t t8) (.v (.int .i64 1)), none, none⟩,
   ⟨(some t8), oMov (.t t27), none, none⟩])))))))
 (xSeq (xOps [⟨(some t28), oMov (.t t3), none, none⟩,
   ⟨(some t29), oCompl (.t t28), none, none⟩,
   ⟨(some t2), oMov (.t t29), none, none⟩])
 xRet))))⟩
theorem ok52 : cFunc Tryz.prog gl ex Tryz.f52 = some c52 := by kernel_rfl
/-- publican/verify.parts -/
def c53 : AFunc := ⟨81, [.tmp t2],
 (xSeq (xOps [⟨(some t1), oBox (.t t0), none, none⟩,
   ⟨(some t2), oMov (.v (.bool false)), none, none⟩])
 (xSeq (xOps [⟨(some t3), oMov (.v (.func (.func 105) #[] #[])), none, none⟩])
 (xSeq (xOps [⟨(some t4), oFieldAddr 0 (.t t1), none, none⟩,
   ⟨(some t5), oLoad1 (.t t4), none, (some (.t t4))⟩,
   ⟨(some t6), oLenL (.t t5), none, none⟩,
   ⟨(some t7), oBin (int2 (cmpO leI)) (.t t6) (.v (.int .i64 1024)), none, none⟩,
   ⟨(some t8), oMov (.t t7), none, none⟩,
   ⟨(some t9), oFieldAddr 1 (.t t1), (some (t8, true)), none⟩,
   ⟨(some t10), oLoad1 (.t t9), (some (t8, true)), (some (.t t9))⟩,
   ⟨(some t11), oLenL (.t t10), (some (t8, true)), none⟩,
   ⟨(some t12), oBin (int2 (cmpO leI)) (.t t11) (.v (.int .i64 64)), (some (t8, true)), none⟩,
   ⟨(some t13), oPick (.t t8) (.t t12) (.v (.bool false)), none, none⟩,
   ⟨(some t14), oMov (.t t13), none, none⟩,
   ⟨(some t15), oFieldAddr 2 (.t t1), (some (t14, true)), none⟩,
   ⟨(some t16), oLoad1 (.t t15), (some (t14, true)), (some (.t t15))⟩,
   ⟨(some t17), oLenL (.t t16), (some (t14, true)), none⟩,
   ⟨(some t18), oBin (int2 (cmpO leI)) (.t t17) (.v (.int .i64 64)), (some (t14, true)), none⟩,
   ⟨(some t19), oPick (.t t14) (.t t18) (.v (.bool false)), none, none⟩,
   ⟨(some t20), oMov (.t t19), none, none⟩,
   ⟨(some t21), oFieldAddr 3 (.t t1), (some (t20, true)), none⟩,
   ⟨(some t22), oLoad1 (.t t21), (some (t20, true)), (some (.t t21))⟩,
   ⟨(some t23), oLenL (.t t22), (some (t20, true)), none⟩,
   ⟨(some t24), oBin (int2 (cmpO leI)) (.t t23) (.v (.int .i64 64)), (some (t20, true)), none⟩,
   ⟨(some t25), oPick (.t t20) (.t t24) (.v (.bool false)), none, none⟩,
   ⟨(some t26), oMov (.t t25), none, none⟩,
   ⟨(some t27), oFieldAddr 4 (.t t1), (some (t26, true)), none⟩,
   ⟨(some t28), oLoad1 (.t t27), (some (t26, true)), (some (.t t27))⟩,
   ⟨(some t29), oLenL (.t t28), (some (t26, true)), none⟩,
   ⟨(some t30), oBin (int2 (cmpO leI)) (.t t29) (.v (.int .i64 64)), (some (t26, true)), none⟩,
   ⟨(some t31), oPick (.t t26) (.t t30) (.v (.bool false)), none, none⟩,
   ⟨(some t32), oMov (.t t31), none, none⟩,
   ⟨(some t33), oFieldAddr 6 (.t t1), (some (t32, true)), none⟩,
   ⟨(some t34), oLoad1 (.t t33), (some (t32, true)), (some (.t t33))⟩,
   ⟨(some t35), oLenL (.t t34), (some (t32, true)), none⟩,
   ⟨(some t36), oBin (int2 (cmpO geI)) (.t t35) (.v (.int .i64 1)), (some (t32, true)), none⟩,
   ⟨(some t37), oPick (.t t32) (.t t36) (.v (.bool false)), none, none⟩,
   ⟨(some t38), oMov (.t t37), none, none⟩,
   ⟨(some t39), oFieldAddr 6 (.t t1), (some (t38, true)), none⟩,
   ⟨(some t40), oLoad1 (.t t39), (some (t38, true)), (some (.t t39))⟩,
   ⟨(some t41), oLenL (.t t40), (some (t38, true)), none⟩,
   ⟨(some t42), oBin (int2 (cmpO leI)) (.t t41) (.v (.int .i64 4096)), (some (t38, true)), none⟩,
   ⟨(some t43), oPick (.t t38) (.t t42) (.v (.bool false)), none, none⟩,
   ⟨(some t44), oMov (.t t43), none, none⟩,
   ⟨(some t45), oFieldAddr 5 (.t t1), (some (t44, true)), none⟩,
   ⟨(some t46), oLoad1 (.t t45), (some (t44, true)), (some (.t t45))⟩,
   ⟨(some t47), oLenL (.t t46), (some (t44, true)), none⟩,
   ⟨(some t48), oFieldAddr 3 (.t t1), (some (t44, true)), none⟩,
   ⟨(some t49), oLoad1 (.t t48), (some (t44, true)), (some (.t t48))⟩,
   ⟨(some t50), oLenL (.t t49), (some (t44, true)), none⟩,
   ⟨(some t51), oBin (int2 (cmpO eqI)) (.t t47) (.t t50), (some (t44, true)), none⟩,
   ⟨(some t52), oPick (.t t44) (.t t51) (.v (.bool false)), none, none⟩,
   ⟨(some t53), oMov (.t t52), none, none⟩,
   ⟨(some t54), oFieldAddr 2 (.t t1), (some (t53, true)), none⟩,
   ⟨(some t55), oLoad1 (.t t54), (some (t53, true)), (some (.t t54))⟩,
   ⟨(some t56), oCall 107 [(.t t55), (.v (.int .i64 6))], (some (t53, true)), none⟩,
   ⟨(some t57), oPick (.t t53) (.t t56) (.v (.bool false)), none, none⟩,
   ⟨(some t58), oMov (.t t57), none, none⟩,
   ⟨(some t59), oFieldAddr 3 (.t t1), (some (t58, true)), none⟩,
   ⟨(some t60), oLoad1 (.t t59), (some (t58, true)), (some (.t t59))⟩,
   ⟨(some t61), oCall 107 [(.t t60), (.v (.int .i64 5))], (some (t58, true)), none⟩,
   ⟨(some t62), oPick (.t t58) (.t t61) (.v (.bool false)), none, none⟩,
   ⟨(some t63), oMov (.t t62), none, none⟩,
   ⟨(some t64), oFieldAddr 4 (.t t1), (some (t63, true)), none⟩,
   ⟨(some t65), oLoad1 (.t t64), (some (t63, true)), (some (.t t64))⟩,
   ⟨(some t66), oCall 107 [(.t t65), (.v (.int .i64 5))], (some (t63, true)), none⟩,
   ⟨(some t67), oPick (.t t63) (.t t66) (.v (.bool false)), none, none⟩,
   ⟨(some t68), oMov (.t t67), none, none⟩,
   ⟨(some t69), oFieldAddr 0 (.t t1), (some (t68, true)), none⟩,
   ⟨(some t70), oLoad1 (.t t69), (some (t68, true)), (some (.t t69))⟩,
   ⟨(some t71), oMov (.t t3), (some (t68, true)), none⟩,
   ⟨(some t72), oCall 108 [(.t t70), (.t t71)], (some (t68, true)), none⟩,
   ⟨(some t73), oNot (.t t72), (some (t68, true)), none⟩,
   ⟨(some t74), oPick (.t t68) (.t t73) (.v (.bool false)), none, none⟩,
   ⟨(some t75), oMov (.t t74), none, none⟩,
   ⟨(some t76), oFieldAddr 1 (.t t1), (some (t75, true)), none⟩,
   ⟨(some t77), oLoad1 (.t t76), (some (t75, true)), (some (.t t76))⟩,
   ⟨(some t78), oCall 109 [(.t t77), (.v (.func (.func 110) #[] #[]))], (some (t75, true)), none⟩,
   ⟨(some t79), oNot (.t t78), (some (t75, true)), none⟩,
   ⟨(some t80), oPick (.t t75) (.t t79) (.v (.bool false)), none, none⟩,
   ⟨(some t2), oMov (.t t80), none, none⟩])
 xRet)))⟩
theorem ok53 : cFunc Tryz.prog gl ex Tryz.f53 = some c53 := by kernel_rfl
/-- publican/verify.halts -/
def c54 : AFunc := ⟨27, [.tmp t2],
 (xSeq (xOps [⟨(some t1), oBox (.t t0), none, none⟩,
   ⟨(some t2), oMov (.v (.int .i64 0)), none, none⟩])
 (xSeq (xOps [⟨(some t6), oFieldAddr 6 (.t t1), none, none⟩,
   ⟨(some t7), oLoad1 (.t t6), none, (some (.t t6))⟩,
   ⟨(some t8), oLenL (.t t7), none, none⟩,
   ⟨(some t9), oBin (int2 subO) (.t t8) (.v (.int .i64 1)), none, none⟩,
   ⟨(some t3), oMov (.t t9), none, none⟩])
 (xSeq (xSeq (xOps [⟨(some t10), oFieldAddr 6 (.t t1), none, none⟩,
   ⟨(some t11), oLoad1 (.t t10), none, (some (.t t10))⟩,
   ⟨(some t12), oLenL (.t t11), none, none⟩,
   ⟨(some t13), oMov (.v (.int .i64 0)), none, none⟩])
 (xBlock 0 (xLoop (xSeq (xOps [⟨(some t14), oBin (int2 (cmpO ltI)) (.t t13) (.t t12), none, none⟩])
 (xSeq (xCond (.t t14)
 xSkip
 (xExit 0))
 (xSeq (xBlock 1 (xSeq (xOps [⟨(some t15), oMov (.t t13), none, none⟩,
   ⟨(some t16), oIdxAddrL 4 (.t t11) (.t t13), none, none⟩,
   ⟨(some t17), oLoadN 4 (.t t16), none, none⟩,
   ⟨(some t5), oNew [(.int .i64 0), (.int .i64 0), (.int .i64 0), (.int .i64 0)], none, none⟩,
   ⟨(some t4), oMov (.t t15), none, none⟩,
   ⟨none, oStore 4 (.t t5) (.t t17), none, none⟩])
 (xSeq (xOps [⟨(some t18), oFieldAddr 0 (.t t5), none, none⟩,
   ⟨(some t19), oLoad1 (.t t18), none, (some (.t t18))⟩,
   ⟨(some t20), oBin (int2 (cmpO eqI)) (.t t19) (.v (.int .i64 23)), none, none⟩,
   ⟨(some t21), oMov (.t t4), none, none⟩,
   ⟨(some t22), oMov (.t t3), none, none⟩,
   ⟨(some t23), oBin (int2 (cmpO eqI)) (.t t21) (.t t22), none, none⟩,
   ⟨(some t24), oEqv eqB true (.t t20) (.t t23), none, none⟩])
 (xCond (.t t24)
 (xSeq (xOps [⟨(some t25), oMov (.t t4), none, none⟩,
   ⟨(some t2), oMov (.t t25), none, none⟩])
 xRet)
 xSkip))))
 (xOps [⟨(some t26), oBin (int2 addO) (.t t13) (.v (.int .i64 1)), none, none⟩,
   ⟨(some t13), oMov (.t t26), none, none⟩])))))))
 (xSeq (xOps [⟨(some t2), oMov (.v (.int .i64 (-1))), none, none⟩])
 xRet))))⟩
theorem ok54 : cFunc Tryz.prog gl ex Tryz.f54 = some c54 := by kernel_rfl
/-- (*publican/verify.checker).there -/
def c55 : AFunc := ⟨140, [.tmp t4],
 (xSeq (xOps [⟨(some t3), oBox (.t t1), none, none⟩,
   ⟨(some t4), oMov (.v (.bool false)), none, none⟩])
 (xSeq (xOps [⟨(some t8), oFieldAddr 1 (.t t3), none, none⟩,
   ⟨(some t9), oLoad1 (.t t8), none, (some (.t t8))⟩,
   ⟨(some t5), oMov (.t t9), none, none⟩])
 (xSeq (xOps [⟨(some t11), oMov (.t t0), none, none⟩,
   ⟨(some t12), oFieldAddr 1 (.t t3), none, none⟩,
   ⟨(some t13), oLoad1 (.t t12), none, (some (.t t12))⟩,
   ⟨(some t14), oCall 112 [(.t t11), (.t t13)], none, none⟩,
   ⟨(some t10), oMov (.t t14), none, none⟩,
   ⟨(some t15), oExtract (.t t10) 0, none, none⟩,
   ⟨(some t16), oExtract (.t t10) 1, none, none⟩,
   ⟨(some t6), oMov (.t t15), none, none⟩,
   ⟨(some t7), oMov (.t t16), none, none⟩])
 (xSeq (xSeq (xOps [⟨(some t17), oFieldAddr 0 (.t t3), none, none⟩,
   ⟨(some t18), oLoad1 (.t t17), none, (some (.t t17))⟩])
 (xBlock 0 (xSeq (xOps [⟨(some t20), oBin (int2 (cmpO eqI)) (.t t18) (.v (.int .i64 0)), none, none⟩,
   ⟨(some t19), oMov (.t t20), none, none⟩])
 (xCond (.t t19)
 (xSeq (xReg [⟨(some t21), oFieldAddr 1 (.t t3), none, none⟩,
   ⟨(some t22), oLoad1 (.t t21), none, (some (.t t21))⟩,
   ⟨(some t23), oBin (int2 (cmpO geI)) (.t t22) (.v (.int .i64 0)), none, none⟩,
   ⟨(some t24), oMov (.t t23), none, none⟩,
   ⟨(some t25), oFieldAddr 1 (.t t3), (some (t24, true)), none⟩,
   ⟨(some t26), oLoad1 (.t t25), (some (t24, true)), (some (.t t25))⟩,
   ⟨(some t27), oMov (.t t0), (some (t24, true)), none⟩,
   ⟨(some t28), oNilCheck (.t t27), (some (t24, true)), none⟩,
   ⟨(some t29), oFieldAddr 0 (.t t28), (some (t24, true)), none⟩,
   ⟨(some t30), oFieldAddr 0 (.t t29), (some (t24, true)), none⟩,
   ⟨(some t31), oLoad1 (.t t30), (some (t24, true)), (some (.t t30))⟩,
   ⟨(some t32), oLenL (.t t31), (some (t24, true)), none⟩,
   ⟨(some t33), oBin (int2 (cmpO ltI)) (.t t26) (.t t32), (some (t24, true)), none⟩,
   ⟨(some t34), oPick (.t t24) (.t t33) (.v (.bool false)), none, none⟩,
   ⟨(some t4), oMov (.t t34), none, none⟩] [(4, 6), (5, 6), (4, 7), (5, 7), (4, 8), (5, 8), (4, 9), (5, 9), (4, 10), (5, 10), (4, 11), (5, 11)])
 xRet)
 (xSeq (xOps [⟨(some t36), oBin (int2 (cmpO eqI)) (.t t18) (.v (.int .i64 1)), none, none⟩,
   ⟨(some t35), oMov (.t t36), none, none⟩])
 (xCond (.t t35)
 (xSeq (xOps [⟨(some t37), oMov (.t t7), none, none⟩,
   ⟨(some t38), oMov (.t t37), none, none⟩,
   ⟨(some t39), oMov (.t t6), (some (t38, true)), none⟩,
   ⟨(some t40), oNot (.t t39), (some (t38, true)), none⟩,
   ⟨(some t41), oPick (.t t38) (.t t40) (.v (.bool false)), none, none⟩,
   ⟨(some t4), oMov (.t t41), none, none⟩])
 xRet)
 (xSeq (xSeq (xOps [⟨(some t43), oBin (int2 (cmpO eqI)) (.t t18) (.v (.int .i64 2)), none, none⟩,
   ⟨(some t42), oMov (.t t43), none, none⟩])
 (xCond (.t t42)
 xSkip
 (xOps [⟨(some t44), oBin (int2 (cmpO eqI)) (.t t18) (.v (.int .i64 3)), none, none⟩,
   ⟨(some t42), oMov (.t t44), none, none⟩])))
 (xCond (.t t42)
 (xSeq (xOps [⟨(some t45), oMov (.t t0), none, none⟩,
   ⟨(some t46), oFieldAddr 1 (.t t3), none, none⟩,
   ⟨(some t47), oLoad1 (.t t46), none, (some (.t t46))⟩,
   ⟨(some t48), oCall 113 [(.t t45), (.t t47)], none, none⟩,
   ⟨(some t49), oBin (int2 (cmpO neI)) (.t t48) (.v (.int .i64 0)), none, none⟩,
   ⟨(some t4), oMov (.t t49), none, none⟩])
 xRet)
 (xSeq (xSeq (xOps [⟨(some t51), oBin (int2 (cmpO eqI)) (.t t18) (.v (.int .i64 4)), none, none⟩,
   ⟨(some t50), oMov (.t t51), none, none⟩])
 (xCond (.t t50)
 xSkip
 (xSeq (xOps [⟨(some t52), oBin (int2 (cmpO eqI)) (.t t18) (.v (.int .i64 5)), none, none⟩,
   ⟨(some t50), oMov (.t t52), none, none⟩])
 (xCond (.t t50)
 xSkip
 (xSeq (xOps [⟨(some t53), oBin (int2 (cmpO eqI)) (.t t18) (.v (.int .i64 10)), none, none⟩,
   ⟨(some t50), oMov (.t t53), none, none⟩])
 (xCond (.t t50)
 xSkip
 (xSeq (xOps [⟨(some t54), oBin (int2 (cmpO eqI)) (.t t18) (.v (.int .i64 11)), none, none⟩,
   ⟨(some t50), oMov (.t t54), none, none⟩])
 (xCond (.t t50)
 xSkip
 (xSeq (xOps [⟨(some t55), oBin (int2 (cmpO eqI)) (.t t18) (.v (.int .i64 13)), none, none⟩,
   ⟨(some t50), oMov (.t t55), none, none⟩])
 (xCond (.t t50)
 xSkip
 (xOps [⟨(some t56), oBin (int2 (cmpO eqI)) (.t t18) (.v (.int .i64 14)), none, none⟩,
   ⟨(some t50), oMov (.t t56), none, none⟩])))))))))))
 (xCond (.t t50)
 (xSeq (xOps [⟨(some t57), oMov (.t t5), none, none⟩,
   ⟨(some t58), oCall 106 [(.t t57), (.v (.int .i64 2)), (.v (.int .i64 5))], none, none⟩,
   ⟨(some t4), oMov (.t t58), none, none⟩])
 xRet)
 (xSeq (xSeq (xOps [⟨(some t60), oBin (int2 (cmpO eqI)) (.t t18) (.v (.int .i64 6)), none, none⟩,
   ⟨(some t59), oMov (.t t60), none, none⟩])
 (xCond (.t t59)
 xSkip
 (xSeq (xOps [⟨(some t61), oBin (int2 (cmpO eqI)) (.t t18) (.v (.int .i64 7)), none, none⟩,
   ⟨(some t59), oMov (.t t61), none, none⟩])
 (xCond (.t t59)
 xSkip
 (xOps [⟨(some t62), oBin (int2 (cmpO eqI)) (.t t18) (.v (.int .i64 8)), none, none⟩,
   ⟨(some t59), oMov (.t t62), none, none⟩])))))
 (xCond (.t t59)
 (xSeq (xOps [⟨(some t63), oMov (.t t5), none, none⟩,
   ⟨(some t64), oCall 106 [(.t t63), (.v (.int .i64 2)), (.v (.int .i64 4))], none, none⟩,
   ⟨(some t4), oMov (.t t64), none, none⟩])
 xRet)
 (xSeq (xOps [⟨(some t66), oBin (int2 (cmpO eqI)) (.t t18) (.v (.int .i64 12)), none, none⟩,
   ⟨(some t65), oMov (.t t66), none, none⟩])
 (xCond (.t t65)
 (xSeq (xOps [⟨(some t67), oMov (.t t5), none, none⟩,
   ⟨(some t68), oCall 106 [(.t t67), (.v (.int .i64 1)), (.v (.int .i64 5))], none, none⟩,
   ⟨(some t4), oMov (.t t68), none, none⟩])
 xRet)
 (xSeq (xOps [⟨(some t70), oBin (int2 (cmpO eqI)) (.t t18) (.v (.int .i64 15)), none, none⟩,
   ⟨(some t69), oMov (.t t70), none, none⟩])
 (xCond (.t t69)
 (xSeq (xOps [⟨(some t71), oMov (.t t6), none, none⟩,
   ⟨(some t4), oMov (.t t71), none, none⟩])
 xRet)
 (xSeq (xOps [⟨(some t73), oBin (int2 (cmpO eqI)) (.t t18) (.v (.int .i64 16)), none, none⟩,
   ⟨(some t72), oMov (.t t73), none, none⟩])
 (xCond (.t t72)
 (xSeq (xReg [⟨(some t74), oFieldAddr 1 (.t t3), none, none⟩,
   ⟨(some t75), oLoad1 (.t t74), none, (some (.t t74))⟩,
   ⟨(some t76), oBin (int2 (cmpO geI)) (.t t75) (.v (.int .i64 0)), none, none⟩,
   ⟨(some t77), oMov (.t t76), none, none⟩,
   ⟨(some t78), oFieldAddr 1 (.t t3), (some (t77, true)), none⟩,
   ⟨(some t79), oLoad1 (.t t78), (some (t77, true)), (some (.t t78))⟩,
   ⟨(some t80), oMov (.t t0), (some (t77, true)), none⟩,
   ⟨(some t81), oNilCheck (.t t80), (some (t77, true)), none⟩,
   ⟨(some t82), oFieldAddr 0 (.t t81), (some (t77, true)), none⟩,
   ⟨(some t83), oFieldAddr 1 (.t t82), (some (t77, true)), none⟩,
   ⟨(some t84), oLoad1 (.t t83), (some (t77, true)), (some (.t t83))⟩,
   ⟨(some t85), oLenL (.t t84), (some (t77, true)), none⟩,
   ⟨(some t86), oBin (int2 (cmpO ltI)) (.t t79) (.t t85), (some (t77, true)), none⟩,
   ⟨(some t87), oPick (.t t77) (.t t86) (.v (.bool false)), none, none⟩,
   ⟨(some t4), oMov (.t t87), none, none⟩] [(4, 6), (5, 6), (4, 7), (5, 7), (4, 8), (5, 8), (4, 9), (5, 9), (4, 10), (5, 10), (4, 11), (5, 11)])
 xRet)
 (xSeq (xSeq (xOps [⟨(some t89), oBin (int2 (cmpO eqI)) (.t t18) (.v (.int .i64 19)), none, none⟩,
   ⟨(some t88), oMov (.t t89), none, none⟩])
 (xCond (.t t88)
 xSkip
 (xOps [⟨(some t90), oBin (int2 (cmpO eqI)) (.t t18) (.v (.int .i64 20)), none, none⟩,
   ⟨(some t88), oMov (.t t90), none, none⟩])))
 (xCond (.t t88)
 (xSeq (xReg [⟨(some t91), oMov (.t t6), none, none⟩,
   ⟨(some t92), oMov (.t t91), none, none⟩,
   ⟨(some t93), oFieldAddr 2 (.t t3), (some (t92, true)), none⟩,
   ⟨(some t94), oLoad1 (.t t93), (some (t92, true)), (some (.t t93))⟩,
   ⟨(some t95), oBin (int2 (cmpO geI)) (.t t94) (.v (.int .i64 0)), (some (t92, true)), none⟩,
   ⟨(some t96), oPick (.t t92) (.t t95) (.v (.bool false)), none, none⟩,
   ⟨(some t97), oMov (.t t96), none, none⟩,
   ⟨(some t98), oFieldAddr 2 (.t t3), (some (t97, true)), none⟩,
   ⟨(some t99), oLoad1 (.t t98), (some (t97, true)), (some (.t t98))⟩,
   ⟨(some t100), oMov (.t t0), (some (t97, true)), none⟩,
   ⟨(some t101), oNilCheck (.t t100), (some (t97, true)), none⟩,
   ⟨(some t102), oFieldAddr 0 (.t t101), (some (t97, true)), none⟩,
   ⟨(some t103), oFieldAddr 4 (.t t102), (some (t97, true)), none⟩,
   ⟨(some t104), oLoad1 (.t t103), (some (t97, true)), (some (.t t103))⟩,
   ⟨(some t105), oLenL (.t t104), (some (t97, true)), none⟩,
   ⟨(some t106), oBin (int2 subO) (.t t105) (.v (.int .i64 1)), (some (t97, true)), none⟩,
   ⟨(some t107), oBin (int2 (cmpO ltI)) (.t t99) (.t t106), (some (t97, true)), none⟩,
   ⟨(some t108), oPick (.t t97) (.t t107) (.v (.bool false)), none, none⟩,
   ⟨(some t109), oMov (.t t108), none, none⟩,
   ⟨(some t110), oMov (.t t0), (some (t109, true)), none⟩,
   ⟨(some t111), oFieldAddr 2 (.t t3), (some (t109, true)), none⟩,
   ⟨(some t112), oLoad1 (.t t111), (some (t109, true)), (some (.t t111))⟩,
   ⟨(some t113), oCall 113 [(.t t110), (.t t112)], (some (t109, true)), none⟩,
   ⟨(some t114), oBin (int2 (cmpO eqI)) (.t t113) (.v (.int .i64 2)), (some (t109, true)), none⟩,
   ⟨(some t115), oPick (.t t109) (.t t114) (.v (.bool false)), none, none⟩,
   ⟨(some t116), oMov (.t t115), none, none⟩,
   ⟨(some t117), oMov (.t t0), (some (t116, true)), none⟩,
   ⟨(some t118), oFieldAddr 2 (.t t3), (some (t116, true)), none⟩,
   ⟨(some t119), oLoad1 (.t t118), (some (t116, true)), (some (.t t118))⟩,
   ⟨(some t120), oBin (int2 addO) (.t t119) (.v (.int .i64 1)), (some (t116, true)), none⟩,
   ⟨(some t121), oCall 113 [(.t t117), (.t t120)], (some (t116, true)), none⟩,
   ⟨(some t122), oBin (int2 (cmpO eqI)) (.t t121) (.v (.int .i64 3)), (some (t116, true)), none⟩,
   ⟨(some t123), oPick (.t t116) (.t t122) (.v (.bool false)), none, none⟩,
   ⟨(some t4), oMov (.t t123), none, none⟩] [(7, 9), (8, 9), (7, 10), (8, 10), (7, 11), (8, 11), (7, 12), (8, 12), (7, 13), (8, 13), (7, 14), (8, 14), (7, 15), (8, 15), (19, 20), (19, 21), (26, 27), (26, 28), (26, 29)])
 xRet)
 (xSeq (xSeq (xOps [⟨(some t125), oBin (int2 (cmpO eqI)) (.t t18) (.v (.int .i64 21)), none, none⟩,
   ⟨(some t124), oMov (.t t125), none, none⟩])
 (xCond (.t t124)
 xSkip
 (xOps [⟨(some t126), oBin (int2 (cmpO eqI)) (.t t18) (.v (.int .i64 22)), none, none⟩,
   ⟨(some t124), oMov (.t t126), none, none⟩])))
 (xCond (.t t124)
 (xSeq (xOps [⟨(some t127), oMov (.t t0), none, none⟩,
   ⟨(some t128), oFieldAddr 1 (.t t3), none, none⟩,
   ⟨(some t129), oLoad1 (.t t128), none, (some (.t t128))⟩,
   ⟨(some t130), oCall 114 [(.t t127), (.t t129)], none, none⟩,
   ⟨(some t131), oBin (int2 (cmpO neI)) (.t t130) (.v (.int .i64 0)), none, none⟩,
   ⟨(some t4), oMov (.t t131), none, none⟩])
 xRet)
 xSkip))))))))))))))))))))))
 (xSeq (xOps [⟨(some t132), oFieldAddr 0 (.t t3), none, none⟩,
   ⟨(some t133), oLoad1 (.t t132), none, (some (.t t132))⟩,
   ⟨(some t134), oBin (int2 (cmpO geI)) (.t t133) (.v (.int .i64 0)), none, none⟩,
   ⟨(some t135), oMov (.t t134), none, none⟩,
   ⟨(some t136), oFieldAddr 0 (.t t3), (some (t135, true)), none⟩,
   ⟨(some t137), oLoad1 (.t t136), (some (t135, true)), (some (.t t136))⟩,
   ⟨(some t138), oBin (int2 (cmpO leI)) (.t t137) (.v (.int .i64 23)), (some (t135, true)), none⟩,
   ⟨(some t139), oPick (.t t135) (.t t138) (.v (.bool false)), none, none⟩,
   ⟨(some t4), oMov (.t t139), none, none⟩])
 xRet)))))⟩
theorem ok55 : cFunc Tryz.prog gl ex Tryz.f55 = some c55 := by kernel_rfl
/-- (*publican/verify.checker).find -/
def c56 : AFunc := ⟨58, [],
 (xSeq (xOps [⟨(some t4), oMov (.t t0), none, none⟩,
   ⟨(some t5), oNilCheck (.t t4), none, none⟩,
   ⟨(some t6), oFieldAddr 0 (.t t5), none, none⟩,
   ⟨(some t7), oFieldAddr 6 (.t t6), none, none⟩,
   ⟨(some t8), oLoad1 (.t t7), none, (some (.t t7))⟩,
   ⟨(some t9), oLenL (.t t8), none, none⟩,
   ⟨(some t10), oMov (.v (.int .i64 0)), none, none⟩])
 (xBlock 0 (xLoop (xSeq (xOps [⟨(some t11), oBin (int2 (cmpO ltI)) (.t t10) (.t t9), none, none⟩])
 (xSeq (xCond (.t t11)
 xSkip
 (xExit 0))
 (xSeq (xBlock 1 (xSeq (xOps [⟨(some t12), oMov (.t t10), none, none⟩,
   ⟨(some t13), oIdxAddrL 4 (.t t8) (.t t10), none, none⟩,
   ⟨(some t14), oLoadN 4 (.t t13), none, none⟩,
   ⟨(some t3), oNew [(.int .i64 0), (.int .i64 0), (.int .i64 0), (.int .i64 0)], none, none⟩,
   ⟨(some t2), oMov (.t t12), none, none⟩,
   ⟨none, oStore 4 (.t t3) (.t t14), none, none⟩])
 (xSeq (xReg [⟨(some t15), oFieldAddr 0 (.t t3), none, none⟩,
   ⟨(some t16), oLoad1 (.t t15), none, (some (.t t15))⟩,
   ⟨(some t17), oBin (int2 (cmpO eqI)) (.t t16) (.v (.int .i64 19)), none, none⟩,
   ⟨(some t18), oMov (.t t17), none, none⟩,
   ⟨(some t19), oFieldAddr 3 (.t t3), (some (t18, true)), none⟩,
   ⟨(some t20), oLoad1 (.t t19), (some (t18, true)), (some (.t t19))⟩,
   ⟨(some t21), oMov (.t t2), (some (t18, true)), none⟩,
   ⟨(some t22), oBin (int2 (cmpO gtI)) (.t t20) (.t t21), (some (t18, true)), none⟩,
   ⟨(some t23), oPick (.t t18) (.t t22) (.v (.bool false)), none, none⟩,
   ⟨(some t24), oMov (.t t23), none, none⟩,
   ⟨(some t25), oFieldAddr 3 (.t t3), (some (t24, true)), none⟩,
   ⟨(some t26), oLoad1 (.t t25), (some (t24, true)), (some (.t t25))⟩,
   ⟨(some t27), oMov (.t t0), (some (t24, true)), none⟩,
   ⟨(some t28), oNilCheck (.t t27), (some (t24, true)), none⟩,
   ⟨(some t29), oFieldAddr 0 (.t t28), (some (t24, true)), none⟩,
   ⟨(some t30), oFieldAddr 6 (.t t29), (some (t24, true)), none⟩,
   ⟨(some t31), oLoad1 (.t t30), (some (t24, true)), (some (.t t30))⟩,
   ⟨(some t32), oLenL (.t t31), (some (t24, true)), none⟩,
   ⟨(some t33), oBin (int2 (cmpO leI)) (.t t26) (.t t32), (some (t24, true)), none⟩,
   ⟨(some t34), oPick (.t t24) (.t t33) (.v (.bool false)), none, none⟩,
   ⟨(some t35), oMov (.t t34), none, none⟩,
   ⟨(some t36), oMov (.t t0), (some (t35, true)), none⟩,
   ⟨(some t37), oMov (.t t2), (some (t35, true)), none⟩,
   ⟨(some t38), oFieldAddr 3 (.t t3), (some (t35, true)), none⟩,
   ⟨(some t39), oLoad1 (.t t38), (some (t35, true)), (some (.t t38))⟩,
   ⟨(some t40), oBin (int2 subO) (.t t39) (.v (.int .i64 1)), (some (t35, true)), none⟩,
   ⟨(some t41), oCall 115 [(.t t36), (.t t37), (.t t40)], (some (t35, true)), none⟩,
   ⟨(some t42), oPick (.t t35) (.t t41) (.v (.bool false)), none, none⟩] [(4, 6), (5, 6), (10, 12), (11, 12), (10, 13), (11, 13), (10, 14), (11, 14), (10, 15), (11, 15), (10, 16), (11, 16), (10, 17), (11, 17), (21, 22), (21, 23), (22, 23), (21, 24), (22, 24), (21, 25), (22, 25)])
 (xCond (.t t42)
 (xReg [⟨(some t43), oMov (.t t0), none, none⟩,
   ⟨(some t44), oMov (.t t0), none, none⟩,
   ⟨(some t45), oNilCheck (.t t44), none, none⟩,
   ⟨(some t46), oFieldAddr 7 (.t t45), none, none⟩,
   ⟨(some t47), oLoad1 (.t t46), none, (some (.t t46))⟩,
   ⟨(some t48), oMov (.t t2), none, none⟩,
   ⟨(some t49), oFieldAddr 3 (.t t3), none, none⟩,
   ⟨(some t50), oLoad1 (.t t49), none, (some (.t t49))⟩,
   ⟨(some t51), oBin (int2 subO) (.t t50) (.v (.int .i64 1)), none, none⟩,
   ⟨(some t52), oBuild [(.int .i64 0), (.int .i64 0)] [(0, 1, (.t t48)), (1, 1, (.t t51))], none, none⟩,
   ⟨(some t53), oBuildSlice 1 [(.int .i64 0), (.int .i64 0)] [(0, 2, (.t t52))], none, none⟩,
   ⟨(some t54), oAppend 2 16 (.t t47) (.t t53), none, none⟩,
   ⟨(some t55), oNilCheck (.t t43), none, none⟩,
   ⟨(some t56), oFieldAddr 7 (.t t55), none, none⟩,
   ⟨none, oStore 1 (.t t56) (.t t54), none, none⟩] [(0, 1), (0, 2), (0, 3), (0, 4), (0, 5), (1, 5), (2, 5), (3, 5), (4, 5), (0, 6), (1, 6), (2, 6), (3, 6), (4, 6), (5, 6), (0, 7), (1, 7), (2, 7), (3, 7), (4, 7), (5, 7), (0, 8), (1, 8), (2, 8), (3, 8), (4, 8), (5, 8), (0, 9), (1, 9), (2, 9), (3, 9), (4, 9), (0, 10), (1, 10), (2, 10), (3, 10), (4, 10), (0, 11)])
 xSkip))))
 (xOps [⟨(some t57), oBin (int2 addO) (.t t10) (.v (.int .i64 1)), none, none⟩,
   ⟨(some t10), oMov (.t t57), none, none⟩])))))))⟩
theorem ok56 : cFunc Tryz.prog gl ex Tryz.f56 = some c56 := by kernel_rfl
/-- (*publican/verify.checker).jumps -/
def c57 : AFunc := ⟨140, [.tmp t6],
 (xSeq (xOps [⟨(some t5), oBox (.t t2), none, none⟩,
   ⟨(some t6), oMov (.v (.bool false)), none, none⟩])
 (xSeq (xOps [⟨(some t13), oLoadN 4 (.t t5), none, none⟩,
   ⟨(some t14), oCall 116 [(.t t13)], none, none⟩,
   ⟨(some t12), oMov (.t t14), none, none⟩,
   ⟨(some t15), oExtract (.t t12) 0, none, none⟩,
   ⟨(some t16), oExtract (.t t12) 1, none, none⟩,
   ⟨(some t7), oMov (.t t15), none, none⟩,
   ⟨(some t8), oMov (.t t16), none, none⟩])
 (xSeq (xSeq (xOps [⟨(some t17), oMov (.t t8), none, none⟩,
   ⟨(some t18), oMov (.t t17), none, none⟩,
   ⟨(some t19), oMov (.t t7), (some (t18, true)), none⟩,
   ⟨(some t20), oMov (.t t1), (some (t18, true)), none⟩,
   ⟨(some t21), oBin (int2 (cmpO leI)) (.t t19) (.t t20), (some (t18, true)), none⟩,
   ⟨(some t22), oMov (.t t21), (some (t18, true)), none⟩,
   ⟨(some t23), oMov (.t t7), (some (t22, false)), none⟩,
   ⟨(some t24), oMov (.t t0), (some (t22, false)), none⟩,
   ⟨(some t25), oNilCheck (.t t24), (some (t22, false)), none⟩,
   ⟨(some t26), oFieldAddr 0 (.t t25), (some (t22, false)), none⟩,
   ⟨(some t27), oFieldAddr 6 (.t t26), (some (t22, false)), none⟩,
   ⟨(some t28), oLoad1 (.t t27), (some (t22, false)), (some (.t t27))⟩,
   ⟨(some t29), oLenL (.t t28), (some (t22, false)), none⟩,
   ⟨(some t30), oBin (int2 (cmpO geI)) (.t t23) (.t t29), (some (t22, false)), none⟩,
   ⟨(some t31), oPick (.t t22) (.v (.bool true)) (.t t30), (some (t18, true)), none⟩,
   ⟨(some t32), oPick (.t t18) (.t t31) (.v (.bool false)), none, none⟩])
 (xCond (.t t32)
 (xSeq (xOps [⟨(some t6), oMov (.v (.bool false)), none, none⟩])
 xRet)
 xSkip))
 (xSeq (xSeq (xOps [⟨(some t33), oFieldAddr 0 (.t t5), none, none⟩,
   ⟨(some t34), oLoad1 (.t t33), none, (some (.t t33))⟩,
   ⟨(some t35), oBin (int2 (cmpO eqI)) (.t t34) (.v (.int .i64 19)), none, none⟩,
   ⟨(some t36), oMov (.t t35), none, none⟩,
   ⟨(some t37), oMov (.t t0), (some (t36, true)), none⟩,
   ⟨(some t38), oMov (.t t1), (some (t36, true)), none⟩,
   ⟨(some t39), oFieldAddr 3 (.t t5), (some (t36, true)), none⟩,
   ⟨(some t40), oLoad1 (.t t39), (some (t36, true)), (some (.t t39))⟩,
   ⟨(some t41), oBin (int2 subO) (.t t40) (.v (.int .i64 1)), (some (t36, true)), none⟩,
   ⟨(some t42), oCall 115 [(.t t37), (.t t38), (.t t41)], (some (t36, true)), none⟩,
   ⟨(some t43), oNot (.t t42), (some (t36, true)), none⟩,
   ⟨(some t44), oPick (.t t36) (.t t43) (.v (.bool false)), none, none⟩,
   ⟨(some t45), oMov (.t t44), none, none⟩,
   ⟨(some t46), oFieldAddr 0 (.t t5), (some (t45, false)), none⟩,
   ⟨(some t47), oLoad1 (.t t46), (some (t45, false)), (some (.t t46))⟩,
   ⟨(some t48), oBin (int2 (cmpO eqI)) (.t t47) (.v (.int .i64 20)), (some (t45, false)), none⟩,
   ⟨(some t49), oMov (.t t48), (some (t45, false)), none⟩,
   ⟨(some t50), oFieldAddr 3 (.t t5), (some (t49, true)), none⟩,
   ⟨(some t51), oLoad1 (.t t50), (some (t49, true)), (some (.t t50))⟩,
   ⟨(some t52), oBin (int2 (cmpO ltI)) (.t t51) (.v (.int .i64 1)), (some (t49, true)), none⟩,
   ⟨(some t53), oMov (.t t52), (some (t49, true)), none⟩,
   ⟨(some t54), oFieldAddr 3 (.t t5), (some (t53, false)), none⟩,
   ⟨(some t55), oLoad1 (.t t54), (some (t53, false)), (some (.t t54))⟩,
   ⟨(some t56), oMov (.t t1), (some (t53, false)), none⟩,
   ⟨(some t57), oBin (int2 (cmpO gtI)) (.t t55) (.t t56), (some (t53, false)), none⟩,
   ⟨(some t58), oPick (.t t53) (.v (.bool true)) (.t t57), (some (t49, true)), none⟩,
   ⟨(some t59), oMov (.t t58), (some (t49, true)), none⟩,
   ⟨(some t60), oMov (.t t0), (some (t59, false)), none⟩,
   ⟨(some t61), oFieldAddr 3 (.t t5), (some (t59, false)), none⟩,
   ⟨(some t62), oLoad1 (.t t61), (some (t59, false)), (some (.t t61))⟩,
   ⟨(some t63), oBin (int2 subO) (.t t62) (.v (.int .i64 1)), (some (t59, false)), none⟩,
   ⟨(some t64), oMov (.t t1), (some (t59, false)), none⟩,
   ⟨(some t65), oCall 115 [(.t t60), (.t t63), (.t t64)], (some (t59, false)), none⟩,
   ⟨(some t66), oNot (.t t65), (some (t59, false)), none⟩,
   ⟨(some t67), oPick (.t t59) (.v (.bool true)) (.t t66), (some (t49, true)), none⟩,
   ⟨(some t68), oPick (.t t49) (.t t67) (.v (.bool false)), (some (t45, false)), none⟩,
   ⟨(some t69), oPick (.t t45) (.v (.bool true)) (.t t68), none, none⟩])
 (xCond (.t t69)
 (xSeq (xOps [⟨(some t6), oMov (.v (.bool false)), none, none⟩])
 xRet)
 xSkip))
 (xSeq (xSeq (xOps [⟨(some t70), oMov (.t t0), none, none⟩,
   ⟨(some t71), oNilCheck (.t t70), none, none⟩,
   ⟨(some t72), oFieldAddr 7 (.t t71), none, none⟩,
   ⟨(some t73), oLoad1 (.t t72), none, (some (.t t72))⟩,
   ⟨(some t74), oLenL (.t t73), none, none⟩,
   ⟨(some t75), oMov (.v (.int .i64 0)), none, none⟩])
 (xBlock 0 (xLoop (xSeq (xOps [⟨(some t76), oBin (int2 (cmpO ltI)) (.t t75) (.t t74), none, none⟩])
 (xSeq (xCond (.t t76)
 xSkip
 (xExit 0))
 (xSeq (xBlock 1 (xSeq (xOps [⟨(some t77), oIdxAddrL 2 (.t t73) (.t t75), none, none⟩,
   ⟨(some t78), oLoadN 2 (.t t77), none, none⟩,
   ⟨(some t10), oNew [(.int .i64 0), (.int .i64 0)], none, none⟩,
   ⟨none, oStore 2 (.t t10) (.t t78), none, none⟩])
 (xSeq (xSeq (xReg [⟨(some t79), oMov (.t t8), none, none⟩,
   ⟨(some t80), oMov (.t t79), none, none⟩,
   ⟨(some t81), oLoadN 2 (.t t10), (some (t80, true)), none⟩,
   ⟨(some t82), oMov (.t t1), (some (t80, true)), none⟩,
   ⟨(some t83), oCall 117 [(.t t81), (.t t82)], (some (t80, true)), none⟩,
   ⟨(some t84), oLoadN 2 (.t t10), (some (t80, true)), none⟩,
   ⟨(some t85), oMov (.t t7), (some (t80, true)), none⟩,
   ⟨(some t86), oCall 117 [(.t t84), (.t t85)], (some (t80, true)), none⟩,
   ⟨(some t87), oEqv eqB true (.t t83) (.t t86), (some (t80, true)), none⟩,
   ⟨(some t88), oPick (.t t80) (.t t87) (.v (.bool false)), none, none⟩] [(2, 3), (2, 5), (3, 5), (4, 5), (2, 6), (3, 6), (4, 6), (5, 6)])
 (xCond (.t t88)
 (xSeq (xOps [⟨(some t6), oMov (.v (.bool false)), none, none⟩])
 xRet)
 xSkip))
 (xSeq (xReg [⟨(some t89), oMov (.t t0), none, none⟩,
   ⟨(some t90), oNilCheck (.t t89), none, none⟩,
   ⟨(some t91), oFieldAddr 0 (.t t90), none, none⟩,
   ⟨(some t92), oFieldAddr 6 (.t t91), none, none⟩,
   ⟨(some t93), oLoad1 (.t t92), none, (some (.t t92))⟩,
   ⟨(some t94), oFieldAddr 0 (.t t10), none, none⟩,
   ⟨(some t95), oLoad1 (.t t94), none, (some (.t t94))⟩,
   ⟨(some t96), oIdxAddrL 4 (.t t93) (.t t95), none, none⟩,
   ⟨(some t97), oFieldAddr 2 (.t t96), none, none⟩,
   ⟨(some t98), oLoad1 (.t t97), none, (some (.t t97))⟩,
   ⟨(some t11), oMov (.t t98), none, none⟩] [(0, 5), (1, 5), (2, 5), (3, 5), (4, 5), (0, 6), (1, 6), (2, 6), (3, 6), (4, 6)])
 (xSeq (xOps [⟨(some t99), oLoadN 2 (.t t10), none, none⟩,
   ⟨(some t100), oMov (.t t1), none, none⟩,
   ⟨(some t101), oCall 117 [(.t t99), (.t t100)], none, none⟩,
   ⟨(some t102), oMov (.t t101), none, none⟩,
   ⟨(some t103), oFieldAddr 0 (.t t5), (some (t102, true)), none⟩,
   ⟨(some t104), oLoad1 (.t t103), (some (t102, true)), (some (.t t103))⟩,
   ⟨(some t105), oBin (int2 (cmpO eqI)) (.t t104) (.v (.int .i64 3)), (some (t102, true)), none⟩,
   ⟨(some t106), oMov (.t t105), (some (t102, true)), none⟩,
   ⟨(some t107), oFieldAddr 1 (.t t5), (some (t106, true)), none⟩,
   ⟨(some t108), oLoad1 (.t t107), (some (t106, true)), (some (.t t107))⟩,
   ⟨(some t109), oMov (.t t11), (some (t106, true)), none⟩,
   ⟨(some t110), oBin (int2 (cmpO eqI)) (.t t108) (.t t109), (some (t106, true)), none⟩,
   ⟨(some t111), oMov (.t t110), (some (t106, true)), none⟩,
   ⟨(some t112), oFieldAddr 1 (.t t5), (some (t111, false)), none⟩,
   ⟨(some t113), oLoad1 (.t t112), (some (t111, false)), (some (.t t112))⟩,
   ⟨(some t114), oMov (.t t11), (some (t111, false)), none⟩,
   ⟨(some t115), oBin (int2 addO) (.t t114) (.v (.int .i64 1)), (some (t111, false)), none⟩,
   ⟨(some t116), oBin (int2 (cmpO eqI)) (.t t113) (.t t115), (some (t111, false)), none⟩,
   ⟨(some t117), oPick (.t t111) (.v (.bool true)) (.t t116), (some (t106, true)), none⟩,
   ⟨(some t118), oPick (.t t106) (.t t117) (.v (.bool false)), (some (t102, true)), none⟩,
   ⟨(some t119), oMov (.t t118), (some (t102, true)), none⟩,
   ⟨(some t120), oFieldAddr 0 (.t t5), (some (t119, false)), none⟩,
   ⟨(some t121), oLoad1 (.t t120), (some (t119, false)), (some (.t t120))⟩,
   ⟨(some t122), oBin (int2 (cmpO eqI)) (.t t121) (.v (.int .i64 19)), (some (t119, false)), none⟩,
   ⟨(some t123), oMov (.t t122), (some (t119, false)), none⟩,
   ⟨(some t124), oFieldAddr 2 (.t t5), (some (t123, true)), none⟩,
   ⟨(some t125), oLoad1 (.t t124), (some (t123, true)), (some (.t t124))⟩,
   ⟨(some t126), oMov (.t t11), (some (t123, true)), none⟩,
   ⟨(some t127), oBin (int2 subO) (.t t126) (.v (.int .i64 1)), (some (t123, true)), none⟩,
   ⟨(some t128), oBin (int2 (cmpO geI)) (.t t125) (.t t127), (some (t123, true)), none⟩,
   ⟨(some t129), oPick (.t t123) (.t t128) (.v (.bool false)), (some (t119, false)), none⟩,
   ⟨(some t130), oMov (.t t129), (some (t119, false)), none⟩,
   ⟨(some t131), oFieldAddr 2 (.t t5), (some (t130, true)), none⟩,
   ⟨(some t132), oLoad1 (.t t131), (some (t130, true)), (some (.t t131))⟩,
   ⟨(some t133), oMov (.t t11), (some (t130, true)), none⟩,
   ⟨(some t134), oBin (int2 addO) (.t t133) (.v (.int .i64 1)), (some (t130, true)), none⟩,
   ⟨(some t135), oBin (int2 (cmpO leI)) (.t t132) (.t t134), (some (t130, true)), none⟩,
   ⟨(some t136), oPick (.t t130) (.t t135) (.v (.bool false)), (some (t119, false)), none⟩,
   ⟨(some t137), oPick (.t t119) (.v (.bool true)) (.t t136), (some (t102, true)), none⟩,
   ⟨(some t138), oPick (.t t102) (.t t137) (.v (.bool false)), none, none⟩])
 (xCond (.t t138)
 (xSeq (xOps [⟨(some t6), oMov (.v (.bool false)), none, none⟩])
 xRet)
 xSkip))))))
 (xOps [⟨(some t139), oBin (int2 addO) (.t t75) (.v (.int .i64 1)), none, none⟩,
   ⟨(some t75), oMov (.t t139), none, none⟩])))))))
 (xSeq (xOps [⟨(some t6), oMov (.v (.bool true)), none, none⟩])
 xRet))))))⟩
theorem ok57 : cFunc Tryz.prog gl ex Tryz.f57 = some c57 := by kernel_rfl
/-- (*publican/verify.checker).stacks -/
def c58 : AFunc := ⟨115, [.tmp t2],
 (xSeq (xOps [⟨(some t2), oMov (.v (.int .i64 0)), none, none⟩])
 (xSeq (xOps [⟨(some t11), oMov (.t t0), none, none⟩,
   ⟨(some t12), oNilCheck (.t t11), none, none⟩,
   ⟨(some t13), oFieldAddr 0 (.t t12), none, none⟩,
   ⟨(some t14), oFieldAddr 6 (.t t13), none, none⟩,
   ⟨(some t15), oLoad1 (.t t14), none, (some (.t t14))⟩,
   ⟨(some t16), oLenL (.t t15), none, none⟩,
   ⟨(some t17), oMakeSlice 4 48 [(.bool false), (.slice none 0 0), (.int .i64 0), (.int .u64 0)] (.t t16) (.t t16), none, none⟩,
   ⟨(some t3), oMov (.t t17), none, none⟩])
 (xSeq (xOps [⟨(some t18), oMov (.t t3), none, none⟩,
   ⟨(some t19), oIdxAddrL 4 (.t t18) (.v (.int .i64 0)), none, none⟩,
   ⟨(some t20), oFieldAddr 0 (.t t19), none, none⟩,
   ⟨none, oStore 1 (.t t20) (.v (.bool true)), none, none⟩])
 (xSeq (xOps [⟨(some t4), oMov (.v (.int .i64 (-1))), none, none⟩])
 (xSeq xSkip
 (xSeq (xSeq (xOps [⟨(some t21), oMov (.t t0), none, none⟩,
   ⟨(some t22), oNilCheck (.t t21), none, none⟩,
   ⟨(some t23), oFieldAddr 0 (.t t22), none, none⟩,
   ⟨(some t24), oFieldAddr 6 (.t t23), none, none⟩,
   ⟨(some t25), oLoad1 (.t t24), none, (some (.t t24))⟩,
   ⟨(some t26), oLenL (.t t25), none, none⟩,
   ⟨(some t27), oMov (.v (.int .i64 0)), none, none⟩])
 (xBlock 0 (xLoop (xSeq (xOps [⟨(some t28), oBin (int2 (cmpO ltI)) (.t t27) (.t t26), none, none⟩])
 (xSeq (xCond (.t t28)
 xSkip
 (xExit 0))
 (xSeq (xBlock 1 (xSeq (xOps [⟨(some t29), oMov (.t t27), none, none⟩,
   ⟨(some t30), oIdxAddrL 4 (.t t25) (.t t27), none, none⟩,
   ⟨(some t31), oLoadN 4 (.t t30), none, none⟩,
   ⟨(some t6), oNew [(.int .i64 0), (.int .i64 0), (.int .i64 0), (.int .i64 0)], none, none⟩,
   ⟨(some t5), oMov (.t t29), none, none⟩,
   ⟨none, oStore 4 (.t t6) (.t t31), none, none⟩])
 (xSeq (xSeq (xOps [⟨(some t32), oMov (.t t3), none, none⟩,
   ⟨(some t33), oMov (.t t5), none, none⟩,
   ⟨(some t34), oIdxAddrL 4 (.t t32) (.t t33), none, none⟩,
   ⟨(some t35), oFieldAddr 0 (.t t34), none, none⟩,
   ⟨(some t36), oLoad1 (.t t35), none, (some (.t t35))⟩,
   ⟨(some t37), oNot (.t t36), none, none⟩])
 (xCond (.t t37)
 (xExit 1)
 xSkip))
 (xSeq (xReg [⟨(some t39), oMov (.t t0), none, none⟩,
   ⟨(some t40), oLoadN 4 (.t t6), none, none⟩,
   ⟨(some t41), oMov (.t t3), none, none⟩,
   ⟨(some t42), oMov (.t t5), none, none⟩,
   ⟨(some t43), oIdxAddrL 4 (.t t41) (.t t42), none, none⟩,
   ⟨(some t44), oFieldAddr 1 (.t t43), none, none⟩,
   ⟨(some t45), oLoad1 (.t t44), none, (some (.t t44))⟩,
   ⟨(some t46), oCall 120 [(.t t45)], none, none⟩,
   ⟨(some t47), oCall 119 [(.t t46)], none, none⟩,
   ⟨(some t48), oCall 118 [(.t t39), (.t t40), (.t t47)], none, none⟩,
   ⟨(some t38), oMov (.t t48), none, none⟩,
   ⟨(some t49), oExtract (.t t38) 0, none, none⟩,
   ⟨(some t50), oExtract (.t t38) 1, none, none⟩,
   ⟨(some t7), oMov (.t t49), none, none⟩,
   ⟨(some t8), oMov (.t t50), none, none⟩] [(0, 1), (0, 2), (1, 2), (0, 3), (1, 3), (2, 3), (0, 4), (1, 4), (0, 5), (1, 5), (0, 6), (1, 6), (0, 7), (1, 7), (0, 8), (1, 8), (11, 12), (12, 13)])
 (xSeq (xOps [⟨(some t51), oMov (.t t0), none, none⟩,
   ⟨(some t52), oMov (.t t0), none, none⟩,
   ⟨(some t53), oNilCheck (.t t52), none, none⟩,
   ⟨(some t54), oFieldAddr 8 (.t t53), none, none⟩,
   ⟨(some t55), oLoad1 (.t t54), none, (some (.t t54))⟩,
   ⟨(some t56), oMov (.t t7), none, none⟩,
   ⟨(some t57), oLenL (.t t56), none, none⟩,
   ⟨(some t58), oMM true (.t t55) [(.t t57)], none, none⟩,
   ⟨(some t59), oNilCheck (.t t51), none, none⟩,
   ⟨(some t60), oFieldAddr 8 (.t t59), none, none⟩,
   ⟨none, oStore 1 (.t t60) (.t t58), none, none⟩])
 (xSeq (xSeq (xOps [⟨(some t61), oMov (.t t8), none, none⟩,
   ⟨(some t62), oNot (.t t61), none, none⟩,
   ⟨(some t63), oMov (.t t62), none, none⟩,
   ⟨(some t64), oMov (.t t7), (some (t63, false)), none⟩,
   ⟨(some t65), oLenL (.t t64), (some (t63, false)), none⟩,
   ⟨(some t66), oBin (int2 (cmpO gtI)) (.t t65) (.v (.int .i64 64)), (some (t63, false)), none⟩,
   ⟨(some t67), oPick (.t t63) (.v (.bool true)) (.t t66), none, none⟩,
   ⟨(some t68), oMov (.t t67), none, none⟩,
   ⟨(some t69), oFieldAddr 0 (.t t6), (some (t68, false)), none⟩,
   ⟨(some t70), oLoad1 (.t t69), (some (t68, false)), (some (.t t69))⟩,
   ⟨(some t71), oBin (int2 (cmpO eqI)) (.t t70) (.v (.int .i64 23)), (some (t68, false)), none⟩,
   ⟨(some t72), oMov (.t t71), (some (t68, false)), none⟩,
   ⟨(some t73), oMov (.t t7), (some (t72, true)), none⟩,
   ⟨(some t74), oLenL (.t t73), (some (t72, true)), none⟩,
   ⟨(some t75), oBin (int2 (cmpO gtI)) (.t t74) (.v (.int .i64 0)), (some (t72, true)), none⟩,
   ⟨(some t76), oPick (.t t72) (.t t75) (.v (.bool false)), (some (t68, false)), none⟩,
   ⟨(some t77), oPick (.t t68) (.v (.bool true)) (.t t76), none, none⟩])
 (xCond (.t t77)
 (xSeq (xOps [⟨(some t78), oMov (.t t5), none, none⟩,
   ⟨(some t4), oMov (.t t78), none, none⟩])
 (xExit 0))
 xSkip))
 (xSeq (xOps [⟨(some t79), oMov (.t t5), none, none⟩,
   ⟨(some t80), oLoadN 4 (.t t6), none, none⟩,
   ⟨(some t81), oCall 121 [(.t t79), (.t t80)], none, none⟩,
   ⟨(some t82), oLenL (.t t81), none, none⟩,
   ⟨(some t83), oMov (.v (.int .i64 0)), none, none⟩])
 (xBlock 2 (xLoop (xSeq (xOps [⟨(some t84), oBin (int2 (cmpO ltI)) (.t t83) (.t t82), none, none⟩])
 (xSeq (xCond (.t t84)
 xSkip
 (xExit 2))
 (xSeq (xBlock 3 (xSeq (xOps [⟨(some t85), oIdxAddrL 1 (.t t81) (.t t83), none, none⟩,
   ⟨(some t86), oLoad1 (.t t85), none, (some (.t t85))⟩,
   ⟨(some t10), oMov (.t t86), none, none⟩])
 (xSeq (xSeq (xOps [⟨(some t87), oMov (.t t3), none, none⟩,
   ⟨(some t88), oMov (.t t10), none, none⟩,
   ⟨(some t89), oIdxAddrL 4 (.t t87) (.t t88), none, none⟩,
   ⟨(some t90), oFieldAddr 0 (.t t89), none, none⟩,
   ⟨(some t91), oLoad1 (.t t90), none, (some (.t t90))⟩,
   ⟨(some t92), oMov (.t t91), none, none⟩,
   ⟨(some t93), oMov (.t t3), (some (t92, true)), none⟩,
   ⟨(some t94), oMov (.t t10), (some (t92, true)), none⟩,
   ⟨(some t95), oIdxAddrL 4 (.t t93) (.t t94), (some (t92, true)), none⟩,
   ⟨(some t96), oFieldAddr 1 (.t t95), (some (t92, true)), none⟩,
   ⟨(some t97), oLoad1 (.t t96), (some (t92, true)), (some (.t t96))⟩,
   ⟨(some t98), oMov (.t t7), (some (t92, true)), none⟩,
   ⟨(some t99), oCall 122 [(.t t97), (.t t98)], (some (t92, true)), none⟩,
   ⟨(some t100), oNot (.t t99), (some (t92, true)), none⟩,
   ⟨(some t101), oPick (.t t92) (.t t100) (.v (.bool false)), none, none⟩])
 (xCond (.t t101)
 (xSeq (xOps [⟨(some t102), oMov (.t t5), none, none⟩,
   ⟨(some t4), oMov (.t t102), none, none⟩])
 (xExit 0))
 xSkip))
 (xOps [⟨(some t103), oMov (.t t3), none, none⟩,
   ⟨(some t104), oMov (.t t10), none, none⟩,
   ⟨(some t105), oMov (.t t3), none, none⟩,
   ⟨(some t106), oMov (.t t10), none, none⟩,
   ⟨(some t107), oMov (.t t7), none, none⟩,
   ⟨(some t108), oIdxAddrL 4 (.t t103) (.t t104), none, none⟩,
   ⟨(some t109), oFieldAddr 0 (.t t108), none, none⟩,
   ⟨none, oStore 1 (.t t109) (.v (.bool true)), none, none⟩,
   ⟨(some t110), oIdxAddrL 4 (.t t105) (.t t106), none, none⟩,
   ⟨(some t111), oFieldAddr 1 (.t t110), none, none⟩,
   ⟨none, oStore 1 (.t t111) (.t t107), none, none⟩]))))
 (xOps [⟨(some t112), oBin (int2 addO) (.t t83) (.v (.int .i64 1)), none, none⟩,
   ⟨(some t83), oMov (.t t112), none, none⟩])))))))))))))
 (xOps [⟨(some t113), oBin (int2 addO) (.t t27) (.v (.int .i64 1)), none, none⟩,
   ⟨(some t27), oMov (.t t113), none, none⟩])))))))
 (xSeq (xOps [⟨(some t114), oMov (.t t4), none, none⟩,
   ⟨(some t2), oMov (.t t114), none, none⟩])
 xRet)))))))⟩
theorem ok58 : cFunc Tryz.prog gl ex Tryz.f58 = some c58 := by kernel_rfl
/-- (*publican/verify.checker).outs -/
def c59 : AFunc := ⟨155, [.tmp t2],
 (xSeq (xOps [⟨(some t2), oMov (.v (.int .i64 0)), none, none⟩])
 (xSeq (xSeq (xOps [⟨(some t12), oMov (.t t0), none, none⟩,
   ⟨(some t13), oNilCheck (.t t12), none, none⟩,
   ⟨(some t14), oFieldAddr 0 (.t t13), none, none⟩,
   ⟨(some t15), oFieldAddr 6 (.t t14), none, none⟩,
   ⟨(some t16), oLoad1 (.t t15), none, (some (.t t15))⟩,
   ⟨(some t17), oLenL (.t t16), none, none⟩,
   ⟨(some t18), oMov (.v (.int .i64 0)), none, none⟩])
 (xBlock 0 (xLoop (xSeq (xOps [⟨(some t19), oBin (int2 (cmpO ltI)) (.t t18) (.t t17), none, none⟩])
 (xSeq (xCond (.t t19)
 xSkip
 (xExit 0))
 (xSeq (xBlock 1 (xSeq (xOps [⟨(some t20), oMov (.t t18), none, none⟩,
   ⟨(some t21), oIdxAddrL 4 (.t t16) (.t t18), none, none⟩,
   ⟨(some t22), oLoadN 4 (.t t21), none, none⟩,
   ⟨(some t4), oNew [(.int .i64 0), (.int .i64 0), (.int .i64 0), (.int .i64 0)], none, none⟩,
   ⟨(some t3), oMov (.t t20), none, none⟩,
   ⟨none, oStore 4 (.t t4) (.t t22), none, none⟩])
 (xSeq (xOps [⟨(some t23), oFieldAddr 0 (.t t4), none, none⟩,
   ⟨(some t24), oLoad1 (.t t23), none, (some (.t t23))⟩,
   ⟨(some t25), oBin (int2 (cmpO eqI)) (.t t24) (.v (.int .i64 21)), none, none⟩,
   ⟨(some t26), oMov (.t t25), none, none⟩,
   ⟨(some t27), oFieldAddr 0 (.t t4), (some (t26, false)), none⟩,
   ⟨(some t28), oLoad1 (.t t27), (some (t26, false)), (some (.t t27))⟩,
   ⟨(some t29), oBin (int2 (cmpO eqI)) (.t t28) (.v (.int .i64 22)), (some (t26, false)), none⟩,
   ⟨(some t30), oPick (.t t26) (.v (.bool true)) (.t t29), none, none⟩,
   ⟨(some t31), oMov (.t t30), none, none⟩,
   ⟨(some t32), oMov (.t t0), (some (t31, true)), none⟩,
   ⟨(some t33), oMov (.t t3), (some (t31, true)), none⟩,
   ⟨(some t34), oCall 123 [(.t t32), (.t t33)], (some (t31, true)), none⟩,
   ⟨(some t35), oPick (.t t31) (.t t34) (.v (.bool false)), none, none⟩])
 (xCond (.t t35)
 (xSeq (xOps [⟨(some t36), oMov (.t t3), none, none⟩,
   ⟨(some t2), oMov (.t t36), none, none⟩])
 xRet)
 xSkip))))
 (xOps [⟨(some t37), oBin (int2 addO) (.t t18) (.v (.int .i64 1)), none, none⟩,
   ⟨(some t18), oMov (.t t37), none, none⟩])))))))
 (xSeq (xOps [⟨(some t38), oMov (.t t0), none, none⟩,
   ⟨(some t39), oNilCheck (.t t38), none, none⟩,
   ⟨(some t40), oFieldAddr 0 (.t t39), none, none⟩,
   ⟨(some t41), oFieldAddr 6 (.t t40), none, none⟩,
   ⟨(some t42), oLoad1 (.t t41), none, (some (.t t41))⟩,
   ⟨(some t43), oLenL (.t t42), none, none⟩,
   ⟨(some t44), oMakeSlice 4 48 [(.bool false), (.slice none 0 0), (.int .i64 0), (.int .u64 0)] (.t t43) (.t t43), none, none⟩,
   ⟨(some t5), oMov (.t t44), none, none⟩])
 (xSeq (xOps [⟨(some t45), oMov (.t t5), none, none⟩,
   ⟨(some t46), oBuild [(.bool false), (.slice none 0 0), (.int .i64 0), (.int .u64 0)] [(0, 1, (.v (.bool true))), (2, 1, (.v (.int .i64 (-1))))], none, none⟩,
   ⟨(some t47), oIdxAddrL 4 (.t t45) (.v (.int .i64 0)), none, none⟩,
   ⟨none, oStore 4 (.t t47) (.t t46), none, none⟩])
 (xSeq (xOps [⟨(some t48), oMov (.t t0), none, none⟩,
   ⟨(some t49), oNilCheck (.t t48), none, none⟩,
   ⟨(some t50), oFieldAddr 0 (.t t49), none, none⟩,
   ⟨(some t51), oFieldAddr 3 (.t t50), none, none⟩,
   ⟨(some t52), oLoad1 (.t t51), none, (some (.t t51))⟩,
   ⟨(some t53), oLenL (.t t52), none, none⟩,
   ⟨(some t54), oConv .u64 (.t t53), none, none⟩,
   ⟨(some t55), oBin (sh2 shlO) (.v (.int .u64 1)) (.t t54), none, none⟩,
   ⟨(some t56), oBin (int2 subO) (.t t55) (.v (.int .u64 1)), none, none⟩,
   ⟨(some t6), oMov (.t t56), none, none⟩])
 (xSeq (xSeq (xOps [⟨(some t57), oMov (.t t0), none, none⟩,
   ⟨(some t58), oNilCheck (.t t57), none, none⟩,
   ⟨(some t59), oFieldAddr 0 (.t t58), none, none⟩,
   ⟨(some t60), oFieldAddr 6 (.t t59), none, none⟩,
   ⟨(some t61), oLoad1 (.t t60), none, (some (.t t60))⟩,
   ⟨(some t62), oLenL (.t t61), none, none⟩,
   ⟨(some t63), oMov (.v (.int .i64 0)), none, none⟩])
 (xBlock 2 (xLoop (xSeq (xOps [⟨(some t64), oBin (int2 (cmpO ltI)) (.t t63) (.t t62), none, none⟩])
 (xSeq (xCond (.t t64)
 xSkip
 (xExit 2))
 (xSeq (xBlock 3 (xSeq (xOps [⟨(some t65), oMov (.t t63), none, none⟩,
   ⟨(some t66), oIdxAddrL 4 (.t t61) (.t t63), none, none⟩,
   ⟨(some t67), oLoadN 4 (.t t66), none, none⟩,
   ⟨(some t8), oNew [(.int .i64 0), (.int .i64 0), (.int .i64 0), (.int .i64 0)], none, none⟩,
   ⟨(some t7), oMov (.t t65), none, none⟩,
   ⟨none, oStore 4 (.t t8) (.t t67), none, none⟩])
 (xSeq (xOps [⟨(some t68), oMov (.t t5), none, none⟩,
   ⟨(some t69), oMov (.t t7), none, none⟩,
   ⟨(some t70), oIdxAddrL 4 (.t t68) (.t t69), none, none⟩,
   ⟨(some t71), oLoadN 4 (.t t70), none, none⟩,
   ⟨(some t9), oNew [(.bool false), (.slice none 0 0), (.int .i64 0), (.int .u64 0)], none, none⟩,
   ⟨none, oStore 4 (.t t9) (.t t71), none, none⟩])
 (xSeq (xSeq (xOps [⟨(some t72), oFieldAddr 0 (.t t9), none, none⟩,
   ⟨(some t73), oLoad1 (.t t72), none, (some (.t t72))⟩,
   ⟨(some t74), oNot (.t t73), none, none⟩])
 (xCond (.t t74)
 (xExit 3)
 xSkip))
 (xSeq (xSeq (xOps [⟨(some t75), oFieldAddr 0 (.t t8), none, none⟩,
   ⟨(some t76), oLoad1 (.t t75), none, (some (.t t75))⟩])
 (xBlock 4 (xSeq (xOps [⟨(some t78), oBin (int2 (cmpO eqI)) (.t t76) (.v (.int .i64 21)), none, none⟩,
   ⟨(some t77), oMov (.t t78), none, none⟩])
 (xCond (.t t77)
 (xOps [⟨(some t79), oFieldAddr 1 (.t t8), none, none⟩,
   ⟨(some t80), oLoad1 (.t t79), none, (some (.t t79))⟩,
   ⟨(some t81), oFieldAddr 2 (.t t9), none, none⟩,
   ⟨none, oStore 1 (.t t81) (.t t80), none, none⟩])
 (xSeq (xOps [⟨(some t83), oBin (int2 (cmpO eqI)) (.t t76) (.v (.int .i64 22)), none, none⟩,
   ⟨(some t82), oMov (.t t83), none, none⟩])
 (xCond (.t t82)
 (xSeq (xSeq (xOps [⟨(some t84), oFieldAddr 2 (.t t9), none, none⟩,
   ⟨(some t85), oLoad1 (.t t84), none, (some (.t t84))⟩,
   ⟨(some t86), oFieldAddr 1 (.t t8), none, none⟩,
   ⟨(some t87), oLoad1 (.t t86), none, (some (.t t86))⟩,
   ⟨(some t88), oBin (int2 (cmpO neI)) (.t t85) (.t t87), none, none⟩,
   ⟨(some t89), oMov (.t t88), none, none⟩,
   ⟨(some t90), oFieldAddr 3 (.t t9), (some (t89, false)), none⟩,
   ⟨(some t91), oLoad1 (.t t90), (some (t89, false)), (some (.t t90))⟩,
   ⟨(some t92), oFieldAddr 1 (.t t8), (some (t89, false)), none⟩,
   ⟨(some t93), oLoad1 (.t t92), (some (t89, false)), (some (.t t92))⟩,
   ⟨(some t94), oConv .u64 (.t t93), (some (t89, false)), none⟩,
   ⟨(some t95), oBin (sh2 shrO) (.t t91) (.t t94), (some (t89, false)), none⟩,
   ⟨(some t96), oBin (int2 andO) (.t t95) (.v (.int .u64 1)), (some (t89, false)), none⟩,
   ⟨(some t97), oBin (int2 (cmpO eqI)) (.t t96) (.v (.int .u64 1)), (some (t89, false)), none⟩,
   ⟨(some t98), oPick (.t t89) (.v (.bool true)) (.t t97), none, none⟩])
 (xCond (.t t98)
 (xSeq (xOps [⟨(some t99), oMov (.t t7), none, none⟩,
   ⟨(some t2), oMov (.t t99), none, none⟩])
 xRet)
 xSkip))
 (xOps [⟨(some t100), oFieldAddr 3 (.t t9), none, none⟩,
   ⟨(some t101), oLoad1 (.t t100), none, (some (.t t100))⟩,
   ⟨(some t102), oFieldAddr 1 (.t t8), none, none⟩,
   ⟨(some t103), oLoad1 (.t t102), none, (some (.t t102))⟩,
   ⟨(some t104), oConv .u64 (.t t103), none, none⟩,
   ⟨(some t105), oBin (sh2 shlO) (.v (.int .u64 1)) (.t t104), none, none⟩,
   ⟨(some t106), oBin (int2 orO) (.t t101) (.t t105), none, none⟩,
   ⟨(some t107), oFieldAddr 3 (.t t9), none, none⟩,
   ⟨none, oStore 1 (.t t107) (.t t106), none, none⟩]))
 (xSeq (xOps [⟨(some t109), oBin (int2 (cmpO eqI)) (.t t76) (.v (.int .i64 23)), none, none⟩,
   ⟨(some t108), oMov (.t t109), none, none⟩])
 (xCond (.t t108)
 (xSeq (xOps [⟨(some t110), oFieldAddr 3 (.t t9), none, none⟩,
   ⟨(some t111), oLoad1 (.t t110), none, (some (.t t110))⟩,
   ⟨(some t112), oMov (.t t6), none, none⟩,
   ⟨(some t113), oBin (int2 (cmpO neI)) (.t t111) (.t t112), none, none⟩])
 (xCond (.t t113)
 (xSeq (xOps [⟨(some t114), oMov (.t t7), none, none⟩,
   ⟨(some t2), oMov (.t t114), none, none⟩])
 xRet)
 xSkip))
 xSkip))))))))
 (xSeq (xOps [⟨(some t115), oMov (.t t7), none, none⟩,
   ⟨(some t116), oLoadN 4 (.t t8), none, none⟩,
   ⟨(some t117), oCall 121 [(.t t115), (.t t116)], none, none⟩,
   ⟨(some t118), oLenL (.t t117), none, none⟩,
   ⟨(some t119), oMov (.v (.int .i64 0)), none, none⟩])
 (xBlock 5 (xLoop (xSeq (xOps [⟨(some t120), oBin (int2 (cmpO ltI)) (.t t119) (.t t118), none, none⟩])
 (xSeq (xCond (.t t120)
 xSkip
 (xExit 5))
 (xSeq (xBlock 6 (xSeq (xOps [⟨(some t121), oIdxAddrL 1 (.t t117) (.t t119), none, none⟩,
   ⟨(some t122), oLoad1 (.t t121), none, (some (.t t121))⟩,
   ⟨(some t11), oMov (.t t122), none, none⟩])
 (xSeq (xSeq (xReg [⟨(some t123), oMov (.t t5), none, none⟩,
   ⟨(some t124), oMov (.t t11), none, none⟩,
   ⟨(some t125), oIdxAddrL 4 (.t t123) (.t t124), none, none⟩,
   ⟨(some t126), oFieldAddr 0 (.t t125), none, none⟩,
   ⟨(some t127), oLoad1 (.t t126), none, (some (.t t126))⟩,
   ⟨(some t128), oMov (.t t127), none, none⟩,
   ⟨(some t129), oMov (.t t5), (some (t128, true)), none⟩,
   ⟨(some t130), oMov (.t t11), (some (t128, true)), none⟩,
   ⟨(some t131), oIdxAddrL 4 (.t t129) (.t t130), (some (t128, true)), none⟩,
   ⟨(some t132), oFieldAddr 2 (.t t131), (some (t128, true)), none⟩,
   ⟨(some t133), oLoad1 (.t t132), (some (t128, true)), (some (.t t132))⟩,
   ⟨(some t134), oFieldAddr 2 (.t t9), (some (t128, true)), none⟩,
   ⟨(some t135), oLoad1 (.t t134), (some (t128, true)), (some (.t t134))⟩,
   ⟨(some t136), oBin (int2 (cmpO neI)) (.t t133) (.t t135), (some (t128, true)), none⟩,
   ⟨(some t137), oMov (.t t136), (some (t128, true)), none⟩,
   ⟨(some t138), oMov (.t t5), (some (t137, false)), none⟩,
   ⟨(some t139), oMov (.t t11), (some (t137, false)), none⟩,
   ⟨(some t140), oIdxAddrL 4 (.t t138) (.t t139), (some (t137, false)), none⟩,
   ⟨(some t141), oFieldAddr 3 (.t t140), (some (t137, false)), none⟩,
   ⟨(some t142), oLoad1 (.t t141), (some (t137, false)), (some (.t t141))⟩,
   ⟨(some t143), oFieldAddr 3 (.t t9), (some (t137, false)), none⟩,
   ⟨(some t144), oLoad1 (.t t143), (some (t137, false)), (some (.t t143))⟩,
   ⟨(some t145), oBin (int2 (cmpO neI)) (.t t142) (.t t144), (some (t137, false)), none⟩,
   ⟨(some t146), oPick (.t t137) (.v (.bool true)) (.t t145), (some (t128, true)), none⟩,
   ⟨(some t147), oPick (.t t128) (.t t146) (.v (.bool false)), none, none⟩] [(0, 1), (6, 7), (6, 11), (7, 11), (8, 11), (9, 11), (10, 11), (6, 12), (7, 12), (8, 12), (9, 12), (10, 12), (15, 16), (15, 20), (16, 20), (17, 20), (18, 20), (19, 20), (15, 21), (16, 21), (17, 21), (18, 21), (19, 21)])
 (xCond (.t t147)
 (xSeq (xOps [⟨(some t148), oMov (.t t7), none, none⟩,
   ⟨(some t2), oMov (.t t148), none, none⟩])
 xRet)
 xSkip))
 (xOps [⟨(some t149), oMov (.t t5), none, none⟩,
   ⟨(some t150), oMov (.t t11), none, none⟩,
   ⟨(some t151), oLoadN 4 (.t t9), none, none⟩,
   ⟨(some t152), oIdxAddrL 4 (.t t149) (.t t150), none, none⟩,
   ⟨none, oStore 4 (.t t152) (.t t151), none, none⟩]))))
 (xOps [⟨(some t153), oBin (int2 addO) (.t t119) (.v (.int .i64 1)), none, none⟩,
   ⟨(some t119), oMov (.t t153), none, none⟩]))))))))))))
 (xOps [⟨(some t154), oBin (int2 addO) (.t t63) (.v (.int .i64 1)), none, none⟩,
   ⟨(some t63), oMov (.t t154), none, none⟩])))))))
 (xSeq (xOps [⟨(some t2), oMov (.v (.int .i64 (-1))), none, none⟩])
 xRet)))))))⟩
theorem ok59 : cFunc Tryz.prog gl ex Tryz.f59 = some c59 := by kernel_rfl
/-- (*publican/verify.checker).steps -/
def c60 : AFunc := ⟨105, [.tmp t6],
 (xSeq (xOps [⟨(some t4), oBox (.t t1), none, none⟩,
   ⟨(some t5), oBox (.t t2), none, none⟩,
   ⟨(some t6), oMov (.v (.int .i64 0)), none, none⟩])
 (xSeq (xOps [⟨(some t16), oLoad1 (.t t5), none, (some (.t t5))⟩,
   ⟨(some t17), oLoad1 (.t t4), none, (some (.t t4))⟩,
   ⟨(some t18), oBin (int2 subO) (.t t16) (.t t17), none, none⟩,
   ⟨(some t19), oBin (int2 addO) (.t t18) (.v (.int .i64 1)), none, none⟩,
   ⟨(some t20), oMakeSlice 1 8 [(.int .i64 0)] (.t t19) (.t t19), none, none⟩,
   ⟨(some t7), oNew [(.slice none 0 0)], none, none⟩,
   ⟨none, oStore 1 (.t t7) (.t t20), none, none⟩])
 (xSeq (xOps [⟨(some t21), oFunc (.func 124) [] [(.t t4), (.t t5), (.t t7)], none, none⟩,
   ⟨(some t8), oMov (.t t21), none, none⟩])
 (xSeq (xOps [⟨(some t22), oLoad1 (.t t7), none, (some (.t t7))⟩,
   ⟨(some t23), oLoad1 (.t t5), none, (some (.t t5))⟩,
   ⟨(some t24), oLoad1 (.t t4), none, (some (.t t4))⟩,
   ⟨(some t25), oBin (int2 subO) (.t t23) (.t t24), none, none⟩,
   ⟨(some t26), oIdxAddrL 1 (.t t22) (.t t25), none, none⟩,
   ⟨none, oStore 1 (.t t26) (.v (.int .i64 1)), none, none⟩])
 (xSeq (xSeq (xOps [⟨(some t27), oLoad1 (.t t5), none, (some (.t t5))⟩,
   ⟨(some t28), oBin (int2 subO) (.t t27) (.v (.int .i64 1)), none, none⟩,
   ⟨(some t9), oMov (.t t28), none, none⟩])
 (xBlock 0 (xLoop (xSeq (xSeq (xOps [⟨(some t29), oMov (.t t9), none, none⟩,
   ⟨(some t30), oLoad1 (.t t4), none, (some (.t t4))⟩,
   ⟨(some t31), oBin (int2 (cmpO geI)) (.t t29) (.t t30), none, none⟩])
 (xCond (.t t31)
 xSkip
 (xExit 0)))
 (xSeq (xBlock 1 (xSeq (xSeq (xOps [⟨(some t34), oMov (.t t0), none, none⟩,
   ⟨(some t35), oNilCheck (.t t34), none, none⟩,
   ⟨(some t36), oFieldAddr 0 (.t t35), none, none⟩,
   ⟨(some t37), oFieldAddr 6 (.t t36), none, none⟩,
   ⟨(some t38), oLoad1 (.t t37), none, (some (.t t37))⟩,
   ⟨(some t39), oMov (.t t9), none, none⟩,
   ⟨(some t40), oIdxAddrL 4 (.t t38) (.t t39), none, none⟩,
   ⟨(some t41), oLoadN 4 (.t t40), none, none⟩,
   ⟨(some t10), oNew [(.int .i64 0), (.int .i64 0), (.int .i64 0), (.int .i64 0)], none, none⟩,
   ⟨none, oStore 4 (.t t10) (.t t41), none, none⟩])
 (xSeq (xOps [⟨(some t42), oFieldAddr 0 (.t t10), none, none⟩,
   ⟨(some t43), oLoad1 (.t t42), none, (some (.t t42))⟩,
   ⟨(some t44), oBin (int2 (cmpO eqI)) (.t t43) (.v (.int .i64 20)), none, none⟩])
 (xCond (.t t44)
 (xOps [⟨(some t45), oFieldAddr 3 (.t t10), none, none⟩,
   ⟨(some t46), oLoad1 (.t t45), none, (some (.t t45))⟩,
   ⟨(some t47), oBin (int2 subO) (.t t46) (.v (.int .i64 1)), none, none⟩,
   ⟨(some t9), oMov (.t t47), none, none⟩])
 xSkip)))
 (xSeq (xOps [⟨(some t48), oMov (.t t0), none, none⟩,
   ⟨(some t49), oNilCheck (.t t48), none, none⟩,
   ⟨(some t50), oFieldAddr 0 (.t t49), none, none⟩,
   ⟨(some t51), oFieldAddr 6 (.t t50), none, none⟩,
   ⟨(some t52), oLoad1 (.t t51), none, (some (.t t51))⟩,
   ⟨(some t53), oMov (.t t9), none, none⟩,
   ⟨(some t54), oIdxAddrL 4 (.t t52) (.t t53), none, none⟩,
   ⟨(some t55), oLoadN 4 (.t t54), none, none⟩,
   ⟨(some t11), oNew [(.int .i64 0), (.int .i64 0), (.int .i64 0), (.int .i64 0)], none, none⟩,
   ⟨none, oStore 4 (.t t11) (.t t55), none, none⟩])
 (xSeq (xOps [⟨(some t12), oMov (.v (.int .i64 0)), none, none⟩,
   ⟨(some t13), oMov (.v (.int .i64 0)), none, none⟩])
 (xSeq (xSeq (xOps [⟨(some t56), oMov (.t t9), none, none⟩,
   ⟨(some t57), oLoadN 4 (.t t11), none, none⟩,
   ⟨(some t58), oCall 121 [(.t t56), (.t t57)], none, none⟩,
   ⟨(some t59), oLenL (.t t58), none, none⟩,
   ⟨(some t60), oMov (.v (.int .i64 0)), none, none⟩])
 (xBlock 2 (xLoop (xSeq (xOps [⟨(some t61), oBin (int2 (cmpO ltI)) (.t t60) (.t t59), none, none⟩])
 (xSeq (xCond (.t t61)
 xSkip
 (xExit 2))
 (xSeq (xBlock 3 (xSeq (xOps [⟨(some t62), oIdxAddrL 1 (.t t58) (.t t60), none, none⟩,
   ⟨(some t63), oLoad1 (.t t62), none, (some (.t t62))⟩,
   ⟨(some t15), oMov (.t t63), none, none⟩])
 (xSeq (xOps [⟨(some t64), oFieldAddr 0 (.t t11), none, none⟩,
   ⟨(some t65), oLoad1 (.t t64), none, (some (.t t64))⟩,
   ⟨(some t66), oBin (int2 (cmpO neI)) (.t t65) (.v (.int .i64 19)), none, none⟩,
   ⟨(some t67), oMov (.t t66), none, none⟩,
   ⟨(some t68), oMov (.t t15), (some (t67, false)), none⟩,
   ⟨(some t69), oFieldAddr 3 (.t t11), (some (t67, false)), none⟩,
   ⟨(some t70), oLoad1 (.t t69), (some (t67, false)), (some (.t t69))⟩,
   ⟨(some t71), oBin (int2 (cmpO eqI)) (.t t68) (.t t70), (some (t67, false)), none⟩,
   ⟨(some t72), oPick (.t t67) (.v (.bool true)) (.t t71), none, none⟩])
 (xCond (.t t72)
 (xOps [⟨(some t73), oMov (.t t12), none, none⟩,
   ⟨(some t74), oMov (.t t8), none, none⟩,
   ⟨(some t75), oMov (.t t15), none, none⟩,
   ⟨(some t76), oCallV (.t t74) [(.t t75)], none, none⟩,
   ⟨(some t77), oMM true (.t t73) [(.t t76)], none, none⟩,
   ⟨(some t12), oMov (.t t77), none, none⟩])
 xSkip))))
 (xOps [⟨(some t78), oBin (int2 addO) (.t t60) (.v (.int .i64 1)), none, none⟩,
   ⟨(some t60), oMov (.t t78), none, none⟩])))))))
 (xSeq (xSeq (xOps [⟨(some t79), oMov (.t t12), none, none⟩,
   ⟨(some t80), oBin (int2 (cmpO eqI)) (.t t79) (.v (.int .i64 0)), none, none⟩])
 (xCond (.t t80)
 (xExit 1)
 xSkip))
 (xSeq (xSeq (xOps [⟨(some t81), oFieldAddr 0 (.t t11), none, none⟩,
   ⟨(some t82), oLoad1 (.t t81), none, (some (.t t81))⟩,
   ⟨(some t83), oBin (int2 (cmpO eqI)) (.t t82) (.v (.int .i64 19)), none, none⟩])
 (xCond (.t t83)
 (xOps [⟨(some t84), oMov (.t t0), none, none⟩,
   ⟨(some t85), oMov (.t t9), none, none⟩,
   ⟨(some t86), oBin (int2 addO) (.t t85) (.v (.int .i64 1)), none, none⟩,
   ⟨(some t87), oFieldAddr 3 (.t t11), none, none⟩,
   ⟨(some t88), oLoad1 (.t t87), none, (some (.t t87))⟩,
   ⟨(some t89), oBin (int2 subO) (.t t88) (.v (.int .i64 1)), none, none⟩,
   ⟨(some t90), oCall 60 [(.t t84), (.t t86), (.t t89)], none, none⟩,
   ⟨(some t13), oMov (.t t90), none, none⟩])
 xSkip))
 (xOps [⟨(some t91), oLoad1 (.t t7), none, (some (.t t7))⟩,
   ⟨(some t92), oMov (.t t9), none, none⟩,
   ⟨(some t93), oLoad1 (.t t4), none, (some (.t t4))⟩,
   ⟨(some t94), oBin (int2 subO) (.t t92) (.t t93), none, none⟩,
   ⟨(some t95), oMov (.t t13), none, none⟩,
   ⟨(some t96), oBin (int2 mulO) (.v (.int .i64 16)) (.t t95), none, none⟩,
   ⟨(some t97), oBin (int2 addO) (.v (.int .i64 1)) (.t t96), none, none⟩,
   ⟨(some t98), oMov (.t t12), none, none⟩,
   ⟨(some t99), oBin (int2 addO) (.t t97) (.t t98), none, none⟩,
   ⟨(some t100), oMM false (.t t99) [(.v (.int .i64 1099511627777))], none, none⟩,
   ⟨(some t101), oIdxAddrL 1 (.t t91) (.t t94), none, none⟩,
   ⟨none, oStore 1 (.t t101) (.t t100), none, none⟩]))))))))
 (xOps [⟨(some t32), oMov (.t t9), none, none⟩,
   ⟨(some t33), oBin (int2 subO) (.t t32) (.v (.int .i64 1)), none, none⟩,
   ⟨(some t9), oMov (.t t33), none, none⟩]))))))
 (xSeq (xOps [⟨(some t102), oLoad1 (.t t7), none, (some (.t t7))⟩,
   ⟨(some t103), oIdxAddrL 1 (.t t102) (.v (.int .i64 0)), none, none⟩,
   ⟨(some t104), oLoad1 (.t t103), none, (some (.t t103))⟩,
   ⟨(some t6), oMov (.t t104), none, none⟩])
 xRet))))))⟩
theorem ok60 : cFunc Tryz.prog gl ex Tryz.f60 = some c60 := by kernel_rfl
end
end Go.Proofs.YtoabiapkdnibkaaGreat.AbsMachK
