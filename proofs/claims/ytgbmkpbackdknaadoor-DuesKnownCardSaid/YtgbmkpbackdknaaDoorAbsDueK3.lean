import Derived.Test.YtgbmkpbackdknaaDoorRows
import Derived.Test.YtgbmkpbackdknaaDoorAbsDueKT
import Derived.KernelRfl
namespace Go.Proofs.YtgbmkpbackdknaaDoor.AbsDueK
open Go Go.Abs Go.Proofs
set_option maxRecDepth 100000
set_option linter.unusedVariables false
noncomputable section
/-- internal/strconv.formatBits -/
def c82 : AFunc := ⟨102, [.tmp t10, .tmp t11],
 (xSeq (xOps [⟨(some t10), oMov (.v (.slice none 0 0)), none, none⟩,
   ⟨(some t11), oMov (.v (.string ⟨⟨[]⟩⟩)), none, none⟩])
 (xSeq (xSeq (xOps [⟨(some t19), oMov (.t t2), none, none⟩,
   ⟨(some t20), oBin (int2 (cmpO ltI)) (.t t19) (.v (.int .i64 2)), none, none⟩,
   ⟨(some t21), oMov (.t t20), none, none⟩,
   ⟨(some t22), oMov (.t t2), (some (t21, false)), none⟩,
   ⟨(some t23), oBin (int2 (cmpO eqI)) (.t t22) (.v (.int .i64 10)), (some (t21, false)), none⟩,
   ⟨(some t24), oPick (.t t21) (.v (.bool true)) (.t t23), none, none⟩,
   ⟨(some t25), oMov (.t t24), none, none⟩,
   ⟨(some t26), oMov (.t t2), (some (t25, false)), none⟩,
   ⟨(some t27), oBin (int2 (cmpO gtI)) (.t t26) (.v (.int .i64 36)), (some (t25, false)), none⟩,
   ⟨(some t28), oPick (.t t25) (.v (.bool true)) (.t t27), none, none⟩])
 (xCond (.t t28)
 (xOps [⟨(some t29), oIface 9 (.v (.string ⟨⟨[115, 116, 114, 99, 111, 110, 118, 58, 32, 105, 108, 108, 101, 103, 97, 108, 32, 65, 112, 112, 101, 110, 100, 73, 110, 116, 47, 70, 111, 114, 109, 97, 116, 73, 110, 116, 32, 98, 97, 115, 101]⟩⟩)), none, none⟩,
   ⟨none, oBad, none, none⟩])
 xSkip))
 (xSeq (xOps [⟨(some t12), oNew (rep 65 [(.int .u8 0)]), none, none⟩])
 (xSeq (xOps [⟨(some t13), oMov (.v (.int .i64 65)), none, none⟩])
 (xSeq (xSeq (xOps [⟨(some t30), oMov (.t t3), none, none⟩])
 (xCond (.t t30)
 (xOps [⟨(some t31), oMov (.t t1), none, none⟩,
   ⟨(some t32), oNeg (.t t31), none, none⟩,
   ⟨(some t1), oMov (.t t32), none, none⟩])
 xSkip))
 (xSeq (xSeq (xOps [⟨(some t33), oMov (.t t2), none, none⟩,
   ⟨(some t34), oCall 88 [(.t t33)], none, none⟩])
 (xCond (.t t34)
 (xSeq (xOps [⟨(some t35), oMov (.t t2), none, none⟩,
   ⟨(some t36), oConv .u64 (.t t35), none, none⟩,
   ⟨(some t37), oCall 89 [(.t t36)], none, none⟩,
   ⟨(some t38), oConv .u64 (.t t37), none, none⟩,
   ⟨(some t14), oMov (.t t38), none, none⟩])
 (xSeq (xOps [⟨(some t39), oMov (.t t2), none, none⟩,
   ⟨(some t40), oConv .u64 (.t t39), none, none⟩,
   ⟨(some t15), oMov (.t t40), none, none⟩])
 (xSeq (xOps [⟨(some t41), oMov (.t t2), none, none⟩,
   ⟨(some t42), oConv .u64 (.t t41), none, none⟩,
   ⟨(some t43), oBin (int2 subO) (.t t42) (.v (.int .u64 1)), none, none⟩,
   ⟨(some t16), oMov (.t t43), none, none⟩])
 (xSeq (xBlock 0 (xLoop (xSeq (xSeq (xOps [⟨(some t44), oMov (.t t1), none, none⟩,
   ⟨(some t45), oMov (.t t15), none, none⟩,
   ⟨(some t46), oBin (int2 (cmpO geI)) (.t t44) (.t t45), none, none⟩])
 (xCond (.t t46)
 xSkip
 (xExit 0)))
 (xBlock 1 (xSeq (xOps [⟨(some t47), oMov (.t t13), none, none⟩,
   ⟨(some t48), oBin (int2 subO) (.t t47) (.v (.int .i64 1)), none, none⟩,
   ⟨(some t13), oMov (.t t48), none, none⟩])
 (xSeq (xOps [⟨(some t49), oMov (.t t13), none, none⟩,
   ⟨(some t50), oMov (.t t1), none, none⟩,
   ⟨(some t51), oMov (.t t16), none, none⟩,
   ⟨(some t52), oBin (int2 andO) (.t t50) (.t t51), none, none⟩,
   ⟨(some t53), oIdxS (.v (.string ⟨⟨[48, 49, 50, 51, 52, 53, 54, 55, 56, 57, 97, 98, 99, 100, 101, 102, 103, 104, 105, 106, 107, 108, 109, 110, 111, 112, 113, 114, 115, 116, 117, 118, 119, 120, 121, 122]⟩⟩)) (.t t52), none, none⟩,
   ⟨(some t54), oIdxAddrA 65 1 (.t t12) (.t t49), none, none⟩,
   ⟨none, oStore 1 (.t t54) (.t t53), none, none⟩])
 (xOps [⟨(some t55), oMov (.t t1), none, none⟩,
   ⟨(some t56), oMov (.t t14), none, none⟩,
   ⟨(some t57), oBin (sh2 shrO) (.t t55) (.t t56), none, none⟩,
   ⟨(some t1), oMov (.t t57), none, none⟩])))))))
 (xSeq (xOps [⟨(some t58), oMov (.t t13), none, none⟩,
   ⟨(some t59), oBin (int2 subO) (.t t58) (.v (.int .i64 1)), none, none⟩,
   ⟨(some t13), oMov (.t t59), none, none⟩])
 (xOps [⟨(some t60), oMov (.t t13), none, none⟩,
   ⟨(some t61), oMov (.t t1), none, none⟩,
   ⟨(some t62), oIdxS (.v (.string ⟨⟨[48, 49, 50, 51, 52, 53, 54, 55, 56, 57, 97, 98, 99, 100, 101, 102, 103, 104, 105, 106, 107, 108, 109, 110, 111, 112, 113, 114, 115, 116, 117, 118, 119, 120, 121, 122]⟩⟩)) (.t t61), none, none⟩,
   ⟨(some t63), oIdxAddrA 65 1 (.t t12) (.t t60), none, none⟩,
   ⟨none, oStore 1 (.t t63) (.t t62), none, none⟩]))))))
 (xSeq (xOps [⟨(some t64), oMov (.t t2), none, none⟩,
   ⟨(some t65), oConv .u64 (.t t64), none, none⟩,
   ⟨(some t17), oMov (.t t65), none, none⟩])
 (xSeq (xBlock 2 (xLoop (xSeq (xSeq (xOps [⟨(some t66), oMov (.t t1), none, none⟩,
   ⟨(some t67), oMov (.t t17), none, none⟩,
   ⟨(some t68), oBin (int2 (cmpO geI)) (.t t66) (.t t67), none, none⟩])
 (xCond (.t t68)
 xSkip
 (xExit 2)))
 (xBlock 3 (xSeq (xOps [⟨(some t69), oMov (.t t13), none, none⟩,
   ⟨(some t70), oBin (int2 subO) (.t t69) (.v (.int .i64 1)), none, none⟩,
   ⟨(some t13), oMov (.t t70), none, none⟩])
 (xSeq (xOps [⟨(some t71), oMov (.t t1), none, none⟩,
   ⟨(some t72), oMov (.t t17), none, none⟩,
   ⟨(some t73), oBin (int2 quoO) (.t t71) (.t t72), none, none⟩,
   ⟨(some t18), oMov (.t t73), none, none⟩])
 (xSeq (xOps [⟨(some t74), oMov (.t t13), none, none⟩,
   ⟨(some t75), oMov (.t t1), none, none⟩,
   ⟨(some t76), oMov (.t t18), none, none⟩,
   ⟨(some t77), oMov (.t t17), none, none⟩,
   ⟨(some t78), oBin (int2 mulO) (.t t76) (.t t77), none, none⟩,
   ⟨(some t79), oBin (int2 subO) (.t t75) (.t t78), none, none⟩,
   ⟨(some t80), oIdxS (.v (.string ⟨⟨[48, 49, 50, 51, 52, 53, 54, 55, 56, 57, 97, 98, 99, 100, 101, 102, 103, 104, 105, 106, 107, 108, 109, 110, 111, 112, 113, 114, 115, 116, 117, 118, 119, 120, 121, 122]⟩⟩)) (.t t79), none, none⟩,
   ⟨(some t81), oIdxAddrA 65 1 (.t t12) (.t t74), none, none⟩,
   ⟨none, oStore 1 (.t t81) (.t t80), none, none⟩])
 (xOps [⟨(some t82), oMov (.t t18), none, none⟩,
   ⟨(some t1), oMov (.t t82), none, none⟩]))))))))
 (xSeq (xOps [⟨(some t83), oMov (.t t13), none, none⟩,
   ⟨(some t84), oBin (int2 subO) (.t t83) (.v (.int .i64 1)), none, none⟩,
   ⟨(some t13), oMov (.t t84), none, none⟩])
 (xOps [⟨(some t85), oMov (.t t13), none, none⟩,
   ⟨(some t86), oMov (.t t1), none, none⟩,
   ⟨(some t87), oIdxS (.v (.string ⟨⟨[48, 49, 50, 51, 52, 53, 54, 55, 56, 57, 97, 98, 99, 100, 101, 102, 103, 104, 105, 106, 107, 108, 109, 110, 111, 112, 113, 114, 115, 116, 117, 118, 119, 120, 121, 122]⟩⟩)) (.t t86), none, none⟩,
   ⟨(some t88), oIdxAddrA 65 1 (.t t12) (.t t85), none, none⟩,
   ⟨none, oStore 1 (.t t88) (.t t87), none, none⟩]))))))
 (xSeq (xSeq (xOps [⟨(some t89), oMov (.t t3), none, none⟩])
 (xCond (.t t89)
 (xSeq (xOps [⟨(some t90), oMov (.t t13), none, none⟩,
   ⟨(some t91), oBin (int2 subO) (.t t90) (.v (.int .i64 1)), none, none⟩,
   ⟨(some t13), oMov (.t t91), none, none⟩])
 (xOps [⟨(some t92), oMov (.t t13), none, none⟩,
   ⟨(some t93), oIdxAddrA 65 1 (.t t12) (.t t92), none, none⟩,
   ⟨none, oStore 1 (.t t93) (.v (.int .u8 45)), none, none⟩]))
 xSkip))
 (xSeq (xSeq (xOps [⟨(some t94), oMov (.t t4), none, none⟩])
 (xCond (.t t94)
 (xSeq (xOps [⟨(some t95), oMov (.t t0), none, none⟩,
   ⟨(some t96), oMov (.t t13), none, none⟩,
   ⟨(some t97), oSliceA 65 1 (.t t12) (some (.t t96)) none, none, none⟩,
   ⟨(some t98), oAppend 1 1 (.t t95) (.t t97), none, none⟩,
   ⟨(some t10), oMov (.t t98), none, none⟩])
 xRet)
 xSkip))
 (xSeq (xOps [⟨(some t99), oMov (.t t13), none, none⟩,
   ⟨(some t100), oSliceA 65 1 (.t t12) (some (.t t99)) none, none, none⟩,
   ⟨(some t101), oBytesStr (.t t100), none, none⟩,
   ⟨(some t11), oMov (.t t101), none, none⟩])
 xRet)))))))))⟩
theorem ok82 : cFunc Tryd.prog gl ex Tryd.f82 = some c82 := by kernel_rfl
/-- slices.rotateCmpFunc[*publican/dues.one] -/
def c83 : AFunc := ⟨58, [],
 (xSeq (xOps [⟨(some t12), oMov (.t t2), none, none⟩,
   ⟨(some t13), oMov (.t t1), none, none⟩,
   ⟨(some t14), oBin (int2 subO) (.t t12) (.t t13), none, none⟩,
   ⟨(some t10), oMov (.t t14), none, none⟩])
 (xSeq (xOps [⟨(some t15), oMov (.t t3), none, none⟩,
   ⟨(some t16), oMov (.t t2), none, none⟩,
   ⟨(some t17), oBin (int2 subO) (.t t15) (.t t16), none, none⟩,
   ⟨(some t11), oMov (.t t17), none, none⟩])
 (xSeq (xBlock 0 (xLoop (xSeq (xSeq (xOps [⟨(some t18), oMov (.t t10), none, none⟩,
   ⟨(some t19), oMov (.t t11), none, none⟩,
   ⟨(some t20), oBin (int2 (cmpO neI)) (.t t18) (.t t19), none, none⟩])
 (xCond (.t t20)
 xSkip
 (xExit 0)))
 (xBlock 1 (xSeq (xOps [⟨(some t21), oMov (.t t10), none, none⟩,
   ⟨(some t22), oMov (.t t11), none, none⟩,
   ⟨(some t23), oBin (int2 (cmpO gtI)) (.t t21) (.t t22), none, none⟩])
 (xCond (.t t23)
 (xSeq (xOps [⟨(some t24), oMov (.t t0), none, none⟩,
   ⟨(some t25), oMov (.t t2), none, none⟩,
   ⟨(some t26), oMov (.t t10), none, none⟩,
   ⟨(some t27), oBin (int2 subO) (.t t25) (.t t26), none, none⟩,
   ⟨(some t28), oMov (.t t2), none, none⟩,
   ⟨(some t29), oMov (.t t11), none, none⟩,
   ⟨(some t30), oMov (.t t4), none, none⟩,
   ⟨(some t31), oCall 90 [(.t t24), (.t t27), (.t t28), (.t t29), (.t t30)], none, none⟩])
 (xOps [⟨(some t32), oMov (.t t10), none, none⟩,
   ⟨(some t33), oMov (.t t11), none, none⟩,
   ⟨(some t34), oBin (int2 subO) (.t t32) (.t t33), none, none⟩,
   ⟨(some t10), oMov (.t t34), none, none⟩]))
 (xSeq (xOps [⟨(some t35), oMov (.t t0), none, none⟩,
   ⟨(some t36), oMov (.t t2), none, none⟩,
   ⟨(some t37), oMov (.t t10), none, none⟩,
   ⟨(some t38), oBin (int2 subO) (.t t36) (.t t37), none, none⟩,
   ⟨(some t39), oMov (.t t2), none, none⟩,
   ⟨(some t40), oMov (.t t11), none, none⟩,
   ⟨(some t41), oBin (int2 addO) (.t t39) (.t t40), none, none⟩,
   ⟨(some t42), oMov (.t t10), none, none⟩,
   ⟨(some t43), oBin (int2 subO) (.t t41) (.t t42), none, none⟩,
   ⟨(some t44), oMov (.t t10), none, none⟩,
   ⟨(some t45), oMov (.t t4), none, none⟩,
   ⟨(some t46), oCall 90 [(.t t35), (.t t38), (.t t43), (.t t44), (.t t45)], none, none⟩])
 (xOps [⟨(some t47), oMov (.t t11), none, none⟩,
   ⟨(some t48), oMov (.t t10), none, none⟩,
   ⟨(some t49), oBin (int2 subO) (.t t47) (.t t48), none, none⟩,
   ⟨(some t11), oMov (.t t49), none, none⟩]))))))))
 (xOps [⟨(some t50), oMov (.t t0), none, none⟩,
   ⟨(some t51), oMov (.t t2), none, none⟩,
   ⟨(some t52), oMov (.t t10), none, none⟩,
   ⟨(some t53), oBin (int2 subO) (.t t51) (.t t52), none, none⟩,
   ⟨(some t54), oMov (.t t2), none, none⟩,
   ⟨(some t55), oMov (.t t10), none, none⟩,
   ⟨(some t56), oMov (.t t4), none, none⟩,
   ⟨(some t57), oCall 90 [(.t t50), (.t t53), (.t t54), (.t t55), (.t t56)], none, none⟩]))))⟩
theorem ok83 : cFunc Tryd.prog gl ex Tryd.f83 = some c83 := by kernel_rfl
/-- math/bits.Mul64 -/
def c84 : AFunc := ⟨51, [.tmp t4, .tmp t5],
 (xSeq (xOps [⟨(some t4), oMov (.v (.int .u64 0)), none, none⟩,
   ⟨(some t5), oMov (.v (.int .u64 0)), none, none⟩])
 (xSeq (xOps [⟨(some t14), oMov (.t t0), none, none⟩,
   ⟨(some t15), oBin (int2 andO) (.t t14) (.v (.int .u64 4294967295)), none, none⟩,
   ⟨(some t6), oMov (.t t15), none, none⟩])
 (xSeq (xOps [⟨(some t16), oMov (.t t0), none, none⟩,
   ⟨(some t17), oBin (sh2 shrO) (.t t16) (.v (.int .u64 32)), none, none⟩,
   ⟨(some t7), oMov (.t t17), none, none⟩])
 (xSeq (xOps [⟨(some t18), oMov (.t t1), none, none⟩,
   ⟨(some t19), oBin (int2 andO) (.t t18) (.v (.int .u64 4294967295)), none, none⟩,
   ⟨(some t8), oMov (.t t19), none, none⟩])
 (xSeq (xOps [⟨(some t20), oMov (.t t1), none, none⟩,
   ⟨(some t21), oBin (sh2 shrO) (.t t20) (.v (.int .u64 32)), none, none⟩,
   ⟨(some t9), oMov (.t t21), none, none⟩])
 (xSeq (xOps [⟨(some t22), oMov (.t t6), none, none⟩,
   ⟨(some t23), oMov (.t t8), none, none⟩,
   ⟨(some t24), oBin (int2 mulO) (.t t22) (.t t23), none, none⟩,
   ⟨(some t10), oMov (.t t24), none, none⟩])
 (xSeq (xOps [⟨(some t25), oMov (.t t7), none, none⟩,
   ⟨(some t26), oMov (.t t8), none, none⟩,
   ⟨(some t27), oBin (int2 mulO) (.t t25) (.t t26), none, none⟩,
   ⟨(some t28), oMov (.t t10), none, none⟩,
   ⟨(some t29), oBin (sh2 shrO) (.t t28) (.v (.int .u64 32)), none, none⟩,
   ⟨(some t30), oBin (int2 addO) (.t t27) (.t t29), none, none⟩,
   ⟨(some t11), oMov (.t t30), none, none⟩])
 (xSeq (xOps [⟨(some t31), oMov (.t t11), none, none⟩,
   ⟨(some t32), oBin (int2 andO) (.t t31) (.v (.int .u64 4294967295)), none, none⟩,
   ⟨(some t12), oMov (.t t32), none, none⟩])
 (xSeq (xOps [⟨(some t33), oMov (.t t11), none, none⟩,
   ⟨(some t34), oBin (sh2 shrO) (.t t33) (.v (.int .u64 32)), none, none⟩,
   ⟨(some t13), oMov (.t t34), none, none⟩])
 (xSeq (xOps [⟨(some t35), oMov (.t t12), none, none⟩,
   ⟨(some t36), oMov (.t t6), none, none⟩,
   ⟨(some t37), oMov (.t t9), none, none⟩,
   ⟨(some t38), oBin (int2 mulO) (.t t36) (.t t37), none, none⟩,
   ⟨(some t39), oBin (int2 addO) (.t t35) (.t t38), none, none⟩,
   ⟨(some t12), oMov (.t t39), none, none⟩])
 (xSeq (xOps [⟨(some t40), oMov (.t t7), none, none⟩,
   ⟨(some t41), oMov (.t t9), none, none⟩,
   ⟨(some t42), oBin (int2 mulO) (.t t40) (.t t41), none, none⟩,
   ⟨(some t43), oMov (.t t13), none, none⟩,
   ⟨(some t44), oBin (int2 addO) (.t t42) (.t t43), none, none⟩,
   ⟨(some t45), oMov (.t t12), none, none⟩,
   ⟨(some t46), oBin (sh2 shrO) (.t t45) (.v (.int .u64 32)), none, none⟩,
   ⟨(some t47), oBin (int2 addO) (.t t44) (.t t46), none, none⟩,
   ⟨(some t4), oMov (.t t47), none, none⟩])
 (xSeq (xOps [⟨(some t48), oMov (.t t0), none, none⟩,
   ⟨(some t49), oMov (.t t1), none, none⟩,
   ⟨(some t50), oBin (int2 mulO) (.t t48) (.t t49), none, none⟩,
   ⟨(some t5), oMov (.t t50), none, none⟩])
 xRet))))))))))))⟩
theorem ok84 : cFunc Tryd.prog gl ex Tryd.f84 = some c84 := by kernel_rfl
/-- math/bits.Len64 -/
def c85 : AFunc := ⟨25, [.tmp t2],
 (xSeq (xOps [⟨(some t2), oMov (.v (.int .i64 0)), none, none⟩])
 (xSeq (xSeq (xOps [⟨(some t3), oMov (.t t0), none, none⟩,
   ⟨(some t4), oBin (int2 (cmpO geI)) (.t t3) (.v (.int .u64 4294967296)), none, none⟩])
 (xCond (.t t4)
 (xSeq (xOps [⟨(some t5), oMov (.t t0), none, none⟩,
   ⟨(some t6), oBin (sh2 shrO) (.t t5) (.v (.int .u64 32)), none, none⟩,
   ⟨(some t0), oMov (.t t6), none, none⟩])
 (xOps [⟨(some t2), oMov (.v (.int .i64 32)), none, none⟩]))
 xSkip))
 (xSeq (xSeq (xOps [⟨(some t7), oMov (.t t0), none, none⟩,
   ⟨(some t8), oBin (int2 (cmpO geI)) (.t t7) (.v (.int .u64 65536)), none, none⟩])
 (xCond (.t t8)
 (xSeq (xOps [⟨(some t9), oMov (.t t0), none, none⟩,
   ⟨(some t10), oBin (sh2 shrO) (.t t9) (.v (.int .u64 16)), none, none⟩,
   ⟨(some t0), oMov (.t t10), none, none⟩])
 (xOps [⟨(some t11), oMov (.t t2), none, none⟩,
   ⟨(some t12), oBin (int2 addO) (.t t11) (.v (.int .i64 16)), none, none⟩,
   ⟨(some t2), oMov (.t t12), none, none⟩]))
 xSkip))
 (xSeq (xSeq (xOps [⟨(some t13), oMov (.t t0), none, none⟩,
   ⟨(some t14), oBin (int2 (cmpO geI)) (.t t13) (.v (.int .u64 256)), none, none⟩])
 (xCond (.t t14)
 (xSeq (xOps [⟨(some t15), oMov (.t t0), none, none⟩,
   ⟨(some t16), oBin (sh2 shrO) (.t t15) (.v (.int .u64 8)), none, none⟩,
   ⟨(some t0), oMov (.t t16), none, none⟩])
 (xOps [⟨(some t17), oMov (.t t2), none, none⟩,
   ⟨(some t18), oBin (int2 addO) (.t t17) (.v (.int .i64 8)), none, none⟩,
   ⟨(some t2), oMov (.t t18), none, none⟩]))
 xSkip))
 (xSeq (xOps [⟨(some t19), oMov (.t t2), none, none⟩,
   ⟨(some t20), oMov (.t t0), none, none⟩,
   ⟨(some t21), oConv .u8 (.t t20), none, none⟩,
   ⟨(some t22), oIdxS (.v (.string ⟨⟨[0, 1, 2, 2, 3, 3, 3, 3, 4, 4, 4, 4, 4, 4, 4, 4, 5, 5, 5, 5, 5, 5, 5, 5, 5, 5, 5, 5, 5, 5, 5, 5, 6, 6, 6, 6, 6, 6, 6, 6, 6, 6, 6, 6, 6, 6, 6, 6, 6, 6, 6, 6, 6, 6, 6, 6, 6, 6, 6, 6, 6, 6, 6, 6, 7, 7, 7, 7, 7, 7, 7, 7, 7, 7, 7, 7, 7, 7, 7, 7, 7, 7, 7, 7, 7, 7, 7, 7, 7, 7, 7, 7, 7, 7, 7, 7, 7, 7, 7, 7, 7, 7, 7, 7, 7, 7, 7, 7, 7, 7, 7, 7, 7, 7, 7, 7, 7, 7, 7, 7, 7, 7, 7, 7, 7, 7, 7, 7, 8, 8, 8, 8, 8, 8, 8, 8, 8, 8, 8, 8, 8, 8, 8, 8, 8, 8, 8, 8, 8, 8, 8, 8, 8, 8, 8, 8, 8, 8, 8, 8, 8, 8, 8, 8, 8, 8, 8, 8, 8, 8, 8, 8, 8, 8, 8, 8, 8, 8, 8, 8, 8, 8, 8, 8, 8, 8, 8, 8, 8, 8, 8, 8, 8, 8, 8, 8, 8, 8, 8, 8, 8, 8, 8, 8, 8, 8, 8, 8, 8, 8, 8, 8, 8, 8, 8, 8, 8, 8, 8, 8, 8, 8, 8, 8, 8, 8, 8, 8, 8, 8, 8, 8, 8, 8, 8, 8, 8, 8, 8, 8, 8, 8, 8, 8, 8, 8, 8, 8, 8, 8, 8, 8, 8, 8, 8, 8]⟩⟩)) (.t t21), none, none⟩,
   ⟨(some t23), oConv .i64 (.t t22), none, none⟩,
   ⟨(some t24), oBin (int2 addO) (.t t19) (.t t23), none, none⟩,
   ⟨(some t2), oMov (.t t24), none, none⟩])
 xRet)))))⟩
theorem ok85 : cFunc Tryd.prog gl ex Tryd.f85 = some c85 := by kernel_rfl
/-- internal/strconv.log10Pow2 -/
def c86 : AFunc := ⟨6, [.tmp t2],
 (xSeq (xOps [⟨(some t2), oMov (.v (.int .i64 0)), none, none⟩])
 (xSeq (xOps [⟨(some t3), oMov (.t t0), none, none⟩,
   ⟨(some t4), oBin (int2 mulO) (.t t3) (.v (.int .i64 78913)), none, none⟩,
   ⟨(some t5), oBin (sh2 shrO) (.t t4) (.v (.int .u64 18)), none, none⟩,
   ⟨(some t2), oMov (.t t5), none, none⟩])
 xRet))⟩
theorem ok86 : cFunc Tryd.prog gl ex Tryd.f86 = some c86 := by kernel_rfl
/-- internal/strconv.bool2[int] -/
def c87 : AFunc := ⟨4, [.tmp t2],
 (xSeq (xOps [⟨(some t2), oMov (.v (.int .i64 0)), none, none⟩])
 (xSeq (xSeq (xOps [⟨(some t3), oMov (.t t0), none, none⟩])
 (xCond (.t t3)
 (xSeq (xOps [⟨(some t2), oMov (.v (.int .i64 1)), none, none⟩])
 xRet)
 xSkip))
 (xSeq (xOps [⟨(some t2), oMov (.v (.int .i64 0)), none, none⟩])
 xRet)))⟩
theorem ok87 : cFunc Tryd.prog gl ex Tryd.f87 = some c87 := by kernel_rfl
/-- internal/strconv.isPowerOfTwo -/
def c88 : AFunc := ⟨8, [.tmp t2],
 (xSeq (xOps [⟨(some t2), oMov (.v (.bool false)), none, none⟩])
 (xSeq (xOps [⟨(some t3), oMov (.t t0), none, none⟩,
   ⟨(some t4), oMov (.t t0), none, none⟩,
   ⟨(some t5), oBin (int2 subO) (.t t4) (.v (.int .i64 1)), none, none⟩,
   ⟨(some t6), oBin (int2 andO) (.t t3) (.t t5), none, none⟩,
   ⟨(some t7), oBin (int2 (cmpO eqI)) (.t t6) (.v (.int .i64 0)), none, none⟩,
   ⟨(some t2), oMov (.t t7), none, none⟩])
 xRet))⟩
theorem ok88 : cFunc Tryd.prog gl ex Tryd.f88 = some c88 := by kernel_rfl
/-- math/bits.TrailingZeros -/
def c89 : AFunc := ⟨8, [.tmp t2],
 (xSeq (xOps [⟨(some t2), oMov (.v (.int .i64 0)), none, none⟩])
 (xSeq (xCond (.v (.bool false))
 (xSeq (xOps [⟨(some t3), oMov (.t t0), none, none⟩,
   ⟨(some t4), oConv .u32 (.t t3), none, none⟩,
   ⟨(some t5), oCall 91 [(.t t4)], none, none⟩,
   ⟨(some t2), oMov (.t t5), none, none⟩])
 xRet)
 xSkip)
 (xSeq (xOps [⟨(some t6), oMov (.t t0), none, none⟩,
   ⟨(some t7), oCall 92 [(.t t6)], none, none⟩,
   ⟨(some t2), oMov (.t t7), none, none⟩])
 xRet)))⟩
theorem ok89 : cFunc Tryd.prog gl ex Tryd.f89 = some c89 := by kernel_rfl
/-- slices.swapRangeCmpFunc[*publican/dues.one] -/
def c90 : AFunc := ⟨38, [],
 (xSeq (xOps [⟨(some t10), oMov (.v (.int .i64 0)), none, none⟩])
 (xBlock 0 (xLoop (xSeq (xSeq (xOps [⟨(some t11), oMov (.t t10), none, none⟩,
   ⟨(some t12), oMov (.t t3), none, none⟩,
   ⟨(some t13), oBin (int2 (cmpO ltI)) (.t t11) (.t t12), none, none⟩])
 (xCond (.t t13)
 xSkip
 (xExit 0)))
 (xSeq (xBlock 1 (xReg [⟨(some t16), oMov (.t t0), none, none⟩,
   ⟨(some t17), oMov (.t t1), none, none⟩,
   ⟨(some t18), oMov (.t t10), none, none⟩,
   ⟨(some t19), oBin (int2 addO) (.t t17) (.t t18), none, none⟩,
   ⟨(some t20), oMov (.t t0), none, none⟩,
   ⟨(some t21), oMov (.t t2), none, none⟩,
   ⟨(some t22), oMov (.t t10), none, none⟩,
   ⟨(some t23), oBin (int2 addO) (.t t21) (.t t22), none, none⟩,
   ⟨(some t24), oMov (.t t0), none, none⟩,
   ⟨(some t25), oMov (.t t2), none, none⟩,
   ⟨(some t26), oMov (.t t10), none, none⟩,
   ⟨(some t27), oBin (int2 addO) (.t t25) (.t t26), none, none⟩,
   ⟨(some t28), oIdxAddrL 1 (.t t24) (.t t27), none, none⟩,
   ⟨(some t29), oLoad1 (.t t28), none, (some (.t t28))⟩,
   ⟨(some t30), oMov (.t t0), none, none⟩,
   ⟨(some t31), oMov (.t t1), none, none⟩,
   ⟨(some t32), oMov (.t t10), none, none⟩,
   ⟨(some t33), oBin (int2 addO) (.t t31) (.t t32), none, none⟩,
   ⟨(some t34), oIdxAddrL 1 (.t t30) (.t t33), none, none⟩,
   ⟨(some t35), oLoad1 (.t t34), none, (some (.t t34))⟩,
   ⟨(some t36), oIdxAddrL 1 (.t t16) (.t t19), none, none⟩,
   ⟨none, oStore 1 (.t t36) (.t t29), none, none⟩,
   ⟨(some t37), oIdxAddrL 1 (.t t20) (.t t23), none, none⟩,
   ⟨none, oStore 1 (.t t37) (.t t35), none, none⟩] [(0, 1), (0, 2), (1, 2), (0, 3), (0, 4), (1, 4), (2, 4), (3, 4), (0, 5), (1, 5), (2, 5), (3, 5), (4, 5), (0, 6), (1, 6), (2, 6), (3, 6), (4, 6), (5, 6), (0, 7), (1, 7), (2, 7), (3, 7), (4, 7), (0, 8), (1, 8), (2, 8), (3, 8), (4, 8), (5, 8), (6, 8), (7, 8), (0, 9), (1, 9), (2, 9), (3, 9), (4, 9), (5, 9), (6, 9), (7, 9), (8, 9), (0, 10), (1, 10), (2, 10), (3, 10), (4, 10), (5, 10), (6, 10), (7, 10), (8, 10), (9, 10), (0, 11), (1, 11), (2, 11), (3, 11), (4, 11), (5, 11), (6, 11), (7, 11), (8, 11), (0, 12), (1, 12), (2, 12), (3, 12), (4, 12), (5, 12), (6, 12), (7, 12), (0, 13), (1, 13), (2, 13), (3, 13), (4, 13), (5, 13), (6, 13), (7, 13), (0, 14), (1, 14), (2, 14), (3, 14), (4, 14), (5, 14), (6, 14), (7, 14), (8, 14), (9, 14), (10, 14), (11, 14), (12, 14), (13, 14), (0, 15), (1, 15), (2, 15), (3, 15), (4, 15), (5, 15), (6, 15), (7, 15), (8, 15), (9, 15), (10, 15), (11, 15), (12, 15), (13, 15), (14, 15), (0, 16), (1, 16), (2, 16), (3, 16), (4, 16), (5, 16), (6, 16), (7, 16), (8, 16), (9, 16), (10, 16), (11, 16), (12, 16), (13, 16), (14, 16), (15, 16), (0, 17), (1, 17), (2, 17), (3, 17), (4, 17), (5, 17), (6, 17), (7, 17), (8, 17), (9, 17), (10, 17), (11, 17), (12, 17), (13, 17), (14, 17), (0, 18), (1, 18), (2, 18), (3, 18), (4, 18), (5, 18), (6, 18), (7, 18), (8, 18), (9, 18), (10, 18), (11, 18), (12, 18), (13, 18), (0, 19), (1, 19), (2, 19), (3, 19), (4, 19), (5, 19), (6, 19), (7, 19), (8, 19), (9, 19), (10, 19), (11, 19), (12, 19), (13, 19), (4, 20), (5, 20), (6, 20), (7, 20), (4, 21), (5, 21), (6, 21), (7, 21)]))
 (xOps [⟨(some t14), oMov (.t t10), none, none⟩,
   ⟨(some t15), oBin (int2 addO) (.t t14) (.v (.int .i64 1)), none, none⟩,
   ⟨(some t10), oMov (.t t15), none, none⟩]))))))⟩
theorem ok90 : cFunc Tryd.prog gl ex Tryd.f90 = some c90 := by kernel_rfl
/-- math/bits.TrailingZeros32 -/
def c91 : AFunc := ⟨14, [.tmp t2],
 (xSeq (xOps [⟨(some t2), oMov (.v (.int .i64 0)), none, none⟩])
 (xSeq (xSeq (xOps [⟨(some t3), oMov (.t t0), none, none⟩,
   ⟨(some t4), oBin (int2 (cmpO eqI)) (.t t3) (.v (.int .u32 0)), none, none⟩])
 (xCond (.t t4)
 (xSeq (xOps [⟨(some t2), oMov (.v (.int .i64 32)), none, none⟩])
 xRet)
 xSkip))
 (xSeq (xOps [⟨(some t5), oMov (.t t0), none, none⟩,
   ⟨(some t6), oMov (.t t0), none, none⟩,
   ⟨(some t7), oNeg (.t t6), none, none⟩,
   ⟨(some t8), oBin (int2 andO) (.t t5) (.t t7), none, none⟩,
   ⟨(some t9), oBin (int2 mulO) (.t t8) (.v (.int .u32 125613361)), none, none⟩,
   ⟨(some t10), oBin (sh2 shrO) (.t t9) (.v (.int .u64 27)), none, none⟩,
   ⟨(some t11), oBad, none, none⟩,
   ⟨(some t12), oLoad1 (.t t11), none, (some (.t t11))⟩,
   ⟨(some t13), oConv .i64 (.t t12), none, none⟩,
   ⟨(some t2), oMov (.t t13), none, none⟩])
 xRet)))⟩
theorem ok91 : cFunc Tryd.prog gl ex Tryd.f91 = some c91 := by kernel_rfl
/-- math/bits.TrailingZeros64 -/
def c92 : AFunc := ⟨14, [.tmp t2],
 (xSeq (xOps [⟨(some t2), oMov (.v (.int .i64 0)), none, none⟩])
 (xSeq (xSeq (xOps [⟨(some t3), oMov (.t t0), none, none⟩,
   ⟨(some t4), oBin (int2 (cmpO eqI)) (.t t3) (.v (.int .u64 0)), none, none⟩])
 (xCond (.t t4)
 (xSeq (xOps [⟨(some t2), oMov (.v (.int .i64 64)), none, none⟩])
 xRet)
 xSkip))
 (xSeq (xOps [⟨(some t5), oMov (.t t0), none, none⟩,
   ⟨(some t6), oMov (.t t0), none, none⟩,
   ⟨(some t7), oNeg (.t t6), none, none⟩,
   ⟨(some t8), oBin (int2 andO) (.t t5) (.t t7), none, none⟩,
   ⟨(some t9), oBin (int2 mulO) (.t t8) (.v (.int .u64 285870213051353865)), none, none⟩,
   ⟨(some t10), oBin (sh2 shrO) (.t t9) (.v (.int .u64 58)), none, none⟩,
   ⟨(some t11), oBad, none, none⟩,
   ⟨(some t12), oLoad1 (.t t11), none, (some (.t t11))⟩,
   ⟨(some t13), oConv .i64 (.t t12), none, none⟩,
   ⟨(some t2), oMov (.t t13), none, none⟩])
 xRet)))⟩
theorem ok92 : cFunc Tryd.prog gl ex Tryd.f92 = some c92 := by kernel_rfl
end
end Go.Proofs.YtgbmkpbackdknaaDoor.AbsDueK
