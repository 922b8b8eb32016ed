import Derived.Test.YtdfmhjbmenfaeaaDoorRows
import Derived.Test.YtdfmhjbmenfaeaaDoorAbsCalFT
import Derived.KernelRfl
namespace Go.Proofs.YtdfmhjbmenfaeaaDoor.AbsCalF
open Go Go.Abs Go.Proofs
set_option maxRecDepth 100000
set_option linter.unusedVariables false
noncomputable section
-- internal/strconv.formatBits
def c37_l0 : X := (xSeq (xSeq (xOps [⟨(some t44), oMov (.t t1), none, none⟩,
   ⟨(some t45), oMov (.t t15), none, none⟩,
   ⟨(some t46), oBin (int2 (cmpO geI)) (.t t44) (.t t45), none, none⟩])
 (xCond (.t t46)
 xSkip
 (xExit 0)))
 (xBlock 1 (xSeq (xOps [⟨(some t47), oMov (.t t13), none, none⟩,
   ⟨(some t48), oBin (int2 subO) (.t t47) (.v (.int .i64 1)), none, none⟩,
   ⟨(some t13), oMov (.t t48), none, none⟩])
 (xSeq (xOps [⟨(some t49), oMov (.t t13), none, none⟩,
   ⟨(some t50), oMov (.t t1), none, none⟩,
   ⟨(some t51), oMov (.t t16), none, none⟩,
   ⟨(some t52), oBin (int2 andO) (.t t50) (.t t51), none, none⟩,
   ⟨(some t53), oIdxS (.v (.string ⟨⟨[48, 49, 50, 51, 52, 53, 54, 55, 56, 57, 97, 98, 99, 100, 101, 102, 103, 104, 105, 106, 107, 108, 109, 110, 111, 112, 113, 114, 115, 116, 117, 118, 119, 120, 121, 122]⟩⟩)) (.t t52), none, none⟩,
   ⟨(some t54), oIdxAddrA 65 1 (.t t12) (.t t49), none, none⟩,
   ⟨none, oStore 1 (.t t54) (.t t53), none, none⟩])
 (xOps [⟨(some t55), oMov (.t t1), none, none⟩,
   ⟨(some t56), oMov (.t t14), none, none⟩,
   ⟨(some t57), oBin (sh2 shrO) (.t t55) (.t t56), none, none⟩,
   ⟨(some t1), oMov (.t t57), none, none⟩])))))
def c37_r0 : X := (xSeq (xOps [⟨(some t58), oMov (.t t13), none, none⟩,
   ⟨(some t59), oBin (int2 subO) (.t t58) (.v (.int .i64 1)), none, none⟩,
   ⟨(some t13), oMov (.t t59), none, none⟩])
 (xOps [⟨(some t60), oMov (.t t13), none, none⟩,
   ⟨(some t61), oMov (.t t1), none, none⟩,
   ⟨(some t62), oIdxS (.v (.string ⟨⟨[48, 49, 50, 51, 52, 53, 54, 55, 56, 57, 97, 98, 99, 100, 101, 102, 103, 104, 105, 106, 107, 108, 109, 110, 111, 112, 113, 114, 115, 116, 117, 118, 119, 120, 121, 122]⟩⟩)) (.t t61), none, none⟩,
   ⟨(some t63), oIdxAddrA 65 1 (.t t12) (.t t60), none, none⟩,
   ⟨none, oStore 1 (.t t63) (.t t62), none, none⟩]))
def c37_l1 : X := (xSeq (xSeq (xOps [⟨(some t66), oMov (.t t1), none, none⟩,
   ⟨(some t67), oMov (.t t17), none, none⟩,
   ⟨(some t68), oBin (int2 (cmpO geI)) (.t t66) (.t t67), none, none⟩])
 (xCond (.t t68)
 xSkip
 (xExit 2)))
 (xBlock 3 (xSeq (xOps [⟨(some t69), oMov (.t t13), none, none⟩,
   ⟨(some t70), oBin (int2 subO) (.t t69) (.v (.int .i64 1)), none, none⟩,
   ⟨(some t13), oMov (.t t70), none, none⟩])
 (xSeq (xOps [⟨(some t71), oMov (.t t1), none, none⟩,
   ⟨(some t72), oMov (.t t17), none, none⟩,
   ⟨(some t73), oBin (int2 quoO) (.t t71) (.t t72), none, none⟩,
   ⟨(some t18), oMov (.t t73), none, none⟩])
 (xSeq (xOps [⟨(some t74), oMov (.t t13), none, none⟩,
   ⟨(some t75), oMov (.t t1), none, none⟩,
   ⟨(some t76), oMov (.t t18), none, none⟩,
   ⟨(some t77), oMov (.t t17), none, none⟩,
   ⟨(some t78), oBin (int2 mulO) (.t t76) (.t t77), none, none⟩,
   ⟨(some t79), oBin (int2 subO) (.t t75) (.t t78), none, none⟩,
   ⟨(some t80), oIdxS (.v (.string ⟨⟨[48, 49, 50, 51, 52, 53, 54, 55, 56, 57, 97, 98, 99, 100, 101, 102, 103, 104, 105, 106, 107, 108, 109, 110, 111, 112, 113, 114, 115, 116, 117, 118, 119, 120, 121, 122]⟩⟩)) (.t t79), none, none⟩,
   ⟨(some t81), oIdxAddrA 65 1 (.t t12) (.t t74), none, none⟩,
   ⟨none, oStore 1 (.t t81) (.t t80), none, none⟩])
 (xOps [⟨(some t82), oMov (.t t18), none, none⟩,
   ⟨(some t1), oMov (.t t82), none, none⟩]))))))
def c37_r1 : X := (xSeq (xOps [⟨(some t83), oMov (.t t13), none, none⟩,
   ⟨(some t84), oBin (int2 subO) (.t t83) (.v (.int .i64 1)), none, none⟩,
   ⟨(some t13), oMov (.t t84), none, none⟩])
 (xOps [⟨(some t85), oMov (.t t13), none, none⟩,
   ⟨(some t86), oMov (.t t1), none, none⟩,
   ⟨(some t87), oIdxS (.v (.string ⟨⟨[48, 49, 50, 51, 52, 53, 54, 55, 56, 57, 97, 98, 99, 100, 101, 102, 103, 104, 105, 106, 107, 108, 109, 110, 111, 112, 113, 114, 115, 116, 117, 118, 119, 120, 121, 122]⟩⟩)) (.t t86), none, none⟩,
   ⟨(some t88), oIdxAddrA 65 1 (.t t12) (.t t85), none, none⟩,
   ⟨none, oStore 1 (.t t88) (.t t87), none, none⟩]))
def c37_r2 : X := (xSeq (xSeq (xOps [⟨(some t89), oMov (.t t3), none, none⟩])
 (xCond (.t t89)
 (xSeq (xOps [⟨(some t90), oMov (.t t13), none, none⟩,
   ⟨(some t91), oBin (int2 subO) (.t t90) (.v (.int .i64 1)), none, none⟩,
   ⟨(some t13), oMov (.t t91), none, none⟩])
 (xOps [⟨(some t92), oMov (.t t13), none, none⟩,
   ⟨(some t93), oIdxAddrA 65 1 (.t t12) (.t t92), none, none⟩,
   ⟨none, oStore 1 (.t t93) (.v (.int .u8 45)), none, none⟩]))
 xSkip))
 (xSeq (xSeq (xOps [⟨(some t94), oMov (.t t4), none, none⟩])
 (xCond (.t t94)
 (xSeq (xOps [⟨(some t95), oMov (.t t0), none, none⟩,
   ⟨(some t96), oMov (.t t13), none, none⟩,
   ⟨(some t97), oSliceA 65 1 (.t t12) (some (.t t96)) none, none, none⟩,
   ⟨(some t98), oAppend 1 1 (.t t95) (.t t97), none, none⟩,
   ⟨(some t10), oMov (.t t98), none, none⟩])
 xRet)
 xSkip))
 (xSeq (xOps [⟨(some t99), oMov (.t t13), none, none⟩,
   ⟨(some t100), oSliceA 65 1 (.t t12) (some (.t t99)) none, none, none⟩,
   ⟨(some t101), oBytesStr (.t t100), none, none⟩,
   ⟨(some t11), oMov (.t t101), none, none⟩])
 xRet)))
def c37 : AFunc := ⟨102, [.tmp t10, .tmp t11],
 (xSeq (xOps [⟨(some t10), oMov (.v (.slice none 0 0)), none, none⟩,
   ⟨(some t11), oMov (.v (.string ⟨⟨[]⟩⟩)), none, none⟩])
 (xSeq (xSeq (xOps [⟨(some t19), oMov (.t t2), none, none⟩,
   ⟨(some t20), oBin (int2 (cmpO ltI)) (.t t19) (.v (.int .i64 2)), none, none⟩,
   ⟨(some t21), oMov (.t t20), none, none⟩,
   ⟨(some t22), oMov (.t t2), (some (t21, false)), none⟩,
   ⟨(some t23), oBin (int2 (cmpO eqI)) (.t t22) (.v (.int .i64 10)), (some (t21, false)), none⟩,
   ⟨(some t24), oPick (.t t21) (.v (.bool true)) (.t t23), none, none⟩,
   ⟨(some t25), oMov (.t t24), none, none⟩,
   ⟨(some t26), oMov (.t t2), (some (t25, false)), none⟩,
   ⟨(some t27), oBin (int2 (cmpO gtI)) (.t t26) (.v (.int .i64 36)), (some (t25, false)), none⟩,
   ⟨(some t28), oPick (.t t25) (.v (.bool true)) (.t t27), none, none⟩])
 (xCond (.t t28)
 (xOps [⟨(some t29), oIface 9 (.v (.string ⟨⟨[115, 116, 114, 99, 111, 110, 118, 58, 32, 105, 108, 108, 101, 103, 97, 108, 32, 65, 112, 112, 101, 110, 100, 73, 110, 116, 47, 70, 111, 114, 109, 97, 116, 73, 110, 116, 32, 98, 97, 115, 101]⟩⟩)), none, none⟩,
   ⟨none, oBad, none, none⟩])
 xSkip))
 (xSeq (xOps [⟨(some t12), oNew (rep 65 [(.int .u8 0)]), none, none⟩])
 (xSeq (xOps [⟨(some t13), oMov (.v (.int .i64 65)), none, none⟩])
 (xSeq (xSeq (xOps [⟨(some t30), oMov (.t t3), none, none⟩])
 (xCond (.t t30)
 (xOps [⟨(some t31), oMov (.t t1), none, none⟩,
   ⟨(some t32), oNeg (.t t31), none, none⟩,
   ⟨(some t1), oMov (.t t32), none, none⟩])
 xSkip))
 (xSeq (xSeq (xOps [⟨(some t33), oMov (.t t2), none, none⟩,
   ⟨(some t34), oCall 41 [(.t t33)], none, none⟩])
 (xCond (.t t34)
 (xSeq (xOps [⟨(some t35), oMov (.t t2), none, none⟩,
   ⟨(some t36), oConv .u64 (.t t35), none, none⟩,
   ⟨(some t37), oCall 42 [(.t t36)], none, none⟩,
   ⟨(some t38), oConv .u64 (.t t37), none, none⟩,
   ⟨(some t14), oMov (.t t38), none, none⟩])
 (xSeq (xOps [⟨(some t39), oMov (.t t2), none, none⟩,
   ⟨(some t40), oConv .u64 (.t t39), none, none⟩,
   ⟨(some t15), oMov (.t t40), none, none⟩])
 (xSeq (xOps [⟨(some t41), oMov (.t t2), none, none⟩,
   ⟨(some t42), oConv .u64 (.t t41), none, none⟩,
   ⟨(some t43), oBin (int2 subO) (.t t42) (.v (.int .u64 1)), none, none⟩,
   ⟨(some t16), oMov (.t t43), none, none⟩])
 (xSeq (xBlock 0 (xLoop c37_l0))
 c37_r0))))
 (xSeq (xOps [⟨(some t64), oMov (.t t2), none, none⟩,
   ⟨(some t65), oConv .u64 (.t t64), none, none⟩,
   ⟨(some t17), oMov (.t t65), none, none⟩])
 (xSeq (xBlock 2 (xLoop c37_l1))
 c37_r1))))
 c37_r2))))))⟩
theorem ok37 : cFunc Tryd.prog gl ex Tryd.f37 = some c37 := by kernel_rfl
-- internal/strconv.log10Pow2
def c38 : AFunc := ⟨6, [.tmp t2],
 (xSeq (xOps [⟨(some t2), oMov (.v (.int .i64 0)), none, none⟩])
 (xSeq (xOps [⟨(some t3), oMov (.t t0), none, none⟩,
   ⟨(some t4), oBin (int2 mulO) (.t t3) (.v (.int .i64 78913)), none, none⟩,
   ⟨(some t5), oBin (sh2 shrO) (.t t4) (.v (.int .u64 18)), none, none⟩,
   ⟨(some t2), oMov (.t t5), none, none⟩])
 xRet))⟩
theorem ok38 : cFunc Tryd.prog gl ex Tryd.f38 = some c38 := by kernel_rfl
-- math/bits.Len64
def c39 : AFunc := ⟨25, [.tmp t2],
 (xSeq (xOps [⟨(some t2), oMov (.v (.int .i64 0)), none, none⟩])
 (xSeq (xSeq (xOps [⟨(some t3), oMov (.t t0), none, none⟩,
   ⟨(some t4), oBin (int2 (cmpO geI)) (.t t3) (.v (.int .u64 4294967296)), none, none⟩])
 (xCond (.t t4)
 (xSeq (xOps [⟨(some t5), oMov (.t t0), none, none⟩,
   ⟨(some t6), oBin (sh2 shrO) (.t t5) (.v (.int .u64 32)), none, none⟩,
   ⟨(some t0), oMov (.t t6), none, none⟩])
 (xOps [⟨(some t2), oMov (.v (.int .i64 32)), none, none⟩]))
 xSkip))
 (xSeq (xSeq (xOps [⟨(some t7), oMov (.t t0), none, none⟩,
   ⟨(some t8), oBin (int2 (cmpO geI)) (.t t7) (.v (.int .u64 65536)), none, none⟩])
 (xCond (.t t8)
 (xSeq (xOps [⟨(some t9), oMov (.t t0), none, none⟩,
   ⟨(some t10), oBin (sh2 shrO) (.t t9) (.v (.int .u64 16)), none, none⟩,
   ⟨(some t0), oMov (.t t10), none, none⟩])
 (xOps [⟨(some t11), oMov (.t t2), none, none⟩,
   ⟨(some t12), oBin (int2 addO) (.t t11) (.v (.int .i64 16)), none, none⟩,
   ⟨(some t2), oMov (.t t12), none, none⟩]))
 xSkip))
 (xSeq (xSeq (xOps [⟨(some t13), oMov (.t t0), none, none⟩,
   ⟨(some t14), oBin (int2 (cmpO geI)) (.t t13) (.v (.int .u64 256)), none, none⟩])
 (xCond (.t t14)
 (xSeq (xOps [⟨(some t15), oMov (.t t0), none, none⟩,
   ⟨(some t16), oBin (sh2 shrO) (.t t15) (.v (.int .u64 8)), none, none⟩,
   ⟨(some t0), oMov (.t t16), none, none⟩])
 (xOps [⟨(some t17), oMov (.t t2), none, none⟩,
   ⟨(some t18), oBin (int2 addO) (.t t17) (.v (.int .i64 8)), none, none⟩,
   ⟨(some t2), oMov (.t t18), none, none⟩]))
 xSkip))
 (xSeq (xOps [⟨(some t19), oMov (.t t2), none, none⟩,
   ⟨(some t20), oMov (.t t0), none, none⟩,
   ⟨(some t21), oConv .u8 (.t t20), none, none⟩,
   ⟨(some t22), oIdxS (.v (.string ⟨⟨[0, 1, 2, 2, 3, 3, 3, 3, 4, 4, 4, 4, 4, 4, 4, 4, 5, 5, 5, 5, 5, 5, 5, 5, 5, 5, 5, 5, 5, 5, 5, 5, 6, 6, 6, 6, 6, 6, 6, 6, 6, 6, 6, 6, 6, 6, 6, 6, 6, 6, 6, 6, 6, 6, 6, 6, 6, 6, 6, 6, 6, 6, 6, 6, 7, 7, 7, 7, 7, 7, 7, 7, 7, 7, 7, 7, 7, 7, 7, 7, 7, 7, 7, 7, 7, 7, 7, 7, 7, 7, 7, 7, 7, 7, 7, 7, 7, 7, 7, 7, 7, 7, 7, 7, 7, 7, 7, 7, 7, 7, 7, 7, 7, 7, 7, 7, 7, 7, 7, 7, 7, 7, 7, 7, 7, 7, 7, 7, 8, 8, 8, 8, 8, 8, 8, 8, 8, 8, 8, 8, 8, 8, 8, 8, 8, 8, 8, 8, 8, 8, 8, 8, 8, 8, 8, 8, 8, 8, 8, 8, 8, 8, 8, 8, 8, 8, 8, 8, 8, 8, 8, 8, 8, 8, 8, 8, 8, 8, 8, 8, 8, 8, 8, 8, 8, 8, 8, 8, 8, 8, 8, 8, 8, 8, 8, 8, 8, 8, 8, 8, 8, 8, 8, 8, 8, 8, 8, 8, 8, 8, 8, 8, 8, 8, 8, 8, 8, 8, 8, 8, 8, 8, 8, 8, 8, 8, 8, 8, 8, 8, 8, 8, 8, 8, 8, 8, 8, 8, 8, 8, 8, 8, 8, 8, 8, 8, 8, 8, 8, 8, 8, 8, 8, 8, 8, 8]⟩⟩)) (.t t21), none, none⟩,
   ⟨(some t23), oConv .i64 (.t t22), none, none⟩,
   ⟨(some t24), oBin (int2 addO) (.t t19) (.t t23), none, none⟩,
   ⟨(some t2), oMov (.t t24), none, none⟩])
 xRet)))))⟩
theorem ok39 : cFunc Tryd.prog gl ex Tryd.f39 = some c39 := by kernel_rfl
-- internal/strconv.bool2[int]
def c40 : AFunc := ⟨4, [.tmp t2],
 (xSeq (xOps [⟨(some t2), oMov (.v (.int .i64 0)), none, none⟩])
 (xSeq (xSeq (xOps [⟨(some t3), oMov (.t t0), none, none⟩])
 (xCond (.t t3)
 (xSeq (xOps [⟨(some t2), oMov (.v (.int .i64 1)), none, none⟩])
 xRet)
 xSkip))
 (xSeq (xOps [⟨(some t2), oMov (.v (.int .i64 0)), none, none⟩])
 xRet)))⟩
theorem ok40 : cFunc Tryd.prog gl ex Tryd.f40 = some c40 := by kernel_rfl
-- internal/strconv.isPowerOfTwo
def c41 : AFunc := ⟨8, [.tmp t2],
 (xSeq (xOps [⟨(some t2), oMov (.v (.bool false)), none, none⟩])
 (xSeq (xOps [⟨(some t3), oMov (.t t0), none, none⟩,
   ⟨(some t4), oMov (.t t0), none, none⟩,
   ⟨(some t5), oBin (int2 subO) (.t t4) (.v (.int .i64 1)), none, none⟩,
   ⟨(some t6), oBin (int2 andO) (.t t3) (.t t5), none, none⟩,
   ⟨(some t7), oBin (int2 (cmpO eqI)) (.t t6) (.v (.int .i64 0)), none, none⟩,
   ⟨(some t2), oMov (.t t7), none, none⟩])
 xRet))⟩
theorem ok41 : cFunc Tryd.prog gl ex Tryd.f41 = some c41 := by kernel_rfl
-- math/bits.TrailingZeros
def c42 : AFunc := ⟨8, [.tmp t2],
 (xSeq (xOps [⟨(some t2), oMov (.v (.int .i64 0)), none, none⟩])
 (xSeq (xCond (.v (.bool false))
 (xSeq (xOps [⟨(some t3), oMov (.t t0), none, none⟩,
   ⟨(some t4), oConv .u32 (.t t3), none, none⟩,
   ⟨(some t5), oCall 43 [(.t t4)], none, none⟩,
   ⟨(some t2), oMov (.t t5), none, none⟩])
 xRet)
 xSkip)
 (xSeq (xOps [⟨(some t6), oMov (.t t0), none, none⟩,
   ⟨(some t7), oCall 44 [(.t t6)], none, none⟩,
   ⟨(some t2), oMov (.t t7), none, none⟩])
 xRet)))⟩
theorem ok42 : cFunc Tryd.prog gl ex Tryd.f42 = some c42 := by kernel_rfl
-- math/bits.TrailingZeros32
def c43 : AFunc := ⟨14, [.tmp t2],
 (xSeq (xOps [⟨(some t2), oMov (.v (.int .i64 0)), none, none⟩])
 (xSeq (xSeq (xOps [⟨(some t3), oMov (.t t0), none, none⟩,
   ⟨(some t4), oBin (int2 (cmpO eqI)) (.t t3) (.v (.int .u32 0)), none, none⟩])
 (xCond (.t t4)
 (xSeq (xOps [⟨(some t2), oMov (.v (.int .i64 32)), none, none⟩])
 xRet)
 xSkip))
 (xSeq (xOps [⟨(some t5), oMov (.t t0), none, none⟩,
   ⟨(some t6), oMov (.t t0), none, none⟩,
   ⟨(some t7), oNeg (.t t6), none, none⟩,
   ⟨(some t8), oBin (int2 andO) (.t t5) (.t t7), none, none⟩,
   ⟨(some t9), oBin (int2 mulO) (.t t8) (.v (.int .u32 125613361)), none, none⟩,
   ⟨(some t10), oBin (sh2 shrO) (.t t9) (.v (.int .u64 27)), none, none⟩,
   ⟨(some t11), oBad, none, none⟩,
   ⟨(some t12), oLoad1 (.t t11), none, (some (.t t11))⟩,
   ⟨(some t13), oConv .i64 (.t t12), none, none⟩,
   ⟨(some t2), oMov (.t t13), none, none⟩])
 xRet)))⟩
theorem ok43 : cFunc Tryd.prog gl ex Tryd.f43 = some c43 := by kernel_rfl
-- math/bits.TrailingZeros64
def c44 : AFunc := ⟨14, [.tmp t2],
 (xSeq (xOps [⟨(some t2), oMov (.v (.int .i64 0)), none, none⟩])
 (xSeq (xSeq (xOps [⟨(some t3), oMov (.t t0), none, none⟩,
   ⟨(some t4), oBin (int2 (cmpO eqI)) (.t t3) (.v (.int .u64 0)), none, none⟩])
 (xCond (.t t4)
 (xSeq (xOps [⟨(some t2), oMov (.v (.int .i64 64)), none, none⟩])
 xRet)
 xSkip))
 (xSeq (xOps [⟨(some t5), oMov (.t t0), none, none⟩,
   ⟨(some t6), oMov (.t t0), none, none⟩,
   ⟨(some t7), oNeg (.t t6), none, none⟩,
   ⟨(some t8), oBin (int2 andO) (.t t5) (.t t7), none, none⟩,
   ⟨(some t9), oBin (int2 mulO) (.t t8) (.v (.int .u64 285870213051353865)), none, none⟩,
   ⟨(some t10), oBin (sh2 shrO) (.t t9) (.v (.int .u64 58)), none, none⟩,
   ⟨(some t11), oBad, none, none⟩,
   ⟨(some t12), oLoad1 (.t t11), none, (some (.t t11))⟩,
   ⟨(some t13), oConv .i64 (.t t12), none, none⟩,
   ⟨(some t2), oMov (.t t13), none, none⟩])
 xRet)))⟩
theorem ok44 : cFunc Tryd.prog gl ex Tryd.f44 = some c44 := by kernel_rfl
end
end Go.Proofs.YtdfmhjbmenfaeaaDoor.AbsCalF
