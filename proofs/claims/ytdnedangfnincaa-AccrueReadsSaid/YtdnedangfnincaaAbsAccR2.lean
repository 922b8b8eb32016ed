import Derived.Test.YtdnedangfnincaaRows
import Derived.Test.YtdnedangfnincaaAbsAccRT
import Derived.KernelRfl
namespace Go.Proofs.Ytdnedangfnincaa.AbsAccR
open Go Go.Abs Go.Proofs
set_option maxRecDepth 100000
set_option linter.unusedVariables false
noncomputable section
-- publican/publicanref1.digit
def c72 : AFunc := ⟨13, [.tmp t4],
 (xSeq (xOps [⟨(some t4), oMov (.v (.int .u64 0)), none, none⟩])
 (xSeq (xSeq (xOps [⟨(some t5), oMov (.t t1), none, none⟩,
   ⟨(some t6), oMov (.t t0), none, none⟩,
   ⟨(some t7), oLenL (.t t6), none, none⟩,
   ⟨(some t8), oBin (int2 (cmpO ltI)) (.t t5) (.t t7), none, none⟩])
 (xCond (.t t8)
 (xSeq (xOps [⟨(some t9), oMov (.t t0), none, none⟩,
   ⟨(some t10), oMov (.t t1), none, none⟩,
   ⟨(some t11), oIdxAddrL 1 (.t t9) (.t t10), none, none⟩,
   ⟨(some t12), oLoad1 (.t t11), none, (some (.t t11))⟩,
   ⟨(some t4), oMov (.t t12), none, none⟩])
 xRet)
 xSkip))
 (xSeq (xOps [⟨(some t4), oMov (.v (.int .u64 0)), none, none⟩])
 xRet)))⟩
theorem ok72 : cFunc Try.prog gl ex Try.f72 = some c72 := by kernel_rfl
-- sort.Search
def c73_l0 : X := (xSeq (xSeq (xOps [⟨(some t9), oMov (.t t5), none, none⟩,
   ⟨(some t10), oMov (.t t6), none, none⟩,
   ⟨(some t11), oBin (int2 (cmpO ltI)) (.t t9) (.t t10), none, none⟩])
 (xCond (.t t11)
 xSkip
 (xExit 0)))
 (xBlock 1 (xSeq (xOps [⟨(some t12), oMov (.t t5), none, none⟩,
   ⟨(some t13), oMov (.t t6), none, none⟩,
   ⟨(some t14), oBin (int2 addO) (.t t12) (.t t13), none, none⟩,
   ⟨(some t15), oConv .u64 (.t t14), none, none⟩,
   ⟨(some t16), oBin (sh2 shrO) (.t t15) (.v (.int .u64 1)), none, none⟩,
   ⟨(some t17), oConv .i64 (.t t16), none, none⟩,
   ⟨(some t7), oMov (.t t17), none, none⟩])
 (xSeq (xOps [⟨(some t18), oMov (.t t1), none, none⟩,
   ⟨(some t19), oMov (.t t7), none, none⟩,
   ⟨(some t20), oCallV (.t t18) [(.t t19)], none, none⟩,
   ⟨(some t21), oNot (.t t20), none, none⟩])
 (xCond (.t t21)
 (xOps [⟨(some t22), oMov (.t t7), none, none⟩,
   ⟨(some t23), oBin (int2 addO) (.t t22) (.v (.int .i64 1)), none, none⟩,
   ⟨(some t5), oMov (.t t23), none, none⟩])
 (xOps [⟨(some t24), oMov (.t t7), none, none⟩,
   ⟨(some t6), oMov (.t t24), none, none⟩]))))))
def c73_r0 : X := (xSeq (xOps [⟨(some t25), oMov (.t t5), none, none⟩,
   ⟨(some t4), oMov (.t t25), none, none⟩])
 xRet)
def c73 : AFunc := ⟨26, [.tmp t4],
 (xSeq (xOps [⟨(some t4), oMov (.v (.int .i64 0)), none, none⟩])
 (xSeq (xOps [⟨(some t8), oMov (.t t0), none, none⟩,
   ⟨(some t5), oMov (.v (.int .i64 0)), none, none⟩,
   ⟨(some t6), oMov (.t t8), none, none⟩])
 (xSeq (xBlock 0 (xLoop c73_l0))
 c73_r0)))⟩
theorem ok73 : cFunc Try.prog gl ex Try.f73 = some c73 := by kernel_rfl
-- (*publican/rate.Table).behind$1
def c74_g0 : List AOper := [⟨(some t5), oLoad1 (.t t1), none, (some (.t t1))⟩,
   ⟨(some t6), oNilCheck (.t t5), none, none⟩,
   ⟨(some t7), oFieldAddr 0 (.t t6), none, none⟩,
   ⟨(some t8), oLoad1 (.t t7), none, (some (.t t7))⟩,
   ⟨(some t9), oMov (.t t0), none, none⟩,
   ⟨(some t10), oIdxAddrL 2 (.t t8) (.t t9), none, none⟩,
   ⟨(some t11), oFieldAddr 0 (.t t10), none, none⟩,
   ⟨(some t12), oLoad1 (.t t11), none, (some (.t t11))⟩,
   ⟨(some t13), oLoad1 (.t t2), none, (some (.t t2))⟩,
   ⟨(some t14), oBin (int2 (cmpO gtI)) (.t t12) (.t t13), none, none⟩,
   ⟨(some t4), oMov (.t t14), none, none⟩]
def c74 : AFunc := ⟨15, [.tmp t4],
 (xSeq (xOps [⟨(some t4), oMov (.v (.bool false)), none, none⟩])
 (xSeq (xReg c74_g0 [(0, 4), (1, 4), (2, 4), (3, 4), (0, 8), (1, 8), (2, 8), (3, 8), (4, 8), (5, 8), (6, 8), (7, 8)])
 xRet))⟩
theorem ok74 : cFunc Try.prog gl ex Try.f74 = some c74 := by kernel_rfl
-- slices.rotateRight[publican/rate.Step]
def c76 : AFunc := ⟨10, [],
 (xOps [⟨(some t4), oMov (.t t0), none, none⟩,
   ⟨(some t5), oMov (.t t0), none, none⟩,
   ⟨(some t6), oLenL (.t t5), none, none⟩,
   ⟨(some t7), oMov (.t t1), none, none⟩,
   ⟨(some t8), oBin (int2 subO) (.t t6) (.t t7), none, none⟩,
   ⟨(some t9), oCall 81 [(.t t4), (.t t8)], none, none⟩])⟩
theorem ok76 : cFunc Try.prog gl ex Try.f76 = some c76 := by kernel_rfl
-- publican/num.product
def c77 : AFunc := ⟨31, [.cell t4 (some 2)],
 (xSeq (xOps [⟨(some t4), oNew [(.int .i64 0), (.int .u64 0)], none, none⟩])
 (xSeq (xOps [⟨(some t9), oMov (.t t0), none, none⟩,
   ⟨(some t10), oConv .u64 (.t t9), none, none⟩,
   ⟨(some t11), oMov (.t t1), none, none⟩,
   ⟨(some t12), oConv .u64 (.t t11), none, none⟩,
   ⟨(some t13), oCall 82 [(.t t10), (.t t12)], none, none⟩,
   ⟨(some t8), oMov (.t t13), none, none⟩,
   ⟨(some t14), oExtract (.t t8) 0, none, none⟩,
   ⟨(some t15), oExtract (.t t8) 1, none, none⟩,
   ⟨(some t5), oMov (.t t14), none, none⟩,
   ⟨(some t6), oMov (.t t15), none, none⟩])
 (xSeq (xOps [⟨(some t16), oMov (.t t5), none, none⟩,
   ⟨(some t17), oConv .i64 (.t t16), none, none⟩,
   ⟨(some t7), oMov (.t t17), none, none⟩])
 (xSeq (xSeq (xOps [⟨(some t18), oMov (.t t0), none, none⟩,
   ⟨(some t19), oBin (int2 (cmpO ltI)) (.t t18) (.v (.int .i64 0)), none, none⟩])
 (xCond (.t t19)
 (xOps [⟨(some t20), oMov (.t t7), none, none⟩,
   ⟨(some t21), oMov (.t t1), none, none⟩,
   ⟨(some t22), oBin (int2 subO) (.t t20) (.t t21), none, none⟩,
   ⟨(some t7), oMov (.t t22), none, none⟩])
 xSkip))
 (xSeq (xSeq (xOps [⟨(some t23), oMov (.t t1), none, none⟩,
   ⟨(some t24), oBin (int2 (cmpO ltI)) (.t t23) (.v (.int .i64 0)), none, none⟩])
 (xCond (.t t24)
 (xOps [⟨(some t25), oMov (.t t7), none, none⟩,
   ⟨(some t26), oMov (.t t0), none, none⟩,
   ⟨(some t27), oBin (int2 subO) (.t t25) (.t t26), none, none⟩,
   ⟨(some t7), oMov (.t t27), none, none⟩])
 xSkip))
 (xSeq (xOps [⟨(some t28), oMov (.t t7), none, none⟩,
   ⟨(some t29), oMov (.t t6), none, none⟩,
   ⟨(some t30), oBuild [(.int .i64 0), (.int .u64 0)] [(0, 1, (.t t28)), (1, 1, (.t t29))], none, none⟩,
   ⟨none, oStore 2 (.t t4) (.t t30), none, none⟩])
 xRet))))))⟩
theorem ok77 : cFunc Try.prog gl ex Try.f77 = some c77 := by kernel_rfl
-- math/bits.LeadingZeros64
def c79 : AFunc := ⟨6, [.tmp t2],
 (xSeq (xOps [⟨(some t2), oMov (.v (.int .i64 0)), none, none⟩])
 (xSeq (xOps [⟨(some t3), oMov (.t t0), none, none⟩,
   ⟨(some t4), oCall 83 [(.t t3)], none, none⟩,
   ⟨(some t5), oBin (int2 subO) (.v (.int .i64 64)) (.t t4), none, none⟩,
   ⟨(some t2), oMov (.t t5), none, none⟩])
 xRet))⟩
theorem ok79 : cFunc Try.prog gl ex Try.f79 = some c79 := by kernel_rfl
-- slices.rotateLeft[publican/rate.Step]
def c81 : AFunc := ⟨14, [],
 (xSeq (xOps [⟨(some t4), oMov (.t t0), none, none⟩,
   ⟨(some t5), oMov (.t t1), none, none⟩,
   ⟨(some t6), oSliceL 2 (.t t4) none (some (.t t5)) none, none, none⟩,
   ⟨(some t7), oCall 84 [(.t t6)], none, none⟩])
 (xSeq (xOps [⟨(some t8), oMov (.t t0), none, none⟩,
   ⟨(some t9), oMov (.t t1), none, none⟩,
   ⟨(some t10), oSliceL 2 (.t t8) (some (.t t9)) none none, none, none⟩,
   ⟨(some t11), oCall 84 [(.t t10)], none, none⟩])
 (xOps [⟨(some t12), oMov (.t t0), none, none⟩,
   ⟨(some t13), oCall 84 [(.t t12)], none, none⟩])))⟩
theorem ok81 : cFunc Try.prog gl ex Try.f81 = some c81 := by kernel_rfl
-- math/bits.Mul64
def c82 : AFunc := ⟨51, [.tmp t4, .tmp t5],
 (xSeq (xOps [⟨(some t4), oMov (.v (.int .u64 0)), none, none⟩,
   ⟨(some t5), oMov (.v (.int .u64 0)), none, none⟩])
 (xSeq (xOps [⟨(some t14), oMov (.t t0), none, none⟩,
   ⟨(some t15), oBin (int2 andO) (.t t14) (.v (.int .u64 4294967295)), none, none⟩,
   ⟨(some t6), oMov (.t t15), none, none⟩])
 (xSeq (xOps [⟨(some t16), oMov (.t t0), none, none⟩,
   ⟨(some t17), oBin (sh2 shrO) (.t t16) (.v (.int .u64 32)), none, none⟩,
   ⟨(some t7), oMov (.t t17), none, none⟩])
 (xSeq (xOps [⟨(some t18), oMov (.t t1), none, none⟩,
   ⟨(some t19), oBin (int2 andO) (.t t18) (.v (.int .u64 4294967295)), none, none⟩,
   ⟨(some t8), oMov (.t t19), none, none⟩])
 (xSeq (xOps [⟨(some t20), oMov (.t t1), none, none⟩,
   ⟨(some t21), oBin (sh2 shrO) (.t t20) (.v (.int .u64 32)), none, none⟩,
   ⟨(some t9), oMov (.t t21), none, none⟩])
 (xSeq (xOps [⟨(some t22), oMov (.t t6), none, none⟩,
   ⟨(some t23), oMov (.t t8), none, none⟩,
   ⟨(some t24), oBin (int2 mulO) (.t t22) (.t t23), none, none⟩,
   ⟨(some t10), oMov (.t t24), none, none⟩])
 (xSeq (xOps [⟨(some t25), oMov (.t t7), none, none⟩,
   ⟨(some t26), oMov (.t t8), none, none⟩,
   ⟨(some t27), oBin (int2 mulO) (.t t25) (.t t26), none, none⟩,
   ⟨(some t28), oMov (.t t10), none, none⟩,
   ⟨(some t29), oBin (sh2 shrO) (.t t28) (.v (.int .u64 32)), none, none⟩,
   ⟨(some t30), oBin (int2 addO) (.t t27) (.t t29), none, none⟩,
   ⟨(some t11), oMov (.t t30), none, none⟩])
 (xSeq (xOps [⟨(some t31), oMov (.t t11), none, none⟩,
   ⟨(some t32), oBin (int2 andO) (.t t31) (.v (.int .u64 4294967295)), none, none⟩,
   ⟨(some t12), oMov (.t t32), none, none⟩])
 (xSeq (xOps [⟨(some t33), oMov (.t t11), none, none⟩,
   ⟨(some t34), oBin (sh2 shrO) (.t t33) (.v (.int .u64 32)), none, none⟩,
   ⟨(some t13), oMov (.t t34), none, none⟩])
 (xSeq (xOps [⟨(some t35), oMov (.t t12), none, none⟩,
   ⟨(some t36), oMov (.t t6), none, none⟩,
   ⟨(some t37), oMov (.t t9), none, none⟩,
   ⟨(some t38), oBin (int2 mulO) (.t t36) (.t t37), none, none⟩,
   ⟨(some t39), oBin (int2 addO) (.t t35) (.t t38), none, none⟩,
   ⟨(some t12), oMov (.t t39), none, none⟩])
 (xSeq (xOps [⟨(some t40), oMov (.t t7), none, none⟩,
   ⟨(some t41), oMov (.t t9), none, none⟩,
   ⟨(some t42), oBin (int2 mulO) (.t t40) (.t t41), none, none⟩,
   ⟨(some t43), oMov (.t t13), none, none⟩,
   ⟨(some t44), oBin (int2 addO) (.t t42) (.t t43), none, none⟩,
   ⟨(some t45), oMov (.t t12), none, none⟩,
   ⟨(some t46), oBin (sh2 shrO) (.t t45) (.v (.int .u64 32)), none, none⟩,
   ⟨(some t47), oBin (int2 addO) (.t t44) (.t t46), none, none⟩,
   ⟨(some t4), oMov (.t t47), none, none⟩])
 (xSeq (xOps [⟨(some t48), oMov (.t t0), none, none⟩,
   ⟨(some t49), oMov (.t t1), none, none⟩,
   ⟨(some t50), oBin (int2 mulO) (.t t48) (.t t49), none, none⟩,
   ⟨(some t5), oMov (.t t50), none, none⟩])
 xRet))))))))))))⟩
theorem ok82 : cFunc Try.prog gl ex Try.f82 = some c82 := by kernel_rfl
-- math/bits.Len64
def c83_j0 : X := (xSeq (xSeq (xOps [⟨(some t7), oMov (.t t0), none, none⟩,
   ⟨(some t8), oBin (int2 (cmpO geI)) (.t t7) (.v (.int .u64 65536)), none, none⟩])
 (xCond (.t t8)
 (xSeq (xOps [⟨(some t9), oMov (.t t0), none, none⟩,
   ⟨(some t10), oBin (sh2 shrO) (.t t9) (.v (.int .u64 16)), none, none⟩,
   ⟨(some t0), oMov (.t t10), none, none⟩])
 (xOps [⟨(some t11), oMov (.t t2), none, none⟩,
   ⟨(some t12), oBin (int2 addO) (.t t11) (.v (.int .i64 16)), none, none⟩,
   ⟨(some t2), oMov (.t t12), none, none⟩]))
 xSkip))
 (xSeq (xSeq (xOps [⟨(some t13), oMov (.t t0), none, none⟩,
   ⟨(some t14), oBin (int2 (cmpO geI)) (.t t13) (.v (.int .u64 256)), none, none⟩])
 (xCond (.t t14)
 (xSeq (xOps [⟨(some t15), oMov (.t t0), none, none⟩,
   ⟨(some t16), oBin (sh2 shrO) (.t t15) (.v (.int .u64 8)), none, none⟩,
   ⟨(some t0), oMov (.t t16), none, none⟩])
 (xOps [⟨(some t17), oMov (.t t2), none, none⟩,
   ⟨(some t18), oBin (int2 addO) (.t t17) (.v (.int .i64 8)), none, none⟩,
   ⟨(some t2), oMov (.t t18), none, none⟩]))
 xSkip))
 (xSeq (xOps [⟨(some t19), oMov (.t t2), none, none⟩,
   ⟨(some t20), oMov (.t t0), none, none⟩,
   ⟨(some t21), oConv .u8 (.t t20), none, none⟩,
   ⟨(some t22), oIdxS (.v (.string ⟨⟨[0, 1, 2, 2, 3, 3, 3, 3, 4, 4, 4, 4, 4, 4, 4, 4, 5, 5, 5, 5, 5, 5, 5, 5, 5, 5, 5, 5, 5, 5, 5, 5, 6, 6, 6, 6, 6, 6, 6, 6, 6, 6, 6, 6, 6, 6, 6, 6, 6, 6, 6, 6, 6, 6, 6, 6, 6, 6, 6, 6, 6, 6, 6, 6, 7, 7, 7, 7, 7, 7, 7, 7, 7, 7, 7, 7, 7, 7, 7, 7, 7, 7, 7, 7, 7, 7, 7, 7, 7, 7, 7, 7, 7, 7, 7, 7, 7, 7, 7, 7, 7, 7, 7, 7, 7, 7, 7, 7, 7, 7, 7, 7, 7, 7, 7, 7, 7, 7, 7, 7, 7, 7, 7, 7, 7, 7, 7, 7, 8, 8, 8, 8, 8, 8, 8, 8, 8, 8, 8, 8, 8, 8, 8, 8, 8, 8, 8, 8, 8, 8, 8, 8, 8, 8, 8, 8, 8, 8, 8, 8, 8, 8, 8, 8, 8, 8, 8, 8, 8, 8, 8, 8, 8, 8, 8, 8, 8, 8, 8, 8, 8, 8, 8, 8, 8, 8, 8, 8, 8, 8, 8, 8, 8, 8, 8, 8, 8, 8, 8, 8, 8, 8, 8, 8, 8, 8, 8, 8, 8, 8, 8, 8, 8, 8, 8, 8, 8, 8, 8, 8, 8, 8, 8, 8, 8, 8, 8, 8, 8, 8, 8, 8, 8, 8, 8, 8, 8, 8, 8, 8, 8, 8, 8, 8, 8, 8, 8, 8, 8, 8, 8, 8, 8, 8, 8, 8]⟩⟩)) (.t t21), none, none⟩,
   ⟨(some t23), oConv .i64 (.t t22), none, none⟩,
   ⟨(some t24), oBin (int2 addO) (.t t19) (.t t23), none, none⟩,
   ⟨(some t2), oMov (.t t24), none, none⟩])
 xRet)))
def c83 : AFunc := ⟨25, [.tmp t2],
 (xSeq (xOps [⟨(some t2), oMov (.v (.int .i64 0)), none, none⟩])
 (xSeq (xSeq (xOps [⟨(some t3), oMov (.t t0), none, none⟩,
   ⟨(some t4), oBin (int2 (cmpO geI)) (.t t3) (.v (.int .u64 4294967296)), none, none⟩])
 (xCond (.t t4)
 (xSeq (xOps [⟨(some t5), oMov (.t t0), none, none⟩,
   ⟨(some t6), oBin (sh2 shrO) (.t t5) (.v (.int .u64 32)), none, none⟩,
   ⟨(some t0), oMov (.t t6), none, none⟩])
 (xOps [⟨(some t2), oMov (.v (.int .i64 32)), none, none⟩]))
 xSkip))
 c83_j0))⟩
theorem ok83 : cFunc Try.prog gl ex Try.f83 = some c83 := by kernel_rfl
-- slices.Reverse[[]publican/rate.Step,publican/rate.Step]
def c84_l0 : X := (xSeq (xSeq (xOps [⟨(some t7), oMov (.t t2), none, none⟩,
   ⟨(some t8), oMov (.t t3), none, none⟩,
   ⟨(some t9), oBin (int2 (cmpO ltI)) (.t t7) (.t t8), none, none⟩])
 (xCond (.t t9)
 xSkip
 (xExit 0)))
 (xSeq (xBlock 1 (xReg [⟨(some t14), oMov (.t t0), none, none⟩,
   ⟨(some t15), oMov (.t t2), none, none⟩,
   ⟨(some t16), oMov (.t t0), none, none⟩,
   ⟨(some t17), oMov (.t t3), none, none⟩,
   ⟨(some t18), oMov (.t t0), none, none⟩,
   ⟨(some t19), oMov (.t t3), none, none⟩,
   ⟨(some t20), oIdxAddrL 2 (.t t18) (.t t19), none, none⟩,
   ⟨(some t21), oLoadN 2 (.t t20), none, none⟩,
   ⟨(some t22), oMov (.t t0), none, none⟩,
   ⟨(some t23), oMov (.t t2), none, none⟩,
   ⟨(some t24), oIdxAddrL 2 (.t t22) (.t t23), none, none⟩,
   ⟨(some t25), oLoadN 2 (.t t24), none, none⟩,
   ⟨(some t26), oIdxAddrL 2 (.t t14) (.t t15), none, none⟩,
   ⟨none, oStore 2 (.t t26) (.t t21), none, none⟩,
   ⟨(some t27), oIdxAddrL 2 (.t t16) (.t t17), none, none⟩,
   ⟨none, oStore 2 (.t t27) (.t t25), none, none⟩] [(0, 1), (0, 2), (1, 2), (0, 3), (1, 3), (2, 3), (0, 4), (1, 4), (2, 4), (3, 4), (0, 5), (1, 5), (2, 5), (3, 5), (4, 5), (0, 6), (1, 6), (2, 6), (3, 6), (0, 7), (1, 7), (2, 7), (3, 7), (0, 8), (1, 8), (2, 8), (3, 8), (4, 8), (5, 8), (6, 8), (7, 8), (0, 9), (1, 9), (2, 9), (3, 9), (4, 9), (5, 9), (6, 9), (7, 9), (8, 9), (0, 10), (1, 10), (2, 10), (3, 10), (4, 10), (5, 10), (6, 10), (7, 10), (0, 11), (1, 11), (2, 11), (3, 11), (4, 11), (5, 11), (6, 11), (7, 11), (2, 12), (3, 12), (2, 13), (3, 13)]))
 (xOps [⟨(some t10), oMov (.t t2), none, none⟩,
   ⟨(some t11), oBin (int2 addO) (.t t10) (.v (.int .i64 1)), none, none⟩,
   ⟨(some t12), oMov (.t t3), none, none⟩,
   ⟨(some t13), oBin (int2 subO) (.t t12) (.v (.int .i64 1)), none, none⟩,
   ⟨(some t2), oMov (.t t11), none, none⟩,
   ⟨(some t3), oMov (.t t13), none, none⟩])))
def c84 : AFunc := ⟨28, [],
 (xSeq (xOps [⟨(some t4), oMov (.t t0), none, none⟩,
   ⟨(some t5), oLenL (.t t4), none, none⟩,
   ⟨(some t6), oBin (int2 subO) (.t t5) (.v (.int .i64 1)), none, none⟩,
   ⟨(some t2), oMov (.v (.int .i64 0)), none, none⟩,
   ⟨(some t3), oMov (.t t6), none, none⟩])
 (xBlock 0 (xLoop c84_l0)))⟩
theorem ok84 : cFunc Try.prog gl ex Try.f84 = some c84 := by kernel_rfl
end
end Go.Proofs.Ytdnedangfnincaa.AbsAccR
