import Derived.Test.YthjhammjankekaaRows
import Derived.Test.YthjhammjankekaaAbsRatOT
import Derived.KernelRfl
namespace Go.Proofs.Ythjhammjankekaa.AbsRatO
open Go Go.Abs Go.Proofs
set_option maxRecDepth 100000
set_option linter.unusedVariables false
noncomputable section
-- sort.Search
def c58_l0 : X := (xSeq (xSeq (xOps [⟨(some t9), oMov (.t t5), none, none⟩,
   ⟨(some t10), oMov (.t t6), none, none⟩,
   ⟨(some t11), oBin (int2 (cmpO ltI)) (.t t9) (.t t10), none, none⟩])
 (xCond (.t t11)
 xSkip
 (xExit 0)))
 (xBlock 1 (xSeq (xOps [⟨(some t12), oMov (.t t5), none, none⟩,
   ⟨(some t13), oMov (.t t6), none, none⟩,
   ⟨(some t14), oBin (int2 addO) (.t t12) (.t t13), none, none⟩,
   ⟨(some t15), oConv .u64 (.t t14), none, none⟩,
   ⟨(some t16), oBin (sh2 shrO) (.t t15) (.v (.int .u64 1)), none, none⟩,
   ⟨(some t17), oConv .i64 (.t t16), none, none⟩,
   ⟨(some t7), oMov (.t t17), none, none⟩])
 (xSeq (xOps [⟨(some t18), oMov (.t t1), none, none⟩,
   ⟨(some t19), oMov (.t t7), none, none⟩,
   ⟨(some t20), oCallV (.t t18) [(.t t19)], none, none⟩,
   ⟨(some t21), oNot (.t t20), none, none⟩])
 (xCond (.t t21)
 (xOps [⟨(some t22), oMov (.t t7), none, none⟩,
   ⟨(some t23), oBin (int2 addO) (.t t22) (.v (.int .i64 1)), none, none⟩,
   ⟨(some t5), oMov (.t t23), none, none⟩])
 (xOps [⟨(some t24), oMov (.t t7), none, none⟩,
   ⟨(some t6), oMov (.t t24), none, none⟩]))))))
def c58_r0 : X := (xSeq (xOps [⟨(some t25), oMov (.t t5), none, none⟩,
   ⟨(some t4), oMov (.t t25), none, none⟩])
 xRet)
def c58 : AFunc := ⟨26, [.tmp t4],
 (xSeq (xOps [⟨(some t4), oMov (.v (.int .i64 0)), none, none⟩])
 (xSeq (xOps [⟨(some t8), oMov (.t t0), none, none⟩,
   ⟨(some t5), oMov (.v (.int .i64 0)), none, none⟩,
   ⟨(some t6), oMov (.t t8), none, none⟩])
 (xSeq (xBlock 0 (xLoop c58_l0))
 c58_r0)))⟩
theorem ok58 : cFunc Try.prog gl ex Try.f58 = some c58 := by kernel_rfl
-- (*publican/rate.Table).behind$1
def c59 : AFunc := ⟨15, [.tmp t4],
 (xSeq (xOps [⟨(some t4), oMov (.v (.bool false)), none, none⟩])
 (xSeq (xReg [⟨(some t5), oLoad1 (.t t1), none, (some (.t t1))⟩,
   ⟨(some t6), oNilCheck (.t t5), none, none⟩,
   ⟨(some t7), oFieldAddr 0 (.t t6), none, none⟩,
   ⟨(some t8), oLoad1 (.t t7), none, (some (.t t7))⟩,
   ⟨(some t9), oMov (.t t0), none, none⟩,
   ⟨(some t10), oIdxAddrL 2 (.t t8) (.t t9), none, none⟩,
   ⟨(some t11), oFieldAddr 0 (.t t10), none, none⟩,
   ⟨(some t12), oLoad1 (.t t11), none, (some (.t t11))⟩,
   ⟨(some t13), oLoad1 (.t t2), none, (some (.t t2))⟩,
   ⟨(some t14), oBin (int2 (cmpO gtI)) (.t t12) (.t t13), none, none⟩,
   ⟨(some t4), oMov (.t t14), none, none⟩] [(0, 4), (1, 4), (2, 4), (3, 4), (0, 8), (1, 8), (2, 8), (3, 8), (4, 8), (5, 8), (6, 8), (7, 8)])
 xRet))⟩
theorem ok59 : cFunc Try.prog gl ex Try.f59 = some c59 := by kernel_rfl
-- slices.rotateRight[publican/rate.Step]
def c61 : AFunc := ⟨10, [],
 (xOps [⟨(some t4), oMov (.t t0), none, none⟩,
   ⟨(some t5), oMov (.t t0), none, none⟩,
   ⟨(some t6), oLenL (.t t5), none, none⟩,
   ⟨(some t7), oMov (.t t1), none, none⟩,
   ⟨(some t8), oBin (int2 subO) (.t t6) (.t t7), none, none⟩,
   ⟨(some t9), oCall 65 [(.t t4), (.t t8)], none, none⟩])⟩
theorem ok61 : cFunc Try.prog gl ex Try.f61 = some c61 := by kernel_rfl
-- slices.rotateLeft[publican/rate.Step]
def c65 : AFunc := ⟨14, [],
 (xSeq (xOps [⟨(some t4), oMov (.t t0), none, none⟩,
   ⟨(some t5), oMov (.t t1), none, none⟩,
   ⟨(some t6), oSliceL 2 (.t t4) none (some (.t t5)) none, none, none⟩,
   ⟨(some t7), oCall 67 [(.t t6)], none, none⟩])
 (xSeq (xOps [⟨(some t8), oMov (.t t0), none, none⟩,
   ⟨(some t9), oMov (.t t1), none, none⟩,
   ⟨(some t10), oSliceL 2 (.t t8) (some (.t t9)) none none, none, none⟩,
   ⟨(some t11), oCall 67 [(.t t10)], none, none⟩])
 (xOps [⟨(some t12), oMov (.t t0), none, none⟩,
   ⟨(some t13), oCall 67 [(.t t12)], none, none⟩])))⟩
theorem ok65 : cFunc Try.prog gl ex Try.f65 = some c65 := by kernel_rfl
-- slices.Reverse[[]publican/rate.Step,publican/rate.Step]
def c67_l0 : X := (xSeq (xSeq (xOps [⟨(some t7), oMov (.t t2), none, none⟩,
   ⟨(some t8), oMov (.t t3), none, none⟩,
   ⟨(some t9), oBin (int2 (cmpO ltI)) (.t t7) (.t t8), none, none⟩])
 (xCond (.t t9)
 xSkip
 (xExit 0)))
 (xSeq (xBlock 1 (xReg [⟨(some t14), oMov (.t t0), none, none⟩,
   ⟨(some t15), oMov (.t t2), none, none⟩,
   ⟨(some t16), oMov (.t t0), none, none⟩,
   ⟨(some t17), oMov (.t t3), none, none⟩,
   ⟨(some t18), oMov (.t t0), none, none⟩,
   ⟨(some t19), oMov (.t t3), none, none⟩,
   ⟨(some t20), oIdxAddrL 2 (.t t18) (.t t19), none, none⟩,
   ⟨(some t21), oLoadN 2 (.t t20), none, none⟩,
   ⟨(some t22), oMov (.t t0), none, none⟩,
   ⟨(some t23), oMov (.t t2), none, none⟩,
   ⟨(some t24), oIdxAddrL 2 (.t t22) (.t t23), none, none⟩,
   ⟨(some t25), oLoadN 2 (.t t24), none, none⟩,
   ⟨(some t26), oIdxAddrL 2 (.t t14) (.t t15), none, none⟩,
   ⟨none, oStore 2 (.t t26) (.t t21), none, none⟩,
   ⟨(some t27), oIdxAddrL 2 (.t t16) (.t t17), none, none⟩,
   ⟨none, oStore 2 (.t t27) (.t t25), none, none⟩] [(0, 1), (0, 2), (1, 2), (0, 3), (1, 3), (2, 3), (0, 4), (1, 4), (2, 4), (3, 4), (0, 5), (1, 5), (2, 5), (3, 5), (4, 5), (0, 6), (1, 6), (2, 6), (3, 6), (0, 7), (1, 7), (2, 7), (3, 7), (0, 8), (1, 8), (2, 8), (3, 8), (4, 8), (5, 8), (6, 8), (7, 8), (0, 9), (1, 9), (2, 9), (3, 9), (4, 9), (5, 9), (6, 9), (7, 9), (8, 9), (0, 10), (1, 10), (2, 10), (3, 10), (4, 10), (5, 10), (6, 10), (7, 10), (0, 11), (1, 11), (2, 11), (3, 11), (4, 11), (5, 11), (6, 11), (7, 11), (2, 12), (3, 12), (2, 13), (3, 13)]))
 (xOps [⟨(some t10), oMov (.t t2), none, none⟩,
   ⟨(some t11), oBin (int2 addO) (.t t10) (.v (.int .i64 1)), none, none⟩,
   ⟨(some t12), oMov (.t t3), none, none⟩,
   ⟨(some t13), oBin (int2 subO) (.t t12) (.v (.int .i64 1)), none, none⟩,
   ⟨(some t2), oMov (.t t11), none, none⟩,
   ⟨(some t3), oMov (.t t13), none, none⟩])))
def c67 : AFunc := ⟨28, [],
 (xSeq (xOps [⟨(some t4), oMov (.t t0), none, none⟩,
   ⟨(some t5), oLenL (.t t4), none, none⟩,
   ⟨(some t6), oBin (int2 subO) (.t t5) (.v (.int .i64 1)), none, none⟩,
   ⟨(some t2), oMov (.v (.int .i64 0)), none, none⟩,
   ⟨(some t3), oMov (.t t6), none, none⟩])
 (xBlock 0 (xLoop c67_l0)))⟩
theorem ok67 : cFunc Try.prog gl ex Try.f67 = some c67 := by kernel_rfl
end
end Go.Proofs.Ythjhammjankekaa.AbsRatO
