import Derived.Test.YtgflahchodepkaaDoorRows
import Derived.Test.YtgflahchodepkaaDoorAbsCodeKT
import Derived.KernelRfl
namespace Go.Proofs.YtgflahchodepkaaDoor.AbsCodeK
open Go Go.Abs Go.Proofs
set_option maxRecDepth 100000
set_option linter.unusedVariables false
noncomputable section
/-- (*publican/pack.Reader).U -/
def c56 : AFunc := ⟨53, [.tmp t2],
 (xSeq (xOps [⟨(some t2), oMov (.v (.int .u64 0)), none⟩])
 (xSeq (xOps [⟨(some t3), oMov (.v (.int .u64 0)), none⟩])
 (xSeq (xSeq (xOps [⟨(some t6), oMov (.t t0), none⟩,
   ⟨(some t7), oNilCheck (.t t6), none⟩,
   ⟨(some t8), oFieldAddr 0 (.t t7), none⟩,
   ⟨(some t9), oLoad1 (.t t8), none⟩,
   ⟨(some t10), oLenL (.t t9), none⟩,
   ⟨(some t11), oMov (.v (.int .i64 0)), none⟩])
 (xBlock 0 (xLoop (xSeq (xOps [⟨(some t12), oBin (int2 (cmpO ltI)) (.t t11) (.t t10), none⟩])
 (xSeq (xCond (.t t12)
 xSkip
 (xExit 0))
 (xSeq (xBlock 1 (xSeq (xOps [⟨(some t13), oMov (.t t11), none⟩,
   ⟨(some t14), oIdxAddrL 1 (.t t9) (.t t11), none⟩,
   ⟨(some t15), oLoad1 (.t t14), none⟩,
   ⟨(some t4), oMov (.t t13), none⟩,
   ⟨(some t5), oMov (.t t15), none⟩])
 (xSeq (xSeq (xOps [⟨(some t16), oMov (.t t4), none⟩,
   ⟨(some t17), oBin (int2 (cmpO eqI)) (.t t16) (.v (.int .i64 9)), none⟩,
   ⟨(some t18), oMov (.t t17), none⟩,
   ⟨(some t19), oMov (.t t5), (some (t18, true))⟩,
   ⟨(some t20), oBin (int2 (cmpO gtI)) (.t t19) (.v (.int .u8 1)), (some (t18, true))⟩,
   ⟨(some t21), oPick (.t t18) (.t t20) (.v (.bool false)), none⟩])
 (xCond (.t t21)
 (xExit 0)
 xSkip))
 (xSeq (xOps [⟨(some t22), oMov (.t t3), none⟩,
   ⟨(some t23), oMov (.t t5), none⟩,
   ⟨(some t24), oBin (int2 andO) (.t t23) (.v (.int .u8 127)), none⟩,
   ⟨(some t25), oConv .u64 (.t t24), none⟩,
   ⟨(some t26), oMov (.t t4), none⟩,
   ⟨(some t27), oConv .u64 (.t t26), none⟩,
   ⟨(some t28), oBin (int2 mulO) (.v (.int .u64 7)) (.t t27), none⟩,
   ⟨(some t29), oBin (sh2 shlO) (.t t25) (.t t28), none⟩,
   ⟨(some t30), oBin (int2 orO) (.t t22) (.t t29), none⟩,
   ⟨(some t3), oMov (.t t30), none⟩])
 (xSeq (xSeq (xOps [⟨(some t31), oMov (.t t5), none⟩,
   ⟨(some t32), oBin (int2 (cmpO geI)) (.t t31) (.v (.int .u8 128)), none⟩])
 (xCond (.t t32)
 (xExit 1)
 xSkip))
 (xSeq (xSeq (xOps [⟨(some t33), oMov (.t t5), none⟩,
   ⟨(some t34), oBin (int2 (cmpO eqI)) (.t t33) (.v (.int .u8 0)), none⟩,
   ⟨(some t35), oMov (.t t34), none⟩,
   ⟨(some t36), oMov (.t t4), (some (t35, true))⟩,
   ⟨(some t37), oBin (int2 (cmpO gtI)) (.t t36) (.v (.int .i64 0)), (some (t35, true))⟩,
   ⟨(some t38), oPick (.t t35) (.t t37) (.v (.bool false)), none⟩])
 (xCond (.t t38)
 (xExit 0)
 xSkip))
 (xSeq (xOps [⟨(some t39), oMov (.t t0), none⟩,
   ⟨(some t40), oMov (.t t0), none⟩,
   ⟨(some t41), oNilCheck (.t t40), none⟩,
   ⟨(some t42), oFieldAddr 0 (.t t41), none⟩,
   ⟨(some t43), oLoad1 (.t t42), none⟩,
   ⟨(some t44), oMov (.t t4), none⟩,
   ⟨(some t45), oBin (int2 addO) (.t t44) (.v (.int .i64 1)), none⟩,
   ⟨(some t46), oSliceL 1 (.t t43) (some (.t t45)) none none, none⟩,
   ⟨(some t47), oNilCheck (.t t39), none⟩,
   ⟨(some t48), oFieldAddr 0 (.t t47), none⟩,
   ⟨none, oStore 1 (.t t48) (.t t46), none⟩])
 (xSeq (xOps [⟨(some t49), oMov (.t t3), none⟩,
   ⟨(some t2), oMov (.t t49), none⟩])
 xRet))))))))
 (xOps [⟨(some t50), oBin (int2 addO) (.t t11) (.v (.int .i64 1)), none⟩,
   ⟨(some t11), oMov (.t t50), none⟩])))))))
 (xSeq (xOps [⟨(some t51), oMov (.t t0), none⟩,
   ⟨(some t52), oCall 57 [(.t t51)], none⟩])
 (xSeq (xOps [⟨(some t2), oMov (.v (.int .u64 0)), none⟩])
 xRet)))))⟩
theorem ok56 : cFunc Tryd.prog gl ex Tryd.f56 = some c56 := by kernel_rfl
/-- (*publican/pack.Reader).spoil -/
def c57 : AFunc := ⟨8, [],
 (xOps [⟨(some t2), oMov (.t t0), none⟩,
   ⟨(some t3), oMov (.t t0), none⟩,
   ⟨(some t4), oNilCheck (.t t2), none⟩,
   ⟨(some t5), oFieldAddr 0 (.t t4), none⟩,
   ⟨none, oStore 1 (.t t5) (.v (.slice none 0 0)), none⟩,
   ⟨(some t6), oNilCheck (.t t3), none⟩,
   ⟨(some t7), oFieldAddr 1 (.t t6), none⟩,
   ⟨none, oStore 1 (.t t7) (.v (.bool true)), none⟩])⟩
theorem ok57 : cFunc Tryd.prog gl ex Tryd.f57 = some c57 := by kernel_rfl
/-- internal/strconv.Itoa -/
def c58 : AFunc := ⟨5, [.tmp t2],
 (xSeq (xOps [⟨(some t2), oMov (.v (.string ⟨⟨[]⟩⟩)), none⟩])
 (xSeq (xOps [⟨(some t3), oMov (.t t0), none⟩,
   ⟨(some t4), oCall 62 [(.t t3), (.v (.int .i64 10))], none⟩,
   ⟨(some t2), oMov (.t t4), none⟩])
 xRet))⟩
theorem ok58 : cFunc Tryd.prog gl ex Tryd.f58 = some c58 := by kernel_rfl
/-- internal/strconv.FormatInt -/
def c62 : AFunc := ⟨54, [.tmp t4],
 (xSeq (xOps [⟨(some t4), oMov (.v (.string ⟨⟨[]⟩⟩)), none⟩])
 (xSeq (xSeq (xOps [⟨(some t10), oMov (.t t1), none⟩,
   ⟨(some t11), oBin (int2 (cmpO eqI)) (.t t10) (.v (.int .i64 10)), none⟩])
 (xCond (.t t11)
 (xSeq (xSeq (xOps [⟨(some t12), oMov (.t t0), none⟩,
   ⟨(some t13), oBin (int2 (cmpO leI)) (.v (.int .i64 0)) (.t t12), none⟩,
   ⟨(some t14), oMov (.t t13), none⟩,
   ⟨(some t15), oMov (.t t0), (some (t14, true))⟩,
   ⟨(some t16), oBin (int2 (cmpO ltI)) (.t t15) (.v (.int .i64 100)), (some (t14, true))⟩,
   ⟨(some t17), oPick (.t t14) (.t t16) (.v (.bool false)), none⟩])
 (xCond (.t t17)
 (xSeq (xOps [⟨(some t18), oMov (.t t0), none⟩,
   ⟨(some t19), oCall 63 [(.t t18)], none⟩,
   ⟨(some t4), oMov (.t t19), none⟩])
 xRet)
 xSkip))
 (xSeq (xOps [⟨(some t5), oNew (rep 24 [(.int .u8 0)]), none⟩])
 (xSeq (xOps [⟨(some t20), oMov (.t t0), none⟩,
   ⟨(some t21), oConv .u64 (.t t20), none⟩,
   ⟨(some t6), oMov (.t t21), none⟩])
 (xSeq (xSeq (xOps [⟨(some t22), oMov (.t t0), none⟩,
   ⟨(some t23), oBin (int2 (cmpO ltI)) (.t t22) (.v (.int .i64 0)), none⟩])
 (xCond (.t t23)
 (xOps [⟨(some t24), oMov (.t t6), none⟩,
   ⟨(some t25), oNeg (.t t24), none⟩,
   ⟨(some t6), oMov (.t t25), none⟩])
 xSkip))
 (xSeq (xOps [⟨(some t26), oMov (.t t6), none⟩,
   ⟨(some t27), oCall 64 [(.t t26)], none⟩,
   ⟨(some t7), oMov (.t t27), none⟩])
 (xSeq (xOps [⟨(some t28), oMov (.t t7), none⟩,
   ⟨(some t29), oBin (int2 addO) (.v (.int .i64 1)) (.t t28), none⟩,
   ⟨(some t30), oSliceA 24 1 (.t t5) (some (.v (.int .i64 1))) (some (.t t29)), none⟩,
   ⟨(some t31), oMov (.t t6), none⟩,
   ⟨(some t32), oCall 65 [(.t t30), (.t t31)], none⟩])
 (xSeq (xSeq (xOps [⟨(some t33), oMov (.t t0), none⟩,
   ⟨(some t34), oBin (int2 (cmpO ltI)) (.t t33) (.v (.int .i64 0)), none⟩])
 (xCond (.t t34)
 (xSeq (xOps [⟨(some t35), oIdxAddrA 24 1 (.t t5) (.v (.int .i64 0)), none⟩,
   ⟨none, oStore 1 (.t t35) (.v (.int .u8 45)), none⟩])
 (xSeq (xOps [⟨(some t36), oMov (.t t7), none⟩,
   ⟨(some t37), oBin (int2 addO) (.v (.int .i64 1)) (.t t36), none⟩,
   ⟨(some t38), oSliceA 24 1 (.t t5) none (some (.t t37)), none⟩,
   ⟨(some t39), oBytesStr (.t t38), none⟩,
   ⟨(some t4), oMov (.t t39), none⟩])
 xRet))
 xSkip))
 (xSeq (xOps [⟨(some t40), oMov (.t t7), none⟩,
   ⟨(some t41), oBin (int2 addO) (.v (.int .i64 1)) (.t t40), none⟩,
   ⟨(some t42), oSliceA 24 1 (.t t5) (some (.v (.int .i64 1))) (some (.t t41)), none⟩,
   ⟨(some t43), oBytesStr (.t t42), none⟩,
   ⟨(some t4), oMov (.t t43), none⟩])
 xRet))))))))
 xSkip))
 (xSeq (xOps [⟨(some t45), oMov (.t t0), none⟩,
   ⟨(some t46), oConv .u64 (.t t45), none⟩,
   ⟨(some t47), oMov (.t t1), none⟩,
   ⟨(some t48), oMov (.t t0), none⟩,
   ⟨(some t49), oBin (int2 (cmpO ltI)) (.t t48) (.v (.int .i64 0)), none⟩,
   ⟨(some t50), oCall 66 [(.v (.slice none 0 0)), (.t t46), (.t t47), (.t t49), (.v (.bool false))], none⟩,
   ⟨(some t44), oMov (.t t50), none⟩,
   ⟨(some t51), oExtract (.t t44) 0, none⟩,
   ⟨(some t52), oExtract (.t t44) 1, none⟩,
   ⟨(some t8), oMov (.t t51), none⟩,
   ⟨(some t9), oMov (.t t52), none⟩])
 (xSeq (xOps [⟨(some t53), oMov (.t t9), none⟩,
   ⟨(some t4), oMov (.t t53), none⟩])
 xRet))))⟩
theorem ok62 : cFunc Tryd.prog gl ex Tryd.f62 = some c62 := by kernel_rfl
/-- internal/strconv.small -/
def c63 : AFunc := ⟨15, [.tmp t2],
 (xSeq (xOps [⟨(some t2), oMov (.v (.string ⟨⟨[]⟩⟩)), none⟩])
 (xSeq (xSeq (xOps [⟨(some t3), oMov (.t t0), none⟩,
   ⟨(some t4), oBin (int2 (cmpO ltI)) (.t t3) (.v (.int .i64 10)), none⟩])
 (xCond (.t t4)
 (xSeq (xOps [⟨(some t5), oMov (.t t0), none⟩,
   ⟨(some t6), oMov (.t t0), none⟩,
   ⟨(some t7), oBin (int2 addO) (.t t6) (.v (.int .i64 1)), none⟩,
   ⟨(some t8), oSliceS (.v (.string ⟨⟨[48, 49, 50, 51, 52, 53, 54, 55, 56, 57, 97, 98, 99, 100, 101, 102, 103, 104, 105, 106, 107, 108, 109, 110, 111, 112, 113, 114, 115, 116, 117, 118, 119, 120, 121, 122]⟩⟩)) (some (.t t5)) (some (.t t7)), none⟩,
   ⟨(some t2), oMov (.t t8), none⟩])
 xRet)
 xSkip))
 (xSeq (xOps [⟨(some t9), oMov (.t t0), none⟩,
   ⟨(some t10), oBin (int2 mulO) (.t t9) (.v (.int .i64 2)), none⟩,
   ⟨(some t11), oMov (.t t0), none⟩,
   ⟨(some t12), oBin (int2 mulO) (.t t11) (.v (.int .i64 2)), none⟩,
   ⟨(some t13), oBin (int2 addO) (.t t12) (.v (.int .i64 2)), none⟩,
   ⟨(some t14), oSliceS (.v (.string ⟨⟨[48, 48, 48, 49, 48, 50, 48, 51, 48, 52, 48, 53, 48, 54, 48, 55, 48, 56, 48, 57, 49, 48, 49, 49, 49, 50, 49, 51, 49, 52, 49, 53, 49, 54, 49, 55, 49, 56, 49, 57, 50, 48, 50, 49, 50, 50, 50, 51, 50, 52, 50, 53, 50, 54, 50, 55, 50, 56, 50, 57, 51, 48, 51, 49, 51, 50, 51, 51, 51, 52, 51, 53, 51, 54, 51, 55, 51, 56, 51, 57, 52, 48, 52, 49, 52, 50, 52, 51, 52, 52, 52, 53, 52, 54, 52, 55, 52, 56, 52, 57, 53, 48, 53, 49, 53, 50, 53, 51, 53, 52, 53, 53, 53, 54, 53, 55, 53, 56, 53, 57, 54, 48, 54, 49, 54, 50, 54, 51, 54, 52, 54, 53, 54, 54, 54, 55, 54, 56, 54, 57, 55, 48, 55, 49, 55, 50, 55, 51, 55, 52, 55, 53, 55, 54, 55, 55, 55, 56, 55, 57, 56, 48, 56, 49, 56, 50, 56, 51, 56, 52, 56, 53, 56, 54, 56, 55, 56, 56, 56, 57, 57, 48, 57, 49, 57, 50, 57, 51, 57, 52, 57, 53, 57, 54, 57, 55, 57, 56, 57, 57]⟩⟩)) (some (.t t10)) (some (.t t13)), none⟩,
   ⟨(some t2), oMov (.t t14), none⟩])
 xRet)))⟩
theorem ok63 : cFunc Tryd.prog gl ex Tryd.f63 = some c63 := by kernel_rfl
/-- internal/strconv.numDigits -/
def c64 : AFunc := ⟨15, [.tmp t2],
 (xSeq (xOps [⟨(some t2), oMov (.v (.int .i64 0)), none⟩])
 (xSeq (xOps [⟨(some t4), oMov (.t t0), none⟩,
   ⟨(some t5), oCall 68 [(.t t4)], none⟩,
   ⟨(some t6), oCall 67 [(.t t5)], none⟩,
   ⟨(some t3), oMov (.t t6), none⟩])
 (xSeq (xOps [⟨(some t7), oMov (.t t3), none⟩,
   ⟨(some t8), oMov (.t t0), none⟩,
   ⟨(some t9), oMov (.t t3), none⟩,
   ⟨(some t10), oIdxAddrA 20 1 (.v (.pointer (some ⟨0, 0, none⟩))) (.t t9), none⟩,
   ⟨(some t11), oLoad1 (.t t10), none⟩,
   ⟨(some t12), oBin (int2 (cmpO geI)) (.t t8) (.t t11), none⟩,
   ⟨(some t13), oCall 69 [(.t t12)], none⟩,
   ⟨(some t14), oBin (int2 addO) (.t t7) (.t t13), none⟩,
   ⟨(some t2), oMov (.t t14), none⟩])
 xRet)))⟩
theorem ok64 : cFunc Tryd.prog gl ex Tryd.f64 = some c64 := by kernel_rfl
/-- internal/strconv.formatBase10 -/
def c65 : AFunc := ⟨167, [],
 (xSeq (xOps [⟨(some t17), oMov (.t t0), none⟩,
   ⟨(some t18), oLenL (.t t17), none⟩,
   ⟨(some t4), oMov (.t t18), none⟩])
 (xSeq (xBlock 0 (xLoop (xSeq (xSeq (xOps [⟨(some t19), oMov (.t t4), none⟩,
   ⟨(some t20), oBin (int2 (cmpO geI)) (.t t19) (.v (.int .i64 8)), none⟩])
 (xCond (.t t20)
 xSkip
 (xExit 0)))
 (xBlock 1 (xSeq (xOps [⟨(some t21), oMov (.t t1), none⟩,
   ⟨(some t22), oBin (int2 remO) (.t t21) (.v (.int .u64 100000000)), none⟩,
   ⟨(some t23), oConv .u32 (.t t22), none⟩,
   ⟨(some t5), oMov (.t t23), none⟩])
 (xSeq (xOps [⟨(some t24), oMov (.t t1), none⟩,
   ⟨(some t25), oBin (int2 quoO) (.t t24) (.v (.int .u64 100000000)), none⟩,
   ⟨(some t1), oMov (.t t25), none⟩])
 (xSeq (xOps [⟨(some t26), oMov (.t t5), none⟩,
   ⟨(some t27), oBin (int2 quoO) (.t t26) (.v (.int .u32 10000)), none⟩,
   ⟨(some t28), oMov (.t t5), none⟩,
   ⟨(some t29), oBin (int2 remO) (.t t28) (.v (.int .u32 10000)), none⟩,
   ⟨(some t6), oMov (.t t27), none⟩,
   ⟨(some t7), oMov (.t t29), none⟩])
 (xSeq (xOps [⟨(some t30), oMov (.t t7), none⟩,
   ⟨(some t31), oBin (int2 quoO) (.t t30) (.v (.int .u32 100)), none⟩,
   ⟨(some t32), oBin (int2 mulO) (.t t31) (.v (.int .u32 2)), none⟩,
   ⟨(some t33), oMov (.t t7), none⟩,
   ⟨(some t34), oBin (int2 remO) (.t t33) (.v (.int .u32 100)), none⟩,
   ⟨(some t35), oBin (int2 mulO) (.t t34) (.v (.int .u32 2)), none⟩,
   ⟨(some t8), oMov (.t t32), none⟩,
   ⟨(some t9), oMov (.t t35), none⟩])
 (xSeq (xOps [⟨(some t36), oMov (.t t6), none⟩,
   ⟨(some t37), oBin (int2 quoO) (.t t36) (.v (.int .u32 100)), none⟩,
   ⟨(some t38), oBin (int2 mulO) (.t t37) (.v (.int .u32 2)), none⟩,
   ⟨(some t39), oMov (.t t6), none⟩,
   ⟨(some t40), oBin (int2 remO) (.t t39) (.v (.int .u32 100)), none⟩,
   ⟨(some t41), oBin (int2 mulO) (.t t40) (.v (.int .u32 2)), none⟩,
   ⟨(some t10), oMov (.t t38), none⟩,
   ⟨(some t11), oMov (.t t41), none⟩])
 (xSeq (xReg [⟨(some t42), oMov (.t t0), none⟩,
   ⟨(some t43), oMov (.t t4), none⟩,
   ⟨(some t44), oBin (int2 subO) (.t t43) (.v (.int .i64 1)), none⟩,
   ⟨(some t45), oMov (.t t0), none⟩,
   ⟨(some t46), oMov (.t t4), none⟩,
   ⟨(some t47), oBin (int2 subO) (.t t46) (.v (.int .i64 2)), none⟩,
   ⟨(some t48), oMov (.t t9), none⟩,
   ⟨(some t49), oBin (int2 addO) (.t t48) (.v (.int .u32 1)), none⟩,
   ⟨(some t50), oIdxS (.v (.string ⟨⟨[48, 48, 48, 49, 48, 50, 48, 51, 48, 52, 48, 53, 48, 54, 48, 55, 48, 56, 48, 57, 49, 48, 49, 49, 49, 50, 49, 51, 49, 52, 49, 53, 49, 54, 49, 55, 49, 56, 49, 57, 50, 48, 50, 49, 50, 50, 50, 51, 50, 52, 50, 53, 50, 54, 50, 55, 50, 56, 50, 57, 51, 48, 51, 49, 51, 50, 51, 51, 51, 52, 51, 53, 51, 54, 51, 55, 51, 56, 51, 57, 52, 48, 52, 49, 52, 50, 52, 51, 52, 52, 52, 53, 52, 54, 52, 55, 52, 56, 52, 57, 53, 48, 53, 49, 53, 50, 53, 51, 53, 52, 53, 53, 53, 54, 53, 55, 53, 56, 53, 57, 54, 48, 54, 49, 54, 50, 54, 51, 54, 52, 54, 53, 54, 54, 54, 55, 54, 56, 54, 57, 55, 48, 55, 49, 55, 50, 55, 51, 55, 52, 55, 53, 55, 54, 55, 55, 55, 56, 55, 57, 56, 48, 56, 49, 56, 50, 56, 51, 56, 52, 56, 53, 56, 54, 56, 55, 56, 56, 56, 57, 57, 48, 57, 49, 57, 50, 57, 51, 57, 52, 57, 53, 57, 54, 57, 55, 57, 56, 57, 57]⟩⟩)) (.t t49), none⟩,
   ⟨(some t51), oMov (.t t9), none⟩,
   ⟨(some t52), oIdxS (.v (.string ⟨⟨[48, 48, 48, 49, 48, 50, 48, 51, 48, 52, 48, 53, 48, 54, 48, 55, 48, 56, 48, 57, 49, 48, 49, 49, 49, 50, 49, 51, 49, 52, 49, 53, 49, 54, 49, 55, 49, 56, 49, 57, 50, 48, 50, 49, 50, 50, 50, 51, 50, 52, 50, 53, 50, 54, 50, 55, 50, 56, 50, 57, 51, 48, 51, 49, 51, 50, 51, 51, 51, 52, 51, 53, 51, 54, 51, 55, 51, 56, 51, 57, 52, 48, 52, 49, 52, 50, 52, 51, 52, 52, 52, 53, 52, 54, 52, 55, 52, 56, 52, 57, 53, 48, 53, 49, 53, 50, 53, 51, 53, 52, 53, 53, 53, 54, 53, 55, 53, 56, 53, 57, 54, 48, 54, 49, 54, 50, 54, 51, 54, 52, 54, 53, 54, 54, 54, 55, 54, 56, 54, 57, 55, 48, 55, 49, 55, 50, 55, 51, 55, 52, 55, 53, 55, 54, 55, 55, 55, 56, 55, 57, 56, 48, 56, 49, 56, 50, 56, 51, 56, 52, 56, 53, 56, 54, 56, 55, 56, 56, 56, 57, 57, 48, 57, 49, 57, 50, 57, 51, 57, 52, 57, 53, 57, 54, 57, 55, 57, 56, 57, 57]⟩⟩)) (.t t51), none⟩,
   ⟨(some t53), oIdxAddrL 1 (.t t42) (.t t44), none⟩,
   ⟨none, oStore 1 (.t t53) (.t t50), none⟩,
   ⟨(some t54), oIdxAddrL 1 (.t t45) (.t t47), none⟩,
   ⟨none, oStore 1 (.t t54) (.t t52), none⟩] [(0, 1), (0, 2), (0, 3), (1, 3), (2, 3), (0, 4), (1, 4), (2, 4), (3, 4), (0, 5), (1, 5), (2, 5), (3, 5), (0, 6), (1, 6), (2, 6), (3, 6), (4, 6), (5, 6), (0, 7), (1, 7), (2, 7), (3, 7), (4, 7), (5, 7), (0, 8), (1, 8), (2, 8), (3, 8), (4, 8), (5, 8), (0, 9), (1, 9), (2, 9), (3, 9), (4, 9), (5, 9), (6, 9), (7, 9), (8, 9), (0, 10), (1, 10), (2, 10), (3, 10), (4, 10), (5, 10), (6, 10), (7, 10), (8, 10), (3, 11), (4, 11), (5, 11), (9, 11), (10, 11), (3, 12), (4, 12), (5, 12), (9, 12), (10, 12)])
 (xSeq (xReg [⟨(some t55), oMov (.t t0), none⟩,
   ⟨(some t56), oMov (.t t4), none⟩,
   ⟨(some t57), oBin (int2 subO) (.t t56) (.v (.int .i64 3)), none⟩,
   ⟨(some t58), oMov (.t t0), none⟩,
   ⟨(some t59), oMov (.t t4), none⟩,
   ⟨(some t60), oBin (int2 subO) (.t t59) (.v (.int .i64 4)), none⟩,
   ⟨(some t61), oMov (.t t8), none⟩,
   ⟨(some t62), oBin (int2 addO) (.t t61) (.v (.int .u32 1)), none⟩,
   ⟨(some t63), oIdxS (.v (.string ⟨⟨[48, 48, 48, 49, 48, 50, 48, 51, 48, 52, 48, 53, 48, 54, 48, 55, 48, 56, 48, 57, 49, 48, 49, 49, 49, 50, 49, 51, 49, 52, 49, 53, 49, 54, 49, 55, 49, 56, 49, 57, 50, 48, 50, 49, 50, 50, 50, 51, 50, 52, 50, 53, 50, 54, 50, 55, 50, 56, 50, 57, 51, 48, 51, 49, 51, 50, 51, 51, 51, 52, 51, 53, 51, 54, 51, 55, 51, 56, 51, 57, 52, 48, 52, 49, 52, 50, 52, 51, 52, 52, 52, 53, 52, 54, 52, 55, 52, 56, 52, 57, 53, 48, 53, 49, 53, 50, 53, 51, 53, 52, 53, 53, 53, 54, 53, 55, 53, 56, 53, 57, 54, 48, 54, 49, 54, 50, 54, 51, 54, 52, 54, 53, 54, 54, 54, 55, 54, 56, 54, 57, 55, 48, 55, 49, 55, 50, 55, 51, 55, 52, 55, 53, 55, 54, 55, 55, 55, 56, 55, 57, 56, 48, 56, 49, 56, 50, 56, 51, 56, 52, 56, 53, 56, 54, 56, 55, 56, 56, 56, 57, 57, 48, 57, 49, 57, 50, 57, 51, 57, 52, 57, 53, 57, 54, 57, 55, 57, 56, 57, 57]⟩⟩)) (.t t62), none⟩,
   ⟨(some t64), oMov (.t t8), none⟩,
   ⟨(some t65), oIdxS (.v (.string ⟨⟨[48, 48, 48, 49, 48, 50, 48, 51, 48, 52, 48, 53, 48, 54, 48, 55, 48, 56, 48, 57, 49, 48, 49, 49, 49, 50, 49, 51, 49, 52, 49, 53, 49, 54, 49, 55, 49, 56, 49, 57, 50, 48, 50, 49, 50, 50, 50, 51, 50, 52, 50, 53, 50, 54, 50, 55, 50, 56, 50, 57, 51, 48, 51, 49, 51, 50, 51, 51, 51, 52, 51, 53, 51, 54, 51, 55, 51, 56, 51, 57, 52, 48, 52, 49, 52, 50, 52, 51, 52, 52, 52, 53, 52, 54, 52, 55, 52, 56, 52, 57, 53, 48, 53, 49, 53, 50, 53, 51, 53, 52, 53, 53, 53, 54, 53, 55, 53, 56, 53, 57, 54, 48, 54, 49, 54, 50, 54, 51, 54, 52, 54, 53, 54, 54, 54, 55, 54, 56, 54, 57, 55, 48, 55, 49, 55, 50, 55, 51, 55, 52, 55, 53, 55, 54, 55, 55, 55, 56, 55, 57, 56, 48, 56, 49, 56, 50, 56, 51, 56, 52, 56, 53, 56, 54, 56, 55, 56, 56, 56, 57, 57, 48, 57, 49, 57, 50, 57, 51, 57, 52, 57, 53, 57, 54, 57, 55, 57, 56, 57, 57]⟩⟩)) (.t t64), none⟩,
   ⟨(some t66), oIdxAddrL 1 (.t t55) (.t t57), none⟩,
   ⟨none, oStore 1 (.t t66) (.t t63), none⟩,
   ⟨(some t67), oIdxAddrL 1 (.t t58) (.t t60), none⟩,
   ⟨none, oStore 1 (.t t67) (.t t65), none⟩] [(0, 1), (0, 2), (0, 3), (1, 3), (2, 3), (0, 4), (1, 4), (2, 4), (3, 4), (0, 5), (1, 5), (2, 5), (3, 5), (0, 6), (1, 6), (2, 6), (3, 6), (4, 6), (5, 6), (0, 7), (1, 7), (2, 7), (3, 7), (4, 7), (5, 7), (0, 8), (1, 8), (2, 8), (3, 8), (4, 8), (5, 8), (0, 9), (1, 9), (2, 9), (3, 9), (4, 9), (5, 9), (6, 9), (7, 9), (8, 9), (0, 10), (1, 10), (2, 10), (3, 10), (4, 10), (5, 10), (6, 10), (7, 10), (8, 10), (3, 11), (4, 11), (5, 11), (9, 11), (10, 11), (3, 12), (4, 12), (5, 12), (9, 12), (10, 12)])
 (xSeq (xReg [⟨(some t68), oMov (.t t0), none⟩,
   ⟨(some t69), oMov (.t t4), none⟩,
   ⟨(some t70), oBin (int2 subO) (.t t69) (.v (.int .i64 5)), none⟩,
   ⟨(some t71), oMov (.t t0), none⟩,
   ⟨(some t72), oMov (.t t4), none⟩,
   ⟨(some t73), oBin (int2 subO) (.t t72) (.v (.int .i64 6)), none⟩,
   ⟨(some t74), oMov (.t t11), none⟩,
   ⟨(some t75), oBin (int2 addO) (.t t74) (.v (.int .u32 1)), none⟩,
   ⟨(some t76), oIdxS (.v (.string ⟨⟨[48, 48, 48, 49, 48, 50, 48, 51, 48, 52, 48, 53, 48, 54, 48, 55, 48, 56, 48, 57, 49, 48, 49, 49, 49, 50, 49, 51, 49, 52, 49, 53, 49, 54, 49, 55, 49, 56, 49, 57, 50, 48, 50, 49, 50, 50, 50, 51, 50, 52, 50, 53, 50, 54, 50, 55, 50, 56, 50, 57, 51, 48, 51, 49, 51, 50, 51, 51, 51, 52, 51, 53, 51, 54, 51, 55, 51, 56, 51, 57, 52, 48, 52, 49, 52, 50, 52, 51, 52, 52, 52, 53, 52, 54, 52, 55, 52, 56, 52, 57, 53, 48, 53, 49, 53, 50, 53, 51, 53, 52, 53, 53, 53, 54, 53, 55, 53, 56, 53, 57, 54, 48, 54, 49, 54, 50, 54, 51, 54, 52, 54, 53, 54, 54, 54, 55, 54, 56, 54, 57, 55, 48, 55, 49, 55, 50, 55, 51, 55, 52, 55, 53, 55, 54, 55, 55, 55, 56, 55, 57, 56, 48, 56, 49, 56, 50, 56, 51, 56, 52, 56, 53, 56, 54, 56, 55, 56, 56, 56, 57, 57, 48, 57, 49, 57, 50, 57, 51, 57, 52, 57, 53, 57, 54, 57, 55, 57, 56, 57, 57]⟩⟩)) (.t t75), none⟩,
   ⟨(some t77), oMov (.t t11), none⟩,
   ⟨(some t78), oIdxS (.v (.string ⟨⟨[48, 48, 48, 49, 48, 50, 48, 51, 48, 52, 48, 53, 48, 54, 48, 55, 48, 56, 48, 57, 49, 48, 49, 49, 49, 50, 49, 51, 49, 52, 49, 53, 49, 54, 49, 55, 49, 56, 49, 57, 50, 48, 50, 49, 50, 50, 50, 51, 50, 52, 50, 53, 50, 54, 50, 55, 50, 56, 50, 57, 51, 48, 51, 49, 51, 50, 51, 51, 51, 52, 51, 53, 51, 54, 51, 55, 51, 56, 51, 57, 52, 48, 52, 49, 52, 50, 52, 51, 52, 52, 52, 53, 52, 54, 52, 55, 52, 56, 52, 57, 53, 48, 53, 49, 53, 50, 53, 51, 53, 52, 53, 53, 53, 54, 53, 55, 53, 56, 53, 57, 54, 48, 54, 49, 54, 50, 54, 51, 54, 52, 54, 53, 54, 54, 54, 55, 54, 56, 54, 57, 55, 48, 55, 49, 55, 50, 55, 51, 55, 52, 55, 53, 55, 54, 55, 55, 55, 56, 55, 57, 56, 48, 56, 49, 56, 50, 56, 51, 56, 52, 56, 53, 56, 54, 56, 55, 56, 56, 56, 57, 57, 48, 57, 49, 57, 50, 57, 51, 57, 52, 57, 53, 57, 54, 57, 55, 57, 56, 57, 57]⟩⟩)) (.t t77), none⟩,
   ⟨(some t79), oIdxAddrL 1 (.t t68) (.t t70), none⟩,
   ⟨none, oStore 1 (.t t79) (.t t76), none⟩,
   ⟨(some t80), oIdxAddrL 1 (.t t71) (.t t73), none⟩,
   ⟨none, oStore 1 (.t t80) (.t t78), none⟩] [(0, 1), (0, 2), (0, 3), (1, 3), (2, 3), (0, 4), (1, 4), (2, 4), (3, 4), (0, 5), (1, 5), (2, 5), (3, 5), (0, 6), (1, 6), (2, 6), (3, 6), (4, 6), (5, 6), (0, 7), (1, 7), (2, 7), (3, 7), (4, 7), (5, 7), (0, 8), (1, 8), (2, 8), (3, 8), (4, 8), (5, 8), (0, 9), (1, 9), (2, 9), (3, 9), (4, 9), (5, 9), (6, 9), (7, 9), (8, 9), (0, 10), (1, 10), (2, 10), (3, 10), (4, 10), (5, 10), (6, 10), (7, 10), (8, 10), (3, 11), (4, 11), (5, 11), (9, 11), (10, 11), (3, 12), (4, 12), (5, 12), (9, 12), (10, 12)])
 (xSeq (xReg [⟨(some t81), oMov (.t t0), none⟩,
   ⟨(some t82), oMov (.t t4), none⟩,
   ⟨(some t83), oBin (int2 subO) (.t t82) (.v (.int .i64 7)), none⟩,
   ⟨(some t84), oMov (.t t0), none⟩,
   ⟨(some t85), oMov (.t t4), none⟩,
   ⟨(some t86), oBin (int2 subO) (.t t85) (.v (.int .i64 8)), none⟩,
   ⟨(some t87), oMov (.t t10), none⟩,
   ⟨(some t88), oBin (int2 addO) (.t t87) (.v (.int .u32 1)), none⟩,
   ⟨(some t89), oIdxS (.v (.string ⟨⟨[48, 48, 48, 49, 48, 50, 48, 51, 48, 52, 48, 53, 48, 54, 48, 55, 48, 56, 48, 57, 49, 48, 49, 49, 49, 50, 49, 51, 49, 52, 49, 53, 49, 54, 49, 55, 49, 56, 49, 57, 50, 48, 50, 49, 50, 50, 50, 51, 50, 52, 50, 53, 50, 54, 50, 55, 50, 56, 50, 57, 51, 48, 51, 49, 51, 50, 51, 51, 51, 52, 51, 53, 51, 54, 51, 55, 51, 56, 51, 57, 52, 48, 52, 49, 52, 50, 52, 51, 52, 52, 52, 53, 52, 54, 52, 55, 52, 56, 52, 57, 53, 48, 53, 49, 53, 50, 53, 51, 53, 52, 53, 53, 53, 54, 53, 55, 53, 56, 53, 57, 54, 48, 54, 49, 54, 50, 54, 51, 54, 52, 54, 53, 54, 54, 54, 55, 54, 56, 54, 57, 55, 48, 55, 49, 55, 50, 55, 51, 55, 52, 55, 53, 55, 54, 55, 55, 55, 56, 55, 57, 56, 48, 56, 49, 56, 50, 56, 51, 56, 52, 56, 53, 56, 54, 56, 55, 56, 56, 56, 57, 57, 48, 57, 49, 57, 50, 57, 51, 57, 52, 57, 53, 57, 54, 57, 55, 57, 56, 57, 57]⟩⟩)) (.t t88), none⟩,
   ⟨(some t90), oMov (.t t10), none⟩,
   ⟨(some t91), oIdxS (.v (.string ⟨⟨[48, 48, 48, 49, 48, 50, 48, 51, 48, 52, 48, 53, 48, 54, 48, 55, 48, 56, 48, 57, 49, 48, 49, 49, 49, 50, 49, 51, 49, 52, 49, 53, 49, 54, 49, 55, 49, 56, 49, 57, 50, 48, 50, 49, 50, 50, 50, 51, 50, 52, 50, 53, 50, 54, 50, 55, 50, 56, 50, 57, 51, 48, 51, 49, 51, 50, 51, 51, 51, 52, 51, 53, 51, 54, 51, 55, 51, 56, 51, 57, 52, 48, 52, 49, 52, 50, 52, 51, 52, 52, 52, 53, 52, 54, 52, 55, 52, 56, 52, 57, 53, 48, 53, 49, 53, 50, 53, 51, 53, 52, 53, 53, 53, 54, 53, 55, 53, 56, 53, 57, 54, 48, 54, 49, 54, 50, 54, 51, 54, 52, 54, 53, 54, 54, 54, 55, 54, 56, 54, 57, 55, 48, 55, 49, 55, 50, 55, 51, 55, 52, 55, 53, 55, 54, 55, 55, 55, 56, 55, 57, 56, 48, 56, 49, 56, 50, 56, 51, 56, 52, 56, 53, 56, 54, 56, 55, 56, 56, 56, 57, 57, 48, 57, 49, 57, 50, 57, 51, 57, 52, 57, 53, 57, 54, 57, 55, 57, 56, 57, 57]⟩⟩)) (.t t90), none⟩,
   ⟨(some t92), oIdxAddrL 1 (.t t81) (.t t83), none⟩,
   ⟨none, oStore 1 (.t t92) (.t t89), none⟩,
   ⟨(some t93), oIdxAddrL 1 (.t t84) (.t t86), none⟩,
   ⟨none, oStore 1 (.t t93) (.t t91), none⟩] [(0, 1), (0, 2), (0, 3), (1, 3), (2, 3), (0, 4), (1, 4), (2, 4), (3, 4), (0, 5), (1, 5), (2, 5), (3, 5), (0, 6), (1, 6), (2, 6), (3, 6), (4, 6), (5, 6), (0, 7), (1, 7), (2, 7), (3, 7), (4, 7), (5, 7), (0, 8), (1, 8), (2, 8), (3, 8), (4, 8), (5, 8), (0, 9), (1, 9), (2, 9), (3, 9), (4, 9), (5, 9), (6, 9), (7, 9), (8, 9), (0, 10), (1, 10), (2, 10), (3, 10), (4, 10), (5, 10), (6, 10), (7, 10), (8, 10), (3, 11), (4, 11), (5, 11), (9, 11), (10, 11), (3, 12), (4, 12), (5, 12), (9, 12), (10, 12)])
 (xOps [⟨(some t94), oMov (.t t4), none⟩,
   ⟨(some t95), oBin (int2 subO) (.t t94) (.v (.int .i64 8)), none⟩,
   ⟨(some t4), oMov (.t t95), none⟩]))))))))))))))
 (xSeq (xOps [⟨(some t96), oMov (.t t1), none⟩,
   ⟨(some t97), oConv .u32 (.t t96), none⟩,
   ⟨(some t12), oMov (.t t97), none⟩])
 (xSeq (xSeq (xOps [⟨(some t98), oMov (.t t4), none⟩,
   ⟨(some t99), oBin (int2 (cmpO geI)) (.t t98) (.v (.int .i64 4)), none⟩])
 (xCond (.t t99)
 (xSeq (xOps [⟨(some t100), oMov (.t t12), none⟩,
   ⟨(some t101), oBin (int2 remO) (.t t100) (.v (.int .u32 10000)), none⟩,
   ⟨(some t13), oMov (.t t101), none⟩])
 (xSeq (xOps [⟨(some t102), oMov (.t t12), none⟩,
   ⟨(some t103), oBin (int2 quoO) (.t t102) (.v (.int .u32 10000)), none⟩,
   ⟨(some t12), oMov (.t t103), none⟩])
 (xSeq (xOps [⟨(some t104), oMov (.t t13), none⟩,
   ⟨(some t105), oBin (int2 quoO) (.t t104) (.v (.int .u32 100)), none⟩,
   ⟨(some t106), oBin (int2 mulO) (.t t105) (.v (.int .u32 2)), none⟩,
   ⟨(some t107), oMov (.t t13), none⟩,
   ⟨(some t108), oBin (int2 remO) (.t t107) (.v (.int .u32 100)), none⟩,
   ⟨(some t109), oBin (int2 mulO) (.t t108) (.v (.int .u32 2)), none⟩,
   ⟨(some t14), oMov (.t t106), none⟩,
   ⟨(some t15), oMov (.t t109), none⟩])
 (xSeq (xReg [⟨(some t110), oMov (.t t0), none⟩,
   ⟨(some t111), oMov (.t t4), none⟩,
   ⟨(some t112), oBin (int2 subO) (.t t111) (.v (.int .i64 1)), none⟩,
   ⟨(some t113), oMov (.t t0), none⟩,
   ⟨(some t114), oMov (.t t4), none⟩,
   ⟨(some t115), oBin (int2 subO) (.t t114) (.v (.int .i64 2)), none⟩,
   ⟨(some t116), oMov (.t t15), none⟩,
   ⟨(some t117), oBin (int2 addO) (.t t116) (.v (.int .u32 1)), none⟩,
   ⟨(some t118), oIdxS (.v (.string ⟨⟨[48, 48, 48, 49, 48, 50, 48, 51, 48, 52, 48, 53, 48, 54, 48, 55, 48, 56, 48, 57, 49, 48, 49, 49, 49, 50, 49, 51, 49, 52, 49, 53, 49, 54, 49, 55, 49, 56, 49, 57, 50, 48, 50, 49, 50, 50, 50, 51, 50, 52, 50, 53, 50, 54, 50, 55, 50, 56, 50, 57, 51, 48, 51, 49, 51, 50, 51, 51, 51, 52, 51, 53, 51, 54, 51, 55, 51, 56, 51, 57, 52, 48, 52, 49, 52, 50, 52, 51, 52, 52, 52, 53, 52, 54, 52, 55, 52, 56, 52, 57, 53, 48, 53, 49, 53, 50, 53, 51, 53, 52, 53, 53, 53, 54, 53, 55, 53, 56, 53, 57, 54, 48, 54, 49, 54, 50, 54, 51, 54, 52, 54, 53, 54, 54, 54, 55, 54, 56, 54, 57, 55, 48, 55, 49, 55, 50, 55, 51, 55, 52, 55, 53, 55, 54, 55, 55, 55, 56, 55, 57, 56, 48, 56, 49, 56, 50, 56, 51, 56, 52, 56, 53, 56, 54, 56, 55, 56, 56, 56, 57, 57, 48, 57, 49, 57, 50, 57, 51, 57, 52, 57, 53, 57, 54, 57, 55, 57, 56, 57, 57]⟩⟩)) (.t t117), none⟩,
   ⟨(some t119), oMov (.t t15), none⟩,
   ⟨(some t120), oIdxS (.v (.string ⟨⟨[48, 48, 48, 49, 48, 50, 48, 51, 48, 52, 48, 53, 48, 54, 48, 55, 48, 56, 48, 57, 49, 48, 49, 49, 49, 50, 49, 51, 49, 52, 49, 53, 49, 54, 49, 55, 49, 56, 49, 57, 50, 48, 50, 49, 50, 50, 50, 51, 50, 52, 50, 53, 50, 54, 50, 55, 50, 56, 50, 57, 51, 48, 51, 49, 51, 50, 51, 51, 51, 52, 51, 53, 51, 54, 51, 55, 51, 56, 51, 57, 52, 48, 52, 49, 52, 50, 52, 51, 52, 52, 52, 53, 52, 54, 52, 55, 52, 56, 52, 57, 53, 48, 53, 49, 53, 50, 53, 51, 53, 52, 53, 53, 53, 54, 53, 55, 53, 56, 53, 57, 54, 48, 54, 49, 54, 50, 54, 51, 54, 52, 54, 53, 54, 54, 54, 55, 54, 56, 54, 57, 55, 48, 55, 49, 55, 50, 55, 51, 55, 52, 55, 53, 55, 54, 55, 55, 55, 56, 55, 57, 56, 48, 56, 49, 56, 50, 56, 51, 56, 52, 56, 53, 56, 54, 56, 55, 56, 56, 56, 57, 57, 48, 57, 49, 57, 50, 57, 51, 57, 52, 57, 53, 57, 54, 57, 55, 57, 56, 57, 57]⟩⟩)) (.t t119), none⟩,
   ⟨(some t121), oIdxAddrL 1 (.t t110) (.t t112), none⟩,
   ⟨none, oStore 1 (.t t121) (.t t118), none⟩,
   ⟨(some t122), oIdxAddrL 1 (.t t113) (.t t115), none⟩,
   ⟨none, oStore 1 (.t t122) (.t t120), none⟩] [(0, 1), (0, 2), (0, 3), (1, 3), (2, 3), (0, 4), (1, 4), (2, 4), (3, 4), (0, 5), (1, 5), (2, 5), (3, 5), (0, 6), (1, 6), (2, 6), (3, 6), (4, 6), (5, 6), (0, 7), (1, 7), (2, 7), (3, 7), (4, 7), (5, 7), (0, 8), (1, 8), (2, 8), (3, 8), (4, 8), (5, 8), (0, 9), (1, 9), (2, 9), (3, 9), (4, 9), (5, 9), (6, 9), (7, 9), (8, 9), (0, 10), (1, 10), (2, 10), (3, 10), (4, 10), (5, 10), (6, 10), (7, 10), (8, 10), (3, 11), (4, 11), (5, 11), (9, 11), (10, 11), (3, 12), (4, 12), (5, 12), (9, 12), (10, 12)])
 (xSeq (xReg [⟨(some t123), oMov (.t t0), none⟩,
   ⟨(some t124), oMov (.t t4), none⟩,
   ⟨(some t125), oBin (int2 subO) (.t t124) (.v (.int .i64 3)), none⟩,
   ⟨(some t126), oMov (.t t0), none⟩,
   ⟨(some t127), oMov (.t t4), none⟩,
   ⟨(some t128), oBin (int2 subO) (.t t127) (.v (.int .i64 4)), none⟩,
   ⟨(some t129), oMov (.t t14), none⟩,
   ⟨(some t130), oBin (int2 addO) (.t t129) (.v (.int .u32 1)), none⟩,
   ⟨(some t131), oIdxS (.v (.string ⟨⟨[48, 48, 48, 49, 48, 50, 48, 51, 48, 52, 48, 53, 48, 54, 48, 55, 48, 56, 48, 57, 49, 48, 49, 49, 49, 50, 49, 51, 49, 52, 49, 53, 49, 54, 49, 55, 49, 56, 49, 57, 50, 48, 50, 49, 50, 50, 50, 51, 50, 52, 50, 53, 50, 54, 50, 55, 50, 56, 50, 57, 51, 48, 51, 49, 51, 50, 51, 51, 51, 52, 51, 53, 51, 54, 51, 55, 51, 56, 51, 57, 52, 48, 52, 49, 52, 50, 52, 51, 52, 52, 52, 53, 52, 54, 52, 55, 52, 56, 52, 57, 53, 48, 53, 49, 53, 50, 53, 51, 53, 52, 53, 53, 53, 54, 53, 55, 53, 56, 53, 57, 54, 48, 54, 49, 54, 50, 54, 51, 54, 52, 54, 53, 54, 54, 54, 55, 54, 56, 54, 57, 55, 48, 55, 49, 55, 50, 55, 51, 55, 52, 55, 53, 55, 54, 55, 55, 55, 56, 55, 57, 56, 48, 56, 49, 56, 50, 56, 51, 56, 52, 56, 53, 56, 54, 56, 55, 56, 56, 56, 57, 57, 48, 57, 49, 57, 50, 57, 51, 57, 52, 57, 53, 57, 54, 57, 55, 57, 56, 57, 57]⟩⟩)) (.t t130), none⟩,
   ⟨(some t132), oMov (.t t14), none⟩,
   ⟨(some t133), oIdxS (.v (.string ⟨⟨[48, 48, 48, 49, 48, 50, 48, 51, 48, 52, 48, 53, 48, 54, 48, 55, 48, 56, 48, 57, 49, 48, 49, 49, 49, 50, 49, 51, 49, 52, 49, 53, 49, 54, 49, 55, 49, 56, 49, 57, 50, 48, 50, 49, 50, 50, 50, 51, 50, 52, 50, 53, 50, 54, 50, 55, 50, 56, 50, 57, 51, 48, 51, 49, 51, 50, 51, 51, 51, 52, 51, 53, 51, 54, 51, 55, 51, 56, 51, 57, 52, 48, 52, 49, 52, 50, 52, 51, 52, 52, 52, 53, 52, 54, 52, 55, 52, 56, 52, 57, 53, 48, 53, 49, 53, 50, 53, 51, 53, 52, 53, 53, 53, 54, 53, 55, 53, 56, 53, 57, 54, 48, 54, 49, 54, 50, 54, 51, 54, 52, 54, 53, 54, 54, 54, 55, 54, 56, 54, 57, 55, 48, 55, 49, 55, 50, 55, 51, 55, 52, 55, 53, 55, 54, 55, 55, 55, 56, 55, 57, 56, 48, 56, 49, 56, 50, 56, 51, 56, 52, 56, 53, 56, 54, 56, 55, 56, 56, 56, 57, 57, 48, 57, 49, 57, 50, 57, 51, 57, 52, 57, 53, 57, 54, 57, 55, 57, 56, 57, 57]⟩⟩)) (.t t132), none⟩,
   ⟨(some t134), oIdxAddrL 1 (.t t123) (.t t125), none⟩,
   ⟨none, oStore 1 (.t t134) (.t t131), none⟩,
   ⟨(some t135), oIdxAddrL 1 (.t t126) (.t t128), none⟩,
   ⟨none, oStore 1 (.t t135) (.t t133), none⟩] [(0, 1), (0, 2), (0, 3), (1, 3), (2, 3), (0, 4), (1, 4), (2, 4), (3, 4), (0, 5), (1, 5), (2, 5), (3, 5), (0, 6), (1, 6), (2, 6), (3, 6), (4, 6), (5, 6), (0, 7), (1, 7), (2, 7), (3, 7), (4, 7), (5, 7), (0, 8), (1, 8), (2, 8), (3, 8), (4, 8), (5, 8), (0, 9), (1, 9), (2, 9), (3, 9), (4, 9), (5, 9), (6, 9), (7, 9), (8, 9), (0, 10), (1, 10), (2, 10), (3, 10), (4, 10), (5, 10), (6, 10), (7, 10), (8, 10), (3, 11), (4, 11), (5, 11), (9, 11), (10, 11), (3, 12), (4, 12), (5, 12), (9, 12), (10, 12)])
 (xOps [⟨(some t136), oMov (.t t4), none⟩,
   ⟨(some t137), oBin (int2 subO) (.t t136) (.v (.int .i64 4)), none⟩,
   ⟨(some t4), oMov (.t t137), none⟩]))))))
 xSkip))
 (xSeq (xSeq (xOps [⟨(some t138), oMov (.t t4), none⟩,
   ⟨(some t139), oBin (int2 (cmpO geI)) (.t t138) (.v (.int .i64 2)), none⟩])
 (xCond (.t t139)
 (xSeq (xOps [⟨(some t140), oMov (.t t12), none⟩,
   ⟨(some t141), oBin (int2 remO) (.t t140) (.v (.int .u32 100)), none⟩,
   ⟨(some t142), oBin (int2 mulO) (.t t141) (.v (.int .u32 2)), none⟩,
   ⟨(some t16), oMov (.t t142), none⟩])
 (xSeq (xOps [⟨(some t143), oMov (.t t12), none⟩,
   ⟨(some t144), oBin (int2 quoO) (.t t143) (.v (.int .u32 100)), none⟩,
   ⟨(some t12), oMov (.t t144), none⟩])
 (xSeq (xReg [⟨(some t145), oMov (.t t0), none⟩,
   ⟨(some t146), oMov (.t t4), none⟩,
   ⟨(some t147), oBin (int2 subO) (.t t146) (.v (.int .i64 1)), none⟩,
   ⟨(some t148), oMov (.t t0), none⟩,
   ⟨(some t149), oMov (.t t4), none⟩,
   ⟨(some t150), oBin (int2 subO) (.t t149) (.v (.int .i64 2)), none⟩,
   ⟨(some t151), oMov (.t t16), none⟩,
   ⟨(some t152), oBin (int2 addO) (.t t151) (.v (.int .u32 1)), none⟩,
   ⟨(some t153), oIdxS (.v (.string ⟨⟨[48, 48, 48, 49, 48, 50, 48, 51, 48, 52, 48, 53, 48, 54, 48, 55, 48, 56, 48, 57, 49, 48, 49, 49, 49, 50, 49, 51, 49, 52, 49, 53, 49, 54, 49, 55, 49, 56, 49, 57, 50, 48, 50, 49, 50, 50, 50, 51, 50, 52, 50, 53, 50, 54, 50, 55, 50, 56, 50, 57, 51, 48, 51, 49, 51, 50, 51, 51, 51, 52, 51, 53, 51, 54, 51, 55, 51, 56, 51, 57, 52, 48, 52, 49, 52, 50, 52, 51, 52, 52, 52, 53, 52, 54, 52, 55, 52, 56, 52, 57, 53, 48, 53, 49, 53, 50, 53, 51, 53, 52, 53, 53, 53, 54, 53, 55, 53, 56, 53, 57, 54, 48, 54, 49, 54, 50, 54, 51, 54, 52, 54, 53, 54, 54, 54, 55, 54, 56, 54, 57, 55, 48, 55, 49, 55, 50, 55, 51, 55, 52, 55, 53, 55, 54, 55, 55, 55, 56, 55, 57, 56, 48, 56, 49, 56, 50, 56, 51, 56, 52, 56, 53, 56, 54, 56, 55, 56, 56, 56, 57, 57, 48, 57, 49, 57, 50, 57, 51, 57, 52, 57, 53, 57, 54, 57, 55, 57, 56, 57, 57]⟩⟩)) (.t t152), none⟩,
   ⟨(some t154), oMov (.t t16), none⟩,
   ⟨(some t155), oIdxS (.v (.string ⟨⟨[48, 48, 48, 49, 48, 50, 48, 51, 48, 52, 48, 53, 48, 54, 48, 55, 48, 56, 48, 57, 49, 48, 49, 49, 49, 50, 49, 51, 49, 52, 49, 53, 49, 54, 49, 55, 49, 56, 49, 57, 50, 48, 50, 49, 50, 50, 50, 51, 50, 52, 50, 53, 50, 54, 50, 55, 50, 56, 50, 57, 51, 48, 51, 49, 51, 50, 51, 51, 51, 52, 51, 53, 51, 54, 51, 55, 51, 56, 51, 57, 52, 48, 52, 49, 52, 50, 52, 51, 52, 52, 52, 53, 52, 54, 52, 55, 52, 56, 52, 57, 53, 48, 53, 49, 53, 50, 53, 51, 53, 52, 53, 53, 53, 54, 53, 55, 53, 56, 53, 57, 54, 48, 54, 49, 54, 50, 54, 51, 54, 52, 54, 53, 54, 54, 54, 55, 54, 56, 54, 57, 55, 48, 55, 49, 55, 50, 55, 51, 55, 52, 55, 53, 55, 54, 55, 55, 55, 56, 55, 57, 56, 48, 56, 49, 56, 50, 56, 51, 56, 52, 56, 53, 56, 54, 56, 55, 56, 56, 56, 57, 57, 48, 57, 49, 57, 50, 57, 51, 57, 52, 57, 53, 57, 54, 57, 55, 57, 56, 57, 57]⟩⟩)) (.t t154), none⟩,
   ⟨(some t156), oIdxAddrL 1 (.t t145) (.t t147), none⟩,
   ⟨none, oStore 1 (.t t156) (.t t153), none⟩,
   ⟨(some t157), oIdxAddrL 1 (.t t148) (.t t150), none⟩,
   ⟨none, oStore 1 (.t t157) (.t t155), none⟩] [(0, 1), (0, 2), (0, 3), (1, 3), (2, 3), (0, 4), (1, 4), (2, 4), (3, 4), (0, 5), (1, 5), (2, 5), (3, 5), (0, 6), (1, 6), (2, 6), (3, 6), (4, 6), (5, 6), (0, 7), (1, 7), (2, 7), (3, 7), (4, 7), (5, 7), (0, 8), (1, 8), (2, 8), (3, 8), (4, 8), (5, 8), (0, 9), (1, 9), (2, 9), (3, 9), (4, 9), (5, 9), (6, 9), (7, 9), (8, 9), (0, 10), (1, 10), (2, 10), (3, 10), (4, 10), (5, 10), (6, 10), (7, 10), (8, 10), (3, 11), (4, 11), (5, 11), (9, 11), (10, 11), (3, 12), (4, 12), (5, 12), (9, 12), (10, 12)])
 (xOps [⟨(some t158), oMov (.t t4), none⟩,
   ⟨(some t159), oBin (int2 subO) (.t t158) (.v (.int .i64 2)), none⟩,
   ⟨(some t4), oMov (.t t159), none⟩]))))
 xSkip))
 (xSeq (xOps [⟨(some t160), oMov (.t t4), none⟩,
   ⟨(some t161), oBin (int2 (cmpO gtI)) (.t t160) (.v (.int .i64 0)), none⟩])
 (xCond (.t t161)
 (xOps [⟨(some t162), oMov (.t t0), none⟩,
   ⟨(some t163), oMov (.t t12), none⟩,
   ⟨(some t164), oBin (int2 addO) (.v (.int .u32 48)) (.t t163), none⟩,
   ⟨(some t165), oConv .u8 (.t t164), none⟩,
   ⟨(some t166), oIdxAddrL 1 (.t t162) (.v (.int .i64 0)), none⟩,
   ⟨none, oStore 1 (.t t166) (.t t165), none⟩])
 xSkip)))))))⟩
theorem ok65 : cFunc Tryd.prog gl ex Tryd.f65 = some c65 := by kernel_rfl
/-- internal/strconv.formatBits -/
def c66 : AFunc := ⟨102, [.tmp t10, .tmp t11],
 (xSeq (xOps [⟨(some t10), oMov (.v (.slice none 0 0)), none⟩,
   ⟨(some t11), oMov (.v (.string ⟨⟨[]⟩⟩)), none⟩])
 (xSeq (xSeq (xOps [⟨(some t19), oMov (.t t2), none⟩,
   ⟨(some t20), oBin (int2 (cmpO ltI)) (.t t19) (.v (.int .i64 2)), none⟩,
   ⟨(some t21), oMov (.t t20), none⟩,
   ⟨(some t22), oMov (.t t2), (some (t21, false))⟩,
   ⟨(some t23), oBin (int2 (cmpO eqI)) (.t t22) (.v (.int .i64 10)), (some (t21, false))⟩,
   ⟨(some t24), oPick (.t t21) (.v (.bool true)) (.t t23), none⟩,
   ⟨(some t25), oMov (.t t24), none⟩,
   ⟨(some t26), oMov (.t t2), (some (t25, false))⟩,
   ⟨(some t27), oBin (int2 (cmpO gtI)) (.t t26) (.v (.int .i64 36)), (some (t25, false))⟩,
   ⟨(some t28), oPick (.t t25) (.v (.bool true)) (.t t27), none⟩])
 (xCond (.t t28)
 (xOps [⟨(some t29), oIface 9 (.v (.string ⟨⟨[115, 116, 114, 99, 111, 110, 118, 58, 32, 105, 108, 108, 101, 103, 97, 108, 32, 65, 112, 112, 101, 110, 100, 73, 110, 116, 47, 70, 111, 114, 109, 97, 116, 73, 110, 116, 32, 98, 97, 115, 101]⟩⟩)), none⟩,
   ⟨none, oBad, none⟩])
 xSkip))
 (xSeq (xOps [⟨(some t12), oNew (rep 65 [(.int .u8 0)]), none⟩])
 (xSeq (xOps [⟨(some t13), oMov (.v (.int .i64 65)), none⟩])
 (xSeq (xSeq (xOps [⟨(some t30), oMov (.t t3), none⟩])
 (xCond (.t t30)
 (xOps [⟨(some t31), oMov (.t t1), none⟩,
   ⟨(some t32), oNeg (.t t31), none⟩,
   ⟨(some t1), oMov (.t t32), none⟩])
 xSkip))
 (xSeq (xSeq (xOps [⟨(some t33), oMov (.t t2), none⟩,
   ⟨(some t34), oCall 70 [(.t t33)], none⟩])
 (xCond (.t t34)
 (xSeq (xOps [⟨(some t35), oMov (.t t2), none⟩,
   ⟨(some t36), oConv .u64 (.t t35), none⟩,
   ⟨(some t37), oCall 71 [(.t t36)], none⟩,
   ⟨(some t38), oConv .u64 (.t t37), none⟩,
   ⟨(some t14), oMov (.t t38), none⟩])
 (xSeq (xOps [⟨(some t39), oMov (.t t2), none⟩,
   ⟨(some t40), oConv .u64 (.t t39), none⟩,
   ⟨(some t15), oMov (.t t40), none⟩])
 (xSeq (xOps [⟨(some t41), oMov (.t t2), none⟩,
   ⟨(some t42), oConv .u64 (.t t41), none⟩,
   ⟨(some t43), oBin (int2 subO) (.t t42) (.v (.int .u64 1)), none⟩,
   ⟨(some t16), oMov (.t t43), none⟩])
 (xSeq (xBlock 0 (xLoop (xSeq (xSeq (xOps [⟨(some t44), oMov (.t t1), none⟩,
   ⟨(some t45), oMov (.t t15), none⟩,
   ⟨(some t46), oBin (int2 (cmpO geI)) (.t t44) (.t t45), none⟩])
 (xCond (.t t46)
 xSkip
 (xExit 0)))
 (xBlock 1 (xSeq (xOps [⟨(some t47), oMov (.t t13), none⟩,
   ⟨(some t48), oBin (int2 subO) (.t t47) (.v (.int .i64 1)), none⟩,
   ⟨(some t13), oMov (.t t48), none⟩])
 (xSeq (xOps [⟨(some t49), oMov (.t t13), none⟩,
   ⟨(some t50), oMov (.t t1), none⟩,
   ⟨(some t51), oMov (.t t16), none⟩,
   ⟨(some t52), oBin (int2 andO) (.t t50) (.t t51), none⟩,
   ⟨(some t53), oIdxS (.v (.string ⟨⟨[48, 49, 50, 51, 52, 53, 54, 55, 56, 57, 97, 98, 99, 100, 101, 102, 103, 104, 105, 106, 107, 108, 109, 110, 111, 112, 113, 114, 115, 116, 117, 118, 119, 120, 121, 122]⟩⟩)) (.t t52), none⟩,
   ⟨(some t54), oIdxAddrA 65 1 (.t t12) (.t t49), none⟩,
   ⟨none, oStore 1 (.t t54) (.t t53), none⟩])
 (xOps [⟨(some t55), oMov (.t t1), none⟩,
   ⟨(some t56), oMov (.t t14), none⟩,
   ⟨(some t57), oBin (sh2 shrO) (.t t55) (.t t56), none⟩,
   ⟨(some t1), oMov (.t t57), none⟩])))))))
 (xSeq (xOps [⟨(some t58), oMov (.t t13), none⟩,
   ⟨(some t59), oBin (int2 subO) (.t t58) (.v (.int .i64 1)), none⟩,
   ⟨(some t13), oMov (.t t59), none⟩])
 (xOps [⟨(some t60), oMov (.t t13), none⟩,
   ⟨(some t61), oMov (.t t1), none⟩,
   ⟨(some t62), oIdxS (.v (.string ⟨⟨[48, 49, 50, 51, 52, 53, 54, 55, 56, 57, 97, 98, 99, 100, 101, 102, 103, 104, 105, 106, 107, 108, 109, 110, 111, 112, 113, 114, 115, 116, 117, 118, 119, 120, 121, 122]⟩⟩)) (.t t61), none⟩,
   ⟨(some t63), oIdxAddrA 65 1 (.t t12) (.t t60), none⟩,
   ⟨none, oStore 1 (.t t63) (.t t62), none⟩]))))))
 (xSeq (xOps [⟨(some t64), oMov (.t t2), none⟩,
   ⟨(some t65), oConv .u64 (.t t64), none⟩,
   ⟨(some t17), oMov (.t t65), none⟩])
 (xSeq (xBlock 2 (xLoop (xSeq (xSeq (xOps [⟨(some t66), oMov (.t t1), none⟩,
   ⟨(some t67), oMov (.t t17), none⟩,
   ⟨(some t68), oBin (int2 (cmpO geI)) (.t t66) (.t t67), none⟩])
 (xCond (.t t68)
 xSkip
 (xExit 2)))
 (xBlock 3 (xSeq (xOps [⟨(some t69), oMov (.t t13), none⟩,
   ⟨(some t70), oBin (int2 subO) (.t t69) (.v (.int .i64 1)), none⟩,
   ⟨(some t13), oMov (.t t70), none⟩])
 (xSeq (xOps [⟨(some t71), oMov (.t t1), none⟩,
   ⟨(some t72), oMov (.t t17), none⟩,
   ⟨(some t73), oBin (int2 quoO) (.t t71) (.t t72), none⟩,
   ⟨(some t18), oMov (.t t73), none⟩])
 (xSeq (xOps [⟨(some t74), oMov (.t t13), none⟩,
   ⟨(some t75), oMov (.t t1), none⟩,
   ⟨(some t76), oMov (.t t18), none⟩,
   ⟨(some t77), oMov (.t t17), none⟩,
   ⟨(some t78), oBin (int2 mulO) (.t t76) (.t t77), none⟩,
   ⟨(some t79), oBin (int2 subO) (.t t75) (.t t78), none⟩,
   ⟨(some t80), oIdxS (.v (.string ⟨⟨[48, 49, 50, 51, 52, 53, 54, 55, 56, 57, 97, 98, 99, 100, 101, 102, 103, 104, 105, 106, 107, 108, 109, 110, 111, 112, 113, 114, 115, 116, 117, 118, 119, 120, 121, 122]⟩⟩)) (.t t79), none⟩,
   ⟨(some t81), oIdxAddrA 65 1 (.t t12) (.t t74), none⟩,
   ⟨none, oStore 1 (.t t81) (.t t80), none⟩])
 (xOps [⟨(some t82), oMov (.t t18), none⟩,
   ⟨(some t1), oMov (.t t82), none⟩]))))))))
 (xSeq (xOps [⟨(some t83), oMov (.t t13), none⟩,
   ⟨(some t84), oBin (int2 subO) (.t t83) (.v (.int .i64 1)), none⟩,
   ⟨(some t13), oMov (.t t84), none⟩])
 (xOps [⟨(some t85), oMov (.t t13), none⟩,
   ⟨(some t86), oMov (.t t1), none⟩,
   ⟨(some t87), oIdxS (.v (.string ⟨⟨[48, 49, 50, 51, 52, 53, 54, 55, 56, 57, 97, 98, 99, 100, 101, 102, 103, 104, 105, 106, 107, 108, 109, 110, 111, 112, 113, 114, 115, 116, 117, 118, 119, 120, 121, 122]⟩⟩)) (.t t86), none⟩,
   ⟨(some t88), oIdxAddrA 65 1 (.t t12) (.t t85), none⟩,
   ⟨none, oStore 1 (.t t88) (.t t87), none⟩]))))))
 (xSeq (xSeq (xOps [⟨(some t89), oMov (.t t3), none⟩])
 (xCond (.t t89)
 (xSeq (xOps [⟨(some t90), oMov (.t t13), none⟩,
   ⟨(some t91), oBin (int2 subO) (.t t90) (.v (.int .i64 1)), none⟩,
   ⟨(some t13), oMov (.t t91), none⟩])
 (xOps [⟨(some t92), oMov (.t t13), none⟩,
   ⟨(some t93), oIdxAddrA 65 1 (.t t12) (.t t92), none⟩,
   ⟨none, oStore 1 (.t t93) (.v (.int .u8 45)), none⟩]))
 xSkip))
 (xSeq (xSeq (xOps [⟨(some t94), oMov (.t t4), none⟩])
 (xCond (.t t94)
 (xSeq (xOps [⟨(some t95), oMov (.t t0), none⟩,
   ⟨(some t96), oMov (.t t13), none⟩,
   ⟨(some t97), oSliceA 65 1 (.t t12) (some (.t t96)) none, none⟩,
   ⟨(some t98), oAppend 1 1 (.t t95) (.t t97), none⟩,
   ⟨(some t10), oMov (.t t98), none⟩])
 xRet)
 xSkip))
 (xSeq (xOps [⟨(some t99), oMov (.t t13), none⟩,
   ⟨(some t100), oSliceA 65 1 (.t t12) (some (.t t99)) none, none⟩,
   ⟨(some t101), oBytesStr (.t t100), none⟩,
   ⟨(some t11), oMov (.t t101), none⟩])
 xRet)))))))))⟩
theorem ok66 : cFunc Tryd.prog gl ex Tryd.f66 = some c66 := by kernel_rfl
/-- internal/strconv.log10Pow2 -/
def c67 : AFunc := ⟨6, [.tmp t2],
 (xSeq (xOps [⟨(some t2), oMov (.v (.int .i64 0)), none⟩])
 (xSeq (xOps [⟨(some t3), oMov (.t t0), none⟩,
   ⟨(some t4), oBin (int2 mulO) (.t t3) (.v (.int .i64 78913)), none⟩,
   ⟨(some t5), oBin (sh2 shrO) (.t t4) (.v (.int .u64 18)), none⟩,
   ⟨(some t2), oMov (.t t5), none⟩])
 xRet))⟩
theorem ok67 : cFunc Tryd.prog gl ex Tryd.f67 = some c67 := by kernel_rfl
/-- math/bits.Len64 -/
def c68 : AFunc := ⟨25, [.tmp t2],
 (xSeq (xOps [⟨(some t2), oMov (.v (.int .i64 0)), none⟩])
 (xSeq (xSeq (xOps [⟨(some t3), oMov (.t t0), none⟩,
   ⟨(some t4), oBin (int2 (cmpO geI)) (.t t3) (.v (.int .u64 4294967296)), none⟩])
 (xCond (.t t4)
 (xSeq (xOps [⟨(some t5), oMov (.t t0), none⟩,
   ⟨(some t6), oBin (sh2 shrO) (.t t5) (.v (.int .u64 32)), none⟩,
   ⟨(some t0), oMov (.t t6), none⟩])
 (xOps [⟨(some t2), oMov (.v (.int .i64 32)), none⟩]))
 xSkip))
 (xSeq (xSeq (xOps [⟨(some t7), oMov (.t t0), none⟩,
   ⟨(some t8), oBin (int2 (cmpO geI)) (.t t7) (.v (.int .u64 65536)), none⟩])
 (xCond (.t t8)
 (xSeq (xOps [⟨(some t9), oMov (.t t0), none⟩,
   ⟨(some t10), oBin (sh2 shrO) (.t t9) (.v (.int .u64 16)), none⟩,
   ⟨(some t0), oMov (.t t10), none⟩])
 (xOps [⟨(some t11), oMov (.t t2), none⟩,
   ⟨(some t12), oBin (int2 addO) (.t t11) (.v (.int .i64 16)), none⟩,
   ⟨(some t2), oMov (.t t12), none⟩]))
 xSkip))
 (xSeq (xSeq (xOps [⟨(some t13), oMov (.t t0), none⟩,
   ⟨(some t14), oBin (int2 (cmpO geI)) (.t t13) (.v (.int .u64 256)), none⟩])
 (xCond (.t t14)
 (xSeq (xOps [⟨(some t15), oMov (.t t0), none⟩,
   ⟨(some t16), oBin (sh2 shrO) (.t t15) (.v (.int .u64 8)), none⟩,
   ⟨(some t0), oMov (.t t16), none⟩])
 (xOps [⟨(some t17), oMov (.t t2), none⟩,
   ⟨(some t18), oBin (int2 addO) (.t t17) (.v (.int .i64 8)), none⟩,
   ⟨(some t2), oMov (.t t18), none⟩]))
 xSkip))
 (xSeq (xOps [⟨(some t19), oMov (.t t2), none⟩,
   ⟨(some t20), oMov (.t t0), none⟩,
   ⟨(some t21), oConv .u8 (.t t20), none⟩,
   ⟨(some t22), oIdxS (.v (.string ⟨⟨[0, 1, 2, 2, 3, 3, 3, 3, 4, 4, 4, 4, 4, 4, 4, 4, 5, 5, 5, 5, 5, 5, 5, 5, 5, 5, 5, 5, 5, 5, 5, 5, 6, 6, 6, 6, 6, 6, 6, 6, 6, 6, 6, 6, 6, 6, 6, 6, 6, 6, 6, 6, 6, 6, 6, 6, 6, 6, 6, 6, 6, 6, 6, 6, 7, 7, 7, 7, 7, 7, 7, 7, 7, 7, 7, 7, 7, 7, 7, 7, 7, 7, 7, 7, 7, 7, 7, 7, 7, 7, 7, 7, 7, 7, 7, 7, 7, 7, 7, 7, 7, 7, 7, 7, 7, 7, 7, 7, 7, 7, 7, 7, 7, 7, 7, 7, 7, 7, 7, 7, 7, 7, 7, 7, 7, 7, 7, 7, 8, 8, 8, 8, 8, 8, 8, 8, 8, 8, 8, 8, 8, 8, 8, 8, 8, 8, 8, 8, 8, 8, 8, 8, 8, 8, 8, 8, 8, 8, 8, 8, 8, 8, 8, 8, 8, 8, 8, 8, 8, 8, 8, 8, 8, 8, 8, 8, 8, 8, 8, 8, 8, 8, 8, 8, 8, 8, 8, 8, 8, 8, 8, 8, 8, 8, 8, 8, 8, 8, 8, 8, 8, 8, 8, 8, 8, 8, 8, 8, 8, 8, 8, 8, 8, 8, 8, 8, 8, 8, 8, 8, 8, 8, 8, 8, 8, 8, 8, 8, 8, 8, 8, 8, 8, 8, 8, 8, 8, 8, 8, 8, 8, 8, 8, 8, 8, 8, 8, 8, 8, 8, 8, 8, 8, 8, 8, 8]⟩⟩)) (.t t21), none⟩,
   ⟨(some t23), oConv .i64 (.t t22), none⟩,
   ⟨(some t24), oBin (int2 addO) (.t t19) (.t t23), none⟩,
   ⟨(some t2), oMov (.t t24), none⟩])
 xRet)))))⟩
theorem ok68 : cFunc Tryd.prog gl ex Tryd.f68 = some c68 := by kernel_rfl
/-- internal/strconv.bool2[int] -/
def c69 : AFunc := ⟨4, [.tmp t2],
 (xSeq (xOps [⟨(some t2), oMov (.v (.int .i64 0)), none⟩])
 (xSeq (xSeq (xOps [⟨(some t3), oMov (.t t0), none⟩])
 (xCond (.t t3)
 (xSeq (xOps [⟨(some t2), oMov (.v (.int .i64 1)), none⟩])
 xRet)
 xSkip))
 (xSeq (xOps [⟨(some t2), oMov (.v (.int .i64 0)), none⟩])
 xRet)))⟩
theorem ok69 : cFunc Tryd.prog gl ex Tryd.f69 = some c69 := by kernel_rfl
/-- internal/strconv.isPowerOfTwo -/
def c70 : AFunc := ⟨8, [.tmp t2],
 (xSeq (xOps [⟨(some t2), oMov (.v (.bool false)), none⟩])
 (xSeq (xOps [⟨(some t3), oMov (.t t0), none⟩,
   ⟨(some t4), oMov (.t t0), none⟩,
   ⟨(some t5), oBin (int2 subO) (.t t4) (.v (.int .i64 1)), none⟩,
   ⟨(some t6), oBin (int2 andO) (.t t3) (.t t5), none⟩,
   ⟨(some t7), oBin (int2 (cmpO eqI)) (.t t6) (.v (.int .i64 0)), none⟩,
   ⟨(some t2), oMov (.t t7), none⟩])
 xRet))⟩
theorem ok70 : cFunc Tryd.prog gl ex Tryd.f70 = some c70 := by kernel_rfl
/-- math/bits.TrailingZeros -/
def c71 : AFunc := ⟨8, [.tmp t2],
 (xSeq (xOps [⟨(some t2), oMov (.v (.int .i64 0)), none⟩])
 (xSeq (xCond (.v (.bool false))
 (xSeq (xOps [⟨(some t3), oMov (.t t0), none⟩,
   ⟨(some t4), oConv .u32 (.t t3), none⟩,
   ⟨(some t5), oCall 72 [(.t t4)], none⟩,
   ⟨(some t2), oMov (.t t5), none⟩])
 xRet)
 xSkip)
 (xSeq (xOps [⟨(some t6), oMov (.t t0), none⟩,
   ⟨(some t7), oCall 73 [(.t t6)], none⟩,
   ⟨(some t2), oMov (.t t7), none⟩])
 xRet)))⟩
theorem ok71 : cFunc Tryd.prog gl ex Tryd.f71 = some c71 := by kernel_rfl
/-- math/bits.TrailingZeros32 -/
def c72 : AFunc := ⟨14, [.tmp t2],
 (xSeq (xOps [⟨(some t2), oMov (.v (.int .i64 0)), none⟩])
 (xSeq (xSeq (xOps [⟨(some t3), oMov (.t t0), none⟩,
   ⟨(some t4), oBin (int2 (cmpO eqI)) (.t t3) (.v (.int .u32 0)), none⟩])
 (xCond (.t t4)
 (xSeq (xOps [⟨(some t2), oMov (.v (.int .i64 32)), none⟩])
 xRet)
 xSkip))
 (xSeq (xOps [⟨(some t5), oMov (.t t0), none⟩,
   ⟨(some t6), oMov (.t t0), none⟩,
   ⟨(some t7), oNeg (.t t6), none⟩,
   ⟨(some t8), oBin (int2 andO) (.t t5) (.t t7), none⟩,
   ⟨(some t9), oBin (int2 mulO) (.t t8) (.v (.int .u32 125613361)), none⟩,
   ⟨(some t10), oBin (sh2 shrO) (.t t9) (.v (.int .u64 27)), none⟩,
   ⟨(some t11), oBad, none⟩,
   ⟨(some t12), oLoad1 (.t t11), none⟩,
   ⟨(some t13), oConv .i64 (.t t12), none⟩,
   ⟨(some t2), oMov (.t t13), none⟩])
 xRet)))⟩
theorem ok72 : cFunc Tryd.prog gl ex Tryd.f72 = some c72 := by kernel_rfl
/-- math/bits.TrailingZeros64 -/
def c73 : AFunc := ⟨14, [.tmp t2],
 (xSeq (xOps [⟨(some t2), oMov (.v (.int .i64 0)), none⟩])
 (xSeq (xSeq (xOps [⟨(some t3), oMov (.t t0), none⟩,
   ⟨(some t4), oBin (int2 (cmpO eqI)) (.t t3) (.v (.int .u64 0)), none⟩])
 (xCond (.t t4)
 (xSeq (xOps [⟨(some t2), oMov (.v (.int .i64 64)), none⟩])
 xRet)
 xSkip))
 (xSeq (xOps [⟨(some t5), oMov (.t t0), none⟩,
   ⟨(some t6), oMov (.t t0), none⟩,
   ⟨(some t7), oNeg (.t t6), none⟩,
   ⟨(some t8), oBin (int2 andO) (.t t5) (.t t7), none⟩,
   ⟨(some t9), oBin (int2 mulO) (.t t8) (.v (.int .u64 285870213051353865)), none⟩,
   ⟨(some t10), oBin (sh2 shrO) (.t t9) (.v (.int .u64 58)), none⟩,
   ⟨(some t11), oBad, none⟩,
   ⟨(some t12), oLoad1 (.t t11), none⟩,
   ⟨(some t13), oConv .i64 (.t t12), none⟩,
   ⟨(some t2), oMov (.t t13), none⟩])
 xRet)))⟩
theorem ok73 : cFunc Tryd.prog gl ex Tryd.f73 = some c73 := by kernel_rfl
end
end Go.Proofs.YtgflahchodepkaaDoor.AbsCodeK
