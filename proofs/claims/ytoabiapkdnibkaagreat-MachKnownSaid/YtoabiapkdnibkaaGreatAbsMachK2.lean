import Derived.Test.YtoabiapkdnibkaaGreatRows
import Derived.Test.YtoabiapkdnibkaaGreatAbsMachKT
import Derived.KernelRfl
namespace Go.Proofs.YtoabiapkdnibkaaGreat.AbsMachK
open Go Go.Abs Go.Proofs
set_option maxRecDepth 100000
set_option linter.unusedVariables false
noncomputable section
/-- publican/mean.Fit -/
def c61 : AFunc := ⟨39, [.tmp t4],
 (xSeq (xOps [⟨(some t4), oMov (.v (.bool false)), none, none⟩])
 (xSeq (xSeq (xOps [⟨(some t5), oMov (.t t0), none, none⟩])
 (xBlock 0 (xSeq (xOps [⟨(some t7), oBin (int2 (cmpO eqI)) (.t t5) (.v (.int .i64 1)), none, none⟩,
   ⟨(some t6), oMov (.t t7), none, none⟩])
 (xCond (.t t6)
 (xSeq (xOps [⟨(some t8), oMov (.t t1), none, none⟩,
   ⟨(some t9), oBin (int2 (cmpO eqI)) (.t t8) (.v (.int .i64 0)), none, none⟩,
   ⟨(some t10), oMov (.t t9), none, none⟩,
   ⟨(some t11), oMov (.t t1), (some (t10, false)), none⟩,
   ⟨(some t12), oBin (int2 (cmpO eqI)) (.t t11) (.v (.int .i64 1)), (some (t10, false)), none⟩,
   ⟨(some t13), oPick (.t t10) (.v (.bool true)) (.t t12), none, none⟩,
   ⟨(some t4), oMov (.t t13), none, none⟩])
 xRet)
 (xSeq (xSeq (xOps [⟨(some t15), oBin (int2 (cmpO eqI)) (.t t5) (.v (.int .i64 2)), none, none⟩,
   ⟨(some t14), oMov (.t t15), none, none⟩])
 (xCond (.t t14)
 xSkip
 (xOps [⟨(some t16), oBin (int2 (cmpO eqI)) (.t t5) (.v (.int .i64 3)), none, none⟩,
   ⟨(some t14), oMov (.t t16), none, none⟩])))
 (xCond (.t t14)
 (xSeq (xOps [⟨(some t17), oMov (.t t1), none, none⟩,
   ⟨(some t18), oBin (int2 (cmpO geI)) (.t t17) (.v (.int .i64 (-4503599627370496))), none, none⟩,
   ⟨(some t19), oMov (.t t18), none, none⟩,
   ⟨(some t20), oMov (.t t1), (some (t19, true)), none⟩,
   ⟨(some t21), oBin (int2 (cmpO leI)) (.t t20) (.v (.int .i64 4503599627370496)), (some (t19, true)), none⟩,
   ⟨(some t22), oPick (.t t19) (.t t21) (.v (.bool false)), none, none⟩,
   ⟨(some t4), oMov (.t t22), none, none⟩])
 xRet)
 (xSeq (xOps [⟨(some t24), oBin (int2 (cmpO eqI)) (.t t5) (.v (.int .i64 4)), none, none⟩,
   ⟨(some t23), oMov (.t t24), none, none⟩])
 (xCond (.t t23)
 (xSeq (xOps [⟨(some t25), oMov (.t t1), none, none⟩,
   ⟨(some t26), oBin (int2 (cmpO geI)) (.t t25) (.v (.int .i64 (-1000000000000))), none, none⟩,
   ⟨(some t27), oMov (.t t26), none, none⟩,
   ⟨(some t28), oMov (.t t1), (some (t27, true)), none⟩,
   ⟨(some t29), oBin (int2 (cmpO leI)) (.t t28) (.v (.int .i64 1000000000000)), (some (t27, true)), none⟩,
   ⟨(some t30), oPick (.t t27) (.t t29) (.v (.bool false)), none, none⟩,
   ⟨(some t4), oMov (.t t30), none, none⟩])
 xRet)
 (xSeq (xOps [⟨(some t32), oBin (int2 (cmpO eqI)) (.t t5) (.v (.int .i64 5)), none, none⟩,
   ⟨(some t31), oMov (.t t32), none, none⟩])
 (xCond (.t t31)
 (xSeq (xOps [⟨(some t33), oMov (.t t1), none, none⟩,
   ⟨(some t34), oBin (int2 (cmpO geI)) (.t t33) (.v (.int .i64 0)), none, none⟩,
   ⟨(some t35), oMov (.t t34), none, none⟩,
   ⟨(some t36), oMov (.t t1), (some (t35, true)), none⟩,
   ⟨(some t37), oBin (int2 (cmpO leI)) (.t t36) (.v (.int .i64 109572)), (some (t35, true)), none⟩,
   ⟨(some t38), oPick (.t t35) (.t t37) (.v (.bool false)), none, none⟩,
   ⟨(some t4), oMov (.t t38), none, none⟩])
 xRet)
 xSkip))))))))))
 (xSeq (xOps [⟨(some t4), oMov (.v (.bool false)), none, none⟩])
 xRet)))⟩
theorem ok61 : cFunc Tryz.prog gl ex Tryz.f61 = some c61 := by kernel_rfl
/-- publican/mean.FitsKind$1 -/
def c62 : AFunc := ⟨6, [.tmp t2],
 (xSeq (xOps [⟨(some t2), oMov (.v (.bool false)), none, none⟩])
 (xSeq (xOps [⟨(some t3), oMov (.t t0), none, none⟩,
   ⟨(some t4), oCall 61 [(.v (.int .i64 3)), (.t t3)], none, none⟩,
   ⟨(some t5), oNot (.t t4), none, none⟩,
   ⟨(some t2), oMov (.t t5), none, none⟩])
 xRet))⟩
theorem ok62 : cFunc Tryz.prog gl ex Tryz.f62 = some c62 := by kernel_rfl
/-- slices.ContainsFunc[[]int64,int64] -/
def c63 : AFunc := ⟨9, [.tmp t4],
 (xSeq (xOps [⟨(some t4), oMov (.v (.bool false)), none, none⟩])
 (xSeq (xOps [⟨(some t5), oMov (.t t0), none, none⟩,
   ⟨(some t6), oMov (.t t1), none, none⟩,
   ⟨(some t7), oCall 125 [(.t t5), (.t t6)], none, none⟩,
   ⟨(some t8), oBin (int2 (cmpO geI)) (.t t7) (.v (.int .i64 0)), none, none⟩,
   ⟨(some t4), oMov (.t t8), none, none⟩])
 xRet))⟩
theorem ok63 : cFunc Tryz.prog gl ex Tryz.f63 = some c63 := by kernel_rfl
/-- publican/mach.operator -/
def c64 : AFunc := ⟨27, [.tmp t2, .tmp t3],
 (xSeq (xOps [⟨(some t2), oMov (.v (.string ⟨⟨[]⟩⟩)), none, none⟩,
   ⟨(some t3), oMov (.v (.int .i64 0)), none, none⟩])
 (xSeq (xSeq (xOps [⟨(some t4), oMov (.t t0), none, none⟩])
 (xBlock 0 (xSeq (xOps [⟨(some t6), oBin (int2 (cmpO eqI)) (.t t4) (.v (.int .i64 4)), none, none⟩,
   ⟨(some t5), oMov (.t t6), none, none⟩])
 (xCond (.t t5)
 (xSeq (xOps [⟨(some t2), oMov (.v (.string ⟨⟨[43]⟩⟩)), none, none⟩,
   ⟨(some t3), oMov (.v (.int .i64 2)), none, none⟩])
 xRet)
 (xSeq (xOps [⟨(some t8), oBin (int2 (cmpO eqI)) (.t t4) (.v (.int .i64 5)), none, none⟩,
   ⟨(some t7), oMov (.t t8), none, none⟩])
 (xCond (.t t7)
 (xSeq (xOps [⟨(some t2), oMov (.v (.string ⟨⟨[45]⟩⟩)), none, none⟩,
   ⟨(some t3), oMov (.v (.int .i64 2)), none, none⟩])
 xRet)
 (xSeq (xOps [⟨(some t10), oBin (int2 (cmpO eqI)) (.t t4) (.v (.int .i64 6)), none, none⟩,
   ⟨(some t9), oMov (.t t10), none, none⟩])
 (xCond (.t t9)
 (xSeq (xOps [⟨(some t2), oMov (.v (.string ⟨⟨[42]⟩⟩)), none, none⟩,
   ⟨(some t3), oMov (.v (.int .i64 2)), none, none⟩])
 xRet)
 (xSeq (xOps [⟨(some t12), oBin (int2 (cmpO eqI)) (.t t4) (.v (.int .i64 7)), none, none⟩,
   ⟨(some t11), oMov (.t t12), none, none⟩])
 (xCond (.t t11)
 (xSeq (xOps [⟨(some t2), oMov (.v (.string ⟨⟨[47]⟩⟩)), none, none⟩,
   ⟨(some t3), oMov (.v (.int .i64 2)), none, none⟩])
 xRet)
 (xSeq (xOps [⟨(some t14), oBin (int2 (cmpO eqI)) (.t t4) (.v (.int .i64 10)), none, none⟩,
   ⟨(some t13), oMov (.t t14), none, none⟩])
 (xCond (.t t13)
 (xSeq (xOps [⟨(some t2), oMov (.v (.string ⟨⟨[60]⟩⟩)), none, none⟩,
   ⟨(some t3), oMov (.v (.int .i64 2)), none, none⟩])
 xRet)
 (xSeq (xOps [⟨(some t16), oBin (int2 (cmpO eqI)) (.t t4) (.v (.int .i64 11)), none, none⟩,
   ⟨(some t15), oMov (.t t16), none, none⟩])
 (xCond (.t t15)
 (xSeq (xOps [⟨(some t2), oMov (.v (.string ⟨⟨[60, 61]⟩⟩)), none, none⟩,
   ⟨(some t3), oMov (.v (.int .i64 2)), none, none⟩])
 xRet)
 (xSeq (xOps [⟨(some t18), oBin (int2 (cmpO eqI)) (.t t4) (.v (.int .i64 12)), none, none⟩,
   ⟨(some t17), oMov (.t t18), none, none⟩])
 (xCond (.t t17)
 (xSeq (xOps [⟨(some t2), oMov (.v (.string ⟨⟨[61, 61]⟩⟩)), none, none⟩,
   ⟨(some t3), oMov (.v (.int .i64 2)), none, none⟩])
 xRet)
 (xSeq (xOps [⟨(some t20), oBin (int2 (cmpO eqI)) (.t t4) (.v (.int .i64 13)), none, none⟩,
   ⟨(some t19), oMov (.t t20), none, none⟩])
 (xCond (.t t19)
 (xSeq (xOps [⟨(some t2), oMov (.v (.string ⟨⟨[109, 105, 110]⟩⟩)), none, none⟩,
   ⟨(some t3), oMov (.v (.int .i64 2)), none, none⟩])
 xRet)
 (xSeq (xOps [⟨(some t22), oBin (int2 (cmpO eqI)) (.t t4) (.v (.int .i64 14)), none, none⟩,
   ⟨(some t21), oMov (.t t22), none, none⟩])
 (xCond (.t t21)
 (xSeq (xOps [⟨(some t2), oMov (.v (.string ⟨⟨[109, 97, 120]⟩⟩)), none, none⟩,
   ⟨(some t3), oMov (.v (.int .i64 2)), none, none⟩])
 xRet)
 (xSeq (xOps [⟨(some t24), oBin (int2 (cmpO eqI)) (.t t4) (.v (.int .i64 8)), none, none⟩,
   ⟨(some t23), oMov (.t t24), none, none⟩])
 (xCond (.t t23)
 (xSeq (xOps [⟨(some t2), oMov (.v (.string ⟨⟨[110, 101, 103]⟩⟩)), none, none⟩,
   ⟨(some t3), oMov (.v (.int .i64 1)), none, none⟩])
 xRet)
 (xSeq (xOps [⟨(some t26), oBin (int2 (cmpO eqI)) (.t t4) (.v (.int .i64 9)), none, none⟩,
   ⟨(some t25), oMov (.t t26), none, none⟩])
 (xCond (.t t25)
 (xSeq (xOps [⟨(some t2), oMov (.v (.string ⟨⟨[110, 111, 116]⟩⟩)), none, none⟩,
   ⟨(some t3), oMov (.v (.int .i64 1)), none, none⟩])
 xRet)
 xSkip))))))))))))))))))))))))
 (xSeq (xOps [⟨(some t2), oMov (.v (.string ⟨⟨[]⟩⟩)), none, none⟩,
   ⟨(some t3), oMov (.v (.int .i64 0)), none, none⟩])
 xRet)))⟩
theorem ok64 : cFunc Tryz.prog gl ex Tryz.f64 = some c64 := by kernel_rfl
/-- (*publican/mach.machine).op -/
def c65 : AFunc := ⟨30, [.tmp t6],
 (xSeq (xOps [⟨(some t6), oMov (.v (.int .i64 0)), none, none⟩])
 (xSeq (xOps [⟨(some t7), oNew [(.int .i64 0), (.int .i64 0), (.slice none 0 0)], none, none⟩,
   ⟨(some t8), oNew [(.int .i64 0), (.int .i64 0), (.slice none 0 0)], none, none⟩])
 (xSeq (xSeq (xOps [⟨(some t11), oMov (.t t2), none, none⟩,
   ⟨(some t12), oBin (int2 (cmpO eqI)) (.t t11) (.v (.int .i64 2)), none, none⟩])
 (xCond (.t t12)
 (xOps [⟨(some t13), oMov (.t t0), none, none⟩,
   ⟨(some t14), oCall 67 [(.t t13)], none, none⟩,
   ⟨none, oStore 3 (.t t8) (.t t14), none, none⟩])
 xSkip))
 (xSeq (xOps [⟨(some t15), oMov (.t t0), none, none⟩,
   ⟨(some t16), oCall 67 [(.t t15)], none, none⟩,
   ⟨none, oStore 3 (.t t7) (.t t16), none, none⟩])
 (xSeq (xOps [⟨(some t18), oMov (.t t1), none, none⟩,
   ⟨(some t19), oLoadN 3 (.t t7), none, none⟩,
   ⟨(some t20), oLoadN 3 (.t t8), none, none⟩,
   ⟨(some t21), oCall 126 [(.t t18), (.t t19), (.t t20)], none, none⟩,
   ⟨(some t17), oMov (.t t21), none, none⟩,
   ⟨(some t22), oExtract (.t t17) 0, none, none⟩,
   ⟨(some t23), oExtract (.t t17) 1, none, none⟩,
   ⟨(some t9), oNew [(.int .i64 0), (.int .i64 0), (.slice none 0 0)], none, none⟩,
   ⟨none, oStore 3 (.t t9) (.t t22), none, none⟩,
   ⟨(some t10), oMov (.t t23), none, none⟩])
 (xSeq (xSeq (xOps [⟨(some t24), oMov (.t t10), none, none⟩,
   ⟨(some t25), oBin (int2 (cmpO eqI)) (.t t24) (.v (.int .i64 0)), none, none⟩])
 (xCond (.t t25)
 (xOps [⟨(some t26), oMov (.t t0), none, none⟩,
   ⟨(some t27), oLoadN 3 (.t t9), none, none⟩,
   ⟨(some t28), oCall 66 [(.t t26), (.t t27)], none, none⟩])
 xSkip))
 (xSeq (xOps [⟨(some t29), oMov (.t t10), none, none⟩,
   ⟨(some t6), oMov (.t t29), none, none⟩])
 xRet)))))))⟩
theorem ok65 : cFunc Tryz.prog gl ex Tryz.f65 = some c65 := by kernel_rfl
/-- (*publican/mach.machine).push -/
def c66 : AFunc := ⟨14, [],
 (xSeq (xOps [⟨(some t3), oBox (.t t1), none, none⟩])
 (xReg [⟨(some t4), oMov (.t t0), none, none⟩,
   ⟨(some t5), oMov (.t t0), none, none⟩,
   ⟨(some t6), oNilCheck (.t t5), none, none⟩,
   ⟨(some t7), oFieldAddr 8 (.t t6), none, none⟩,
   ⟨(some t8), oLoad1 (.t t7), none, (some (.t t7))⟩,
   ⟨(some t9), oLoadN 3 (.t t3), none, none⟩,
   ⟨(some t10), oBuildSlice 1 [(.int .i64 0), (.int .i64 0), (.slice none 0 0)] [(0, 3, (.t t9))], none, none⟩,
   ⟨(some t11), oAppend 3 40 (.t t8) (.t t10), none, none⟩,
   ⟨(some t12), oNilCheck (.t t4), none, none⟩,
   ⟨(some t13), oFieldAddr 8 (.t t12), none, none⟩,
   ⟨none, oStore 1 (.t t13) (.t t11), none, none⟩] [(0, 1), (0, 2), (0, 3), (0, 4), (0, 5), (1, 5), (2, 5), (3, 5), (4, 5), (0, 6), (1, 6), (2, 6), (3, 6), (4, 6), (0, 7)]))⟩
theorem ok66 : cFunc Tryz.prog gl ex Tryz.f66 = some c66 := by kernel_rfl
/-- (*publican/mach.machine).pop -/
def c67 : AFunc := ⟨28, [.cell t2 (some 3)],
 (xSeq (xOps [⟨(some t2), oNew [(.int .i64 0), (.int .i64 0), (.slice none 0 0)], none, none⟩])
 (xSeq (xOps [⟨(some t5), oMov (.t t0), none, none⟩,
   ⟨(some t6), oNilCheck (.t t5), none, none⟩,
   ⟨(some t7), oFieldAddr 8 (.t t6), none, none⟩,
   ⟨(some t8), oLoad1 (.t t7), none, (some (.t t7))⟩,
   ⟨(some t9), oLenL (.t t8), none, none⟩,
   ⟨(some t10), oBin (int2 subO) (.t t9) (.v (.int .i64 1)), none, none⟩,
   ⟨(some t3), oMov (.t t10), none, none⟩])
 (xSeq (xOps [⟨(some t11), oMov (.t t0), none, none⟩,
   ⟨(some t12), oNilCheck (.t t11), none, none⟩,
   ⟨(some t13), oFieldAddr 8 (.t t12), none, none⟩,
   ⟨(some t14), oLoad1 (.t t13), none, (some (.t t13))⟩,
   ⟨(some t15), oMov (.t t3), none, none⟩,
   ⟨(some t16), oIdxAddrL 3 (.t t14) (.t t15), none, none⟩,
   ⟨(some t17), oLoadN 3 (.t t16), none, none⟩,
   ⟨(some t4), oNew [(.int .i64 0), (.int .i64 0), (.slice none 0 0)], none, none⟩,
   ⟨none, oStore 3 (.t t4) (.t t17), none, none⟩])
 (xSeq (xOps [⟨(some t18), oMov (.t t0), none, none⟩,
   ⟨(some t19), oMov (.t t0), none, none⟩,
   ⟨(some t20), oNilCheck (.t t19), none, none⟩,
   ⟨(some t21), oFieldAddr 8 (.t t20), none, none⟩,
   ⟨(some t22), oLoad1 (.t t21), none, (some (.t t21))⟩,
   ⟨(some t23), oMov (.t t3), none, none⟩,
   ⟨(some t24), oSliceL 3 (.t t22) none (some (.t t23)) none, none, none⟩,
   ⟨(some t25), oNilCheck (.t t18), none, none⟩,
   ⟨(some t26), oFieldAddr 8 (.t t25), none, none⟩,
   ⟨none, oStore 1 (.t t26) (.t t24), none, none⟩])
 (xSeq (xOps [⟨(some t27), oLoadN 3 (.t t4), none, none⟩,
   ⟨none, oStore 3 (.t t2) (.t t27), none, none⟩])
 xRet)))))⟩
theorem ok67 : cFunc Tryz.prog gl ex Tryz.f67 = some c67 := by kernel_rfl
/-- publican/mach.look -/
def c68 : AFunc := ⟨19, [.cell t4 (some 3)],
 (xSeq (xOps [⟨(some t2), oBox (.t t0), none, none⟩,
   ⟨(some t3), oBox (.t t1), none, none⟩,
   ⟨(some t4), oNew [(.int .i64 0), (.int .i64 0), (.slice none 0 0)], none, none⟩])
 (xSeq (xOps [⟨(some t6), oFieldAddr 2 (.t t2), none, none⟩,
   ⟨(some t7), oLoad1 (.t t6), none, (some (.t t6))⟩,
   ⟨(some t8), oLenL (.t t7), none, none⟩,
   ⟨(some t9), oFunc (.func 128) [] [(.t t2), (.t t3)], none, none⟩,
   ⟨(some t10), oCall 127 [(.t t8), (.t t9)], none, none⟩,
   ⟨(some t5), oMov (.t t10), none, none⟩])
 (xSeq (xReg [⟨(some t11), oFieldAddr 1 (.t t2), none, none⟩,
   ⟨(some t12), oLoad1 (.t t11), none, (some (.t t11))⟩,
   ⟨(some t13), oFieldAddr 3 (.t t2), none, none⟩,
   ⟨(some t14), oLoad1 (.t t13), none, (some (.t t13))⟩,
   ⟨(some t15), oMov (.t t5), none, none⟩,
   ⟨(some t16), oIdxAddrL 1 (.t t14) (.t t15), none, none⟩,
   ⟨(some t17), oLoad1 (.t t16), none, (some (.t t16))⟩,
   ⟨(some t18), oBuild [(.int .i64 0), (.int .i64 0), (.slice none 0 0)] [(0, 1, (.t t12)), (1, 1, (.t t17))], none, none⟩,
   ⟨none, oStore 3 (.t t4) (.t t18), none, none⟩] [(0, 2), (1, 2), (0, 3), (1, 3), (0, 4), (1, 4), (2, 4), (3, 4), (0, 5), (1, 5), (0, 6), (1, 6)])
 xRet)))⟩
theorem ok68 : cFunc Tryz.prog gl ex Tryz.f68 = some c68 := by kernel_rfl
/-- (*publican/mach.machine).turn -/
def c69 : AFunc := ⟨36, [],
 (xSeq (xOps [⟨(some t4), oBox (.t t1), none, none⟩])
 (xReg [⟨(some t6), oMov (.t t0), none, none⟩,
   ⟨(some t7), oNilCheck (.t t6), none, none⟩,
   ⟨(some t8), oFieldAddr 9 (.t t7), none, none⟩,
   ⟨(some t9), oLoad1 (.t t8), none, (some (.t t8))⟩,
   ⟨(some t10), oFieldAddr 2 (.t t4), none, none⟩,
   ⟨(some t11), oLoad1 (.t t10), none, (some (.t t10))⟩,
   ⟨(some t12), oMov (.t t0), none, none⟩,
   ⟨(some t13), oNilCheck (.t t12), none, none⟩,
   ⟨(some t14), oFieldAddr 9 (.t t13), none, none⟩,
   ⟨(some t15), oLoad1 (.t t14), none, (some (.t t14))⟩,
   ⟨(some t16), oFieldAddr 2 (.t t4), none, none⟩,
   ⟨(some t17), oLoad1 (.t t16), none, (some (.t t16))⟩,
   ⟨(some t18), oBin (int2 addO) (.t t17) (.v (.int .i64 1)), none, none⟩,
   ⟨(some t19), oMov (.t t2), none, none⟩,
   ⟨(some t20), oMov (.t t0), none, none⟩,
   ⟨(some t21), oNilCheck (.t t20), none, none⟩,
   ⟨(some t22), oFieldAddr 7 (.t t21), none, none⟩,
   ⟨(some t23), oLoad1 (.t t22), none, (some (.t t22))⟩,
   ⟨(some t24), oFieldAddr 1 (.t t4), none, none⟩,
   ⟨(some t25), oLoad1 (.t t24), none, (some (.t t24))⟩,
   ⟨(some t26), oIdxAddrL 3 (.t t23) (.t t25), none, none⟩,
   ⟨(some t27), oFieldAddr 2 (.t t26), none, none⟩,
   ⟨(some t28), oLoad1 (.t t27), none, (some (.t t27))⟩,
   ⟨(some t29), oMov (.t t2), none, none⟩,
   ⟨(some t30), oIdxAddrL 1 (.t t28) (.t t29), none, none⟩,
   ⟨(some t31), oLoad1 (.t t30), none, (some (.t t30))⟩,
   ⟨(some t32), oIdxAddrL 3 (.t t9) (.t t11), none, none⟩,
   ⟨(some t33), oFieldAddr 1 (.t t32), none, none⟩,
   ⟨none, oStore 1 (.t t33) (.t t19), none, none⟩,
   ⟨(some t34), oIdxAddrL 3 (.t t15) (.t t18), none, none⟩,
   ⟨(some t35), oFieldAddr 1 (.t t34), none, none⟩,
   ⟨none, oStore 1 (.t t35) (.t t31), none, none⟩] [(0, 4), (1, 4), (2, 4), (3, 4), (0, 5), (1, 5), (2, 5), (3, 5), (0, 6), (1, 6), (2, 6), (3, 6), (4, 6), (5, 6), (0, 7), (1, 7), (2, 7), (3, 7), (4, 7), (5, 7), (0, 8), (1, 8), (2, 8), (3, 8), (4, 8), (5, 8), (0, 9), (1, 9), (2, 9), (3, 9), (4, 9), (5, 9), (0, 10), (1, 10), (2, 10), (3, 10), (4, 10), (5, 10), (6, 10), (7, 10), (8, 10), (9, 10), (0, 11), (1, 11), (2, 11), (3, 11), (4, 11), (5, 11), (6, 11), (7, 11), (8, 11), (9, 11), (0, 12), (1, 12), (2, 12), (3, 12), (4, 12), (5, 12), (6, 12), (7, 12), (8, 12), (9, 12), (0, 13), (1, 13), (2, 13), (3, 13), (4, 13), (5, 13), (6, 13), (7, 13), (8, 13), (9, 13), (10, 13), (11, 13), (12, 13), (0, 14), (1, 14), (2, 14), (3, 14), (4, 14), (5, 14), (6, 14), (7, 14), (8, 14), (9, 14), (10, 14), (11, 14), (12, 14), (13, 14), (0, 15), (1, 15), (2, 15), (3, 15), (4, 15), (5, 15), (6, 15), (7, 15), (8, 15), (9, 15), (10, 15), (11, 15), (12, 15), (13, 15), (0, 16), (1, 16), (2, 16), (3, 16), (4, 16), (5, 16), (6, 16), (7, 16), (8, 16), (9, 16), (10, 16), (11, 16), (12, 16), (13, 16), (0, 17), (1, 17), (2, 17), (3, 17), (4, 17), (5, 17), (6, 17), (7, 17), (8, 17), (9, 17), (10, 17), (11, 17), (12, 17), (13, 17), (0, 18), (1, 18), (2, 18), (3, 18), (4, 18), (5, 18), (6, 18), (7, 18), (8, 18), (9, 18), (10, 18), (11, 18), (12, 18), (13, 18), (14, 18), (15, 18), (16, 18), (17, 18), (0, 19), (1, 19), (2, 19), (3, 19), (4, 19), (5, 19), (6, 19), (7, 19), (8, 19), (9, 19), (10, 19), (11, 19), (12, 19), (13, 19), (14, 19), (15, 19), (16, 19), (17, 19), (0, 20), (1, 20), (2, 20), (3, 20), (4, 20), (5, 20), (6, 20), (7, 20), (8, 20), (9, 20), (10, 20), (11, 20), (12, 20), (13, 20), (0, 21), (1, 21), (2, 21), (3, 21), (4, 21), (5, 21), (6, 21), (7, 21), (8, 21), (9, 21), (10, 21), (11, 21), (12, 21), (13, 21), (0, 22), (1, 22), (2, 22), (3, 22), (4, 22), (5, 22), (6, 22), (7, 22), (8, 22), (9, 22), (10, 22), (11, 22), (12, 22), (13, 22), (0, 23), (1, 23), (2, 23), (3, 23), (4, 23), (5, 23), (6, 23), (7, 23), (8, 23), (9, 23), (10, 23), (11, 23), (12, 23), (13, 23), (14, 23), (15, 23), (16, 23), (17, 23), (18, 23), (19, 23), (20, 23), (21, 23), (22, 23), (0, 24), (1, 24), (2, 24), (3, 24), (4, 24), (5, 24), (6, 24), (7, 24), (8, 24), (9, 24), (10, 24), (11, 24), (12, 24), (13, 24), (0, 25), (1, 25), (2, 25), (3, 25), (4, 25), (5, 25), (6, 25), (7, 25), (8, 25), (9, 25), (10, 25), (11, 25), (12, 25), (13, 25), (10, 26), (11, 26), (12, 26), (10, 27), (11, 27), (12, 27), (10, 28), (11, 28), (12, 28)]))⟩
theorem ok69 : cFunc Tryz.prog gl ex Tryz.f69 = some c69 := by kernel_rfl
/-- slices.Equal[[]byte,byte] -/
def c70 : AFunc := ⟨26, [.tmp t4],
 (xSeq (xOps [⟨(some t4), oMov (.v (.bool false)), none, none⟩])
 (xSeq (xSeq (xOps [⟨(some t6), oMov (.t t0), none, none⟩,
   ⟨(some t7), oLenL (.t t6), none, none⟩,
   ⟨(some t8), oMov (.t t1), none, none⟩,
   ⟨(some t9), oLenL (.t t8), none, none⟩,
   ⟨(some t10), oBin (int2 (cmpO neI)) (.t t7) (.t t9), none, none⟩])
 (xCond (.t t10)
 (xSeq (xOps [⟨(some t4), oMov (.v (.bool false)), none, none⟩])
 xRet)
 xSkip))
 (xSeq (xSeq (xOps [⟨(some t11), oMov (.t t0), none, none⟩,
   ⟨(some t12), oLenL (.t t11), none, none⟩,
   ⟨(some t13), oMov (.v (.int .i64 0)), none, none⟩])
 (xBlock 0 (xLoop (xSeq (xOps [⟨(some t14), oBin (int2 (cmpO ltI)) (.t t13) (.t t12), none, none⟩])
 (xSeq (xCond (.t t14)
 xSkip
 (xExit 0))
 (xSeq (xBlock 1 (xSeq (xOps [⟨(some t15), oMov (.t t13), none, none⟩,
   ⟨(some t5), oMov (.t t15), none, none⟩])
 (xSeq (xReg [⟨(some t16), oMov (.t t0), none, none⟩,
   ⟨(some t17), oMov (.t t5), none, none⟩,
   ⟨(some t18), oIdxAddrL 1 (.t t16) (.t t17), none, none⟩,
   ⟨(some t19), oLoad1 (.t t18), none, (some (.t t18))⟩,
   ⟨(some t20), oMov (.t t1), none, none⟩,
   ⟨(some t21), oMov (.t t5), none, none⟩,
   ⟨(some t22), oIdxAddrL 1 (.t t20) (.t t21), none, none⟩,
   ⟨(some t23), oLoad1 (.t t22), none, (some (.t t22))⟩,
   ⟨(some t24), oBin (int2 (cmpO neI)) (.t t19) (.t t23), none, none⟩] [(0, 1), (0, 4), (1, 4), (2, 4), (3, 4), (0, 5), (1, 5), (2, 5), (3, 5), (4, 5), (0, 6), (1, 6), (2, 6), (3, 6), (0, 7), (1, 7), (2, 7), (3, 7)])
 (xCond (.t t24)
 (xSeq (xOps [⟨(some t4), oMov (.v (.bool false)), none, none⟩])
 xRet)
 xSkip))))
 (xOps [⟨(some t25), oBin (int2 addO) (.t t13) (.v (.int .i64 1)), none, none⟩,
   ⟨(some t13), oMov (.t t25), none, none⟩])))))))
 (xSeq (xOps [⟨(some t4), oMov (.v (.bool true)), none, none⟩])
 xRet))))⟩
theorem ok70 : cFunc Tryz.prog gl ex Tryz.f70 = some c70 := by kernel_rfl
/-- publican/pack.Read -/
def c71 : AFunc := ⟨7, [.tmp t2],
 (xSeq (xOps [⟨(some t2), oMov (.v (.pointer none)), none, none⟩])
 (xSeq (xOps [⟨(some t3), oMov (.t t0), none, none⟩,
   ⟨(some t4), oCall 129 [(.t t3)], none, none⟩,
   ⟨(some t5), oBuild [(.slice none 0 0), (.bool false)] [(0, 1, (.t t4))], none, none⟩,
   ⟨(some t6), oBox (.t t5), none, none⟩,
   ⟨(some t2), oMov (.t t6), none, none⟩])
 xRet))⟩
theorem ok71 : cFunc Tryz.prog gl ex Tryz.f71 = some c71 := by kernel_rfl
/-- publican/code.Decode$1 -/
def c72 : AFunc := ⟨4, [.tmp t1],
 (xSeq (xOps [⟨(some t1), oMov (.v (.int .i64 0)), none, none⟩])
 (xSeq (xOps [⟨(some t2), oLoad1 (.t t0), none, (some (.t t0))⟩,
   ⟨(some t3), oCall 73 [(.t t2)], none, none⟩,
   ⟨(some t1), oMov (.t t3), none, none⟩])
 xRet))⟩
theorem ok72 : cFunc Tryz.prog gl ex Tryz.f72 = some c72 := by kernel_rfl
/-- (*publican/pack.Reader).I -/
def c73 : AFunc := ⟨14, [.tmp t2],
 (xSeq (xOps [⟨(some t2), oMov (.v (.int .i64 0)), none, none⟩])
 (xSeq (xOps [⟨(some t4), oMov (.t t0), none, none⟩,
   ⟨(some t5), oCall 130 [(.t t4)], none, none⟩,
   ⟨(some t3), oMov (.t t5), none, none⟩])
 (xSeq (xOps [⟨(some t6), oMov (.t t3), none, none⟩,
   ⟨(some t7), oBin (sh2 shrO) (.t t6) (.v (.int .u64 1)), none, none⟩,
   ⟨(some t8), oConv .i64 (.t t7), none, none⟩,
   ⟨(some t9), oMov (.t t3), none, none⟩,
   ⟨(some t10), oBin (int2 andO) (.t t9) (.v (.int .u64 1)), none, none⟩,
   ⟨(some t11), oConv .i64 (.t t10), none, none⟩,
   ⟨(some t12), oNeg (.t t11), none, none⟩,
   ⟨(some t13), oBin (int2 xorO) (.t t8) (.t t12), none, none⟩,
   ⟨(some t2), oMov (.t t13), none, none⟩])
 xRet)))⟩
theorem ok73 : cFunc Tryz.prog gl ex Tryz.f73 = some c73 := by kernel_rfl
/-- publican/code.list[publican/api.Value] -/
def c74 : AFunc := ⟨33, [.tmp t4],
 (xSeq (xOps [⟨(some t4), oMov (.v (.slice none 0 0)), none, none⟩])
 (xSeq (xOps [⟨(some t7), oMov (.t t0), none, none⟩,
   ⟨(some t8), oCall 130 [(.t t7)], none, none⟩,
   ⟨(some t5), oMov (.t t8), none, none⟩])
 (xSeq (xSeq (xOps [⟨(some t9), oMov (.t t5), none, none⟩,
   ⟨(some t10), oMov (.t t0), none, none⟩,
   ⟨(some t11), oCall 85 [(.t t10)], none, none⟩,
   ⟨(some t12), oConv .u64 (.t t11), none, none⟩,
   ⟨(some t13), oBin (int2 (cmpO gtI)) (.t t9) (.t t12), none, none⟩])
 (xCond (.t t13)
 (xSeq (xOps [⟨(some t14), oMov (.t t0), none, none⟩,
   ⟨(some t15), oCall 81 [(.t t14)], none, none⟩])
 (xSeq (xBlock 0 (xLoop (xSeq (xSeq (xOps [⟨(some t16), oMov (.t t0), none, none⟩,
   ⟨(some t17), oCall 84 [(.t t16)], none, none⟩,
   ⟨(some t18), oNot (.t t17), none, none⟩])
 (xCond (.t t18)
 xSkip
 (xExit 0)))
 (xBlock 1 (xOps [⟨(some t19), oMov (.t t0), none, none⟩,
   ⟨(some t20), oCall 130 [(.t t19)], none, none⟩])))))
 (xSeq (xOps [⟨(some t4), oMov (.v (.slice none 0 0)), none, none⟩])
 xRet)))
 xSkip))
 (xSeq (xOps [⟨(some t6), oMov (.v (.slice none 0 0)), none, none⟩])
 (xSeq (xSeq (xOps [⟨(some t21), oMov (.t t5), none, none⟩,
   ⟨(some t22), oMov (.v (.int .u64 0)), none, none⟩])
 (xBlock 2 (xLoop (xSeq (xOps [⟨(some t23), oBin (int2 (cmpO ltI)) (.t t22) (.t t21), none, none⟩])
 (xSeq (xCond (.t t23)
 xSkip
 (xExit 2))
 (xSeq (xBlock 3 (xSeq (xSeq (xOps [⟨(some t24), oMov (.t t0), none, none⟩,
   ⟨(some t25), oCall 84 [(.t t24)], none, none⟩])
 (xCond (.t t25)
 (xSeq (xOps [⟨(some t4), oMov (.v (.slice none 0 0)), none, none⟩])
 xRet)
 xSkip))
 (xOps [⟨(some t26), oMov (.t t6), none, none⟩,
   ⟨(some t27), oMov (.t t1), none, none⟩,
   ⟨(some t28), oCallV (.t t27) [], none, none⟩,
   ⟨(some t29), oBuildSlice 1 [(.int .i64 0), (.int .i64 0), (.slice none 0 0)] [(0, 3, (.t t28))], none, none⟩,
   ⟨(some t30), oAppend 3 40 (.t t26) (.t t29), none, none⟩,
   ⟨(some t6), oMov (.t t30), none, none⟩])))
 (xOps [⟨(some t31), oBin (int2 addO) (.t t22) (.v (.int .u64 1)), none, none⟩,
   ⟨(some t22), oMov (.t t31), none, none⟩])))))))
 (xSeq (xOps [⟨(some t32), oMov (.t t6), none, none⟩,
   ⟨(some t4), oMov (.t t32), none, none⟩])
 xRet))))))⟩
theorem ok74 : cFunc Tryz.prog gl ex Tryz.f74 = some c74 := by kernel_rfl
/-- publican/code.Decode$2 -/
def c75 : AFunc := ⟨8, [.cell t2 (some 3)],
 (xSeq (xOps [⟨(some t2), oNew [(.int .i64 0), (.int .i64 0), (.slice none 0 0)], none, none⟩])
 (xSeq (xReg [⟨(some t3), oLoad1 (.t t0), none, (some (.t t0))⟩,
   ⟨(some t4), oCallV (.t t3) [], none, none⟩,
   ⟨(some t5), oLoad1 (.t t1), none, (some (.t t1))⟩,
   ⟨(some t6), oCall 73 [(.t t5)], none, none⟩,
   ⟨(some t7), oBuild [(.int .i64 0), (.int .i64 0), (.slice none 0 0)] [(0, 1, (.t t4)), (1, 1, (.t t6))], none, none⟩,
   ⟨none, oStore 3 (.t t2) (.t t7), none, none⟩] [(0, 2), (1, 2)])
 xRet))⟩
theorem ok75 : cFunc Tryz.prog gl ex Tryz.f75 = some c75 := by kernel_rfl
/-- publican/code.list[publican/code.Table] -/
def c76 : AFunc := ⟨33, [.tmp t4],
 (xSeq (xOps [⟨(some t4), oMov (.v (.slice none 0 0)), none, none⟩])
 (xSeq (xOps [⟨(some t7), oMov (.t t0), none, none⟩,
   ⟨(some t8), oCall 130 [(.t t7)], none, none⟩,
   ⟨(some t5), oMov (.t t8), none, none⟩])
 (xSeq (xSeq (xOps [⟨(some t9), oMov (.t t5), none, none⟩,
   ⟨(some t10), oMov (.t t0), none, none⟩,
   ⟨(some t11), oCall 85 [(.t t10)], none, none⟩,
   ⟨(some t12), oConv .u64 (.t t11), none, none⟩,
   ⟨(some t13), oBin (int2 (cmpO gtI)) (.t t9) (.t t12), none, none⟩])
 (xCond (.t t13)
 (xSeq (xOps [⟨(some t14), oMov (.t t0), none, none⟩,
   ⟨(some t15), oCall 81 [(.t t14)], none, none⟩])
 (xSeq (xBlock 0 (xLoop (xSeq (xSeq (xOps [⟨(some t16), oMov (.t t0), none, none⟩,
   ⟨(some t17), oCall 84 [(.t t16)], none, none⟩,
   ⟨(some t18), oNot (.t t17), none, none⟩])
 (xCond (.t t18)
 xSkip
 (xExit 0)))
 (xBlock 1 (xOps [⟨(some t19), oMov (.t t0), none, none⟩,
   ⟨(some t20), oCall 130 [(.t t19)], none, none⟩])))))
 (xSeq (xOps [⟨(some t4), oMov (.v (.slice none 0 0)), none, none⟩])
 xRet)))
 xSkip))
 (xSeq (xOps [⟨(some t6), oMov (.v (.slice none 0 0)), none, none⟩])
 (xSeq (xSeq (xOps [⟨(some t21), oMov (.t t5), none, none⟩,
   ⟨(some t22), oMov (.v (.int .u64 0)), none, none⟩])
 (xBlock 2 (xLoop (xSeq (xOps [⟨(some t23), oBin (int2 (cmpO ltI)) (.t t22) (.t t21), none, none⟩])
 (xSeq (xCond (.t t23)
 xSkip
 (xExit 2))
 (xSeq (xBlock 3 (xSeq (xSeq (xOps [⟨(some t24), oMov (.t t0), none, none⟩,
   ⟨(some t25), oCall 84 [(.t t24)], none, none⟩])
 (xCond (.t t25)
 (xSeq (xOps [⟨(some t4), oMov (.v (.slice none 0 0)), none, none⟩])
 xRet)
 xSkip))
 (xOps [⟨(some t26), oMov (.t t6), none, none⟩,
   ⟨(some t27), oMov (.t t1), none, none⟩,
   ⟨(some t28), oCallV (.t t27) [], none, none⟩,
   ⟨(some t29), oBuildSlice 1 [(.int .i64 0), (.int .i64 0), (.slice none 0 0), (.slice none 0 0)] [(0, 4, (.t t28))], none, none⟩,
   ⟨(some t30), oAppend 4 64 (.t t26) (.t t29), none, none⟩,
   ⟨(some t6), oMov (.t t30), none, none⟩])))
 (xOps [⟨(some t31), oBin (int2 addO) (.t t22) (.v (.int .u64 1)), none, none⟩,
   ⟨(some t22), oMov (.t t31), none, none⟩])))))))
 (xSeq (xOps [⟨(some t32), oMov (.t t6), none, none⟩,
   ⟨(some t4), oMov (.t t32), none, none⟩])
 xRet))))))⟩
theorem ok76 : cFunc Tryz.prog gl ex Tryz.f76 = some c76 := by kernel_rfl
/-- publican/code.Decode$3 -/
def c77 : AFunc := ⟨16, [.cell t2 (some 4)],
 (xSeq (xOps [⟨(some t2), oNew [(.int .i64 0), (.int .i64 0), (.slice none 0 0), (.slice none 0 0)], none, none⟩])
 (xSeq (xReg [⟨(some t3), oLoad1 (.t t0), none, (some (.t t0))⟩,
   ⟨(some t4), oCallV (.t t3) [], none, none⟩,
   ⟨(some t5), oLoad1 (.t t0), none, (some (.t t0))⟩,
   ⟨(some t6), oCallV (.t t5) [], none, none⟩,
   ⟨(some t7), oLoad1 (.t t1), none, (some (.t t1))⟩,
   ⟨(some t8), oLoad1 (.t t1), none, (some (.t t1))⟩,
   ⟨(some t9), oFunc (.func 73) [(.t t8)] [], none, none⟩,
   ⟨(some t10), oCall 78 [(.t t7), (.t t9)], none, none⟩,
   ⟨(some t11), oLoad1 (.t t1), none, (some (.t t1))⟩,
   ⟨(some t12), oLoad1 (.t t1), none, (some (.t t1))⟩,
   ⟨(some t13), oFunc (.func 73) [(.t t12)] [], none, none⟩,
   ⟨(some t14), oCall 78 [(.t t11), (.t t13)], none, none⟩,
   ⟨(some t15), oBuild [(.int .i64 0), (.int .i64 0), (.slice none 0 0), (.slice none 0 0)] [(0, 1, (.t t4)), (1, 1, (.t t6)), (2, 1, (.t t10)), (3, 1, (.t t14))], none, none⟩,
   ⟨none, oStore 4 (.t t2) (.t t15), none, none⟩] [(0, 2), (1, 2), (0, 4), (1, 4), (2, 4), (3, 4), (0, 5), (1, 5), (2, 5), (3, 5), (4, 5), (0, 6), (1, 6), (2, 6), (3, 6), (4, 6), (0, 8), (1, 8), (2, 8), (3, 8), (4, 8), (5, 8), (6, 8), (7, 8), (0, 9), (1, 9), (2, 9), (3, 9), (4, 9), (5, 9), (6, 9), (7, 9), (8, 9), (0, 10), (1, 10), (2, 10), (3, 10), (4, 10), (5, 10), (6, 10), (7, 10), (8, 10)])
 xRet))⟩
theorem ok77 : cFunc Tryz.prog gl ex Tryz.f77 = some c77 := by kernel_rfl
/-- publican/code.list[int64] -/
def c78 : AFunc := ⟨33, [.tmp t4],
 (xSeq (xOps [⟨(some t4), oMov (.v (.slice none 0 0)), none, none⟩])
 (xSeq (xOps [⟨(some t7), oMov (.t t0), none, none⟩,
   ⟨(some t8), oCall 130 [(.t t7)], none, none⟩,
   ⟨(some t5), oMov (.t t8), none, none⟩])
 (xSeq (xSeq (xOps [⟨(some t9), oMov (.t t5), none, none⟩,
   ⟨(some t10), oMov (.t t0), none, none⟩,
   ⟨(some t11), oCall 85 [(.t t10)], none, none⟩,
   ⟨(some t12), oConv .u64 (.t t11), none, none⟩,
   ⟨(some t13), oBin (int2 (cmpO gtI)) (.t t9) (.t t12), none, none⟩])
 (xCond (.t t13)
 (xSeq (xOps [⟨(some t14), oMov (.t t0), none, none⟩,
   ⟨(some t15), oCall 81 [(.t t14)], none, none⟩])
 (xSeq (xBlock 0 (xLoop (xSeq (xSeq (xOps [⟨(some t16), oMov (.t t0), none, none⟩,
   ⟨(some t17), oCall 84 [(.t t16)], none, none⟩,
   ⟨(some t18), oNot (.t t17), none, none⟩])
 (xCond (.t t18)
 xSkip
 (xExit 0)))
 (xBlock 1 (xOps [⟨(some t19), oMov (.t t0), none, none⟩,
   ⟨(some t20), oCall 130 [(.t t19)], none, none⟩])))))
 (xSeq (xOps [⟨(some t4), oMov (.v (.slice none 0 0)), none, none⟩])
 xRet)))
 xSkip))
 (xSeq (xOps [⟨(some t6), oMov (.v (.slice none 0 0)), none, none⟩])
 (xSeq (xSeq (xOps [⟨(some t21), oMov (.t t5), none, none⟩,
   ⟨(some t22), oMov (.v (.int .u64 0)), none, none⟩])
 (xBlock 2 (xLoop (xSeq (xOps [⟨(some t23), oBin (int2 (cmpO ltI)) (.t t22) (.t t21), none, none⟩])
 (xSeq (xCond (.t t23)
 xSkip
 (xExit 2))
 (xSeq (xBlock 3 (xSeq (xSeq (xOps [⟨(some t24), oMov (.t t0), none, none⟩,
   ⟨(some t25), oCall 84 [(.t t24)], none, none⟩])
 (xCond (.t t25)
 (xSeq (xOps [⟨(some t4), oMov (.v (.slice none 0 0)), none, none⟩])
 xRet)
 xSkip))
 (xOps [⟨(some t26), oMov (.t t6), none, none⟩,
   ⟨(some t27), oMov (.t t1), none, none⟩,
   ⟨(some t28), oCallV (.t t27) [], none, none⟩,
   ⟨(some t29), oBuildSlice 1 [(.int .i64 0)] [(0, 1, (.t t28))], none, none⟩,
   ⟨(some t30), oAppend 1 8 (.t t26) (.t t29), none, none⟩,
   ⟨(some t6), oMov (.t t30), none, none⟩])))
 (xOps [⟨(some t31), oBin (int2 addO) (.t t22) (.v (.int .u64 1)), none, none⟩,
   ⟨(some t22), oMov (.t t31), none, none⟩])))))))
 (xSeq (xOps [⟨(some t32), oMov (.t t6), none, none⟩,
   ⟨(some t4), oMov (.t t32), none, none⟩])
 xRet))))))⟩
theorem ok78 : cFunc Tryz.prog gl ex Tryz.f78 = some c78 := by kernel_rfl
/-- publican/code.list[publican/api.Kind] -/
def c79 : AFunc := ⟨33, [.tmp t4],
 (xSeq (xOps [⟨(some t4), oMov (.v (.slice none 0 0)), none, none⟩])
 (xSeq (xOps [⟨(some t7), oMov (.t t0), none, none⟩,
   ⟨(some t8), oCall 130 [(.t t7)], none, none⟩,
   ⟨(some t5), oMov (.t t8), none, none⟩])
 (xSeq (xSeq (xOps [⟨(some t9), oMov (.t t5), none, none⟩,
   ⟨(some t10), oMov (.t t0), none, none⟩,
   ⟨(some t11), oCall 85 [(.t t10)], none, none⟩,
   ⟨(some t12), oConv .u64 (.t t11), none, none⟩,
   ⟨(some t13), oBin (int2 (cmpO gtI)) (.t t9) (.t t12), none, none⟩])
 (xCond (.t t13)
 (xSeq (xOps [⟨(some t14), oMov (.t t0), none, none⟩,
   ⟨(some t15), oCall 81 [(.t t14)], none, none⟩])
 (xSeq (xBlock 0 (xLoop (xSeq (xSeq (xOps [⟨(some t16), oMov (.t t0), none, none⟩,
   ⟨(some t17), oCall 84 [(.t t16)], none, none⟩,
   ⟨(some t18), oNot (.t t17), none, none⟩])
 (xCond (.t t18)
 xSkip
 (xExit 0)))
 (xBlock 1 (xOps [⟨(some t19), oMov (.t t0), none, none⟩,
   ⟨(some t20), oCall 130 [(.t t19)], none, none⟩])))))
 (xSeq (xOps [⟨(some t4), oMov (.v (.slice none 0 0)), none, none⟩])
 xRet)))
 xSkip))
 (xSeq (xOps [⟨(some t6), oMov (.v (.slice none 0 0)), none, none⟩])
 (xSeq (xSeq (xOps [⟨(some t21), oMov (.t t5), none, none⟩,
   ⟨(some t22), oMov (.v (.int .u64 0)), none, none⟩])
 (xBlock 2 (xLoop (xSeq (xOps [⟨(some t23), oBin (int2 (cmpO ltI)) (.t t22) (.t t21), none, none⟩])
 (xSeq (xCond (.t t23)
 xSkip
 (xExit 2))
 (xSeq (xBlock 3 (xSeq (xSeq (xOps [⟨(some t24), oMov (.t t0), none, none⟩,
   ⟨(some t25), oCall 84 [(.t t24)], none, none⟩])
 (xCond (.t t25)
 (xSeq (xOps [⟨(some t4), oMov (.v (.slice none 0 0)), none, none⟩])
 xRet)
 xSkip))
 (xOps [⟨(some t26), oMov (.t t6), none, none⟩,
   ⟨(some t27), oMov (.t t1), none, none⟩,
   ⟨(some t28), oCallV (.t t27) [], none, none⟩,
   ⟨(some t29), oBuildSlice 1 [(.int .i64 0)] [(0, 1, (.t t28))], none, none⟩,
   ⟨(some t30), oAppend 1 8 (.t t26) (.t t29), none, none⟩,
   ⟨(some t6), oMov (.t t30), none, none⟩])))
 (xOps [⟨(some t31), oBin (int2 addO) (.t t22) (.v (.int .u64 1)), none, none⟩,
   ⟨(some t22), oMov (.t t31), none, none⟩])))))))
 (xSeq (xOps [⟨(some t32), oMov (.t t6), none, none⟩,
   ⟨(some t4), oMov (.t t32), none, none⟩])
 xRet))))))⟩
theorem ok79 : cFunc Tryz.prog gl ex Tryz.f79 = some c79 := by kernel_rfl
/-- publican/code.list[string] -/
def c80 : AFunc := ⟨33, [.tmp t4],
 (xSeq (xOps [⟨(some t4), oMov (.v (.slice none 0 0)), none, none⟩])
 (xSeq (xOps [⟨(some t7), oMov (.t t0), none, none⟩,
   ⟨(some t8), oCall 130 [(.t t7)], none, none⟩,
   ⟨(some t5), oMov (.t t8), none, none⟩])
 (xSeq (xSeq (xOps [⟨(some t9), oMov (.t t5), none, none⟩,
   ⟨(some t10), oMov (.t t0), none, none⟩,
   ⟨(some t11), oCall 85 [(.t t10)], none, none⟩,
   ⟨(some t12), oConv .u64 (.t t11), none, none⟩,
   ⟨(some t13), oBin (int2 (cmpO gtI)) (.t t9) (.t t12), none, none⟩])
 (xCond (.t t13)
 (xSeq (xOps [⟨(some t14), oMov (.t t0), none, none⟩,
   ⟨(some t15), oCall 81 [(.t t14)], none, none⟩])
 (xSeq (xBlock 0 (xLoop (xSeq (xSeq (xOps [⟨(some t16), oMov (.t t0), none, none⟩,
   ⟨(some t17), oCall 84 [(.t t16)], none, none⟩,
   ⟨(some t18), oNot (.t t17), none, none⟩])
 (xCond (.t t18)
 xSkip
 (xExit 0)))
 (xBlock 1 (xOps [⟨(some t19), oMov (.t t0), none, none⟩,
   ⟨(some t20), oCall 130 [(.t t19)], none, none⟩])))))
 (xSeq (xOps [⟨(some t4), oMov (.v (.slice none 0 0)), none, none⟩])
 xRet)))
 xSkip))
 (xSeq (xOps [⟨(some t6), oMov (.v (.slice none 0 0)), none, none⟩])
 (xSeq (xSeq (xOps [⟨(some t21), oMov (.t t5), none, none⟩,
   ⟨(some t22), oMov (.v (.int .u64 0)), none, none⟩])
 (xBlock 2 (xLoop (xSeq (xOps [⟨(some t23), oBin (int2 (cmpO ltI)) (.t t22) (.t t21), none, none⟩])
 (xSeq (xCond (.t t23)
 xSkip
 (xExit 2))
 (xSeq (xBlock 3 (xSeq (xSeq (xOps [⟨(some t24), oMov (.t t0), none, none⟩,
   ⟨(some t25), oCall 84 [(.t t24)], none, none⟩])
 (xCond (.t t25)
 (xSeq (xOps [⟨(some t4), oMov (.v (.slice none 0 0)), none, none⟩])
 xRet)
 xSkip))
 (xOps [⟨(some t26), oMov (.t t6), none, none⟩,
   ⟨(some t27), oMov (.t t1), none, none⟩,
   ⟨(some t28), oCallV (.t t27) [], none, none⟩,
   ⟨(some t29), oBuildSlice 1 [(.string ⟨⟨[]⟩⟩)] [(0, 1, (.t t28))], none, none⟩,
   ⟨(some t30), oAppend 1 16 (.t t26) (.t t29), none, none⟩,
   ⟨(some t6), oMov (.t t30), none, none⟩])))
 (xOps [⟨(some t31), oBin (int2 addO) (.t t22) (.v (.int .u64 1)), none, none⟩,
   ⟨(some t22), oMov (.t t31), none, none⟩])))))))
 (xSeq (xOps [⟨(some t32), oMov (.t t6), none, none⟩,
   ⟨(some t4), oMov (.t t32), none, none⟩])
 xRet))))))⟩
theorem ok80 : cFunc Tryz.prog gl ex Tryz.f80 = some c80 := by kernel_rfl
/-- (*publican/pack.Reader).S -/
def c81 : AFunc := ⟨34, [.tmp t2],
 (xSeq (xOps [⟨(some t2), oMov (.v (.string ⟨⟨[]⟩⟩)), none, none⟩])
 (xSeq (xOps [⟨(some t5), oMov (.t t0), none, none⟩,
   ⟨(some t6), oCall 130 [(.t t5)], none, none⟩,
   ⟨(some t3), oMov (.t t6), none, none⟩])
 (xSeq (xSeq (xOps [⟨(some t7), oMov (.t t3), none, none⟩,
   ⟨(some t8), oMov (.t t0), none, none⟩,
   ⟨(some t9), oNilCheck (.t t8), none, none⟩,
   ⟨(some t10), oFieldAddr 0 (.t t9), none, none⟩,
   ⟨(some t11), oLoad1 (.t t10), none, (some (.t t10))⟩,
   ⟨(some t12), oLenL (.t t11), none, none⟩,
   ⟨(some t13), oConv .u64 (.t t12), none, none⟩,
   ⟨(some t14), oBin (int2 (cmpO gtI)) (.t t7) (.t t13), none, none⟩])
 (xCond (.t t14)
 (xSeq (xOps [⟨(some t15), oMov (.t t0), none, none⟩,
   ⟨(some t16), oCall 131 [(.t t15)], none, none⟩])
 (xSeq (xOps [⟨(some t2), oMov (.v (.string ⟨⟨[]⟩⟩)), none, none⟩])
 xRet))
 xSkip))
 (xSeq (xOps [⟨(some t17), oMov (.t t0), none, none⟩,
   ⟨(some t18), oNilCheck (.t t17), none, none⟩,
   ⟨(some t19), oFieldAddr 0 (.t t18), none, none⟩,
   ⟨(some t20), oLoad1 (.t t19), none, (some (.t t19))⟩,
   ⟨(some t21), oMov (.t t3), none, none⟩,
   ⟨(some t22), oSliceL 1 (.t t20) none (some (.t t21)) none, none, none⟩,
   ⟨(some t23), oBytesStr (.t t22), none, none⟩,
   ⟨(some t4), oMov (.t t23), none, none⟩])
 (xSeq (xOps [⟨(some t24), oMov (.t t0), none, none⟩,
   ⟨(some t25), oMov (.t t0), none, none⟩,
   ⟨(some t26), oNilCheck (.t t25), none, none⟩,
   ⟨(some t27), oFieldAddr 0 (.t t26), none, none⟩,
   ⟨(some t28), oLoad1 (.t t27), none, (some (.t t27))⟩,
   ⟨(some t29), oMov (.t t3), none, none⟩,
   ⟨(some t30), oSliceL 1 (.t t28) (some (.t t29)) none none, none, none⟩,
   ⟨(some t31), oNilCheck (.t t24), none, none⟩,
   ⟨(some t32), oFieldAddr 0 (.t t31), none, none⟩,
   ⟨none, oStore 1 (.t t32) (.t t30), none, none⟩])
 (xSeq (xOps [⟨(some t33), oMov (.t t4), none, none⟩,
   ⟨(some t2), oMov (.t t33), none, none⟩])
 xRet))))))⟩
theorem ok81 : cFunc Tryz.prog gl ex Tryz.f81 = some c81 := by kernel_rfl
/-- publican/code.list[publican/code.Instr] -/
def c82 : AFunc := ⟨33, [.tmp t4],
 (xSeq (xOps [⟨(some t4), oMov (.v (.slice none 0 0)), none, none⟩])
 (xSeq (xOps [⟨(some t7), oMov (.t t0), none, none⟩,
   ⟨(some t8), oCall 130 [(.t t7)], none, none⟩,
   ⟨(some t5), oMov (.t t8), none, none⟩])
 (xSeq (xSeq (xOps [⟨(some t9), oMov (.t t5), none, none⟩,
   ⟨(some t10), oMov (.t t0), none, none⟩,
   ⟨(some t11), oCall 85 [(.t t10)], none, none⟩,
   ⟨(some t12), oConv .u64 (.t t11), none, none⟩,
   ⟨(some t13), oBin (int2 (cmpO gtI)) (.t t9) (.t t12), none, none⟩])
 (xCond (.t t13)
 (xSeq (xOps [⟨(some t14), oMov (.t t0), none, none⟩,
   ⟨(some t15), oCall 81 [(.t t14)], none, none⟩])
 (xSeq (xBlock 0 (xLoop (xSeq (xSeq (xOps [⟨(some t16), oMov (.t t0), none, none⟩,
   ⟨(some t17), oCall 84 [(.t t16)], none, none⟩,
   ⟨(some t18), oNot (.t t17), none, none⟩])
 (xCond (.t t18)
 xSkip
 (xExit 0)))
 (xBlock 1 (xOps [⟨(some t19), oMov (.t t0), none, none⟩,
   ⟨(some t20), oCall 130 [(.t t19)], none, none⟩])))))
 (xSeq (xOps [⟨(some t4), oMov (.v (.slice none 0 0)), none, none⟩])
 xRet)))
 xSkip))
 (xSeq (xOps [⟨(some t6), oMov (.v (.slice none 0 0)), none, none⟩])
 (xSeq (xSeq (xOps [⟨(some t21), oMov (.t t5), none, none⟩,
   ⟨(some t22), oMov (.v (.int .u64 0)), none, none⟩])
 (xBlock 2 (xLoop (xSeq (xOps [⟨(some t23), oBin (int2 (cmpO ltI)) (.t t22) (.t t21), none, none⟩])
 (xSeq (xCond (.t t23)
 xSkip
 (xExit 2))
 (xSeq (xBlock 3 (xSeq (xSeq (xOps [⟨(some t24), oMov (.t t0), none, none⟩,
   ⟨(some t25), oCall 84 [(.t t24)], none, none⟩])
 (xCond (.t t25)
 (xSeq (xOps [⟨(some t4), oMov (.v (.slice none 0 0)), none, none⟩])
 xRet)
 xSkip))
 (xOps [⟨(some t26), oMov (.t t6), none, none⟩,
   ⟨(some t27), oMov (.t t1), none, none⟩,
   ⟨(some t28), oCallV (.t t27) [], none, none⟩,
   ⟨(some t29), oBuildSlice 1 [(.int .i64 0), (.int .i64 0), (.int .i64 0), (.int .i64 0)] [(0, 4, (.t t28))], none, none⟩,
   ⟨(some t30), oAppend 4 32 (.t t26) (.t t29), none, none⟩,
   ⟨(some t6), oMov (.t t30), none, none⟩])))
 (xOps [⟨(some t31), oBin (int2 addO) (.t t22) (.v (.int .u64 1)), none, none⟩,
   ⟨(some t22), oMov (.t t31), none, none⟩])))))))
 (xSeq (xOps [⟨(some t32), oMov (.t t6), none, none⟩,
   ⟨(some t4), oMov (.t t32), none, none⟩])
 xRet))))))⟩
theorem ok82 : cFunc Tryz.prog gl ex Tryz.f82 = some c82 := by kernel_rfl
/-- publican/code.Decode$4 -/
def c83 : AFunc := ⟨11, [.cell t1 (some 4)],
 (xSeq (xOps [⟨(some t1), oNew [(.int .i64 0), (.int .i64 0), (.int .i64 0), (.int .i64 0)], none, none⟩])
 (xSeq (xReg [⟨(some t2), oLoad1 (.t t0), none, (some (.t t0))⟩,
   ⟨(some t3), oCall 73 [(.t t2)], none, none⟩,
   ⟨(some t4), oLoad1 (.t t0), none, (some (.t t0))⟩,
   ⟨(some t5), oCall 73 [(.t t4)], none, none⟩,
   ⟨(some t6), oLoad1 (.t t0), none, (some (.t t0))⟩,
   ⟨(some t7), oCall 73 [(.t t6)], none, none⟩,
   ⟨(some t8), oLoad1 (.t t0), none, (some (.t t0))⟩,
   ⟨(some t9), oCall 73 [(.t t8)], none, none⟩,
   ⟨(some t10), oBuild [(.int .i64 0), (.int .i64 0), (.int .i64 0), (.int .i64 0)] [(0, 1, (.t t3)), (1, 1, (.t t5)), (2, 1, (.t t7)), (3, 1, (.t t9))], none, none⟩,
   ⟨none, oStore 4 (.t t1) (.t t10), none, none⟩] [(0, 2), (1, 2), (0, 4), (1, 4), (2, 4), (3, 4), (0, 6), (1, 6), (2, 6), (3, 6), (4, 6), (5, 6)])
 xRet))⟩
theorem ok83 : cFunc Tryz.prog gl ex Tryz.f83 = some c83 := by kernel_rfl
/-- (*publican/pack.Reader).Bad -/
def c84 : AFunc := ⟨7, [.tmp t2],
 (xSeq (xOps [⟨(some t2), oMov (.v (.bool false)), none, none⟩])
 (xSeq (xOps [⟨(some t3), oMov (.t t0), none, none⟩,
   ⟨(some t4), oNilCheck (.t t3), none, none⟩,
   ⟨(some t5), oFieldAddr 1 (.t t4), none, none⟩,
   ⟨(some t6), oLoad1 (.t t5), none, (some (.t t5))⟩,
   ⟨(some t2), oMov (.t t6), none, none⟩])
 xRet))⟩
theorem ok84 : cFunc Tryz.prog gl ex Tryz.f84 = some c84 := by kernel_rfl
/-- (*publican/pack.Reader).Left -/
def c85 : AFunc := ⟨8, [.tmp t2],
 (xSeq (xOps [⟨(some t2), oMov (.v (.int .i64 0)), none, none⟩])
 (xSeq (xOps [⟨(some t3), oMov (.t t0), none, none⟩,
   ⟨(some t4), oNilCheck (.t t3), none, none⟩,
   ⟨(some t5), oFieldAddr 0 (.t t4), none, none⟩,
   ⟨(some t6), oLoad1 (.t t5), none, (some (.t t5))⟩,
   ⟨(some t7), oLenL (.t t6), none, none⟩,
   ⟨(some t2), oMov (.t t7), none, none⟩])
 xRet))⟩
theorem ok85 : cFunc Tryz.prog gl ex Tryz.f85 = some c85 := by kernel_rfl
/-- publican/verify.parts$1 -/
def c105 : AFunc := ⟨14, [.tmp t2],
 (xSeq (xOps [⟨(some t1), oBox (.t t0), none, none⟩,
   ⟨(some t2), oMov (.v (.bool false)), none, none⟩])
 (xSeq (xOps [⟨(some t3), oFieldAddr 0 (.t t1), none, none⟩,
   ⟨(some t4), oLoad1 (.t t3), none, (some (.t t3))⟩,
   ⟨(some t5), oCall 106 [(.t t4), (.v (.int .i64 1)), (.v (.int .i64 5))], none, none⟩,
   ⟨(some t6), oNot (.t t5), none, none⟩,
   ⟨(some t7), oMov (.t t6), none, none⟩,
   ⟨(some t8), oFieldAddr 0 (.t t1), (some (t7, false)), none⟩,
   ⟨(some t9), oLoad1 (.t t8), (some (t7, false)), (some (.t t8))⟩,
   ⟨(some t10), oLoadN 3 (.t t1), (some (t7, false)), none⟩,
   ⟨(some t11), oCall 22 [(.t t9), (.t t10)], (some (t7, false)), none⟩,
   ⟨(some t12), oNot (.t t11), (some (t7, false)), none⟩,
   ⟨(some t13), oPick (.t t7) (.v (.bool true)) (.t t12), none, none⟩,
   ⟨(some t2), oMov (.t t13), none, none⟩])
 xRet))⟩
theorem ok105 : cFunc Tryz.prog gl ex Tryz.f105 = some c105 := by kernel_rfl
/-- publican/verify.kindIs -/
def c106 : AFunc := ⟨15, [.tmp t6],
 (xSeq (xOps [⟨(some t6), oMov (.v (.bool false)), none, none⟩])
 (xSeq (xOps [⟨(some t7), oMov (.t t0), none, none⟩,
   ⟨(some t8), oMov (.t t1), none, none⟩,
   ⟨(some t9), oBin (int2 (cmpO geI)) (.t t7) (.t t8), none, none⟩,
   ⟨(some t10), oMov (.t t9), none, none⟩,
   ⟨(some t11), oMov (.t t0), (some (t10, true)), none⟩,
   ⟨(some t12), oMov (.t t2), (some (t10, true)), none⟩,
   ⟨(some t13), oBin (int2 (cmpO leI)) (.t t11) (.t t12), (some (t10, true)), none⟩,
   ⟨(some t14), oPick (.t t10) (.t t13) (.v (.bool false)), none, none⟩,
   ⟨(some t6), oMov (.t t14), none, none⟩])
 xRet))⟩
theorem ok106 : cFunc Tryz.prog gl ex Tryz.f106 = some c106 := by kernel_rfl
/-- publican/verify.allKinds -/
def c107 : AFunc := ⟨9, [.tmp t4],
 (xSeq (xOps [⟨(some t3), oBox (.t t1), none, none⟩,
   ⟨(some t4), oMov (.v (.bool false)), none, none⟩])
 (xSeq (xOps [⟨(some t5), oMov (.t t0), none, none⟩,
   ⟨(some t6), oFunc (.func 139) [] [(.t t3)], none, none⟩,
   ⟨(some t7), oCall 138 [(.t t5), (.t t6)], none, none⟩,
   ⟨(some t8), oNot (.t t7), none, none⟩,
   ⟨(some t4), oMov (.t t8), none, none⟩])
 xRet))⟩
theorem ok107 : cFunc Tryz.prog gl ex Tryz.f107 = some c107 := by kernel_rfl
/-- slices.ContainsFunc[[]publican/api.Value,publican/api.Value] -/
def c108 : AFunc := ⟨9, [.tmp t4],
 (xSeq (xOps [⟨(some t4), oMov (.v (.bool false)), none, none⟩])
 (xSeq (xOps [⟨(some t5), oMov (.t t0), none, none⟩,
   ⟨(some t6), oMov (.t t1), none, none⟩,
   ⟨(some t7), oCall 140 [(.t t5), (.t t6)], none, none⟩,
   ⟨(some t8), oBin (int2 (cmpO geI)) (.t t7) (.v (.int .i64 0)), none, none⟩,
   ⟨(some t4), oMov (.t t8), none, none⟩])
 xRet))⟩
theorem ok108 : cFunc Tryz.prog gl ex Tryz.f108 = some c108 := by kernel_rfl
/-- slices.ContainsFunc[[]publican/code.Table,publican/code.Table] -/
def c109 : AFunc := ⟨9, [.tmp t4],
 (xSeq (xOps [⟨(some t4), oMov (.v (.bool false)), none, none⟩])
 (xSeq (xOps [⟨(some t5), oMov (.t t0), none, none⟩,
   ⟨(some t6), oMov (.t t1), none, none⟩,
   ⟨(some t7), oCall 141 [(.t t5), (.t t6)], none, none⟩,
   ⟨(some t8), oBin (int2 (cmpO geI)) (.t t7) (.v (.int .i64 0)), none, none⟩,
   ⟨(some t4), oMov (.t t8), none, none⟩])
 xRet))⟩
theorem ok109 : cFunc Tryz.prog gl ex Tryz.f109 = some c109 := by kernel_rfl
/-- publican/verify.parts$2 -/
def c110 : AFunc := ⟨6, [.tmp t2],
 (xSeq (xOps [⟨(some t1), oBox (.t t0), none, none⟩,
   ⟨(some t2), oMov (.v (.bool false)), none, none⟩])
 (xSeq (xOps [⟨(some t3), oLoadN 4 (.t t1), none, none⟩,
   ⟨(some t4), oCall 111 [(.t t3)], none, none⟩,
   ⟨(some t5), oNot (.t t4), none, none⟩,
   ⟨(some t2), oMov (.t t5), none, none⟩])
 xRet))⟩
theorem ok110 : cFunc Tryz.prog gl ex Tryz.f110 = some c110 := by kernel_rfl
/-- publican/verify.table -/
def c111 : AFunc := ⟨73, [.tmp t2],
 (xSeq (xOps [⟨(some t1), oBox (.t t0), none, none⟩,
   ⟨(some t2), oMov (.v (.bool false)), none, none⟩])
 (xSeq (xSeq (xOps [⟨(some t5), oFieldAddr 0 (.t t1), none, none⟩,
   ⟨(some t6), oLoad1 (.t t5), none, (some (.t t5))⟩,
   ⟨(some t7), oBin (int2 (cmpO neI)) (.t t6) (.v (.int .i64 2)), none, none⟩,
   ⟨(some t8), oMov (.t t7), none, none⟩,
   ⟨(some t9), oFieldAddr 0 (.t t1), (some (t8, true)), none⟩,
   ⟨(some t10), oLoad1 (.t t9), (some (t8, true)), (some (.t t9))⟩,
   ⟨(some t11), oBin (int2 (cmpO neI)) (.t t10) (.v (.int .i64 3)), (some (t8, true)), none⟩,
   ⟨(some t12), oPick (.t t8) (.t t11) (.v (.bool false)), none, none⟩,
   ⟨(some t13), oMov (.t t12), none, none⟩,
   ⟨(some t14), oFieldAddr 0 (.t t1), (some (t13, true)), none⟩,
   ⟨(some t15), oLoad1 (.t t14), (some (t13, true)), (some (.t t14))⟩,
   ⟨(some t16), oBin (int2 (cmpO neI)) (.t t15) (.v (.int .i64 5)), (some (t13, true)), none⟩,
   ⟨(some t17), oPick (.t t13) (.t t16) (.v (.bool false)), none, none⟩,
   ⟨(some t18), oMov (.t t17), none, none⟩,
   ⟨(some t19), oFieldAddr 1 (.t t1), (some (t18, false)), none⟩,
   ⟨(some t20), oLoad1 (.t t19), (some (t18, false)), (some (.t t19))⟩,
   ⟨(some t21), oCall 106 [(.t t20), (.v (.int .i64 1)), (.v (.int .i64 5))], (some (t18, false)), none⟩,
   ⟨(some t22), oNot (.t t21), (some (t18, false)), none⟩,
   ⟨(some t23), oPick (.t t18) (.v (.bool true)) (.t t22), none, none⟩,
   ⟨(some t24), oMov (.t t23), none, none⟩,
   ⟨(some t25), oFieldAddr 2 (.t t1), (some (t24, false)), none⟩,
   ⟨(some t26), oLoad1 (.t t25), (some (t24, false)), (some (.t t25))⟩,
   ⟨(some t27), oLenL (.t t26), (some (t24, false)), none⟩,
   ⟨(some t28), oBin (int2 (cmpO gtI)) (.t t27) (.v (.int .i64 31)), (some (t24, false)), none⟩,
   ⟨(some t29), oPick (.t t24) (.v (.bool true)) (.t t28), none, none⟩,
   ⟨(some t30), oMov (.t t29), none, none⟩,
   ⟨(some t31), oFieldAddr 3 (.t t1), (some (t30, false)), none⟩,
   ⟨(some t32), oLoad1 (.t t31), (some (t30, false)), (some (.t t31))⟩,
   ⟨(some t33), oLenL (.t t32), (some (t30, false)), none⟩,
   ⟨(some t34), oFieldAddr 2 (.t t1), (some (t30, false)), none⟩,
   ⟨(some t35), oLoad1 (.t t34), (some (t30, false)), (some (.t t34))⟩,
   ⟨(some t36), oLenL (.t t35), (some (t30, false)), none⟩,
   ⟨(some t37), oBin (int2 addO) (.t t36) (.v (.int .i64 1)), (some (t30, false)), none⟩,
   ⟨(some t38), oBin (int2 (cmpO neI)) (.t t33) (.t t37), (some (t30, false)), none⟩,
   ⟨(some t39), oPick (.t t30) (.v (.bool true)) (.t t38), none, none⟩])
 (xCond (.t t39)
 (xSeq (xOps [⟨(some t2), oMov (.v (.bool false)), none, none⟩])
 xRet)
 xSkip))
 (xSeq (xSeq (xOps [⟨(some t40), oFieldAddr 2 (.t t1), none, none⟩,
   ⟨(some t41), oLoad1 (.t t40), none, (some (.t t40))⟩,
   ⟨(some t42), oLenL (.t t41), none, none⟩,
   ⟨(some t43), oMov (.v (.int .i64 0)), none, none⟩])
 (xBlock 0 (xLoop (xSeq (xOps [⟨(some t44), oBin (int2 (cmpO ltI)) (.t t43) (.t t42), none, none⟩])
 (xSeq (xCond (.t t44)
 xSkip
 (xExit 0))
 (xSeq (xBlock 1 (xSeq (xOps [⟨(some t45), oMov (.t t43), none, none⟩,
   ⟨(some t46), oIdxAddrL 1 (.t t41) (.t t43), none, none⟩,
   ⟨(some t47), oLoad1 (.t t46), none, (some (.t t46))⟩,
   ⟨(some t3), oMov (.t t45), none, none⟩,
   ⟨(some t4), oMov (.t t47), none, none⟩])
 (xSeq (xOps [⟨(some t48), oFieldAddr 0 (.t t1), none, none⟩,
   ⟨(some t49), oLoad1 (.t t48), none, (some (.t t48))⟩,
   ⟨(some t50), oMov (.t t4), none, none⟩,
   ⟨(some t51), oCall 61 [(.t t49), (.t t50)], none, none⟩,
   ⟨(some t52), oNot (.t t51), none, none⟩,
   ⟨(some t53), oMov (.t t52), none, none⟩,
   ⟨(some t54), oMov (.t t3), (some (t53, false)), none⟩,
   ⟨(some t55), oBin (int2 (cmpO gtI)) (.t t54) (.v (.int .i64 0)), (some (t53, false)), none⟩,
   ⟨(some t56), oMov (.t t55), (some (t53, false)), none⟩,
   ⟨(some t57), oMov (.t t4), (some (t56, true)), none⟩,
   ⟨(some t58), oFieldAddr 2 (.t t1), (some (t56, true)), none⟩,
   ⟨(some t59), oLoad1 (.t t58), (some (t56, true)), (some (.t t58))⟩,
   ⟨(some t60), oMov (.t t3), (some (t56, true)), none⟩,
   ⟨(some t61), oBin (int2 subO) (.t t60) (.v (.int .i64 1)), (some (t56, true)), none⟩,
   ⟨(some t62), oIdxAddrL 1 (.t t59) (.t t61), (some (t56, true)), none⟩,
   ⟨(some t63), oLoad1 (.t t62), (some (t56, true)), (some (.t t62))⟩,
   ⟨(some t64), oBin (int2 (cmpO leI)) (.t t57) (.t t63), (some (t56, true)), none⟩,
   ⟨(some t65), oPick (.t t56) (.t t64) (.v (.bool false)), (some (t53, false)), none⟩,
   ⟨(some t66), oPick (.t t53) (.v (.bool true)) (.t t65), none, none⟩])
 (xCond (.t t66)
 (xSeq (xOps [⟨(some t2), oMov (.v (.bool false)), none, none⟩])
 xRet)
 xSkip))))
 (xOps [⟨(some t67), oBin (int2 addO) (.t t43) (.v (.int .i64 1)), none, none⟩,
   ⟨(some t43), oMov (.t t67), none, none⟩])))))))
 (xSeq (xOps [⟨(some t68), oFieldAddr 3 (.t t1), none, none⟩,
   ⟨(some t69), oLoad1 (.t t68), none, (some (.t t68))⟩,
   ⟨(some t70), oFunc (.func 142) [] [(.t t1)], none, none⟩,
   ⟨(some t71), oCall 63 [(.t t69), (.t t70)], none, none⟩,
   ⟨(some t72), oNot (.t t71), none, none⟩,
   ⟨(some t2), oMov (.t t72), none, none⟩])
 xRet))))⟩
theorem ok111 : cFunc Tryz.prog gl ex Tryz.f111 = some c111 := by kernel_rfl
/-- (*publican/verify.checker).list -/
def c112 : AFunc := ⟨27, [.tmp t4, .tmp t5],
 (xSeq (xOps [⟨(some t4), oMov (.v (.bool false)), none, none⟩,
   ⟨(some t5), oMov (.v (.bool false)), none, none⟩])
 (xSeq (xSeq (xOps [⟨(some t6), oMov (.t t1), none, none⟩,
   ⟨(some t7), oBin (int2 (cmpO ltI)) (.t t6) (.v (.int .i64 0)), none, none⟩,
   ⟨(some t8), oMov (.t t7), none, none⟩,
   ⟨(some t9), oMov (.t t1), (some (t8, false)), none⟩,
   ⟨(some t10), oMov (.t t0), (some (t8, false)), none⟩,
   ⟨(some t11), oNilCheck (.t t10), (some (t8, false)), none⟩,
   ⟨(some t12), oFieldAddr 0 (.t t11), (some (t8, false)), none⟩,
   ⟨(some t13), oFieldAddr 2 (.t t12), (some (t8, false)), none⟩,
   ⟨(some t14), oLoad1 (.t t13), (some (t8, false)), (some (.t t13))⟩,
   ⟨(some t15), oLenL (.t t14), (some (t8, false)), none⟩,
   ⟨(some t16), oBin (int2 (cmpO geI)) (.t t9) (.t t15), (some (t8, false)), none⟩,
   ⟨(some t17), oPick (.t t8) (.v (.bool true)) (.t t16), none, none⟩])
 (xCond (.t t17)
 (xSeq (xOps [⟨(some t4), oMov (.v (.bool false)), none, none⟩,
   ⟨(some t5), oMov (.v (.bool false)), none, none⟩])
 xRet)
 xSkip))
 (xSeq (xOps [⟨(some t18), oMov (.t t0), none, none⟩,
   ⟨(some t19), oNilCheck (.t t18), none, none⟩,
   ⟨(some t20), oFieldAddr 0 (.t t19), none, none⟩,
   ⟨(some t21), oFieldAddr 2 (.t t20), none, none⟩,
   ⟨(some t22), oLoad1 (.t t21), none, (some (.t t21))⟩,
   ⟨(some t23), oMov (.t t1), none, none⟩,
   ⟨(some t24), oIdxAddrL 1 (.t t22) (.t t23), none, none⟩,
   ⟨(some t25), oLoad1 (.t t24), none, (some (.t t24))⟩,
   ⟨(some t26), oBin (int2 (cmpO eqI)) (.t t25) (.v (.int .i64 6)), none, none⟩,
   ⟨(some t4), oMov (.t t26), none, none⟩,
   ⟨(some t5), oMov (.v (.bool true)), none, none⟩])
 xRet)))⟩
theorem ok112 : cFunc Tryz.prog gl ex Tryz.f112 = some c112 := by kernel_rfl
/-- (*publican/verify.checker).slot -/
def c113 : AFunc := ⟨25, [.tmp t4],
 (xSeq (xOps [⟨(some t4), oMov (.v (.int .i64 0)), none, none⟩])
 (xSeq (xSeq (xOps [⟨(some t5), oMov (.t t1), none, none⟩,
   ⟨(some t6), oBin (int2 (cmpO ltI)) (.t t5) (.v (.int .i64 0)), none, none⟩,
   ⟨(some t7), oMov (.t t6), none, none⟩,
   ⟨(some t8), oMov (.t t1), (some (t7, false)), none⟩,
   ⟨(some t9), oMov (.t t0), (some (t7, false)), none⟩,
   ⟨(some t10), oNilCheck (.t t9), (some (t7, false)), none⟩,
   ⟨(some t11), oFieldAddr 0 (.t t10), (some (t7, false)), none⟩,
   ⟨(some t12), oFieldAddr 4 (.t t11), (some (t7, false)), none⟩,
   ⟨(some t13), oLoad1 (.t t12), (some (t7, false)), (some (.t t12))⟩,
   ⟨(some t14), oLenL (.t t13), (some (t7, false)), none⟩,
   ⟨(some t15), oBin (int2 (cmpO geI)) (.t t8) (.t t14), (some (t7, false)), none⟩,
   ⟨(some t16), oPick (.t t7) (.v (.bool true)) (.t t15), none, none⟩])
 (xCond (.t t16)
 (xSeq (xOps [⟨(some t4), oMov (.v (.int .i64 0)), none, none⟩])
 xRet)
 xSkip))
 (xSeq (xOps [⟨(some t17), oMov (.t t0), none, none⟩,
   ⟨(some t18), oNilCheck (.t t17), none, none⟩,
   ⟨(some t19), oFieldAddr 0 (.t t18), none, none⟩,
   ⟨(some t20), oFieldAddr 4 (.t t19), none, none⟩,
   ⟨(some t21), oLoad1 (.t t20), none, (some (.t t20))⟩,
   ⟨(some t22), oMov (.t t1), none, none⟩,
   ⟨(some t23), oIdxAddrL 1 (.t t21) (.t t22), none, none⟩,
   ⟨(some t24), oLoad1 (.t t23), none, (some (.t t23))⟩,
   ⟨(some t4), oMov (.t t24), none, none⟩])
 xRet)))⟩
theorem ok113 : cFunc Tryz.prog gl ex Tryz.f113 = some c113 := by kernel_rfl
/-- (*publican/verify.checker).out -/
def c114 : AFunc := ⟨25, [.tmp t4],
 (xSeq (xOps [⟨(some t4), oMov (.v (.int .i64 0)), none, none⟩])
 (xSeq (xSeq (xOps [⟨(some t5), oMov (.t t1), none, none⟩,
   ⟨(some t6), oBin (int2 (cmpO ltI)) (.t t5) (.v (.int .i64 0)), none, none⟩,
   ⟨(some t7), oMov (.t t6), none, none⟩,
   ⟨(some t8), oMov (.t t1), (some (t7, false)), none⟩,
   ⟨(some t9), oMov (.t t0), (some (t7, false)), none⟩,
   ⟨(some t10), oNilCheck (.t t9), (some (t7, false)), none⟩,
   ⟨(some t11), oFieldAddr 0 (.t t10), (some (t7, false)), none⟩,
   ⟨(some t12), oFieldAddr 3 (.t t11), (some (t7, false)), none⟩,
   ⟨(some t13), oLoad1 (.t t12), (some (t7, false)), (some (.t t12))⟩,
   ⟨(some t14), oLenL (.t t13), (some (t7, false)), none⟩,
   ⟨(some t15), oBin (int2 (cmpO geI)) (.t t8) (.t t14), (some (t7, false)), none⟩,
   ⟨(some t16), oPick (.t t7) (.v (.bool true)) (.t t15), none, none⟩])
 (xCond (.t t16)
 (xSeq (xOps [⟨(some t4), oMov (.v (.int .i64 0)), none, none⟩])
 xRet)
 xSkip))
 (xSeq (xOps [⟨(some t17), oMov (.t t0), none, none⟩,
   ⟨(some t18), oNilCheck (.t t17), none, none⟩,
   ⟨(some t19), oFieldAddr 0 (.t t18), none, none⟩,
   ⟨(some t20), oFieldAddr 3 (.t t19), none, none⟩,
   ⟨(some t21), oLoad1 (.t t20), none, (some (.t t20))⟩,
   ⟨(some t22), oMov (.t t1), none, none⟩,
   ⟨(some t23), oIdxAddrL 1 (.t t21) (.t t22), none, none⟩,
   ⟨(some t24), oLoad1 (.t t23), none, (some (.t t23))⟩,
   ⟨(some t4), oMov (.t t24), none, none⟩])
 xRet)))⟩
theorem ok114 : cFunc Tryz.prog gl ex Tryz.f114 = some c114 := by kernel_rfl
/-- (*publican/verify.checker).paired -/
def c115 : AFunc := ⟨82, [.tmp t6],
 (xSeq (xOps [⟨(some t6), oMov (.v (.bool false)), none, none⟩])
 (xSeq (xSeq (xOps [⟨(some t9), oMov (.t t1), none, none⟩,
   ⟨(some t10), oBin (int2 (cmpO ltI)) (.t t9) (.v (.int .i64 0)), none, none⟩,
   ⟨(some t11), oMov (.t t10), none, none⟩,
   ⟨(some t12), oMov (.t t2), (some (t11, false)), none⟩,
   ⟨(some t13), oBin (int2 (cmpO ltI)) (.t t12) (.v (.int .i64 0)), (some (t11, false)), none⟩,
   ⟨(some t14), oPick (.t t11) (.v (.bool true)) (.t t13), none, none⟩,
   ⟨(some t15), oMov (.t t14), none, none⟩,
   ⟨(some t16), oMov (.t t1), (some (t15, false)), none⟩,
   ⟨(some t17), oMov (.t t2), (some (t15, false)), none⟩,
   ⟨(some t18), oBin (int2 (cmpO geI)) (.t t16) (.t t17), (some (t15, false)), none⟩,
   ⟨(some t19), oPick (.t t15) (.v (.bool true)) (.t t18), none, none⟩,
   ⟨(some t20), oMov (.t t19), none, none⟩,
   ⟨(some t21), oMov (.t t2), (some (t20, false)), none⟩,
   ⟨(some t22), oMov (.t t0), (some (t20, false)), none⟩,
   ⟨(some t23), oNilCheck (.t t22), (some (t20, false)), none⟩,
   ⟨(some t24), oFieldAddr 0 (.t t23), (some (t20, false)), none⟩,
   ⟨(some t25), oFieldAddr 6 (.t t24), (some (t20, false)), none⟩,
   ⟨(some t26), oLoad1 (.t t25), (some (t20, false)), (some (.t t25))⟩,
   ⟨(some t27), oLenL (.t t26), (some (t20, false)), none⟩,
   ⟨(some t28), oBin (int2 (cmpO geI)) (.t t21) (.t t27), (some (t20, false)), none⟩,
   ⟨(some t29), oPick (.t t20) (.v (.bool true)) (.t t28), none, none⟩])
 (xCond (.t t29)
 (xSeq (xOps [⟨(some t6), oMov (.v (.bool false)), none, none⟩])
 xRet)
 xSkip))
 (xSeq (xReg [⟨(some t30), oMov (.t t0), none, none⟩,
   ⟨(some t31), oNilCheck (.t t30), none, none⟩,
   ⟨(some t32), oFieldAddr 0 (.t t31), none, none⟩,
   ⟨(some t33), oFieldAddr 6 (.t t32), none, none⟩,
   ⟨(some t34), oLoad1 (.t t33), none, (some (.t t33))⟩,
   ⟨(some t35), oMov (.t t1), none, none⟩,
   ⟨(some t36), oIdxAddrL 4 (.t t34) (.t t35), none, none⟩,
   ⟨(some t37), oLoadN 4 (.t t36), none, none⟩,
   ⟨(some t38), oMov (.t t0), none, none⟩,
   ⟨(some t39), oNilCheck (.t t38), none, none⟩,
   ⟨(some t40), oFieldAddr 0 (.t t39), none, none⟩,
   ⟨(some t41), oFieldAddr 6 (.t t40), none, none⟩,
   ⟨(some t42), oLoad1 (.t t41), none, (some (.t t41))⟩,
   ⟨(some t43), oMov (.t t2), none, none⟩,
   ⟨(some t44), oIdxAddrL 4 (.t t42) (.t t43), none, none⟩,
   ⟨(some t45), oLoadN 4 (.t t44), none, none⟩,
   ⟨(some t7), oNew [(.int .i64 0), (.int .i64 0), (.int .i64 0), (.int .i64 0)], none, none⟩,
   ⟨(some t8), oNew [(.int .i64 0), (.int .i64 0), (.int .i64 0), (.int .i64 0)], none, none⟩,
   ⟨none, oStore 4 (.t t7) (.t t37), none, none⟩,
   ⟨none, oStore 4 (.t t8) (.t t45), none, none⟩] [(0, 5), (1, 5), (2, 5), (3, 5), (4, 5), (0, 8), (1, 8), (2, 8), (3, 8), (4, 8), (5, 8), (6, 8), (7, 8), (0, 9), (1, 9), (2, 9), (3, 9), (4, 9), (5, 9), (6, 9), (7, 9), (0, 10), (1, 10), (2, 10), (3, 10), (4, 10), (5, 10), (6, 10), (7, 10), (0, 11), (1, 11), (2, 11), (3, 11), (4, 11), (5, 11), (6, 11), (7, 11), (0, 12), (1, 12), (2, 12), (3, 12), (4, 12), (5, 12), (6, 12), (7, 12), (0, 13), (1, 13), (2, 13), (3, 13), (4, 13), (5, 13), (6, 13), (7, 13), (8, 13), (9, 13), (10, 13), (11, 13), (12, 13), (0, 14), (1, 14), (2, 14), (3, 14), (4, 14), (5, 14), (6, 14), (7, 14), (0, 15), (1, 15), (2, 15), (3, 15), (4, 15), (5, 15), (6, 15), (7, 15), (0, 16), (1, 16), (2, 16), (3, 16), (4, 16), (5, 16), (6, 16), (7, 16), (8, 16), (9, 16), (10, 16), (11, 16), (12, 16), (13, 16), (14, 16), (15, 16), (0, 17), (1, 17), (2, 17), (3, 17), (4, 17), (5, 17), (6, 17), (7, 17), (8, 17), (9, 17), (10, 17), (11, 17), (12, 17), (13, 17), (14, 17), (15, 17), (16, 17), (8, 18), (9, 18), (10, 18), (11, 18), (12, 18), (13, 18), (14, 18), (15, 18)])
 (xSeq (xOps [⟨(some t46), oFieldAddr 0 (.t t7), none, none⟩,
   ⟨(some t47), oLoad1 (.t t46), none, (some (.t t46))⟩,
   ⟨(some t48), oBin (int2 (cmpO eqI)) (.t t47) (.v (.int .i64 19)), none, none⟩,
   ⟨(some t49), oMov (.t t48), none, none⟩,
   ⟨(some t50), oFieldAddr 0 (.t t8), (some (t49, true)), none⟩,
   ⟨(some t51), oLoad1 (.t t50), (some (t49, true)), (some (.t t50))⟩,
   ⟨(some t52), oBin (int2 (cmpO eqI)) (.t t51) (.v (.int .i64 20)), (some (t49, true)), none⟩,
   ⟨(some t53), oPick (.t t49) (.t t52) (.v (.bool false)), none, none⟩,
   ⟨(some t54), oMov (.t t53), none, none⟩,
   ⟨(some t55), oFieldAddr 1 (.t t7), (some (t54, true)), none⟩,
   ⟨(some t56), oLoad1 (.t t55), (some (t54, true)), (some (.t t55))⟩,
   ⟨(some t57), oFieldAddr 1 (.t t8), (some (t54, true)), none⟩,
   ⟨(some t58), oLoad1 (.t t57), (some (t54, true)), (some (.t t57))⟩,
   ⟨(some t59), oBin (int2 (cmpO eqI)) (.t t56) (.t t58), (some (t54, true)), none⟩,
   ⟨(some t60), oPick (.t t54) (.t t59) (.v (.bool false)), none, none⟩,
   ⟨(some t61), oMov (.t t60), none, none⟩,
   ⟨(some t62), oFieldAddr 2 (.t t7), (some (t61, true)), none⟩,
   ⟨(some t63), oLoad1 (.t t62), (some (t61, true)), (some (.t t62))⟩,
   ⟨(some t64), oFieldAddr 2 (.t t8), (some (t61, true)), none⟩,
   ⟨(some t65), oLoad1 (.t t64), (some (t61, true)), (some (.t t64))⟩,
   ⟨(some t66), oBin (int2 (cmpO eqI)) (.t t63) (.t t65), (some (t61, true)), none⟩,
   ⟨(some t67), oPick (.t t61) (.t t66) (.v (.bool false)), none, none⟩,
   ⟨(some t68), oMov (.t t67), none, none⟩,
   ⟨(some t69), oFieldAddr 3 (.t t7), (some (t68, true)), none⟩,
   ⟨(some t70), oLoad1 (.t t69), (some (t68, true)), (some (.t t69))⟩,
   ⟨(some t71), oBin (int2 subO) (.t t70) (.v (.int .i64 1)), (some (t68, true)), none⟩,
   ⟨(some t72), oMov (.t t2), (some (t68, true)), none⟩,
   ⟨(some t73), oBin (int2 (cmpO eqI)) (.t t71) (.t t72), (some (t68, true)), none⟩,
   ⟨(some t74), oPick (.t t68) (.t t73) (.v (.bool false)), none, none⟩,
   ⟨(some t75), oMov (.t t74), none, none⟩,
   ⟨(some t76), oFieldAddr 3 (.t t8), (some (t75, true)), none⟩,
   ⟨(some t77), oLoad1 (.t t76), (some (t75, true)), (some (.t t76))⟩,
   ⟨(some t78), oBin (int2 subO) (.t t77) (.v (.int .i64 1)), (some (t75, true)), none⟩,
   ⟨(some t79), oMov (.t t1), (some (t75, true)), none⟩,
   ⟨(some t80), oBin (int2 (cmpO eqI)) (.t t78) (.t t79), (some (t75, true)), none⟩,
   ⟨(some t81), oPick (.t t75) (.t t80) (.v (.bool false)), none, none⟩,
   ⟨(some t6), oMov (.t t81), none, none⟩])
 xRet))))⟩
theorem ok115 : cFunc Tryz.prog gl ex Tryz.f115 = some c115 := by kernel_rfl
end
end Go.Proofs.YtoabiapkdnibkaaGreat.AbsMachK
