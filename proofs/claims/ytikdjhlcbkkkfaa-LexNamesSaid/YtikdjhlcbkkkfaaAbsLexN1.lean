import Derived.Test.YtikdjhlcbkkkfaaRows
import Derived.Test.YtikdjhlcbkkkfaaAbsLexNT
import Derived.KernelRfl
namespace Go.Proofs.Ytikdjhlcbkkkfaa.AbsLexN
open Go Go.Abs Go.Proofs
set_option maxRecDepth 100000
set_option linter.unusedVariables false
noncomputable section
-- publican/cal.before
def c62 : AFunc := ⟨25, [.tmp t2],
 (xSeq (xOps [⟨(some t2), oMov (.v (.int .i64 0)), none, none⟩])
 (xSeq (xOps [⟨(some t5), oMov (.t t0), none, none⟩,
   ⟨(some t6), oBin (int2 subO) (.t t5) (.v (.int .i64 1900)), none, none⟩,
   ⟨(some t3), oMov (.t t6), none, none⟩])
 (xSeq (xOps [⟨(some t7), oMov (.t t0), none, none⟩,
   ⟨(some t8), oBin (int2 subO) (.t t7) (.v (.int .i64 1)), none, none⟩,
   ⟨(some t9), oBin (int2 quoO) (.t t8) (.v (.int .i64 4)), none, none⟩,
   ⟨(some t10), oBin (int2 subO) (.t t9) (.v (.int .i64 474)), none, none⟩,
   ⟨(some t11), oMov (.t t0), none, none⟩,
   ⟨(some t12), oBin (int2 subO) (.t t11) (.v (.int .i64 1)), none, none⟩,
   ⟨(some t13), oBin (int2 quoO) (.t t12) (.v (.int .i64 100)), none, none⟩,
   ⟨(some t14), oBin (int2 subO) (.t t13) (.v (.int .i64 18)), none, none⟩,
   ⟨(some t15), oBin (int2 subO) (.t t10) (.t t14), none, none⟩,
   ⟨(some t16), oMov (.t t0), none, none⟩,
   ⟨(some t17), oBin (int2 subO) (.t t16) (.v (.int .i64 1)), none, none⟩,
   ⟨(some t18), oBin (int2 quoO) (.t t17) (.v (.int .i64 400)), none, none⟩,
   ⟨(some t19), oBin (int2 subO) (.t t18) (.v (.int .i64 4)), none, none⟩,
   ⟨(some t20), oBin (int2 addO) (.t t15) (.t t19), none, none⟩,
   ⟨(some t4), oMov (.t t20), none, none⟩])
 (xSeq (xOps [⟨(some t21), oMov (.t t3), none, none⟩,
   ⟨(some t22), oBin (int2 mulO) (.t t21) (.v (.int .i64 365)), none, none⟩,
   ⟨(some t23), oMov (.t t4), none, none⟩,
   ⟨(some t24), oBin (int2 addO) (.t t22) (.t t23), none, none⟩,
   ⟨(some t2), oMov (.t t24), none, none⟩])
 xRet))))⟩
theorem ok62 : cFunc Try.prog gl ex Try.f62 = some c62 := by kernel_rfl
-- publican/cal.Leap
def c65 : AFunc := ⟨16, [.tmp t2],
 (xSeq (xOps [⟨(some t2), oMov (.v (.bool false)), none, none⟩])
 (xSeq (xOps [⟨(some t3), oMov (.t t0), none, none⟩,
   ⟨(some t4), oBin (int2 remO) (.t t3) (.v (.int .i64 4)), none, none⟩,
   ⟨(some t5), oBin (int2 (cmpO eqI)) (.t t4) (.v (.int .i64 0)), none, none⟩,
   ⟨(some t6), oMov (.t t5), none, none⟩,
   ⟨(some t7), oMov (.t t0), (some (t6, true)), none⟩,
   ⟨(some t8), oBin (int2 remO) (.t t7) (.v (.int .i64 100)), (some (t6, true)), none⟩,
   ⟨(some t9), oBin (int2 (cmpO neI)) (.t t8) (.v (.int .i64 0)), (some (t6, true)), none⟩,
   ⟨(some t10), oPick (.t t6) (.t t9) (.v (.bool false)), none, none⟩,
   ⟨(some t11), oMov (.t t10), none, none⟩,
   ⟨(some t12), oMov (.t t0), (some (t11, false)), none⟩,
   ⟨(some t13), oBin (int2 remO) (.t t12) (.v (.int .i64 400)), (some (t11, false)), none⟩,
   ⟨(some t14), oBin (int2 (cmpO eqI)) (.t t13) (.v (.int .i64 0)), (some (t11, false)), none⟩,
   ⟨(some t15), oPick (.t t11) (.v (.bool true)) (.t t14), none, none⟩,
   ⟨(some t2), oMov (.t t15), none, none⟩])
 xRet))⟩
theorem ok65 : cFunc Try.prog gl ex Try.f65 = some c65 := by kernel_rfl
end
end Go.Proofs.Ytikdjhlcbkkkfaa.AbsLexN
