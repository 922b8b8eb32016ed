import Derived.Test.YthjhammjankekaaAbsRatKE
import Derived.Test.YthjhammjankekaaAbsZF
namespace Go.Proofs.Ythjhammjankekaa.AbsRatK
open Go Go.Abs Go.Proofs
set_option maxRecDepth 100000
set_option linter.unusedVariables false
set_option linter.unusedSimpArgs false
noncomputable section
def D3 (rec : Rec) (N : Nat) (s : St) : Out := opt2 (rec 12 [] s) fun x1 s =>
 opt2 (oNot (.v x1) rec PT.nil s) fun x2 s =>
 condV x2
 (some (oneOf [(.bool false)], s))
 (opt2 (rec 13 [] s) fun x3 s =>
 opt2 (rec 14 [x3, (.int .i64 (-1)), (.int .i64 0)] s) fun x4 s =>
 opt2 (rec 14 [x3, (.int .i64 109573), (.int .i64 0)] s) fun x5 s =>
 opt2 (rec 14 [x3, (.int .i64 0), (.int .i64 1000000001)] s) fun x6 s =>
 opt2 (loopF (c3_l0 rec N) N (PT.put (.int .i64 0) t5 (PT.put x6 t4 (PT.put x6 t14 (PT.put x3 t13 (PT.put x5 t3 (PT.put x5 t12 (PT.put x3 t11 (PT.put x4 t2 (PT.put x4 t10 (PT.put x3 t9 (PT.put x3 t1 (PT.put x3 t8 (PT.put x2 t7 (PT.put x1 t6 (PT.put (.bool false) t0 PT.nil))))))))))))))) s) fun e r => opt2 (blkX 0 e r) fun e r => opt2 (thenX (c3_r0 rec N) e r) fun e r => finX [.tmp t0] e r)
theorem d3 (rec : Rec) (N : Nat) (s : St) : callF rec N c3 [] s = D3 rec N s := by
  rw [call_f _ _ _ _ _ rfl]
  simp only [c3, x_seq, x_ops, x_skip, x_ret, x_exit, x_cond, x_block, x_loop, ops_c, ops_n, op1_u, op1_gj, op2_op2, op2_op, op2_s, op2_cond, thenX_n, thenX_e, thenX_r, blkX_n, blkX_r, blkX_e, finX_r, finX_n, res_n, res_t, mov_f, op_s, Nat.beq_refl, cond_true]
  first | done | kernel_rfl
end
end Go.Proofs.Ythjhammjankekaa.AbsRatK
