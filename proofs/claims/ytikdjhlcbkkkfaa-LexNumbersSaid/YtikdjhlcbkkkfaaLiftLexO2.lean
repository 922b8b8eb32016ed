import Derived.Test.YtikdjhlcbkkkfaaAbsLexOE
import Derived.Test.YtikdjhlcbkkkfaaAbsZL
namespace Go.Proofs.Ytikdjhlcbkkkfaa.AbsLexO
open Go Go.Abs Go.Proofs
set_option maxRecDepth 100000
set_option linter.unusedVariables false
set_option linter.unusedSimpArgs false
noncomputable section
-- c43
def D43 (rec : Rec) (N : Nat) (a0 : Value) (a1 : Value) (s : St) : Out := opt2 (oMov (.v (.bool false)) rec PT.nil s) fun x1 s =>
 opt2 (oMov (.v a0) rec PT.nil s) fun x2 s =>
 opt2 (oLenS (.v x2) rec PT.nil s) fun x3 s =>
 opt2 (oMov (.v a1) rec PT.nil s) fun x4 s =>
 opt2 (oLenS (.v x4) rec PT.nil s) fun x5 s =>
 opt2 (oBin (int2 (cmpO geI)) (.v x3) (.v x5) rec PT.nil s) fun x6 s =>
 opt2 (oMov (.v x6) rec PT.nil s) fun x7 s =>
 opt (gval true x7) fun x8 => opt2 (orUndef x8 (oMov (.v a0) rec PT.nil s) s) fun x9 s =>
 opt (gval true x7) fun x10 => opt2 (orUndef x10 (oMov (.v a1) rec PT.nil s) s) fun x11 s =>
 opt (gval true x7) fun x12 => opt2 (orUndef x12 (oLenS (.v x11) rec PT.nil s) s) fun x13 s =>
 opt (gval true x7) fun x14 => opt2 (orUndef x14 (oSliceS (.v x9) none (some (.v x13)) rec PT.nil s) s) fun x15 s =>
 opt (gval true x7) fun x16 => opt2 (orUndef x16 (oMov (.v a1) rec PT.nil s) s) fun x17 s =>
 opt (gval true x7) fun x18 => opt2 (orUndef x18 (oBin (str2 (cmpS eqBytes)) (.v x15) (.v x17) rec PT.nil s) s) fun x19 s =>
 opt2 (oPick (.v x7) (.v x19) (.v (.bool false)) rec PT.nil s) fun x20 s =>
 opt2 (oMov (.v x20) rec PT.nil s) fun x21 s =>
 some (oneOf [x21], s)
set_option maxHeartbeats 4000000 in
theorem d43 (rec : Rec) (N : Nat) (a0 : Value) (a1 : Value) (s : St) : callF rec N c43 [a0, a1] s = D43 rec N a0 a1 s := by
  rw [call_f _ _ _ _ _ rfl]
  simp (maxSteps := 4000000) only [c43, lenN, x_seq, x_ops, x_skip, x_ret, x_exit, x_cond, x_block, x_loop, ops_c, ops_n, op1_u, op1_gj, rq_c, rq_n, opQ_u, opQ_g, op2_op2, op2_op, op2_s, op2_cond, thenX_n, thenX_e, thenX_r, blkX_n, blkX_r, blkX_e, finX_r, finX_n, res_n, res_t, op_s, Nat.beq_refl, cond_true]
  first | done | kernel_rfl
def F43 (rec : Rec) (N : Nat) (a0 : Value) (a1 : Value) (s : St) : Out := opt2 (oLenS (.v a0) rec PT.nil s) fun x1 s =>
 opt2 (oLenS (.v a1) rec PT.nil s) fun x2 s =>
 opt2 (oBin (int2 (cmpO geI)) (.v x1) (.v x2) rec PT.nil s) fun x3 s =>
 opt (gval true x3) fun x4 => opt2 (orUndef x4 (some (a0, s)) s) fun x5 s =>
 opt (gval true x3) fun x6 => opt2 (orUndef x6 (some (a1, s)) s) fun x7 s =>
 opt (gval true x3) fun x8 => opt2 (orUndef x8 (oLenS (.v x7) rec PT.nil s) s) fun x9 s =>
 opt (gval true x3) fun x10 => opt2 (orUndef x10 (oSliceS (.v x5) none (some (.v x9)) rec PT.nil s) s) fun x11 s =>
 opt (gval true x3) fun x12 => opt2 (orUndef x12 (some (a1, s)) s) fun x13 s =>
 opt (gval true x3) fun x14 => opt2 (orUndef x14 (oBin (str2 (cmpS eqBytes)) (.v x11) (.v x13) rec PT.nil s) s) fun x15 s =>
 opt2 (oPick (.v x3) (.v x15) (.v (.bool false)) rec PT.nil s) fun x16 s =>
 some (oneOf [x16], s)
set_option maxHeartbeats 4000000 in
theorem f43 (rec : Rec) (N : Nat) (a0 : Value) (a1 : Value) (s : St) : callF rec N c43 [a0, a1] s = F43 rec N a0 a1 s := by
  rw [d43]
  unfold D43 F43
  first
    | done
    | rfl
    | (simp (maxSteps := 4000000) only [mov_v, op2_s]; first | done | kernel_rfl)
    | kernel_rfl
-- c45
def D45 (rec : Rec) (N : Nat) (a0 : Value) (s : St) : Out := opt2 (oMov (.v (.bool false)) rec PT.nil s) fun x1 s =>
 opt2 (oMov (.v a0) rec PT.nil s) fun x2 s =>
 opt2 (oBin (int2 remO) (.v x2) (.v (.int .i64 4)) rec PT.nil s) fun x3 s =>
 opt2 (oBin (int2 (cmpO eqI)) (.v x3) (.v (.int .i64 0)) rec PT.nil s) fun x4 s =>
 opt2 (oMov (.v x4) rec PT.nil s) fun x5 s =>
 opt (gval true x5) fun x6 => opt2 (orUndef x6 (oMov (.v a0) rec PT.nil s) s) fun x7 s =>
 opt (gval true x5) fun x8 => opt2 (orUndef x8 (oBin (int2 remO) (.v x7) (.v (.int .i64 100)) rec PT.nil s) s) fun x9 s =>
 opt (gval true x5) fun x10 => opt2 (orUndef x10 (oBin (int2 (cmpO neI)) (.v x9) (.v (.int .i64 0)) rec PT.nil s) s) fun x11 s =>
 opt2 (oPick (.v x5) (.v x11) (.v (.bool false)) rec PT.nil s) fun x12 s =>
 opt2 (oMov (.v x12) rec PT.nil s) fun x13 s =>
 opt (gval false x13) fun x14 => opt2 (orUndef x14 (oMov (.v a0) rec PT.nil s) s) fun x15 s =>
 opt (gval false x13) fun x16 => opt2 (orUndef x16 (oBin (int2 remO) (.v x15) (.v (.int .i64 400)) rec PT.nil s) s) fun x17 s =>
 opt (gval false x13) fun x18 => opt2 (orUndef x18 (oBin (int2 (cmpO eqI)) (.v x17) (.v (.int .i64 0)) rec PT.nil s) s) fun x19 s =>
 opt2 (oPick (.v x13) (.v (.bool true)) (.v x19) rec PT.nil s) fun x20 s =>
 opt2 (oMov (.v x20) rec PT.nil s) fun x21 s =>
 some (oneOf [x21], s)
set_option maxHeartbeats 4000000 in
theorem d45 (rec : Rec) (N : Nat) (a0 : Value) (s : St) : callF rec N c45 [a0] s = D45 rec N a0 s := by
  rw [call_f _ _ _ _ _ rfl]
  simp (maxSteps := 4000000) only [c45, lenN, x_seq, x_ops, x_skip, x_ret, x_exit, x_cond, x_block, x_loop, ops_c, ops_n, op1_u, op1_gj, rq_c, rq_n, opQ_u, opQ_g, op2_op2, op2_op, op2_s, op2_cond, thenX_n, thenX_e, thenX_r, blkX_n, blkX_r, blkX_e, finX_r, finX_n, res_n, res_t, op_s, Nat.beq_refl, cond_true]
  first | done | kernel_rfl
def F45 (rec : Rec) (N : Nat) (a0 : Value) (s : St) : Out := opt2 (oBin (int2 remO) (.v a0) (.v (.int .i64 4)) rec PT.nil s) fun x1 s =>
 opt2 (oBin (int2 (cmpO eqI)) (.v x1) (.v (.int .i64 0)) rec PT.nil s) fun x2 s =>
 opt (gval true x2) fun x3 => opt2 (orUndef x3 (some (a0, s)) s) fun x4 s =>
 opt (gval true x2) fun x5 => opt2 (orUndef x5 (oBin (int2 remO) (.v x4) (.v (.int .i64 100)) rec PT.nil s) s) fun x6 s =>
 opt (gval true x2) fun x7 => opt2 (orUndef x7 (oBin (int2 (cmpO neI)) (.v x6) (.v (.int .i64 0)) rec PT.nil s) s) fun x8 s =>
 opt2 (oPick (.v x2) (.v x8) (.v (.bool false)) rec PT.nil s) fun x9 s =>
 opt (gval false x9) fun x10 => opt2 (orUndef x10 (some (a0, s)) s) fun x11 s =>
 opt (gval false x9) fun x12 => opt2 (orUndef x12 (oBin (int2 remO) (.v x11) (.v (.int .i64 400)) rec PT.nil s) s) fun x13 s =>
 opt (gval false x9) fun x14 => opt2 (orUndef x14 (oBin (int2 (cmpO eqI)) (.v x13) (.v (.int .i64 0)) rec PT.nil s) s) fun x15 s =>
 opt2 (oPick (.v x9) (.v (.bool true)) (.v x15) rec PT.nil s) fun x16 s =>
 some (oneOf [x16], s)
set_option maxHeartbeats 4000000 in
theorem f45 (rec : Rec) (N : Nat) (a0 : Value) (s : St) : callF rec N c45 [a0] s = F45 rec N a0 s := by
  rw [d45]
  unfold D45 F45
  first
    | done
    | rfl
    | (simp (maxSteps := 4000000) only [mov_v, op2_s]; first | done | kernel_rfl)
    | kernel_rfl
-- c46
def D46_j0 (rec : Rec) (N : Nat) (fs : Frm) (s : St) : OutX := condV (orU (fs.get t14))
 (opt2 (oMov (.v (.int .i64 30)) rec PT.nil s) fun x1 s =>
 some (.ret, (PT.put x1 t4 fs), s))
 (opt2 (oBin (int2 (cmpO eqI)) (.v (orU (fs.get t5))) (.v (.int .i64 2)) rec PT.nil s) fun x2 s =>
 opt2 (oMov (.v x2) rec PT.nil s) fun x3 s =>
 condV x3
 (opt2 (oMov (.v (orU (fs.get t0))) rec PT.nil s) fun x4 s =>
 opt2 (rec 45 [x4] s) fun x5 s =>
 condV x5
 (opt2 (oMov (.v (.int .i64 29)) rec PT.nil s) fun x6 s =>
 some (.ret, (PT.put x6 t4 (PT.put x5 t22 (PT.put x4 t21 (PT.put x3 t19 (PT.put x2 t20 fs))))), s))
 (opt2 (oMov (.v (.int .i64 28)) rec PT.nil s) fun x7 s =>
 some (.ret, (PT.put x7 t4 (PT.put x5 t22 (PT.put x4 t21 (PT.put x3 t19 (PT.put x2 t20 fs))))), s)))
 (some (.norm, (PT.put x3 t19 (PT.put x2 t20 fs)), s)))
set_option maxHeartbeats 4000000 in
theorem d46_j0 (rec : Rec) (N : Nat) (fs : Frm) (s : St) : c46_j0 rec N fs s = D46_j0 rec N fs s := by
  simp (maxSteps := 4000000) only [c46_j0, lenN, x_seq, x_ops, x_skip, x_ret, x_exit, x_cond, x_block, x_loop, ops_c, ops_n, op1_u, op1_gj, rq_c, rq_n, opQ_u, opQ_g, op2_op2, op2_op, op2_s, op2_cond, thenX_n, thenX_e, thenX_r, blkX_n, blkX_r, blkX_e, finX_r, finX_n, res_n, res_t, op_s, Nat.beq_refl, cond_true]
  first | done | kernel_rfl
def D46_j1 (rec : Rec) (N : Nat) (fs : Frm) (s : St) : OutX := condV (orU (fs.get t6))
 (opt2 (oMov (.v (.int .i64 31)) rec PT.nil s) fun x1 s =>
 some (.ret, (PT.put x1 t4 fs), s))
 (opt2 (oBin (int2 (cmpO eqI)) (.v (orU (fs.get t5))) (.v (.int .i64 4)) rec PT.nil s) fun x2 s =>
 opt2 (oMov (.v x2) rec PT.nil s) fun x3 s =>
 condV x3
 (c46_j0 rec N (PT.put x3 t14 (PT.put x2 t15 fs)) s)
 (opt2 (oBin (int2 (cmpO eqI)) (.v (orU (fs.get t5))) (.v (.int .i64 6)) rec PT.nil s) fun x4 s =>
 opt2 (oMov (.v x4) rec PT.nil s) fun x5 s =>
 condV x5
 (c46_j0 rec N (PT.put x5 t14 (PT.put x4 t16 (PT.put x3 t14 (PT.put x2 t15 fs)))) s)
 (opt2 (oBin (int2 (cmpO eqI)) (.v (orU (fs.get t5))) (.v (.int .i64 9)) rec PT.nil s) fun x6 s =>
 opt2 (oMov (.v x6) rec PT.nil s) fun x7 s =>
 condV x7
 (c46_j0 rec N (PT.put x7 t14 (PT.put x6 t17 (PT.put x5 t14 (PT.put x4 t16 (PT.put x3 t14 (PT.put x2 t15 fs)))))) s)
 (opt2 (oBin (int2 (cmpO eqI)) (.v (orU (fs.get t5))) (.v (.int .i64 11)) rec PT.nil s) fun x8 s =>
 opt2 (oMov (.v x8) rec PT.nil s) fun x9 s =>
 c46_j0 rec N (PT.put x9 t14 (PT.put x8 t18 (PT.put x7 t14 (PT.put x6 t17 (PT.put x5 t14 (PT.put x4 t16 (PT.put x3 t14 (PT.put x2 t15 fs)))))))) s))))
set_option maxHeartbeats 4000000 in
theorem d46_j1 (rec : Rec) (N : Nat) (fs : Frm) (s : St) : c46_j1 rec N fs s = D46_j1 rec N fs s := by
  simp (maxSteps := 4000000) only [c46_j1, lenN, x_seq, x_ops, x_skip, x_ret, x_exit, x_cond, x_block, x_loop, ops_c, ops_n, op1_u, op1_gj, rq_c, rq_n, opQ_u, opQ_g, op2_op2, op2_op, op2_s, op2_cond, thenX_n, thenX_e, thenX_r, blkX_n, blkX_r, blkX_e, finX_r, finX_n, res_n, res_t, op_s, Nat.beq_refl, cond_true]
  first | done | kernel_rfl
def D46_j2 (rec : Rec) (N : Nat) (fs : Frm) (s : St) : OutX := opt2 (oMov (.v (.int .i64 0)) rec PT.nil s) fun x1 s =>
 some (.ret, (PT.put x1 t4 fs), s)
set_option maxHeartbeats 4000000 in
theorem d46_j2 (rec : Rec) (N : Nat) (fs : Frm) (s : St) : c46_j2 rec N fs s = D46_j2 rec N fs s := by
  simp (maxSteps := 4000000) only [c46_j2, lenN, x_seq, x_ops, x_skip, x_ret, x_exit, x_cond, x_block, x_loop, ops_c, ops_n, op1_u, op1_gj, rq_c, rq_n, opQ_u, opQ_g, op2_op2, op2_op, op2_s, op2_cond, thenX_n, thenX_e, thenX_r, blkX_n, blkX_r, blkX_e, finX_r, finX_n, res_n, res_t, op_s, Nat.beq_refl, cond_true]
  first | done | kernel_rfl
def D46 (rec : Rec) (N : Nat) (a0 : Value) (a1 : Value) (s : St) : Out := opt2 (oMov (.v (.int .i64 0)) rec PT.nil s) fun x1 s =>
 opt2 (oMov (.v a1) rec PT.nil s) fun x2 s =>
 opt2 (oBin (int2 (cmpO eqI)) (.v x2) (.v (.int .i64 1)) rec PT.nil s) fun x3 s =>
 opt2 (oMov (.v x3) rec PT.nil s) fun x4 s =>
 condV x4
 (opt2 (c46_j1 rec N (PT.put x4 t6 (PT.put x3 t7 (PT.put x2 t5 (PT.put x1 t4 (PT.put a1 t1 (PT.put a0 t0 PT.nil)))))) s) fun e r => opt2 (blkX 0 e r) fun e r => opt2 (thenX (c46_j2 rec N) e r) fun e r => finX [.tmp t4] e r)
 (opt2 (oBin (int2 (cmpO eqI)) (.v x2) (.v (.int .i64 3)) rec PT.nil s) fun x5 s =>
 opt2 (oMov (.v x5) rec PT.nil s) fun x6 s =>
 condV x6
 (opt2 (c46_j1 rec N (PT.put x6 t6 (PT.put x5 t8 (PT.put x4 t6 (PT.put x3 t7 (PT.put x2 t5 (PT.put x1 t4 (PT.put a1 t1 (PT.put a0 t0 PT.nil)))))))) s) fun e r => opt2 (blkX 0 e r) fun e r => opt2 (thenX (c46_j2 rec N) e r) fun e r => finX [.tmp t4] e r)
 (opt2 (oBin (int2 (cmpO eqI)) (.v x2) (.v (.int .i64 5)) rec PT.nil s) fun x7 s =>
 opt2 (oMov (.v x7) rec PT.nil s) fun x8 s =>
 condV x8
 (opt2 (c46_j1 rec N (PT.put x8 t6 (PT.put x7 t9 (PT.put x6 t6 (PT.put x5 t8 (PT.put x4 t6 (PT.put x3 t7 (PT.put x2 t5 (PT.put x1 t4 (PT.put a1 t1 (PT.put a0 t0 PT.nil)))))))))) s) fun e r => opt2 (blkX 0 e r) fun e r => opt2 (thenX (c46_j2 rec N) e r) fun e r => finX [.tmp t4] e r)
 (opt2 (oBin (int2 (cmpO eqI)) (.v x2) (.v (.int .i64 7)) rec PT.nil s) fun x9 s =>
 opt2 (oMov (.v x9) rec PT.nil s) fun x10 s =>
 condV x10
 (opt2 (c46_j1 rec N (PT.put x10 t6 (PT.put x9 t10 (PT.put x8 t6 (PT.put x7 t9 (PT.put x6 t6 (PT.put x5 t8 (PT.put x4 t6 (PT.put x3 t7 (PT.put x2 t5 (PT.put x1 t4 (PT.put a1 t1 (PT.put a0 t0 PT.nil)))))))))))) s) fun e r => opt2 (blkX 0 e r) fun e r => opt2 (thenX (c46_j2 rec N) e r) fun e r => finX [.tmp t4] e r)
 (opt2 (oBin (int2 (cmpO eqI)) (.v x2) (.v (.int .i64 8)) rec PT.nil s) fun x11 s =>
 opt2 (oMov (.v x11) rec PT.nil s) fun x12 s =>
 condV x12
 (opt2 (c46_j1 rec N (PT.put x12 t6 (PT.put x11 t11 (PT.put x10 t6 (PT.put x9 t10 (PT.put x8 t6 (PT.put x7 t9 (PT.put x6 t6 (PT.put x5 t8 (PT.put x4 t6 (PT.put x3 t7 (PT.put x2 t5 (PT.put x1 t4 (PT.put a1 t1 (PT.put a0 t0 PT.nil)))))))))))))) s) fun e r => opt2 (blkX 0 e r) fun e r => opt2 (thenX (c46_j2 rec N) e r) fun e r => finX [.tmp t4] e r)
 (opt2 (oBin (int2 (cmpO eqI)) (.v x2) (.v (.int .i64 10)) rec PT.nil s) fun x13 s =>
 opt2 (oMov (.v x13) rec PT.nil s) fun x14 s =>
 condV x14
 (opt2 (c46_j1 rec N (PT.put x14 t6 (PT.put x13 t12 (PT.put x12 t6 (PT.put x11 t11 (PT.put x10 t6 (PT.put x9 t10 (PT.put x8 t6 (PT.put x7 t9 (PT.put x6 t6 (PT.put x5 t8 (PT.put x4 t6 (PT.put x3 t7 (PT.put x2 t5 (PT.put x1 t4 (PT.put a1 t1 (PT.put a0 t0 PT.nil)))))))))))))))) s) fun e r => opt2 (blkX 0 e r) fun e r => opt2 (thenX (c46_j2 rec N) e r) fun e r => finX [.tmp t4] e r)
 (opt2 (oBin (int2 (cmpO eqI)) (.v x2) (.v (.int .i64 12)) rec PT.nil s) fun x15 s =>
 opt2 (oMov (.v x15) rec PT.nil s) fun x16 s =>
 opt2 (c46_j1 rec N (PT.put x16 t6 (PT.put x15 t13 (PT.put x14 t6 (PT.put x13 t12 (PT.put x12 t6 (PT.put x11 t11 (PT.put x10 t6 (PT.put x9 t10 (PT.put x8 t6 (PT.put x7 t9 (PT.put x6 t6 (PT.put x5 t8 (PT.put x4 t6 (PT.put x3 t7 (PT.put x2 t5 (PT.put x1 t4 (PT.put a1 t1 (PT.put a0 t0 PT.nil)))))))))))))))))) s) fun e r => opt2 (blkX 0 e r) fun e r => opt2 (thenX (c46_j2 rec N) e r) fun e r => finX [.tmp t4] e r))))))
set_option maxHeartbeats 4000000 in
theorem d46 (rec : Rec) (N : Nat) (a0 : Value) (a1 : Value) (s : St) : callF rec N c46 [a0, a1] s = D46 rec N a0 a1 s := by
  rw [call_f _ _ _ _ _ rfl]
  simp (maxSteps := 4000000) only [c46, lenN, x_seq, x_ops, x_skip, x_ret, x_exit, x_cond, x_block, x_loop, ops_c, ops_n, op1_u, op1_gj, rq_c, rq_n, opQ_u, opQ_g, op2_op2, op2_op, op2_s, op2_cond, thenX_n, thenX_e, thenX_r, blkX_n, blkX_r, blkX_e, finX_r, finX_n, res_n, res_t, op_s, Nat.beq_refl, cond_true]
  first | done | kernel_rfl
def J46_j2 (rec : Rec) (N : Nat) (k : Unit) (s : St) : Out := some (oneOf [(.int .i64 0)], s)
set_option maxHeartbeats 4000000 in
theorem j46_j2 (rec : Rec) (N : Nat) (fs : Frm) (s : St) : opt2 (c46_j2 rec N fs s) (fun e r => finX [.tmp t4] e r) = J46_j2 rec N () s := by
  rw [d46_j2]
  unfold D46_j2 J46_j2
  simp (maxSteps := 4000000) only [thenX_n, thenX_e, thenX_r, x_exit, x_skip, x_ret, blkX_n, blkX_r, blkX_e, finX_r, finX_n, res_n, res_t, op2_op2, op2_op, op2_s, op2_cond, op2_bf, mov_v]
  first | done | kernel_rfl
def J46_j0 (rec : Rec) (N : Nat) (k : Value × Value × Value) (s : St) : Out := condV k.2.2
 (some (oneOf [(.int .i64 30)], s))
 (opt2 (oBin (int2 (cmpO eqI)) (.v k.2.1) (.v (.int .i64 2)) rec PT.nil s) fun x1 s =>
 condV x1
 (opt2 (rec 45 [k.1] s) fun x2 s =>
 condV x2
 (some (oneOf [(.int .i64 29)], s))
 (some (oneOf [(.int .i64 28)], s)))
 (J46_j2 rec N () s))
set_option maxHeartbeats 4000000 in
theorem j46_j0 (rec : Rec) (N : Nat) (fs : Frm) (s : St) : opt2 (c46_j0 rec N fs s) (fun e r => opt2 (blkX 0 e r) fun e r => opt2 (thenX (c46_j2 rec N) e r) fun e r => finX [.tmp t4] e r) = J46_j0 rec N (orU (fs.get t0), orU (fs.get t5), orU (fs.get t14)) s := by
  rw [d46_j0]
  unfold D46_j0 J46_j0
  simp (maxSteps := 4000000) only [thenX_n, thenX_e, thenX_r, x_exit, x_skip, x_ret, blkX_n, blkX_r, blkX_e, finX_r, finX_n, res_n, res_t, op2_op2, op2_op, op2_s, op2_cond, op2_bf, mov_v, j46_j2 rec N]
  first | done | kernel_rfl
def J46_j1 (rec : Rec) (N : Nat) (k : Value × Value × Value) (s : St) : Out := condV k.2.2
 (some (oneOf [(.int .i64 31)], s))
 (opt2 (oBin (int2 (cmpO eqI)) (.v k.2.1) (.v (.int .i64 4)) rec PT.nil s) fun x1 s =>
 condV x1
 (J46_j0 rec N (k.1, k.2.1, x1) s)
 (opt2 (oBin (int2 (cmpO eqI)) (.v k.2.1) (.v (.int .i64 6)) rec PT.nil s) fun x2 s =>
 condV x2
 (J46_j0 rec N (k.1, k.2.1, x2) s)
 (opt2 (oBin (int2 (cmpO eqI)) (.v k.2.1) (.v (.int .i64 9)) rec PT.nil s) fun x3 s =>
 condV x3
 (J46_j0 rec N (k.1, k.2.1, x3) s)
 (opt2 (oBin (int2 (cmpO eqI)) (.v k.2.1) (.v (.int .i64 11)) rec PT.nil s) fun x4 s =>
 J46_j0 rec N (k.1, k.2.1, x4) s))))
set_option maxHeartbeats 4000000 in
theorem j46_j1 (rec : Rec) (N : Nat) (fs : Frm) (s : St) : opt2 (c46_j1 rec N fs s) (fun e r => opt2 (blkX 0 e r) fun e r => opt2 (thenX (c46_j2 rec N) e r) fun e r => finX [.tmp t4] e r) = J46_j1 rec N (orU (fs.get t0), orU (fs.get t5), orU (fs.get t6)) s := by
  rw [d46_j1]
  unfold D46_j1 J46_j1
  simp (maxSteps := 4000000) only [thenX_n, thenX_e, thenX_r, x_exit, x_skip, x_ret, blkX_n, blkX_r, blkX_e, finX_r, finX_n, res_n, res_t, op2_op2, op2_op, op2_s, op2_cond, op2_bf, mov_v, j46_j0 rec N]
  first | done | kernel_rfl
def F46 (rec : Rec) (N : Nat) (a0 : Value) (a1 : Value) (s : St) : Out := opt2 (oBin (int2 (cmpO eqI)) (.v a1) (.v (.int .i64 1)) rec PT.nil s) fun x1 s =>
 condV x1
 (J46_j1 rec N (a0, a1, x1) s)
 (opt2 (oBin (int2 (cmpO eqI)) (.v a1) (.v (.int .i64 3)) rec PT.nil s) fun x2 s =>
 condV x2
 (J46_j1 rec N (a0, a1, x2) s)
 (opt2 (oBin (int2 (cmpO eqI)) (.v a1) (.v (.int .i64 5)) rec PT.nil s) fun x3 s =>
 condV x3
 (J46_j1 rec N (a0, a1, x3) s)
 (opt2 (oBin (int2 (cmpO eqI)) (.v a1) (.v (.int .i64 7)) rec PT.nil s) fun x4 s =>
 condV x4
 (J46_j1 rec N (a0, a1, x4) s)
 (opt2 (oBin (int2 (cmpO eqI)) (.v a1) (.v (.int .i64 8)) rec PT.nil s) fun x5 s =>
 condV x5
 (J46_j1 rec N (a0, a1, x5) s)
 (opt2 (oBin (int2 (cmpO eqI)) (.v a1) (.v (.int .i64 10)) rec PT.nil s) fun x6 s =>
 condV x6
 (J46_j1 rec N (a0, a1, x6) s)
 (opt2 (oBin (int2 (cmpO eqI)) (.v a1) (.v (.int .i64 12)) rec PT.nil s) fun x7 s =>
 J46_j1 rec N (a0, a1, x7) s))))))
theorem f46 (rec : Rec) (N : Nat) (a0 : Value) (a1 : Value) (s : St) : callF rec N c46 [a0, a1] s = F46 rec N a0 a1 s := by
  rw [d46]
  unfold D46 F46
  simp (maxSteps := 4000000) only [mov_v, op2_s, j46_j1 rec N]
  first | done | kernel_rfl
-- c47
def D47 (rec : Rec) (N : Nat) (a0 : Value) (a1 : Value) (s : St) : Out := opt2 (oMov (.v (.int .i64 0)) rec PT.nil s) fun x1 s =>
 opt2 (oMov (.v a0) rec PT.nil s) fun x2 s =>
 opt2 (oBin (str2 (cmpS eqBytes)) (.v x2) (.v (.string ⟨⟨[]⟩⟩)) rec PT.nil s) fun x3 s =>
 opt2 (oMov (.v x3) rec PT.nil s) fun x4 s =>
 opt (gval false x4) fun x5 => opt2 (orUndef x5 (oMov (.v a0) rec PT.nil s) s) fun x6 s =>
 opt (gval false x4) fun x7 => opt2 (orUndef x7 (oIdxS (.v x6) (.v (.int .i64 0)) rec PT.nil s) s) fun x8 s =>
 opt (gval false x4) fun x9 => opt2 (orUndef x9 (oBin (int2 (cmpO neI)) (.v x8) (.v (.int .u8 46)) rec PT.nil s) s) fun x10 s =>
 opt2 (oPick (.v x4) (.v (.bool true)) (.v x10) rec PT.nil s) fun x11 s =>
 condV x11
 (opt2 (oMov (.v (.int .i64 0)) rec PT.nil s) fun x12 s =>
 some (oneOf [x12], s))
 (opt2 (oMov (.v a0) rec PT.nil s) fun x13 s =>
 opt2 (oSliceS (.v x13) (some (.v (.int .i64 1))) none rec PT.nil s) fun x14 s =>
 opt2 (rec 25 [x14, (.func (.func 30) #[] #[])] s) fun x15 s =>
 opt2 (oMov (.v x15) rec PT.nil s) fun x16 s =>
 opt2 (oMov (.v x16) rec PT.nil s) fun x17 s =>
 opt2 (oMov (.v a1) rec PT.nil s) fun x18 s =>
 opt2 (oBin (int2 (cmpO leI)) (.v x17) (.v x18) rec PT.nil s) fun x19 s =>
 condV x19
 (opt2 (oMov (.v x16) rec PT.nil s) fun x20 s =>
 opt2 (oMov (.v x20) rec PT.nil s) fun x21 s =>
 some (oneOf [x21], s))
 (opt2 (oMov (.v (.int .i64 0)) rec PT.nil s) fun x22 s =>
 some (oneOf [x22], s)))
set_option maxHeartbeats 4000000 in
theorem d47 (rec : Rec) (N : Nat) (a0 : Value) (a1 : Value) (s : St) : callF rec N c47 [a0, a1] s = D47 rec N a0 a1 s := by
  rw [call_f _ _ _ _ _ rfl]
  simp (maxSteps := 4000000) only [c47, lenN, x_seq, x_ops, x_skip, x_ret, x_exit, x_cond, x_block, x_loop, ops_c, ops_n, op1_u, op1_gj, rq_c, rq_n, opQ_u, opQ_g, op2_op2, op2_op, op2_s, op2_cond, thenX_n, thenX_e, thenX_r, blkX_n, blkX_r, blkX_e, finX_r, finX_n, res_n, res_t, op_s, Nat.beq_refl, cond_true]
  first | done | kernel_rfl
def F47 (rec : Rec) (N : Nat) (a0 : Value) (a1 : Value) (s : St) : Out := opt2 (oBin (str2 (cmpS eqBytes)) (.v a0) (.v (.string ⟨⟨[]⟩⟩)) rec PT.nil s) fun x1 s =>
 opt (gval false x1) fun x2 => opt2 (orUndef x2 (some (a0, s)) s) fun x3 s =>
 opt (gval false x1) fun x4 => opt2 (orUndef x4 (oIdxS (.v x3) (.v (.int .i64 0)) rec PT.nil s) s) fun x5 s =>
 opt (gval false x1) fun x6 => opt2 (orUndef x6 (oBin (int2 (cmpO neI)) (.v x5) (.v (.int .u8 46)) rec PT.nil s) s) fun x7 s =>
 opt2 (oPick (.v x1) (.v (.bool true)) (.v x7) rec PT.nil s) fun x8 s =>
 condV x8
 (some (oneOf [(.int .i64 0)], s))
 (opt2 (oSliceS (.v a0) (some (.v (.int .i64 1))) none rec PT.nil s) fun x9 s =>
 opt2 (rec 25 [x9, (.func (.func 30) #[] #[])] s) fun x10 s =>
 opt2 (oBin (int2 (cmpO leI)) (.v x10) (.v a1) rec PT.nil s) fun x11 s =>
 condV x11
 (some (oneOf [x10], s))
 (some (oneOf [(.int .i64 0)], s)))
set_option maxHeartbeats 4000000 in
theorem f47 (rec : Rec) (N : Nat) (a0 : Value) (a1 : Value) (s : St) : callF rec N c47 [a0, a1] s = F47 rec N a0 a1 s := by
  rw [d47]
  unfold D47 F47
  first
    | done
    | rfl
    | (simp (maxSteps := 4000000) only [mov_v, op2_s]; first | done | kernel_rfl)
    | kernel_rfl
-- c49
theorem q49_g0 (rec : Rec) (n : Nat) (fs : Frm) (s : St) : xReg c49_g0 [(0, 3), (1, 3), (2, 3), (0, 4), (1, 4), (2, 4), (0, 6), (1, 6), (2, 6), (3, 6), (4, 6), (5, 6), (0, 7), (1, 7), (2, 7), (3, 7), (4, 7), (5, 7), (10, 11)] rec n fs s = opt2 (runQ rec [⟨(some t17), oMov (.t t0), none, none⟩,
   ⟨(some t18), oSliceS (.t t17) none (some (.v (.int .i64 4))), none, none⟩,
   ⟨(some t19), oCall 56 [(.t t18)], none, none⟩,
   ⟨(some t20), oMov (.t t0), none, none⟩,
   ⟨(some t21), oSliceS (.t t20) (some (.v (.int .i64 5))) (some (.v (.int .i64 7))), none, none⟩,
   ⟨(some t22), oCall 56 [(.t t21)], none, none⟩,
   ⟨(some t23), oMov (.t t0), none, none⟩,
   ⟨(some t24), oSliceS (.t t23) (some (.v (.int .i64 8))) none, none, none⟩,
   ⟨(some t25), oCall 56 [(.t t24)], none, none⟩,
   ⟨(some t26), oCall 55 [(.t t19), (.t t22), (.t t25)], none, none⟩,
   ⟨(some t27), oExtract (.t t26) 0, none, none⟩,
   ⟨(some t28), oExtract (.t t26) 1, none, none⟩,
   ⟨(some t2), oMov (.t t27), none, none⟩,
   ⟨(some t3), oMov (.t t28), none, none⟩] fs s) fun fs s => some (.norm, fs, s) :=
 reg_q (ks := [0, 0, 2, 0, 0, 2, 0, 0, 2, 2, 0, 0, 0, 0]) (okc (ok0 (qv_mov (.t t0)) rfl)
 (okc (ok0 (qv_slices (.t t17) none (some (.v (.int .i64 4)))) rfl)
 (okc (ok2 rfl)
 (okc (ok0 (qv_mov (.t t0)) rfl)
 (okc (ok0 (qv_slices (.t t20) (some (.v (.int .i64 5))) (some (.v (.int .i64 7)))) rfl)
 (okc (ok2 rfl)
 (okc (ok0 (qv_mov (.t t0)) rfl)
 (okc (ok0 (qv_slices (.t t23) (some (.v (.int .i64 8))) none) rfl)
 (okc (ok2 rfl)
 (okc (ok2 rfl)
 (okc (ok0 (qv_extract (.t t26) 0) rfl)
 (okc (ok0 (qv_extract (.t t26) 1) rfl)
 (okc (ok0 (qv_mov (.t t27)) rfl)
 (okc (ok0 (qv_mov (.t t28)) rfl)
 okn)))))))))))))) (by kernel_rfl) rec n fs s
def D49 (rec : Rec) (N : Nat) (a0 : Value) (s : St) : Out := opt2 (oMov (.v (.int .i64 0)) rec PT.nil s) fun x1 s =>
 opt2 (oMov (.v (.bool false)) rec PT.nil s) fun x2 s =>
 opt2 (oMov (.v a0) rec PT.nil s) fun x3 s =>
 opt2 (oLenS (.v x3) rec PT.nil s) fun x4 s =>
 opt2 (oBin (int2 (cmpO neI)) (.v x4) (.v (.int .i64 10)) rec PT.nil s) fun x5 s =>
 opt2 (oMov (.v x5) rec PT.nil s) fun x6 s =>
 opt (gval false x6) fun x7 => opt2 (orUndef x7 (oMov (.v a0) rec PT.nil s) s) fun x8 s =>
 opt (gval false x6) fun x9 => opt2 (orUndef x9 (oIdxS (.v x8) (.v (.int .i64 4)) rec PT.nil s) s) fun x10 s =>
 opt (gval false x6) fun x11 => opt2 (orUndef x11 (oBin (int2 (cmpO neI)) (.v x10) (.v (.int .u8 45)) rec PT.nil s) s) fun x12 s =>
 opt2 (oPick (.v x6) (.v (.bool true)) (.v x12) rec PT.nil s) fun x13 s =>
 opt2 (oMov (.v x13) rec PT.nil s) fun x14 s =>
 opt (gval false x14) fun x15 => opt2 (orUndef x15 (oMov (.v a0) rec PT.nil s) s) fun x16 s =>
 opt (gval false x14) fun x17 => opt2 (orUndef x17 (oIdxS (.v x16) (.v (.int .i64 7)) rec PT.nil s) s) fun x18 s =>
 opt (gval false x14) fun x19 => opt2 (orUndef x19 (oBin (int2 (cmpO neI)) (.v x18) (.v (.int .u8 45)) rec PT.nil s) s) fun x20 s =>
 opt2 (oPick (.v x14) (.v (.bool true)) (.v x20) rec PT.nil s) fun x21 s =>
 condV x21
 (opt2 (oMov (.v (.int .i64 0)) rec PT.nil s) fun x22 s =>
 opt2 (oMov (.v (.bool false)) rec PT.nil s) fun x23 s =>
 some (oneOf [x22, x23], s))
 (opt2 (oMov (.v a0) rec PT.nil s) fun x24 s =>
 opt2 (oSliceS (.v x24) none (some (.v (.int .i64 4))) rec PT.nil s) fun x25 s =>
 opt2 (rV (rec 56 [x25] (z0 s)) s) fun x26 s =>
 opt2 (oMov (.v a0) rec PT.nil s) fun x27 s =>
 opt2 (oSliceS (.v x27) (some (.v (.int .i64 5))) (some (.v (.int .i64 7))) rec PT.nil s) fun x28 s =>
 opt2 (rV (rec 56 [x28] (z0 s)) s) fun x29 s =>
 opt2 (oMov (.v a0) rec PT.nil s) fun x30 s =>
 opt2 (oSliceS (.v x30) (some (.v (.int .i64 8))) none rec PT.nil s) fun x31 s =>
 opt2 (rV (rec 56 [x31] (z0 s)) s) fun x32 s =>
 opt2 (rV (rec 55 [x26, x29, x32] (z0 s)) s) fun x33 s =>
 opt2 (oExtract (.v x33) 0 rec PT.nil s) fun x34 s =>
 opt2 (oExtract (.v x33) 1 rec PT.nil s) fun x35 s =>
 opt2 (oMov (.v x34) rec PT.nil s) fun x36 s =>
 opt2 (oMov (.v x35) rec PT.nil s) fun x37 s =>
 some (oneOf [x36, x37], s))
set_option maxHeartbeats 4000000 in
theorem d49 (rec : Rec) (N : Nat) (a0 : Value) (s : St) : callF rec N c49 [a0] s = D49 rec N a0 s := by
  rw [call_f _ _ _ _ _ rfl]
  simp (maxSteps := 4000000) only [c49, lenN, x_seq, x_ops, x_skip, x_ret, x_exit, x_cond, x_block, x_loop, ops_c, ops_n, op1_u, op1_gj, rq_c, rq_n, opQ_u, opQ_g, op2_op2, op2_op, op2_s, op2_cond, thenX_n, thenX_e, thenX_r, blkX_n, blkX_r, blkX_e, finX_r, finX_n, res_n, res_t, op_s, Nat.beq_refl, cond_true, q49_g0, sm_bin, sm_box, sm_build, sm_buildslice, sm_bytesstr, sm_compl, sm_conv, sm_eqs, sm_eqv, sm_ext, sm_extract, sm_field, sm_fieldaddr, sm_func, sm_idxaa, sm_idxl, sm_idxs, sm_iface, sm_lenc, sm_lenl, sm_lens, sm_load1, sm_loadn, sm_mm, sm_mov, sm_neg, sm_new, sm_nil, sm_not, sm_pick, sm_same, sm_slices, sm_store]
  first | done | kernel_rfl
def F49 (rec : Rec) (N : Nat) (a0 : Value) (s : St) : Out := opt2 (oLenS (.v a0) rec PT.nil s) fun x1 s =>
 opt2 (oBin (int2 (cmpO neI)) (.v x1) (.v (.int .i64 10)) rec PT.nil s) fun x2 s =>
 opt (gval false x2) fun x3 => opt2 (orUndef x3 (some (a0, s)) s) fun x4 s =>
 opt (gval false x2) fun x5 => opt2 (orUndef x5 (oIdxS (.v x4) (.v (.int .i64 4)) rec PT.nil s) s) fun x6 s =>
 opt (gval false x2) fun x7 => opt2 (orUndef x7 (oBin (int2 (cmpO neI)) (.v x6) (.v (.int .u8 45)) rec PT.nil s) s) fun x8 s =>
 opt2 (oPick (.v x2) (.v (.bool true)) (.v x8) rec PT.nil s) fun x9 s =>
 opt (gval false x9) fun x10 => opt2 (orUndef x10 (some (a0, s)) s) fun x11 s =>
 opt (gval false x9) fun x12 => opt2 (orUndef x12 (oIdxS (.v x11) (.v (.int .i64 7)) rec PT.nil s) s) fun x13 s =>
 opt (gval false x9) fun x14 => opt2 (orUndef x14 (oBin (int2 (cmpO neI)) (.v x13) (.v (.int .u8 45)) rec PT.nil s) s) fun x15 s =>
 opt2 (oPick (.v x9) (.v (.bool true)) (.v x15) rec PT.nil s) fun x16 s =>
 condV x16
 (some (oneOf [(.int .i64 0), (.bool false)], s))
 (opt2 (oSliceS (.v a0) none (some (.v (.int .i64 4))) rec PT.nil s) fun x17 s =>
 opt2 (rV (rec 56 [x17] (z0 s)) s) fun x18 s =>
 opt2 (oSliceS (.v a0) (some (.v (.int .i64 5))) (some (.v (.int .i64 7))) rec PT.nil s) fun x19 s =>
 opt2 (rV (rec 56 [x19] (z0 s)) s) fun x20 s =>
 opt2 (oSliceS (.v a0) (some (.v (.int .i64 8))) none rec PT.nil s) fun x21 s =>
 opt2 (rV (rec 56 [x21] (z0 s)) s) fun x22 s =>
 opt2 (rV (rec 55 [x18, x20, x22] (z0 s)) s) fun x23 s =>
 opt2 (oExtract (.v x23) 0 rec PT.nil s) fun x24 s =>
 opt2 (oExtract (.v x23) 1 rec PT.nil s) fun x25 s =>
 some (oneOf [x24, x25], s))
set_option maxHeartbeats 4000000 in
theorem f49 (rec : Rec) (N : Nat) (a0 : Value) (s : St) : callF rec N c49 [a0] s = F49 rec N a0 s := by
  rw [d49]
  unfold D49 F49
  first
    | done
    | rfl
    | (simp (maxSteps := 4000000) only [mov_v, op2_s]; first | done | kernel_rfl)
    | kernel_rfl
-- c55
def D55_l0 (rec : Rec) (N : Nat) (fs : Frm) (s : St) : OutX := opt2 (oMov (.v (orU (fs.get t9))) rec PT.nil s) fun x1 s =>
 opt2 (oMov (.v (orU (fs.get t1))) rec PT.nil s) fun x2 s =>
 opt2 (oBin (int2 (cmpO ltI)) (.v x1) (.v x2) rec PT.nil s) fun x3 s =>
 condV x3
 (opt2 (oMov (.v (orU (fs.get t8))) rec PT.nil s) fun x4 s =>
 opt2 (oMov (.v (orU (fs.get t0))) rec PT.nil s) fun x5 s =>
 opt2 (oMov (.v (orU (fs.get t9))) rec PT.nil s) fun x6 s =>
 opt2 (rec 61 [x5, x6] s) fun x7 s =>
 opt2 (oBin (int2 addO) (.v x4) (.v x7) rec PT.nil s) fun x8 s =>
 opt2 (oMov (.v x8) rec PT.nil s) fun x9 s =>
 opt2 (oMov (.v (orU (fs.get t9))) rec PT.nil s) fun x10 s =>
 opt2 (oBin (int2 addO) (.v x10) (.v (.int .i64 1)) rec PT.nil s) fun x11 s =>
 opt2 (oMov (.v x11) rec PT.nil s) fun x12 s =>
 some (.norm, (PT.put x12 t9 (PT.put x11 t33 (PT.put x10 t32 (PT.put x9 t8 (PT.put x8 t38 (PT.put x7 t37 (PT.put x6 t36 (PT.put x5 t35 (PT.put x4 t34 (PT.put x3 t31 (PT.put x2 t30 (PT.put x1 t29 fs)))))))))))), s))
 (some ((.exit 0), (PT.put x3 t31 (PT.put x2 t30 (PT.put x1 t29 fs))), s))
set_option maxHeartbeats 4000000 in
theorem d55_l0 (rec : Rec) (N : Nat) (fs : Frm) (s : St) : c55_l0 rec N fs s = D55_l0 rec N fs s := by
  simp (maxSteps := 4000000) only [c55_l0, lenN, x_seq, x_ops, x_skip, x_ret, x_exit, x_cond, x_block, x_loop, ops_c, ops_n, op1_u, op1_gj, rq_c, rq_n, opQ_u, opQ_g, op2_op2, op2_op, op2_s, op2_cond, thenX_n, thenX_e, thenX_r, blkX_n, blkX_r, blkX_e, finX_r, finX_n, res_n, res_t, op_s, Nat.beq_refl, cond_true]
  first | done | kernel_rfl
def D55_r0 (rec : Rec) (N : Nat) (fs : Frm) (s : St) : OutX := opt2 (oMov (.v (orU (fs.get t8))) rec PT.nil s) fun x1 s =>
 opt2 (oMov (.v (orU (fs.get t2))) rec PT.nil s) fun x2 s =>
 opt2 (oBin (int2 addO) (.v x1) (.v x2) rec PT.nil s) fun x3 s =>
 opt2 (oBin (int2 subO) (.v x3) (.v (.int .i64 1)) rec PT.nil s) fun x4 s =>
 opt2 (oMov (.v x4) rec PT.nil s) fun x5 s =>
 opt2 (oMov (.v (.bool true)) rec PT.nil s) fun x6 s =>
 some (.ret, (PT.put x6 t7 (PT.put x5 t6 (PT.put x4 t42 (PT.put x3 t41 (PT.put x2 t40 (PT.put x1 t39 fs)))))), s)
set_option maxHeartbeats 4000000 in
theorem d55_r0 (rec : Rec) (N : Nat) (fs : Frm) (s : St) : c55_r0 rec N fs s = D55_r0 rec N fs s := by
  simp (maxSteps := 4000000) only [c55_r0, lenN, x_seq, x_ops, x_skip, x_ret, x_exit, x_cond, x_block, x_loop, ops_c, ops_n, op1_u, op1_gj, rq_c, rq_n, opQ_u, opQ_g, op2_op2, op2_op, op2_s, op2_cond, thenX_n, thenX_e, thenX_r, blkX_n, blkX_r, blkX_e, finX_r, finX_n, res_n, res_t, op_s, Nat.beq_refl, cond_true]
  first | done | kernel_rfl
def D55 (rec : Rec) (N : Nat) (a0 : Value) (a1 : Value) (a2 : Value) (s : St) : Out := opt2 (oMov (.v (.int .i64 0)) rec PT.nil s) fun x1 s =>
 opt2 (oMov (.v (.bool false)) rec PT.nil s) fun x2 s =>
 opt2 (oMov (.v a0) rec PT.nil s) fun x3 s =>
 opt2 (oBin (int2 (cmpO ltI)) (.v x3) (.v (.int .i64 1900)) rec PT.nil s) fun x4 s =>
 opt2 (oMov (.v x4) rec PT.nil s) fun x5 s =>
 opt (gval false x5) fun x6 => opt2 (orUndef x6 (oMov (.v a0) rec PT.nil s) s) fun x7 s =>
 opt (gval false x5) fun x8 => opt2 (orUndef x8 (oBin (int2 (cmpO gtI)) (.v x7) (.v (.int .i64 2199)) rec PT.nil s) s) fun x9 s =>
 opt2 (oPick (.v x5) (.v (.bool true)) (.v x9) rec PT.nil s) fun x10 s =>
 opt2 (oMov (.v x10) rec PT.nil s) fun x11 s =>
 opt (gval false x11) fun x12 => opt2 (orUndef x12 (oMov (.v a2) rec PT.nil s) s) fun x13 s =>
 opt (gval false x11) fun x14 => opt2 (orUndef x14 (oBin (int2 (cmpO ltI)) (.v x13) (.v (.int .i64 1)) rec PT.nil s) s) fun x15 s =>
 opt2 (oPick (.v x11) (.v (.bool true)) (.v x15) rec PT.nil s) fun x16 s =>
 opt2 (oMov (.v x16) rec PT.nil s) fun x17 s =>
 opt (gval false x17) fun x18 => opt2 (orUndef x18 (oMov (.v a2) rec PT.nil s) s) fun x19 s =>
 opt (gval false x17) fun x20 => opt2 (orUndef x20 (oMov (.v a0) rec PT.nil s) s) fun x21 s =>
 opt (gval false x17) fun x22 => opt2 (orUndef x22 (oMov (.v a1) rec PT.nil s) s) fun x23 s =>
 opt (gval false x17) fun x24 => opt2 (orUndef x24 (rec 61 [x21, x23] s) s) fun x25 s =>
 opt (gval false x17) fun x26 => opt2 (orUndef x26 (oBin (int2 (cmpO gtI)) (.v x19) (.v x25) rec PT.nil s) s) fun x27 s =>
 opt2 (oPick (.v x17) (.v (.bool true)) (.v x27) rec PT.nil s) fun x28 s =>
 condV x28
 (opt2 (oMov (.v (.int .i64 0)) rec PT.nil s) fun x29 s =>
 opt2 (oMov (.v (.bool false)) rec PT.nil s) fun x30 s =>
 some (oneOf [x29, x30], s))
 (opt2 (oMov (.v a0) rec PT.nil s) fun x31 s =>
 opt2 (rec 62 [x31] s) fun x32 s =>
 opt2 (oMov (.v x32) rec PT.nil s) fun x33 s =>
 opt2 (oMov (.v (.int .i64 1)) rec PT.nil s) fun x34 s =>
 opt2 (loopF (c55_l0 rec N) N (PT.put x34 t9 (PT.put x33 t8 (PT.put x32 t28 (PT.put x31 t27 (PT.put x28 t26 (PT.put x27 t25 (PT.put x25 t24 (PT.put x23 t23 (PT.put x21 t22 (PT.put x19 t21 (PT.put x17 t20 (PT.put x16 t19 (PT.put x15 t18 (PT.put x13 t17 (PT.put x11 t16 (PT.put x10 t15 (PT.put x9 t14 (PT.put x7 t13 (PT.put x5 t12 (PT.put x4 t11 (PT.put x3 t10 (PT.put x2 t7 (PT.put x1 t6 (PT.put a2 t2 (PT.put a1 t1 (PT.put a0 t0 PT.nil)))))))))))))))))))))))))) s) fun e r => opt2 (blkX 0 e r) fun e r => opt2 (thenX (c55_r0 rec N) e r) fun e r => finX [.tmp t6, .tmp t7] e r)
set_option maxHeartbeats 4000000 in
theorem d55 (rec : Rec) (N : Nat) (a0 : Value) (a1 : Value) (a2 : Value) (s : St) : callF rec N c55 [a0, a1, a2] s = D55 rec N a0 a1 a2 s := by
  rw [call_f _ _ _ _ _ rfl]
  simp (maxSteps := 4000000) only [c55, lenN, x_seq, x_ops, x_skip, x_ret, x_exit, x_cond, x_block, x_loop, ops_c, ops_n, op1_u, op1_gj, rq_c, rq_n, opQ_u, opQ_g, op2_op2, op2_op, op2_s, op2_cond, thenX_n, thenX_e, thenX_r, blkX_n, blkX_r, blkX_e, finX_r, finX_n, res_n, res_t, op_s, Nat.beq_refl, cond_true]
  first | done | kernel_rfl
def J55_r0 (rec : Rec) (N : Nat) (k : Value × Value) (s : St) : Out := opt2 (oBin (int2 addO) (.v k.2) (.v k.1) rec PT.nil s) fun x1 s =>
 opt2 (oBin (int2 subO) (.v x1) (.v (.int .i64 1)) rec PT.nil s) fun x2 s =>
 some (oneOf [x2, (.bool true)], s)
set_option maxHeartbeats 4000000 in
theorem j55_r0 (rec : Rec) (N : Nat) (fs : Frm) (s : St) : opt2 (c55_r0 rec N fs s) (fun e r => finX [.tmp t6, .tmp t7] e r) = J55_r0 rec N (orU (fs.get t2), orU (fs.get t8)) s := by
  rw [d55_r0]
  unfold D55_r0 J55_r0
  simp (maxSteps := 4000000) only [thenX_n, thenX_e, thenX_r, x_exit, x_skip, x_ret, blkX_n, blkX_r, blkX_e, finX_r, finX_n, res_n, res_t, op2_op2, op2_op, op2_s, op2_cond, op2_bf, mov_v]
  first | done | kernel_rfl
def B55_l0 (rec : Rec) (N : Nat) (k : Value × Value × Value × Value × Value) (v : Value × Value) (s : St) : OutV (Value × Value) := opt2 (oBin (int2 (cmpO ltI)) (.v v.2) (.v k.2.1) rec PT.nil s) fun x1 s =>
 condV x1
 (opt2 (rec 61 [k.1, v.2] s) fun x2 s =>
 opt2 (oBin (int2 addO) (.v v.1) (.v x2) rec PT.nil s) fun x3 s =>
 opt2 (oBin (int2 addO) (.v v.2) (.v (.int .i64 1)) rec PT.nil s) fun x4 s =>
 some (.norm, ((x3, x4), s)))
 (some ((.exit 0), ((v.1, v.2), s)))
set_option maxHeartbeats 4000000 in
theorem s55_l0 (rec : Rec) (N : Nat) (fs : Frm) (s : St) : opt2 (c55_l0 rec N fs s) (fun e r => some (e, (((orU (r.1.get t8), orU (r.1.get t9)), (orU (r.1.get t0), orU (r.1.get t1), orU (r.1.get t2), orU (r.1.get t6), orU (r.1.get t7))), r.2))) = opt2 (B55_l0 rec N (orU (fs.get t0), orU (fs.get t1), orU (fs.get t2), orU (fs.get t6), orU (fs.get t7)) (orU (fs.get t8), orU (fs.get t9)) s) fun e r => some (e, ((r.1, (orU (fs.get t0), orU (fs.get t1), orU (fs.get t2), orU (fs.get t6), orU (fs.get t7))), r.2)) := by
  rw [d55_l0]
  unfold D55_l0 B55_l0
  simp (maxSteps := 4000000) only [op2_op2, op2_op, op2_s, op2_cond, op2_bf, mov_v]
  first | done | kernel_rfl
def C55_l0 (rec : Rec) (N : Nat) (k : Value × Value × Value × Value × Value) (e : AExit) (r : (Value × Value) × St) : Out := (fun s => exV (fun i => bif Nat.beq i 0 then (J55_r0 rec N (k.2.2.1, r.1.1) s)
 else (none))
 (some (oneOf [k.2.2.2.1, k.2.2.2.2], s)) e) r.2
theorem j55_l0 (rec : Rec) (N : Nat) (fs : Frm) (s : St) : opt2 (loopF (c55_l0 rec N) N fs s) (fun e r => opt2 (blkX 0 e r) fun e r => opt2 (thenX (c55_r0 rec N) e r) fun e r => finX [.tmp t6, .tmp t7] e r) = opt2 (loopV (B55_l0 rec N (orU (fs.get t0), orU (fs.get t1), orU (fs.get t2), orU (fs.get t6), orU (fs.get t7))) N (orU (fs.get t8), orU (fs.get t9)) s) (C55_l0 rec N (orU (fs.get t0), orU (fs.get t1), orU (fs.get t2), orU (fs.get t6), orU (fs.get t7))) := by
  refine loop_j (fun fs => (orU (fs.get t8), orU (fs.get t9))) (fun fs => (orU (fs.get t0), orU (fs.get t1), orU (fs.get t2), orU (fs.get t6), orU (fs.get t7))) (B55_l0 rec N) (c55_l0 rec N) (s55_l0 rec N) (fun e r => opt2 (blkX 0 e r) fun e r => opt2 (thenX (c55_r0 rec N) e r) fun e r => finX [.tmp t6, .tmp t7] e r) (C55_l0 rec N) ?_ ?_ N fs s
  · intro i fs s
    unfold C55_l0
    simp (maxSteps := 4000000) only [thenX_n, thenX_e, thenX_r, x_exit, x_skip, x_ret, blkX_n, blkX_r, blkX_e, finX_r, finX_n, res_n, res_t, exV_e, exV_r, op2_op2, op2_op, op2_s, op2_cond, op2_bf, mov_v, j55_r0 rec N]
    first | done | kernel_rfl
  · intro fs s
    unfold C55_l0
    simp (maxSteps := 4000000) only [thenX_n, thenX_e, thenX_r, x_exit, x_skip, x_ret, blkX_n, blkX_r, blkX_e, finX_r, finX_n, res_n, res_t, exV_e, exV_r, op2_op2, op2_op, op2_s, op2_cond, op2_bf, mov_v, j55_r0 rec N]
    first | done | kernel_rfl
def F55 (rec : Rec) (N : Nat) (a0 : Value) (a1 : Value) (a2 : Value) (s : St) : Out := opt2 (oBin (int2 (cmpO ltI)) (.v a0) (.v (.int .i64 1900)) rec PT.nil s) fun x1 s =>
 opt (gval false x1) fun x2 => opt2 (orUndef x2 (some (a0, s)) s) fun x3 s =>
 opt (gval false x1) fun x4 => opt2 (orUndef x4 (oBin (int2 (cmpO gtI)) (.v x3) (.v (.int .i64 2199)) rec PT.nil s) s) fun x5 s =>
 opt2 (oPick (.v x1) (.v (.bool true)) (.v x5) rec PT.nil s) fun x6 s =>
 opt (gval false x6) fun x7 => opt2 (orUndef x7 (some (a2, s)) s) fun x8 s =>
 opt (gval false x6) fun x9 => opt2 (orUndef x9 (oBin (int2 (cmpO ltI)) (.v x8) (.v (.int .i64 1)) rec PT.nil s) s) fun x10 s =>
 opt2 (oPick (.v x6) (.v (.bool true)) (.v x10) rec PT.nil s) fun x11 s =>
 opt (gval false x11) fun x12 => opt2 (orUndef x12 (some (a2, s)) s) fun x13 s =>
 opt (gval false x11) fun x14 => opt2 (orUndef x14 (some (a0, s)) s) fun x15 s =>
 opt (gval false x11) fun x16 => opt2 (orUndef x16 (some (a1, s)) s) fun x17 s =>
 opt (gval false x11) fun x18 => opt2 (orUndef x18 (rec 61 [x15, x17] s) s) fun x19 s =>
 opt (gval false x11) fun x20 => opt2 (orUndef x20 (oBin (int2 (cmpO gtI)) (.v x13) (.v x19) rec PT.nil s) s) fun x21 s =>
 opt2 (oPick (.v x11) (.v (.bool true)) (.v x21) rec PT.nil s) fun x22 s =>
 condV x22
 (some (oneOf [(.int .i64 0), (.bool false)], s))
 (opt2 (rec 62 [a0] s) fun x23 s =>
 opt2 (loopV (B55_l0 rec N (a0, a1, a2, (.int .i64 0), (.bool false))) N (x23, (.int .i64 1)) s) (C55_l0 rec N (a0, a1, a2, (.int .i64 0), (.bool false))))
theorem f55 (rec : Rec) (N : Nat) (a0 : Value) (a1 : Value) (a2 : Value) (s : St) : callF rec N c55 [a0, a1, a2] s = F55 rec N a0 a1 a2 s := by
  rw [d55]
  unfold D55 F55
  simp (maxSteps := 4000000) only [mov_v, op2_s, j55_l0 rec N]
  first | done | kernel_rfl
-- c56
def D56_l0 (rec : Rec) (N : Nat) (fs : Frm) (s : St) : OutX := opt2 (oBin (int2 (cmpO ltI)) (.v (orU (fs.get t9))) (.v (orU (fs.get t8))) rec PT.nil s) fun x1 s =>
 condV x1
 (opt2 (oIdxAddrL 1 (.v (orU (fs.get t7))) (.v (orU (fs.get t9))) rec PT.nil s) fun x2 s =>
 opt2 (oLoad1 (.v x2) rec PT.nil s) fun x3 s =>
 opt2 (oMov (.v x3) rec PT.nil s) fun x4 s =>
 opt2 (oMov (.v x4) rec PT.nil s) fun x5 s =>
 opt2 (oBin (int2 (cmpO ltI)) (.v x5) (.v (.int .u8 48)) rec PT.nil s) fun x6 s =>
 opt2 (oMov (.v x6) rec PT.nil s) fun x7 s =>
 opt (gval false x7) fun x8 => opt2 (orUndef x8 (oMov (.v x4) rec PT.nil s) s) fun x9 s =>
 opt (gval false x7) fun x10 => opt2 (orUndef x10 (oBin (int2 (cmpO gtI)) (.v x9) (.v (.int .u8 57)) rec PT.nil s) s) fun x11 s =>
 opt2 (oPick (.v x7) (.v (.bool true)) (.v x11) rec PT.nil s) fun x12 s =>
 condV x12
 (opt2 (oMov (.v (.int .i64 (-1))) rec PT.nil s) fun x13 s =>
 some (.ret, (PT.put x13 t2 (PT.put x12 t18 (PT.put x11 t17 (PT.put x9 t16 (PT.put x7 t15 (PT.put x6 t14 (PT.put x5 t13 (PT.put x4 t5 (PT.put x3 t12 (PT.put x2 t11 (PT.put x1 t10 fs))))))))))), s))
 (opt2 (oMov (.v (orU (fs.get t3))) rec PT.nil s) fun x14 s =>
 opt2 (oBin (int2 mulO) (.v x14) (.v (.int .i64 10)) rec PT.nil s) fun x15 s =>
 opt2 (oMov (.v x4) rec PT.nil s) fun x16 s =>
 opt2 (oBin (int2 subO) (.v x16) (.v (.int .u8 48)) rec PT.nil s) fun x17 s =>
 opt2 (oConv .i64 (.v x17) rec PT.nil s) fun x18 s =>
 opt2 (oBin (int2 addO) (.v x15) (.v x18) rec PT.nil s) fun x19 s =>
 opt2 (oMov (.v x19) rec PT.nil s) fun x20 s =>
 opt2 (oBin (int2 addO) (.v (orU (fs.get t9))) (.v (.int .i64 1)) rec PT.nil s) fun x21 s =>
 opt2 (oMov (.v x21) rec PT.nil s) fun x22 s =>
 some (.norm, (PT.put x22 t9 (PT.put x21 t25 (PT.put x20 t3 (PT.put x19 t24 (PT.put x18 t23 (PT.put x17 t22 (PT.put x16 t21 (PT.put x15 t20 (PT.put x14 t19 (PT.put x12 t18 (PT.put x11 t17 (PT.put x9 t16 (PT.put x7 t15 (PT.put x6 t14 (PT.put x5 t13 (PT.put x4 t5 (PT.put x3 t12 (PT.put x2 t11 (PT.put x1 t10 fs))))))))))))))))))), s)))
 (some ((.exit 0), (PT.put x1 t10 fs), s))
set_option maxHeartbeats 4000000 in
theorem d56_l0 (rec : Rec) (N : Nat) (fs : Frm) (s : St) : c56_l0 rec N fs s = D56_l0 rec N fs s := by
  simp (maxSteps := 4000000) only [c56_l0, lenN, x_seq, x_ops, x_skip, x_ret, x_exit, x_cond, x_block, x_loop, ops_c, ops_n, op1_u, op1_gj, rq_c, rq_n, opQ_u, opQ_g, op2_op2, op2_op, op2_s, op2_cond, thenX_n, thenX_e, thenX_r, blkX_n, blkX_r, blkX_e, finX_r, finX_n, res_n, res_t, op_s, Nat.beq_refl, cond_true]
  first | done | kernel_rfl
def D56_r0 (rec : Rec) (N : Nat) (fs : Frm) (s : St) : OutX := opt2 (oMov (.v (orU (fs.get t3))) rec PT.nil s) fun x1 s =>
 opt2 (oMov (.v x1) rec PT.nil s) fun x2 s =>
 some (.ret, (PT.put x2 t2 (PT.put x1 t26 fs)), s)
set_option maxHeartbeats 4000000 in
theorem d56_r0 (rec : Rec) (N : Nat) (fs : Frm) (s : St) : c56_r0 rec N fs s = D56_r0 rec N fs s := by
  simp (maxSteps := 4000000) only [c56_r0, lenN, x_seq, x_ops, x_skip, x_ret, x_exit, x_cond, x_block, x_loop, ops_c, ops_n, op1_u, op1_gj, rq_c, rq_n, opQ_u, opQ_g, op2_op2, op2_op, op2_s, op2_cond, thenX_n, thenX_e, thenX_r, blkX_n, blkX_r, blkX_e, finX_r, finX_n, res_n, res_t, op_s, Nat.beq_refl, cond_true]
  first | done | kernel_rfl
def D56 (rec : Rec) (N : Nat) (a0 : Value) (s : St) : Out := opt2 (oMov (.v (.int .i64 0)) rec PT.nil s) fun x1 s =>
 opt2 (oMov (.v (.int .i64 0)) rec PT.nil s) fun x2 s =>
 opt2 (oMov (.v a0) rec PT.nil s) fun x3 s =>
 opt2 (oStrBytes (.v x3) rec PT.nil s) fun x4 s =>
 opt2 (oLenL (.v x4) rec PT.nil s) fun x5 s =>
 opt2 (oMov (.v (.int .i64 0)) rec PT.nil s) fun x6 s =>
 opt2 (loopF (c56_l0 rec N) N (PT.put x6 t9 (PT.put x5 t8 (PT.put x4 t7 (PT.put x3 t6 (PT.put x2 t3 (PT.put x1 t2 (PT.put a0 t0 PT.nil))))))) s) fun e r => opt2 (blkX 0 e r) fun e r => opt2 (thenX (c56_r0 rec N) e r) fun e r => finX [.tmp t2] e r
set_option maxHeartbeats 4000000 in
theorem d56 (rec : Rec) (N : Nat) (a0 : Value) (s : St) : callF rec N c56 [a0] s = D56 rec N a0 s := by
  rw [call_f _ _ _ _ _ rfl]
  simp (maxSteps := 4000000) only [c56, lenN, x_seq, x_ops, x_skip, x_ret, x_exit, x_cond, x_block, x_loop, ops_c, ops_n, op1_u, op1_gj, rq_c, rq_n, opQ_u, opQ_g, op2_op2, op2_op, op2_s, op2_cond, thenX_n, thenX_e, thenX_r, blkX_n, blkX_r, blkX_e, finX_r, finX_n, res_n, res_t, op_s, Nat.beq_refl, cond_true]
  first | done | kernel_rfl
def J56_r0 (rec : Rec) (N : Nat) (k : Value) (s : St) : Out := some (oneOf [k], s)
set_option maxHeartbeats 4000000 in
theorem j56_r0 (rec : Rec) (N : Nat) (fs : Frm) (s : St) : opt2 (c56_r0 rec N fs s) (fun e r => finX [.tmp t2] e r) = J56_r0 rec N (orU (fs.get t3)) s := by
  rw [d56_r0]
  unfold D56_r0 J56_r0
  simp (maxSteps := 4000000) only [thenX_n, thenX_e, thenX_r, x_exit, x_skip, x_ret, blkX_n, blkX_r, blkX_e, finX_r, finX_n, res_n, res_t, op2_op2, op2_op, op2_s, op2_cond, op2_bf, mov_v]
  first | done | kernel_rfl
def B56_l0 (rec : Rec) (N : Nat) (k : Value × Value) (v : Value × Value × Value) (s : St) : OutV (Value × Value × Value) := opt2 (oBin (int2 (cmpO ltI)) (.v v.2.2) (.v k.2) rec PT.nil s) fun x1 s =>
 condV x1
 (opt2 (oIdxAddrL 1 (.v k.1) (.v v.2.2) rec PT.nil s) fun x2 s =>
 opt2 (oLoad1 (.v x2) rec PT.nil s) fun x3 s =>
 opt2 (oBin (int2 (cmpO ltI)) (.v x3) (.v (.int .u8 48)) rec PT.nil s) fun x4 s =>
 opt (gval false x4) fun x5 => opt2 (orUndef x5 (some (x3, s)) s) fun x6 s =>
 opt (gval false x4) fun x7 => opt2 (orUndef x7 (oBin (int2 (cmpO gtI)) (.v x6) (.v (.int .u8 57)) rec PT.nil s) s) fun x8 s =>
 opt2 (oPick (.v x4) (.v (.bool true)) (.v x8) rec PT.nil s) fun x9 s =>
 condV x9
 (some (.ret, (((.int .i64 (-1)), v.2.1, v.2.2), s)))
 (opt2 (oBin (int2 mulO) (.v v.2.1) (.v (.int .i64 10)) rec PT.nil s) fun x10 s =>
 opt2 (oBin (int2 subO) (.v x3) (.v (.int .u8 48)) rec PT.nil s) fun x11 s =>
 opt2 (oConv .i64 (.v x11) rec PT.nil s) fun x12 s =>
 opt2 (oBin (int2 addO) (.v x10) (.v x12) rec PT.nil s) fun x13 s =>
 opt2 (oBin (int2 addO) (.v v.2.2) (.v (.int .i64 1)) rec PT.nil s) fun x14 s =>
 some (.norm, ((v.1, x13, x14), s))))
 (some ((.exit 0), ((v.1, v.2.1, v.2.2), s)))
set_option maxHeartbeats 4000000 in
theorem s56_l0 (rec : Rec) (N : Nat) (fs : Frm) (s : St) : opt2 (c56_l0 rec N fs s) (fun e r => some (e, (((orU (r.1.get t2), orU (r.1.get t3), orU (r.1.get t9)), (orU (r.1.get t7), orU (r.1.get t8))), r.2))) = opt2 (B56_l0 rec N (orU (fs.get t7), orU (fs.get t8)) (orU (fs.get t2), orU (fs.get t3), orU (fs.get t9)) s) fun e r => some (e, ((r.1, (orU (fs.get t7), orU (fs.get t8))), r.2)) := by
  rw [d56_l0]
  unfold D56_l0 B56_l0
  simp (maxSteps := 4000000) only [op2_op2, op2_op, op2_s, op2_cond, op2_bf, mov_v]
  first | done | kernel_rfl
def C56_l0 (rec : Rec) (N : Nat) (k : Value × Value) (e : AExit) (r : (Value × Value × Value) × St) : Out := (fun s => exV (fun i => bif Nat.beq i 0 then (J56_r0 rec N r.1.2.1 s)
 else (none))
 (some (oneOf [r.1.1], s)) e) r.2
theorem j56_l0 (rec : Rec) (N : Nat) (fs : Frm) (s : St) : opt2 (loopF (c56_l0 rec N) N fs s) (fun e r => opt2 (blkX 0 e r) fun e r => opt2 (thenX (c56_r0 rec N) e r) fun e r => finX [.tmp t2] e r) = opt2 (loopV (B56_l0 rec N (orU (fs.get t7), orU (fs.get t8))) N (orU (fs.get t2), orU (fs.get t3), orU (fs.get t9)) s) (C56_l0 rec N (orU (fs.get t7), orU (fs.get t8))) := by
  refine loop_j (fun fs => (orU (fs.get t2), orU (fs.get t3), orU (fs.get t9))) (fun fs => (orU (fs.get t7), orU (fs.get t8))) (B56_l0 rec N) (c56_l0 rec N) (s56_l0 rec N) (fun e r => opt2 (blkX 0 e r) fun e r => opt2 (thenX (c56_r0 rec N) e r) fun e r => finX [.tmp t2] e r) (C56_l0 rec N) ?_ ?_ N fs s
  · intro i fs s
    unfold C56_l0
    simp (maxSteps := 4000000) only [thenX_n, thenX_e, thenX_r, x_exit, x_skip, x_ret, blkX_n, blkX_r, blkX_e, finX_r, finX_n, res_n, res_t, exV_e, exV_r, op2_op2, op2_op, op2_s, op2_cond, op2_bf, mov_v, j56_r0 rec N]
    first | done | kernel_rfl
  · intro fs s
    unfold C56_l0
    simp (maxSteps := 4000000) only [thenX_n, thenX_e, thenX_r, x_exit, x_skip, x_ret, blkX_n, blkX_r, blkX_e, finX_r, finX_n, res_n, res_t, exV_e, exV_r, op2_op2, op2_op, op2_s, op2_cond, op2_bf, mov_v, j56_r0 rec N]
    first | done | kernel_rfl
def F56 (rec : Rec) (N : Nat) (a0 : Value) (s : St) : Out := opt2 (oStrBytes (.v a0) rec PT.nil s) fun x1 s =>
 opt2 (oLenL (.v x1) rec PT.nil s) fun x2 s =>
 opt2 (loopV (B56_l0 rec N (x1, x2)) N ((.int .i64 0), (.int .i64 0), (.int .i64 0)) s) (C56_l0 rec N (x1, x2))
theorem f56 (rec : Rec) (N : Nat) (a0 : Value) (s : St) : callF rec N c56 [a0] s = F56 rec N a0 s := by
  rw [d56]
  unfold D56 F56
  simp (maxSteps := 4000000) only [mov_v, op2_s, j56_l0 rec N]
  first | done | kernel_rfl
-- c61
def D61_j0 (rec : Rec) (N : Nat) (fs : Frm) (s : St) : OutX := condV (orU (fs.get t15))
 (opt2 (oMov (.v (.int .i64 31)) rec PT.nil s) fun x1 s =>
 some (.ret, (PT.put x1 t4 fs), s))
 (some (.norm, fs, s))
set_option maxHeartbeats 4000000 in
theorem d61_j0 (rec : Rec) (N : Nat) (fs : Frm) (s : St) : c61_j0 rec N fs s = D61_j0 rec N fs s := by
  simp (maxSteps := 4000000) only [c61_j0, lenN, x_seq, x_ops, x_skip, x_ret, x_exit, x_cond, x_block, x_loop, ops_c, ops_n, op1_u, op1_gj, rq_c, rq_n, opQ_u, opQ_g, op2_op2, op2_op, op2_s, op2_cond, thenX_n, thenX_e, thenX_r, blkX_n, blkX_r, blkX_e, finX_r, finX_n, res_n, res_t, op_s, Nat.beq_refl, cond_true]
  first | done | kernel_rfl
def D61_j1 (rec : Rec) (N : Nat) (fs : Frm) (s : St) : OutX := condV (orU (fs.get t10))
 (opt2 (oMov (.v (.int .i64 30)) rec PT.nil s) fun x1 s =>
 some (.ret, (PT.put x1 t4 fs), s))
 (opt2 (oBin (int2 (cmpO eqI)) (.v (orU (fs.get t5))) (.v (.int .i64 1)) rec PT.nil s) fun x2 s =>
 opt2 (oMov (.v x2) rec PT.nil s) fun x3 s =>
 condV x3
 (c61_j0 rec N (PT.put x3 t15 (PT.put x2 t16 fs)) s)
 (opt2 (oBin (int2 (cmpO eqI)) (.v (orU (fs.get t5))) (.v (.int .i64 3)) rec PT.nil s) fun x4 s =>
 opt2 (oMov (.v x4) rec PT.nil s) fun x5 s =>
 condV x5
 (c61_j0 rec N (PT.put x5 t15 (PT.put x4 t17 (PT.put x3 t15 (PT.put x2 t16 fs)))) s)
 (opt2 (oBin (int2 (cmpO eqI)) (.v (orU (fs.get t5))) (.v (.int .i64 5)) rec PT.nil s) fun x6 s =>
 opt2 (oMov (.v x6) rec PT.nil s) fun x7 s =>
 condV x7
 (c61_j0 rec N (PT.put x7 t15 (PT.put x6 t18 (PT.put x5 t15 (PT.put x4 t17 (PT.put x3 t15 (PT.put x2 t16 fs)))))) s)
 (opt2 (oBin (int2 (cmpO eqI)) (.v (orU (fs.get t5))) (.v (.int .i64 7)) rec PT.nil s) fun x8 s =>
 opt2 (oMov (.v x8) rec PT.nil s) fun x9 s =>
 condV x9
 (c61_j0 rec N (PT.put x9 t15 (PT.put x8 t19 (PT.put x7 t15 (PT.put x6 t18 (PT.put x5 t15 (PT.put x4 t17 (PT.put x3 t15 (PT.put x2 t16 fs)))))))) s)
 (opt2 (oBin (int2 (cmpO eqI)) (.v (orU (fs.get t5))) (.v (.int .i64 8)) rec PT.nil s) fun x10 s =>
 opt2 (oMov (.v x10) rec PT.nil s) fun x11 s =>
 condV x11
 (c61_j0 rec N (PT.put x11 t15 (PT.put x10 t20 (PT.put x9 t15 (PT.put x8 t19 (PT.put x7 t15 (PT.put x6 t18 (PT.put x5 t15 (PT.put x4 t17 (PT.put x3 t15 (PT.put x2 t16 fs)))))))))) s)
 (opt2 (oBin (int2 (cmpO eqI)) (.v (orU (fs.get t5))) (.v (.int .i64 10)) rec PT.nil s) fun x12 s =>
 opt2 (oMov (.v x12) rec PT.nil s) fun x13 s =>
 condV x13
 (c61_j0 rec N (PT.put x13 t15 (PT.put x12 t21 (PT.put x11 t15 (PT.put x10 t20 (PT.put x9 t15 (PT.put x8 t19 (PT.put x7 t15 (PT.put x6 t18 (PT.put x5 t15 (PT.put x4 t17 (PT.put x3 t15 (PT.put x2 t16 fs)))))))))))) s)
 (opt2 (oBin (int2 (cmpO eqI)) (.v (orU (fs.get t5))) (.v (.int .i64 12)) rec PT.nil s) fun x14 s =>
 opt2 (oMov (.v x14) rec PT.nil s) fun x15 s =>
 c61_j0 rec N (PT.put x15 t15 (PT.put x14 t22 (PT.put x13 t15 (PT.put x12 t21 (PT.put x11 t15 (PT.put x10 t20 (PT.put x9 t15 (PT.put x8 t19 (PT.put x7 t15 (PT.put x6 t18 (PT.put x5 t15 (PT.put x4 t17 (PT.put x3 t15 (PT.put x2 t16 fs)))))))))))))) s)))))))
set_option maxHeartbeats 4000000 in
theorem d61_j1 (rec : Rec) (N : Nat) (fs : Frm) (s : St) : c61_j1 rec N fs s = D61_j1 rec N fs s := by
  simp (maxSteps := 4000000) only [c61_j1, lenN, x_seq, x_ops, x_skip, x_ret, x_exit, x_cond, x_block, x_loop, ops_c, ops_n, op1_u, op1_gj, rq_c, rq_n, opQ_u, opQ_g, op2_op2, op2_op, op2_s, op2_cond, thenX_n, thenX_e, thenX_r, blkX_n, blkX_r, blkX_e, finX_r, finX_n, res_n, res_t, op_s, Nat.beq_refl, cond_true]
  first | done | kernel_rfl
def D61_j2 (rec : Rec) (N : Nat) (fs : Frm) (s : St) : OutX := opt2 (oMov (.v (.int .i64 0)) rec PT.nil s) fun x1 s =>
 some (.ret, (PT.put x1 t4 fs), s)
set_option maxHeartbeats 4000000 in
theorem d61_j2 (rec : Rec) (N : Nat) (fs : Frm) (s : St) : c61_j2 rec N fs s = D61_j2 rec N fs s := by
  simp (maxSteps := 4000000) only [c61_j2, lenN, x_seq, x_ops, x_skip, x_ret, x_exit, x_cond, x_block, x_loop, ops_c, ops_n, op1_u, op1_gj, rq_c, rq_n, opQ_u, opQ_g, op2_op2, op2_op, op2_s, op2_cond, thenX_n, thenX_e, thenX_r, blkX_n, blkX_r, blkX_e, finX_r, finX_n, res_n, res_t, op_s, Nat.beq_refl, cond_true]
  first | done | kernel_rfl
def D61 (rec : Rec) (N : Nat) (a0 : Value) (a1 : Value) (s : St) : Out := opt2 (oMov (.v (.int .i64 0)) rec PT.nil s) fun x1 s =>
 opt2 (oMov (.v a1) rec PT.nil s) fun x2 s =>
 opt2 (oBin (int2 (cmpO eqI)) (.v x2) (.v (.int .i64 2)) rec PT.nil s) fun x3 s =>
 opt2 (oMov (.v x3) rec PT.nil s) fun x4 s =>
 condV x4
 (opt2 (oMov (.v a0) rec PT.nil s) fun x5 s =>
 opt2 (rec 65 [x5] s) fun x6 s =>
 condV x6
 (opt2 (oMov (.v (.int .i64 29)) rec PT.nil s) fun x7 s =>
 some (oneOf [x7], s))
 (opt2 (oMov (.v (.int .i64 28)) rec PT.nil s) fun x8 s =>
 some (oneOf [x8], s)))
 (opt2 (oBin (int2 (cmpO eqI)) (.v x2) (.v (.int .i64 4)) rec PT.nil s) fun x9 s =>
 opt2 (oMov (.v x9) rec PT.nil s) fun x10 s =>
 condV x10
 (opt2 (c61_j1 rec N (PT.put x10 t10 (PT.put x9 t11 (PT.put x4 t6 (PT.put x3 t7 (PT.put x2 t5 (PT.put x1 t4 (PT.put a1 t1 (PT.put a0 t0 PT.nil)))))))) s) fun e r => opt2 (blkX 0 e r) fun e r => opt2 (thenX (c61_j2 rec N) e r) fun e r => finX [.tmp t4] e r)
 (opt2 (oBin (int2 (cmpO eqI)) (.v x2) (.v (.int .i64 6)) rec PT.nil s) fun x11 s =>
 opt2 (oMov (.v x11) rec PT.nil s) fun x12 s =>
 condV x12
 (opt2 (c61_j1 rec N (PT.put x12 t10 (PT.put x11 t12 (PT.put x10 t10 (PT.put x9 t11 (PT.put x4 t6 (PT.put x3 t7 (PT.put x2 t5 (PT.put x1 t4 (PT.put a1 t1 (PT.put a0 t0 PT.nil)))))))))) s) fun e r => opt2 (blkX 0 e r) fun e r => opt2 (thenX (c61_j2 rec N) e r) fun e r => finX [.tmp t4] e r)
 (opt2 (oBin (int2 (cmpO eqI)) (.v x2) (.v (.int .i64 9)) rec PT.nil s) fun x13 s =>
 opt2 (oMov (.v x13) rec PT.nil s) fun x14 s =>
 condV x14
 (opt2 (c61_j1 rec N (PT.put x14 t10 (PT.put x13 t13 (PT.put x12 t10 (PT.put x11 t12 (PT.put x10 t10 (PT.put x9 t11 (PT.put x4 t6 (PT.put x3 t7 (PT.put x2 t5 (PT.put x1 t4 (PT.put a1 t1 (PT.put a0 t0 PT.nil)))))))))))) s) fun e r => opt2 (blkX 0 e r) fun e r => opt2 (thenX (c61_j2 rec N) e r) fun e r => finX [.tmp t4] e r)
 (opt2 (oBin (int2 (cmpO eqI)) (.v x2) (.v (.int .i64 11)) rec PT.nil s) fun x15 s =>
 opt2 (oMov (.v x15) rec PT.nil s) fun x16 s =>
 opt2 (c61_j1 rec N (PT.put x16 t10 (PT.put x15 t14 (PT.put x14 t10 (PT.put x13 t13 (PT.put x12 t10 (PT.put x11 t12 (PT.put x10 t10 (PT.put x9 t11 (PT.put x4 t6 (PT.put x3 t7 (PT.put x2 t5 (PT.put x1 t4 (PT.put a1 t1 (PT.put a0 t0 PT.nil)))))))))))))) s) fun e r => opt2 (blkX 0 e r) fun e r => opt2 (thenX (c61_j2 rec N) e r) fun e r => finX [.tmp t4] e r))))
set_option maxHeartbeats 4000000 in
theorem d61 (rec : Rec) (N : Nat) (a0 : Value) (a1 : Value) (s : St) : callF rec N c61 [a0, a1] s = D61 rec N a0 a1 s := by
  rw [call_f _ _ _ _ _ rfl]
  simp (maxSteps := 4000000) only [c61, lenN, x_seq, x_ops, x_skip, x_ret, x_exit, x_cond, x_block, x_loop, ops_c, ops_n, op1_u, op1_gj, rq_c, rq_n, opQ_u, opQ_g, op2_op2, op2_op, op2_s, op2_cond, thenX_n, thenX_e, thenX_r, blkX_n, blkX_r, blkX_e, finX_r, finX_n, res_n, res_t, op_s, Nat.beq_refl, cond_true]
  first | done | kernel_rfl
def J61_j2 (rec : Rec) (N : Nat) (k : Unit) (s : St) : Out := some (oneOf [(.int .i64 0)], s)
set_option maxHeartbeats 4000000 in
theorem j61_j2 (rec : Rec) (N : Nat) (fs : Frm) (s : St) : opt2 (c61_j2 rec N fs s) (fun e r => finX [.tmp t4] e r) = J61_j2 rec N () s := by
  rw [d61_j2]
  unfold D61_j2 J61_j2
  simp (maxSteps := 4000000) only [thenX_n, thenX_e, thenX_r, x_exit, x_skip, x_ret, blkX_n, blkX_r, blkX_e, finX_r, finX_n, res_n, res_t, op2_op2, op2_op, op2_s, op2_cond, op2_bf, mov_v]
  first | done | kernel_rfl
def J61_j0 (rec : Rec) (N : Nat) (k : Value) (s : St) : Out := condV k
 (some (oneOf [(.int .i64 31)], s))
 (J61_j2 rec N () s)
set_option maxHeartbeats 4000000 in
theorem j61_j0 (rec : Rec) (N : Nat) (fs : Frm) (s : St) : opt2 (c61_j0 rec N fs s) (fun e r => opt2 (blkX 0 e r) fun e r => opt2 (thenX (c61_j2 rec N) e r) fun e r => finX [.tmp t4] e r) = J61_j0 rec N (orU (fs.get t15)) s := by
  rw [d61_j0]
  unfold D61_j0 J61_j0
  simp (maxSteps := 4000000) only [thenX_n, thenX_e, thenX_r, x_exit, x_skip, x_ret, blkX_n, blkX_r, blkX_e, finX_r, finX_n, res_n, res_t, op2_op2, op2_op, op2_s, op2_cond, op2_bf, mov_v, j61_j2 rec N]
  first | done | kernel_rfl
def J61_j1 (rec : Rec) (N : Nat) (k : Value × Value) (s : St) : Out := condV k.2
 (some (oneOf [(.int .i64 30)], s))
 (opt2 (oBin (int2 (cmpO eqI)) (.v k.1) (.v (.int .i64 1)) rec PT.nil s) fun x1 s =>
 condV x1
 (J61_j0 rec N x1 s)
 (opt2 (oBin (int2 (cmpO eqI)) (.v k.1) (.v (.int .i64 3)) rec PT.nil s) fun x2 s =>
 condV x2
 (J61_j0 rec N x2 s)
 (opt2 (oBin (int2 (cmpO eqI)) (.v k.1) (.v (.int .i64 5)) rec PT.nil s) fun x3 s =>
 condV x3
 (J61_j0 rec N x3 s)
 (opt2 (oBin (int2 (cmpO eqI)) (.v k.1) (.v (.int .i64 7)) rec PT.nil s) fun x4 s =>
 condV x4
 (J61_j0 rec N x4 s)
 (opt2 (oBin (int2 (cmpO eqI)) (.v k.1) (.v (.int .i64 8)) rec PT.nil s) fun x5 s =>
 condV x5
 (J61_j0 rec N x5 s)
 (opt2 (oBin (int2 (cmpO eqI)) (.v k.1) (.v (.int .i64 10)) rec PT.nil s) fun x6 s =>
 condV x6
 (J61_j0 rec N x6 s)
 (opt2 (oBin (int2 (cmpO eqI)) (.v k.1) (.v (.int .i64 12)) rec PT.nil s) fun x7 s =>
 J61_j0 rec N x7 s)))))))
set_option maxHeartbeats 4000000 in
theorem j61_j1 (rec : Rec) (N : Nat) (fs : Frm) (s : St) : opt2 (c61_j1 rec N fs s) (fun e r => opt2 (blkX 0 e r) fun e r => opt2 (thenX (c61_j2 rec N) e r) fun e r => finX [.tmp t4] e r) = J61_j1 rec N (orU (fs.get t5), orU (fs.get t10)) s := by
  rw [d61_j1]
  unfold D61_j1 J61_j1
  simp (maxSteps := 4000000) only [thenX_n, thenX_e, thenX_r, x_exit, x_skip, x_ret, blkX_n, blkX_r, blkX_e, finX_r, finX_n, res_n, res_t, op2_op2, op2_op, op2_s, op2_cond, op2_bf, mov_v, j61_j0 rec N]
  first | done | kernel_rfl
def F61 (rec : Rec) (N : Nat) (a0 : Value) (a1 : Value) (s : St) : Out := opt2 (oBin (int2 (cmpO eqI)) (.v a1) (.v (.int .i64 2)) rec PT.nil s) fun x1 s =>
 condV x1
 (opt2 (rec 65 [a0] s) fun x2 s =>
 condV x2
 (some (oneOf [(.int .i64 29)], s))
 (some (oneOf [(.int .i64 28)], s)))
 (opt2 (oBin (int2 (cmpO eqI)) (.v a1) (.v (.int .i64 4)) rec PT.nil s) fun x3 s =>
 condV x3
 (J61_j1 rec N (a1, x3) s)
 (opt2 (oBin (int2 (cmpO eqI)) (.v a1) (.v (.int .i64 6)) rec PT.nil s) fun x4 s =>
 condV x4
 (J61_j1 rec N (a1, x4) s)
 (opt2 (oBin (int2 (cmpO eqI)) (.v a1) (.v (.int .i64 9)) rec PT.nil s) fun x5 s =>
 condV x5
 (J61_j1 rec N (a1, x5) s)
 (opt2 (oBin (int2 (cmpO eqI)) (.v a1) (.v (.int .i64 11)) rec PT.nil s) fun x6 s =>
 J61_j1 rec N (a1, x6) s))))
theorem f61 (rec : Rec) (N : Nat) (a0 : Value) (a1 : Value) (s : St) : callF rec N c61 [a0, a1] s = F61 rec N a0 a1 s := by
  rw [d61]
  unfold D61 F61
  simp (maxSteps := 4000000) only [mov_v, op2_s, j61_j1 rec N]
  first | done | kernel_rfl
-- c62
def D62 (rec : Rec) (N : Nat) (a0 : Value) (s : St) : Out := opt2 (oMov (.v (.int .i64 0)) rec PT.nil s) fun x1 s =>
 opt2 (oMov (.v a0) rec PT.nil s) fun x2 s =>
 opt2 (oBin (int2 subO) (.v x2) (.v (.int .i64 1900)) rec PT.nil s) fun x3 s =>
 opt2 (oMov (.v x3) rec PT.nil s) fun x4 s =>
 opt2 (oMov (.v a0) rec PT.nil s) fun x5 s =>
 opt2 (oBin (int2 subO) (.v x5) (.v (.int .i64 1)) rec PT.nil s) fun x6 s =>
 opt2 (oBin (int2 quoO) (.v x6) (.v (.int .i64 4)) rec PT.nil s) fun x7 s =>
 opt2 (oBin (int2 subO) (.v x7) (.v (.int .i64 474)) rec PT.nil s) fun x8 s =>
 opt2 (oMov (.v a0) rec PT.nil s) fun x9 s =>
 opt2 (oBin (int2 subO) (.v x9) (.v (.int .i64 1)) rec PT.nil s) fun x10 s =>
 opt2 (oBin (int2 quoO) (.v x10) (.v (.int .i64 100)) rec PT.nil s) fun x11 s =>
 opt2 (oBin (int2 subO) (.v x11) (.v (.int .i64 18)) rec PT.nil s) fun x12 s =>
 opt2 (oBin (int2 subO) (.v x8) (.v x12) rec PT.nil s) fun x13 s =>
 opt2 (oMov (.v a0) rec PT.nil s) fun x14 s =>
 opt2 (oBin (int2 subO) (.v x14) (.v (.int .i64 1)) rec PT.nil s) fun x15 s =>
 opt2 (oBin (int2 quoO) (.v x15) (.v (.int .i64 400)) rec PT.nil s) fun x16 s =>
 opt2 (oBin (int2 subO) (.v x16) (.v (.int .i64 4)) rec PT.nil s) fun x17 s =>
 opt2 (oBin (int2 addO) (.v x13) (.v x17) rec PT.nil s) fun x18 s =>
 opt2 (oMov (.v x18) rec PT.nil s) fun x19 s =>
 opt2 (oMov (.v x4) rec PT.nil s) fun x20 s =>
 opt2 (oBin (int2 mulO) (.v x20) (.v (.int .i64 365)) rec PT.nil s) fun x21 s =>
 opt2 (oMov (.v x19) rec PT.nil s) fun x22 s =>
 opt2 (oBin (int2 addO) (.v x21) (.v x22) rec PT.nil s) fun x23 s =>
 opt2 (oMov (.v x23) rec PT.nil s) fun x24 s =>
 some (oneOf [x24], s)
set_option maxHeartbeats 4000000 in
theorem d62 (rec : Rec) (N : Nat) (a0 : Value) (s : St) : callF rec N c62 [a0] s = D62 rec N a0 s := by
  rw [call_f _ _ _ _ _ rfl]
  simp (maxSteps := 4000000) only [c62, lenN, x_seq, x_ops, x_skip, x_ret, x_exit, x_cond, x_block, x_loop, ops_c, ops_n, op1_u, op1_gj, rq_c, rq_n, opQ_u, opQ_g, op2_op2, op2_op, op2_s, op2_cond, thenX_n, thenX_e, thenX_r, blkX_n, blkX_r, blkX_e, finX_r, finX_n, res_n, res_t, op_s, Nat.beq_refl, cond_true]
  first | done | kernel_rfl
def F62 (rec : Rec) (N : Nat) (a0 : Value) (s : St) : Out := opt2 (oBin (int2 subO) (.v a0) (.v (.int .i64 1900)) rec PT.nil s) fun x1 s =>
 opt2 (oBin (int2 subO) (.v a0) (.v (.int .i64 1)) rec PT.nil s) fun x2 s =>
 opt2 (oBin (int2 quoO) (.v x2) (.v (.int .i64 4)) rec PT.nil s) fun x3 s =>
 opt2 (oBin (int2 subO) (.v x3) (.v (.int .i64 474)) rec PT.nil s) fun x4 s =>
 opt2 (oBin (int2 subO) (.v a0) (.v (.int .i64 1)) rec PT.nil s) fun x5 s =>
 opt2 (oBin (int2 quoO) (.v x5) (.v (.int .i64 100)) rec PT.nil s) fun x6 s =>
 opt2 (oBin (int2 subO) (.v x6) (.v (.int .i64 18)) rec PT.nil s) fun x7 s =>
 opt2 (oBin (int2 subO) (.v x4) (.v x7) rec PT.nil s) fun x8 s =>
 opt2 (oBin (int2 subO) (.v a0) (.v (.int .i64 1)) rec PT.nil s) fun x9 s =>
 opt2 (oBin (int2 quoO) (.v x9) (.v (.int .i64 400)) rec PT.nil s) fun x10 s =>
 opt2 (oBin (int2 subO) (.v x10) (.v (.int .i64 4)) rec PT.nil s) fun x11 s =>
 opt2 (oBin (int2 addO) (.v x8) (.v x11) rec PT.nil s) fun x12 s =>
 opt2 (oBin (int2 mulO) (.v x1) (.v (.int .i64 365)) rec PT.nil s) fun x13 s =>
 opt2 (oBin (int2 addO) (.v x13) (.v x12) rec PT.nil s) fun x14 s =>
 some (oneOf [x14], s)
set_option maxHeartbeats 4000000 in
theorem f62 (rec : Rec) (N : Nat) (a0 : Value) (s : St) : callF rec N c62 [a0] s = F62 rec N a0 s := by
  rw [d62]
  unfold D62 F62
  first
    | done
    | rfl
    | (simp (maxSteps := 4000000) only [mov_v, op2_s]; first | done | kernel_rfl)
    | kernel_rfl
-- c65
def D65 (rec : Rec) (N : Nat) (a0 : Value) (s : St) : Out := opt2 (oMov (.v (.bool false)) rec PT.nil s) fun x1 s =>
 opt2 (oMov (.v a0) rec PT.nil s) fun x2 s =>
 opt2 (oBin (int2 remO) (.v x2) (.v (.int .i64 4)) rec PT.nil s) fun x3 s =>
 opt2 (oBin (int2 (cmpO eqI)) (.v x3) (.v (.int .i64 0)) rec PT.nil s) fun x4 s =>
 opt2 (oMov (.v x4) rec PT.nil s) fun x5 s =>
 opt (gval true x5) fun x6 => opt2 (orUndef x6 (oMov (.v a0) rec PT.nil s) s) fun x7 s =>
 opt (gval true x5) fun x8 => opt2 (orUndef x8 (oBin (int2 remO) (.v x7) (.v (.int .i64 100)) rec PT.nil s) s) fun x9 s =>
 opt (gval true x5) fun x10 => opt2 (orUndef x10 (oBin (int2 (cmpO neI)) (.v x9) (.v (.int .i64 0)) rec PT.nil s) s) fun x11 s =>
 opt2 (oPick (.v x5) (.v x11) (.v (.bool false)) rec PT.nil s) fun x12 s =>
 opt2 (oMov (.v x12) rec PT.nil s) fun x13 s =>
 opt (gval false x13) fun x14 => opt2 (orUndef x14 (oMov (.v a0) rec PT.nil s) s) fun x15 s =>
 opt (gval false x13) fun x16 => opt2 (orUndef x16 (oBin (int2 remO) (.v x15) (.v (.int .i64 400)) rec PT.nil s) s) fun x17 s =>
 opt (gval false x13) fun x18 => opt2 (orUndef x18 (oBin (int2 (cmpO eqI)) (.v x17) (.v (.int .i64 0)) rec PT.nil s) s) fun x19 s =>
 opt2 (oPick (.v x13) (.v (.bool true)) (.v x19) rec PT.nil s) fun x20 s =>
 opt2 (oMov (.v x20) rec PT.nil s) fun x21 s =>
 some (oneOf [x21], s)
set_option maxHeartbeats 4000000 in
theorem d65 (rec : Rec) (N : Nat) (a0 : Value) (s : St) : callF rec N c65 [a0] s = D65 rec N a0 s := by
  rw [call_f _ _ _ _ _ rfl]
  simp (maxSteps := 4000000) only [c65, lenN, x_seq, x_ops, x_skip, x_ret, x_exit, x_cond, x_block, x_loop, ops_c, ops_n, op1_u, op1_gj, rq_c, rq_n, opQ_u, opQ_g, op2_op2, op2_op, op2_s, op2_cond, thenX_n, thenX_e, thenX_r, blkX_n, blkX_r, blkX_e, finX_r, finX_n, res_n, res_t, op_s, Nat.beq_refl, cond_true]
  first | done | kernel_rfl
def F65 (rec : Rec) (N : Nat) (a0 : Value) (s : St) : Out := opt2 (oBin (int2 remO) (.v a0) (.v (.int .i64 4)) rec PT.nil s) fun x1 s =>
 opt2 (oBin (int2 (cmpO eqI)) (.v x1) (.v (.int .i64 0)) rec PT.nil s) fun x2 s =>
 opt (gval true x2) fun x3 => opt2 (orUndef x3 (some (a0, s)) s) fun x4 s =>
 opt (gval true x2) fun x5 => opt2 (orUndef x5 (oBin (int2 remO) (.v x4) (.v (.int .i64 100)) rec PT.nil s) s) fun x6 s =>
 opt (gval true x2) fun x7 => opt2 (orUndef x7 (oBin (int2 (cmpO neI)) (.v x6) (.v (.int .i64 0)) rec PT.nil s) s) fun x8 s =>
 opt2 (oPick (.v x2) (.v x8) (.v (.bool false)) rec PT.nil s) fun x9 s =>
 opt (gval false x9) fun x10 => opt2 (orUndef x10 (some (a0, s)) s) fun x11 s =>
 opt (gval false x9) fun x12 => opt2 (orUndef x12 (oBin (int2 remO) (.v x11) (.v (.int .i64 400)) rec PT.nil s) s) fun x13 s =>
 opt (gval false x9) fun x14 => opt2 (orUndef x14 (oBin (int2 (cmpO eqI)) (.v x13) (.v (.int .i64 0)) rec PT.nil s) s) fun x15 s =>
 opt2 (oPick (.v x9) (.v (.bool true)) (.v x15) rec PT.nil s) fun x16 s =>
 some (oneOf [x16], s)
set_option maxHeartbeats 4000000 in
theorem f65 (rec : Rec) (N : Nat) (a0 : Value) (s : St) : callF rec N c65 [a0] s = F65 rec N a0 s := by
  rw [d65]
  unfold D65 F65
  first
    | done
    | rfl
    | (simp (maxSteps := 4000000) only [mov_v, op2_s]; first | done | kernel_rfl)
    | kernel_rfl
end
end Go.Proofs.Ytikdjhlcbkkkfaa.AbsLexO
