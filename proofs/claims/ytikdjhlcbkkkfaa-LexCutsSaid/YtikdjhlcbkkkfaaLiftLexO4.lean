import Derived.Test.YtikdjhlcbkkkfaaAbsLexOE
import Derived.Test.YtikdjhlcbkkkfaaAbsZL
namespace Go.Proofs.Ytikdjhlcbkkkfaa.AbsLexO
open Go Go.Abs Go.Proofs
set_option maxRecDepth 100000
set_option linter.unusedVariables false
set_option linter.unusedSimpArgs false
noncomputable section
-- c56
def D56_l0 (rec : Rec) (N : Nat) (fs : Frm) (s : St) : OutX := opt2 (oBin (int2 (cmpO ltI)) (.v (orU (fs.get t9))) (.v (orU (fs.get t8))) rec PT.nil s) fun x1 s =>
 condV x1
 (opt2 (oIdxAddrL 1 (.v (orU (fs.get t7))) (.v (orU (fs.get t9))) rec PT.nil s) fun x2 s =>
 opt2 (oLoad1 (.v x2) rec PT.nil s) fun x3 s =>
 opt2 (oMov (.v x3) rec PT.nil s) fun x4 s =>
 opt2 (oMov (.v x4) rec PT.nil s) fun x5 s =>
 opt2 (oBin (int2 (cmpO ltI)) (.v x5) (.v (.int .u8 48)) rec PT.nil s) fun x6 s =>
 opt2 (oMov (.v x6) rec PT.nil s) fun x7 s =>
 opt (gval false x7) fun x8 => opt2 (orUndef x8 (oMov (.v x4) rec PT.nil s) s) fun x9 s =>
 opt (gval false x7) fun x10 => opt2 (orUndef x10 (oBin (int2 (cmpO gtI)) (.v x9) (.v (.int .u8 57)) rec PT.nil s) s) fun x11 s =>
 opt2 (oPick (.v x7) (.v (.bool true)) (.v x11) rec PT.nil s) fun x12 s =>
 condV x12
 (opt2 (oMov (.v (.int .i64 (-1))) rec PT.nil s) fun x13 s =>
 some (.ret, (PT.put x13 t2 (PT.put x12 t18 (PT.put x11 t17 (PT.put x9 t16 (PT.put x7 t15 (PT.put x6 t14 (PT.put x5 t13 (PT.put x4 t5 (PT.put x3 t12 (PT.put x2 t11 (PT.put x1 t10 fs))))))))))), s))
 (opt2 (oMov (.v (orU (fs.get t3))) rec PT.nil s) fun x14 s =>
 opt2 (oBin (int2 mulO) (.v x14) (.v (.int .i64 10)) rec PT.nil s) fun x15 s =>
 opt2 (oMov (.v x4) rec PT.nil s) fun x16 s =>
 opt2 (oBin (int2 subO) (.v x16) (.v (.int .u8 48)) rec PT.nil s) fun x17 s =>
 opt2 (oConv .i64 (.v x17) rec PT.nil s) fun x18 s =>
 opt2 (oBin (int2 addO) (.v x15) (.v x18) rec PT.nil s) fun x19 s =>
 opt2 (oMov (.v x19) rec PT.nil s) fun x20 s =>
 opt2 (oBin (int2 addO) (.v (orU (fs.get t9))) (.v (.int .i64 1)) rec PT.nil s) fun x21 s =>
 opt2 (oMov (.v x21) rec PT.nil s) fun x22 s =>
 some (.norm, (PT.put x22 t9 (PT.put x21 t25 (PT.put x20 t3 (PT.put x19 t24 (PT.put x18 t23 (PT.put x17 t22 (PT.put x16 t21 (PT.put x15 t20 (PT.put x14 t19 (PT.put x12 t18 (PT.put x11 t17 (PT.put x9 t16 (PT.put x7 t15 (PT.put x6 t14 (PT.put x5 t13 (PT.put x4 t5 (PT.put x3 t12 (PT.put x2 t11 (PT.put x1 t10 fs))))))))))))))))))), s)))
 (some ((.exit 0), (PT.put x1 t10 fs), s))
set_option maxHeartbeats 4000000 in
theorem d56_l0 (rec : Rec) (N : Nat) (fs : Frm) (s : St) : c56_l0 rec N fs s = D56_l0 rec N fs s := by
  simp (maxSteps := 4000000) only [c56_l0, lenN, x_seq, x_ops, x_skip, x_ret, x_exit, x_cond, x_block, x_loop, ops_c, ops_n, op1_u, op1_gj, rq_c, rq_n, opQ_u, opQ_g, op2_op2, op2_op, op2_s, op2_cond, thenX_n, thenX_e, thenX_r, blkX_n, blkX_r, blkX_e, finX_r, finX_n, res_n, res_t, op_s, Nat.beq_refl, cond_true]
  first | done | kernel_rfl
def D56_r0 (rec : Rec) (N : Nat) (fs : Frm) (s : St) : OutX := opt2 (oMov (.v (orU (fs.get t3))) rec PT.nil s) fun x1 s =>
 opt2 (oMov (.v x1) rec PT.nil s) fun x2 s =>
 some (.ret, (PT.put x2 t2 (PT.put x1 t26 fs)), s)
set_option maxHeartbeats 4000000 in
theorem d56_r0 (rec : Rec) (N : Nat) (fs : Frm) (s : St) : c56_r0 rec N fs s = D56_r0 rec N fs s := by
  simp (maxSteps := 4000000) only [c56_r0, lenN, x_seq, x_ops, x_skip, x_ret, x_exit, x_cond, x_block, x_loop, ops_c, ops_n, op1_u, op1_gj, rq_c, rq_n, opQ_u, opQ_g, op2_op2, op2_op, op2_s, op2_cond, thenX_n, thenX_e, thenX_r, blkX_n, blkX_r, blkX_e, finX_r, finX_n, res_n, res_t, op_s, Nat.beq_refl, cond_true]
  first | done | kernel_rfl
def D56 (rec : Rec) (N : Nat) (a0 : Value) (s : St) : Out := opt2 (oMov (.v (.int .i64 0)) rec PT.nil s) fun x1 s =>
 opt2 (oMov (.v (.int .i64 0)) rec PT.nil s) fun x2 s =>
 opt2 (oMov (.v a0) rec PT.nil s) fun x3 s =>
 opt2 (oStrBytes (.v x3) rec PT.nil s) fun x4 s =>
 opt2 (oLenL (.v x4) rec PT.nil s) fun x5 s =>
 opt2 (oMov (.v (.int .i64 0)) rec PT.nil s) fun x6 s =>
 opt2 (loopF (c56_l0 rec N) N (PT.put x6 t9 (PT.put x5 t8 (PT.put x4 t7 (PT.put x3 t6 (PT.put x2 t3 (PT.put x1 t2 (PT.put a0 t0 PT.nil))))))) s) fun e r => opt2 (blkX 0 e r) fun e r => opt2 (thenX (c56_r0 rec N) e r) fun e r => finX [.tmp t2] e r
set_option maxHeartbeats 4000000 in
theorem d56 (rec : Rec) (N : Nat) (a0 : Value) (s : St) : callF rec N c56 [a0] s = D56 rec N a0 s := by
  rw [call_f _ _ _ _ _ rfl]
  simp (maxSteps := 4000000) only [c56, lenN, x_seq, x_ops, x_skip, x_ret, x_exit, x_cond, x_block, x_loop, ops_c, ops_n, op1_u, op1_gj, rq_c, rq_n, opQ_u, opQ_g, op2_op2, op2_op, op2_s, op2_cond, thenX_n, thenX_e, thenX_r, blkX_n, blkX_r, blkX_e, finX_r, finX_n, res_n, res_t, op_s, Nat.beq_refl, cond_true]
  first | done | kernel_rfl
def J56_r0 (rec : Rec) (N : Nat) (k : Value) (s : St) : Out := some (oneOf [k], s)
set_option maxHeartbeats 4000000 in
theorem j56_r0 (rec : Rec) (N : Nat) (fs : Frm) (s : St) : opt2 (c56_r0 rec N fs s) (fun e r => finX [.tmp t2] e r) = J56_r0 rec N (orU (fs.get t3)) s := by
  rw [d56_r0]
  unfold D56_r0 J56_r0
  simp (maxSteps := 4000000) only [thenX_n, thenX_e, thenX_r, x_exit, x_skip, x_ret, blkX_n, blkX_r, blkX_e, finX_r, finX_n, res_n, res_t, op2_op2, op2_op, op2_s, op2_cond, op2_bf, mov_v]
  first | done | kernel_rfl
def B56_l0 (rec : Rec) (N : Nat) (k : Value × Value) (v : Value × Value × Value) (s : St) : OutV (Value × Value × Value) := opt2 (oBin (int2 (cmpO ltI)) (.v v.2.2) (.v k.2) rec PT.nil s) fun x1 s =>
 condV x1
 (opt2 (oIdxAddrL 1 (.v k.1) (.v v.2.2) rec PT.nil s) fun x2 s =>
 opt2 (oLoad1 (.v x2) rec PT.nil s) fun x3 s =>
 opt2 (oBin (int2 (cmpO ltI)) (.v x3) (.v (.int .u8 48)) rec PT.nil s) fun x4 s =>
 opt (gval false x4) fun x5 => opt2 (orUndef x5 (some (x3, s)) s) fun x6 s =>
 opt (gval false x4) fun x7 => opt2 (orUndef x7 (oBin (int2 (cmpO gtI)) (.v x6) (.v (.int .u8 57)) rec PT.nil s) s) fun x8 s =>
 opt2 (oPick (.v x4) (.v (.bool true)) (.v x8) rec PT.nil s) fun x9 s =>
 condV x9
 (some (.ret, (((.int .i64 (-1)), v.2.1, v.2.2), s)))
 (opt2 (oBin (int2 mulO) (.v v.2.1) (.v (.int .i64 10)) rec PT.nil s) fun x10 s =>
 opt2 (oBin (int2 subO) (.v x3) (.v (.int .u8 48)) rec PT.nil s) fun x11 s =>
 opt2 (oConv .i64 (.v x11) rec PT.nil s) fun x12 s =>
 opt2 (oBin (int2 addO) (.v x10) (.v x12) rec PT.nil s) fun x13 s =>
 opt2 (oBin (int2 addO) (.v v.2.2) (.v (.int .i64 1)) rec PT.nil s) fun x14 s =>
 some (.norm, ((v.1, x13, x14), s))))
 (some ((.exit 0), ((v.1, v.2.1, v.2.2), s)))
set_option maxHeartbeats 4000000 in
theorem s56_l0 (rec : Rec) (N : Nat) (fs : Frm) (s : St) : opt2 (c56_l0 rec N fs s) (fun e r => some (e, (((orU (r.1.get t2), orU (r.1.get t3), orU (r.1.get t9)), (orU (r.1.get t7), orU (r.1.get t8))), r.2))) = opt2 (B56_l0 rec N (orU (fs.get t7), orU (fs.get t8)) (orU (fs.get t2), orU (fs.get t3), orU (fs.get t9)) s) fun e r => some (e, ((r.1, (orU (fs.get t7), orU (fs.get t8))), r.2)) := by
  rw [d56_l0]
  unfold D56_l0 B56_l0
  simp (maxSteps := 4000000) only [op2_op2, op2_op, op2_s, op2_cond, op2_bf, mov_v]
  first | done | kernel_rfl
def C56_l0 (rec : Rec) (N : Nat) (k : Value × Value) (e : AExit) (r : (Value × Value × Value) × St) : Out := (fun s => exV (fun i => bif Nat.beq i 0 then (J56_r0 rec N r.1.2.1 s)
 else (none))
 (some (oneOf [r.1.1], s)) e) r.2
theorem j56_l0 (rec : Rec) (N : Nat) (fs : Frm) (s : St) : opt2 (loopF (c56_l0 rec N) N fs s) (fun e r => opt2 (blkX 0 e r) fun e r => opt2 (thenX (c56_r0 rec N) e r) fun e r => finX [.tmp t2] e r) = opt2 (loopV (B56_l0 rec N (orU (fs.get t7), orU (fs.get t8))) N (orU (fs.get t2), orU (fs.get t3), orU (fs.get t9)) s) (C56_l0 rec N (orU (fs.get t7), orU (fs.get t8))) := by
  refine loop_j (fun fs => (orU (fs.get t2), orU (fs.get t3), orU (fs.get t9))) (fun fs => (orU (fs.get t7), orU (fs.get t8))) (B56_l0 rec N) (c56_l0 rec N) (s56_l0 rec N) (fun e r => opt2 (blkX 0 e r) fun e r => opt2 (thenX (c56_r0 rec N) e r) fun e r => finX [.tmp t2] e r) (C56_l0 rec N) ?_ ?_ N fs s
  · intro i fs s
    unfold C56_l0
    simp (maxSteps := 4000000) only [thenX_n, thenX_e, thenX_r, x_exit, x_skip, x_ret, blkX_n, blkX_r, blkX_e, finX_r, finX_n, res_n, res_t, exV_e, exV_r, op2_op2, op2_op, op2_s, op2_cond, op2_bf, mov_v, j56_r0 rec N]
    first | done | kernel_rfl
  · intro fs s
    unfold C56_l0
    simp (maxSteps := 4000000) only [thenX_n, thenX_e, thenX_r, x_exit, x_skip, x_ret, blkX_n, blkX_r, blkX_e, finX_r, finX_n, res_n, res_t, exV_e, exV_r, op2_op2, op2_op, op2_s, op2_cond, op2_bf, mov_v, j56_r0 rec N]
    first | done | kernel_rfl
def F56 (rec : Rec) (N : Nat) (a0 : Value) (s : St) : Out := opt2 (oStrBytes (.v a0) rec PT.nil s) fun x1 s =>
 opt2 (oLenL (.v x1) rec PT.nil s) fun x2 s =>
 opt2 (loopV (B56_l0 rec N (x1, x2)) N ((.int .i64 0), (.int .i64 0), (.int .i64 0)) s) (C56_l0 rec N (x1, x2))
theorem f56 (rec : Rec) (N : Nat) (a0 : Value) (s : St) : callF rec N c56 [a0] s = F56 rec N a0 s := by
  rw [d56]
  unfold D56 F56
  simp (maxSteps := 4000000) only [mov_v, op2_s, j56_l0 rec N]
  first | done | kernel_rfl
-- c61
def D61_j0 (rec : Rec) (N : Nat) (fs : Frm) (s : St) : OutX := condV (orU (fs.get t15))
 (opt2 (oMov (.v (.int .i64 31)) rec PT.nil s) fun x1 s =>
 some (.ret, (PT.put x1 t4 fs), s))
 (some (.norm, fs, s))
set_option maxHeartbeats 4000000 in
theorem d61_j0 (rec : Rec) (N : Nat) (fs : Frm) (s : St) : c61_j0 rec N fs s = D61_j0 rec N fs s := by
  simp (maxSteps := 4000000) only [c61_j0, lenN, x_seq, x_ops, x_skip, x_ret, x_exit, x_cond, x_block, x_loop, ops_c, ops_n, op1_u, op1_gj, rq_c, rq_n, opQ_u, opQ_g, op2_op2, op2_op, op2_s, op2_cond, thenX_n, thenX_e, thenX_r, blkX_n, blkX_r, blkX_e, finX_r, finX_n, res_n, res_t, op_s, Nat.beq_refl, cond_true]
  first | done | kernel_rfl
def D61_j1 (rec : Rec) (N : Nat) (fs : Frm) (s : St) : OutX := condV (orU (fs.get t10))
 (opt2 (oMov (.v (.int .i64 30)) rec PT.nil s) fun x1 s =>
 some (.ret, (PT.put x1 t4 fs), s))
 (opt2 (oBin (int2 (cmpO eqI)) (.v (orU (fs.get t5))) (.v (.int .i64 1)) rec PT.nil s) fun x2 s =>
 opt2 (oMov (.v x2) rec PT.nil s) fun x3 s =>
 condV x3
 (c61_j0 rec N (PT.put x3 t15 (PT.put x2 t16 fs)) s)
 (opt2 (oBin (int2 (cmpO eqI)) (.v (orU (fs.get t5))) (.v (.int .i64 3)) rec PT.nil s) fun x4 s =>
 opt2 (oMov (.v x4) rec PT.nil s) fun x5 s =>
 condV x5
 (c61_j0 rec N (PT.put x5 t15 (PT.put x4 t17 (PT.put x3 t15 (PT.put x2 t16 fs)))) s)
 (opt2 (oBin (int2 (cmpO eqI)) (.v (orU (fs.get t5))) (.v (.int .i64 5)) rec PT.nil s) fun x6 s =>
 opt2 (oMov (.v x6) rec PT.nil s) fun x7 s =>
 condV x7
 (c61_j0 rec N (PT.put x7 t15 (PT.put x6 t18 (PT.put x5 t15 (PT.put x4 t17 (PT.put x3 t15 (PT.put x2 t16 fs)))))) s)
 (opt2 (oBin (int2 (cmpO eqI)) (.v (orU (fs.get t5))) (.v (.int .i64 7)) rec PT.nil s) fun x8 s =>
 opt2 (oMov (.v x8) rec PT.nil s) fun x9 s =>
 condV x9
 (c61_j0 rec N (PT.put x9 t15 (PT.put x8 t19 (PT.put x7 t15 (PT.put x6 t18 (PT.put x5 t15 (PT.put x4 t17 (PT.put x3 t15 (PT.put x2 t16 fs)))))))) s)
 (opt2 (oBin (int2 (cmpO eqI)) (.v (orU (fs.get t5))) (.v (.int .i64 8)) rec PT.nil s) fun x10 s =>
 opt2 (oMov (.v x10) rec PT.nil s) fun x11 s =>
 condV x11
 (c61_j0 rec N (PT.put x11 t15 (PT.put x10 t20 (PT.put x9 t15 (PT.put x8 t19 (PT.put x7 t15 (PT.put x6 t18 (PT.put x5 t15 (PT.put x4 t17 (PT.put x3 t15 (PT.put x2 t16 fs)))))))))) s)
 (opt2 (oBin (int2 (cmpO eqI)) (.v (orU (fs.get t5))) (.v (.int .i64 10)) rec PT.nil s) fun x12 s =>
 opt2 (oMov (.v x12) rec PT.nil s) fun x13 s =>
 condV x13
 (c61_j0 rec N (PT.put x13 t15 (PT.put x12 t21 (PT.put x11 t15 (PT.put x10 t20 (PT.put x9 t15 (PT.put x8 t19 (PT.put x7 t15 (PT.put x6 t18 (PT.put x5 t15 (PT.put x4 t17 (PT.put x3 t15 (PT.put x2 t16 fs)))))))))))) s)
 (opt2 (oBin (int2 (cmpO eqI)) (.v (orU (fs.get t5))) (.v (.int .i64 12)) rec PT.nil s) fun x14 s =>
 opt2 (oMov (.v x14) rec PT.nil s) fun x15 s =>
 c61_j0 rec N (PT.put x15 t15 (PT.put x14 t22 (PT.put x13 t15 (PT.put x12 t21 (PT.put x11 t15 (PT.put x10 t20 (PT.put x9 t15 (PT.put x8 t19 (PT.put x7 t15 (PT.put x6 t18 (PT.put x5 t15 (PT.put x4 t17 (PT.put x3 t15 (PT.put x2 t16 fs)))))))))))))) s)))))))
set_option maxHeartbeats 4000000 in
theorem d61_j1 (rec : Rec) (N : Nat) (fs : Frm) (s : St) : c61_j1 rec N fs s = D61_j1 rec N fs s := by
  simp (maxSteps := 4000000) only [c61_j1, lenN, x_seq, x_ops, x_skip, x_ret, x_exit, x_cond, x_block, x_loop, ops_c, ops_n, op1_u, op1_gj, rq_c, rq_n, opQ_u, opQ_g, op2_op2, op2_op, op2_s, op2_cond, thenX_n, thenX_e, thenX_r, blkX_n, blkX_r, blkX_e, finX_r, finX_n, res_n, res_t, op_s, Nat.beq_refl, cond_true]
  first | done | kernel_rfl
def D61_j2 (rec : Rec) (N : Nat) (fs : Frm) (s : St) : OutX := opt2 (oMov (.v (.int .i64 0)) rec PT.nil s) fun x1 s =>
 some (.ret, (PT.put x1 t4 fs), s)
set_option maxHeartbeats 4000000 in
theorem d61_j2 (rec : Rec) (N : Nat) (fs : Frm) (s : St) : c61_j2 rec N fs s = D61_j2 rec N fs s := by
  simp (maxSteps := 4000000) only [c61_j2, lenN, x_seq, x_ops, x_skip, x_ret, x_exit, x_cond, x_block, x_loop, ops_c, ops_n, op1_u, op1_gj, rq_c, rq_n, opQ_u, opQ_g, op2_op2, op2_op, op2_s, op2_cond, thenX_n, thenX_e, thenX_r, blkX_n, blkX_r, blkX_e, finX_r, finX_n, res_n, res_t, op_s, Nat.beq_refl, cond_true]
  first | done | kernel_rfl
def D61 (rec : Rec) (N : Nat) (a0 : Value) (a1 : Value) (s : St) : Out := opt2 (oMov (.v (.int .i64 0)) rec PT.nil s) fun x1 s =>
 opt2 (oMov (.v a1) rec PT.nil s) fun x2 s =>
 opt2 (oBin (int2 (cmpO eqI)) (.v x2) (.v (.int .i64 2)) rec PT.nil s) fun x3 s =>
 opt2 (oMov (.v x3) rec PT.nil s) fun x4 s =>
 condV x4
 (opt2 (oMov (.v a0) rec PT.nil s) fun x5 s =>
 opt2 (rec 65 [x5] s) fun x6 s =>
 condV x6
 (opt2 (oMov (.v (.int .i64 29)) rec PT.nil s) fun x7 s =>
 some (oneOf [x7], s))
 (opt2 (oMov (.v (.int .i64 28)) rec PT.nil s) fun x8 s =>
 some (oneOf [x8], s)))
 (opt2 (oBin (int2 (cmpO eqI)) (.v x2) (.v (.int .i64 4)) rec PT.nil s) fun x9 s =>
 opt2 (oMov (.v x9) rec PT.nil s) fun x10 s =>
 condV x10
 (opt2 (c61_j1 rec N (PT.put x10 t10 (PT.put x9 t11 (PT.put x4 t6 (PT.put x3 t7 (PT.put x2 t5 (PT.put x1 t4 (PT.put a1 t1 (PT.put a0 t0 PT.nil)))))))) s) fun e r => opt2 (blkX 0 e r) fun e r => opt2 (thenX (c61_j2 rec N) e r) fun e r => finX [.tmp t4] e r)
 (opt2 (oBin (int2 (cmpO eqI)) (.v x2) (.v (.int .i64 6)) rec PT.nil s) fun x11 s =>
 opt2 (oMov (.v x11) rec PT.nil s) fun x12 s =>
 condV x12
 (opt2 (c61_j1 rec N (PT.put x12 t10 (PT.put x11 t12 (PT.put x10 t10 (PT.put x9 t11 (PT.put x4 t6 (PT.put x3 t7 (PT.put x2 t5 (PT.put x1 t4 (PT.put a1 t1 (PT.put a0 t0 PT.nil)))))))))) s) fun e r => opt2 (blkX 0 e r) fun e r => opt2 (thenX (c61_j2 rec N) e r) fun e r => finX [.tmp t4] e r)
 (opt2 (oBin (int2 (cmpO eqI)) (.v x2) (.v (.int .i64 9)) rec PT.nil s) fun x13 s =>
 opt2 (oMov (.v x13) rec PT.nil s) fun x14 s =>
 condV x14
 (opt2 (c61_j1 rec N (PT.put x14 t10 (PT.put x13 t13 (PT.put x12 t10 (PT.put x11 t12 (PT.put x10 t10 (PT.put x9 t11 (PT.put x4 t6 (PT.put x3 t7 (PT.put x2 t5 (PT.put x1 t4 (PT.put a1 t1 (PT.put a0 t0 PT.nil)))))))))))) s) fun e r => opt2 (blkX 0 e r) fun e r => opt2 (thenX (c61_j2 rec N) e r) fun e r => finX [.tmp t4] e r)
 (opt2 (oBin (int2 (cmpO eqI)) (.v x2) (.v (.int .i64 11)) rec PT.nil s) fun x15 s =>
 opt2 (oMov (.v x15) rec PT.nil s) fun x16 s =>
 opt2 (c61_j1 rec N (PT.put x16 t10 (PT.put x15 t14 (PT.put x14 t10 (PT.put x13 t13 (PT.put x12 t10 (PT.put x11 t12 (PT.put x10 t10 (PT.put x9 t11 (PT.put x4 t6 (PT.put x3 t7 (PT.put x2 t5 (PT.put x1 t4 (PT.put a1 t1 (PT.put a0 t0 PT.nil)))))))))))))) s) fun e r => opt2 (blkX 0 e r) fun e r => opt2 (thenX (c61_j2 rec N) e r) fun e r => finX [.tmp t4] e r))))
set_option maxHeartbeats 4000000 in
theorem d61 (rec : Rec) (N : Nat) (a0 : Value) (a1 : Value) (s : St) : callF rec N c61 [a0, a1] s = D61 rec N a0 a1 s := by
  rw [call_f _ _ _ _ _ rfl]
  simp (maxSteps := 4000000) only [c61, lenN, x_seq, x_ops, x_skip, x_ret, x_exit, x_cond, x_block, x_loop, ops_c, ops_n, op1_u, op1_gj, rq_c, rq_n, opQ_u, opQ_g, op2_op2, op2_op, op2_s, op2_cond, thenX_n, thenX_e, thenX_r, blkX_n, blkX_r, blkX_e, finX_r, finX_n, res_n, res_t, op_s, Nat.beq_refl, cond_true]
  first | done | kernel_rfl
def J61_j2 (rec : Rec) (N : Nat) (k : Unit) (s : St) : Out := some (oneOf [(.int .i64 0)], s)
set_option maxHeartbeats 4000000 in
theorem j61_j2 (rec : Rec) (N : Nat) (fs : Frm) (s : St) : opt2 (c61_j2 rec N fs s) (fun e r => finX [.tmp t4] e r) = J61_j2 rec N () s := by
  rw [d61_j2]
  unfold D61_j2 J61_j2
  simp (maxSteps := 4000000) only [thenX_n, thenX_e, thenX_r, x_exit, x_skip, x_ret, blkX_n, blkX_r, blkX_e, finX_r, finX_n, res_n, res_t, op2_op2, op2_op, op2_s, op2_cond, op2_bf, mov_v]
  first | done | kernel_rfl
def J61_j0 (rec : Rec) (N : Nat) (k : Value) (s : St) : Out := condV k
 (some (oneOf [(.int .i64 31)], s))
 (J61_j2 rec N () s)
set_option maxHeartbeats 4000000 in
theorem j61_j0 (rec : Rec) (N : Nat) (fs : Frm) (s : St) : opt2 (c61_j0 rec N fs s) (fun e r => opt2 (blkX 0 e r) fun e r => opt2 (thenX (c61_j2 rec N) e r) fun e r => finX [.tmp t4] e r) = J61_j0 rec N (orU (fs.get t15)) s := by
  rw [d61_j0]
  unfold D61_j0 J61_j0
  simp (maxSteps := 4000000) only [thenX_n, thenX_e, thenX_r, x_exit, x_skip, x_ret, blkX_n, blkX_r, blkX_e, finX_r, finX_n, res_n, res_t, op2_op2, op2_op, op2_s, op2_cond, op2_bf, mov_v, j61_j2 rec N]
  first | done | kernel_rfl
def J61_j1 (rec : Rec) (N : Nat) (k : Value × Value) (s : St) : Out := condV k.2
 (some (oneOf [(.int .i64 30)], s))
 (opt2 (oBin (int2 (cmpO eqI)) (.v k.1) (.v (.int .i64 1)) rec PT.nil s) fun x1 s =>
 condV x1
 (J61_j0 rec N x1 s)
 (opt2 (oBin (int2 (cmpO eqI)) (.v k.1) (.v (.int .i64 3)) rec PT.nil s) fun x2 s =>
 condV x2
 (J61_j0 rec N x2 s)
 (opt2 (oBin (int2 (cmpO eqI)) (.v k.1) (.v (.int .i64 5)) rec PT.nil s) fun x3 s =>
 condV x3
 (J61_j0 rec N x3 s)
 (opt2 (oBin (int2 (cmpO eqI)) (.v k.1) (.v (.int .i64 7)) rec PT.nil s) fun x4 s =>
 condV x4
 (J61_j0 rec N x4 s)
 (opt2 (oBin (int2 (cmpO eqI)) (.v k.1) (.v (.int .i64 8)) rec PT.nil s) fun x5 s =>
 condV x5
 (J61_j0 rec N x5 s)
 (opt2 (oBin (int2 (cmpO eqI)) (.v k.1) (.v (.int .i64 10)) rec PT.nil s) fun x6 s =>
 condV x6
 (J61_j0 rec N x6 s)
 (opt2 (oBin (int2 (cmpO eqI)) (.v k.1) (.v (.int .i64 12)) rec PT.nil s) fun x7 s =>
 J61_j0 rec N x7 s)))))))
set_option maxHeartbeats 4000000 in
theorem j61_j1 (rec : Rec) (N : Nat) (fs : Frm) (s : St) : opt2 (c61_j1 rec N fs s) (fun e r => opt2 (blkX 0 e r) fun e r => opt2 (thenX (c61_j2 rec N) e r) fun e r => finX [.tmp t4] e r) = J61_j1 rec N (orU (fs.get t5), orU (fs.get t10)) s := by
  rw [d61_j1]
  unfold D61_j1 J61_j1
  simp (maxSteps := 4000000) only [thenX_n, thenX_e, thenX_r, x_exit, x_skip, x_ret, blkX_n, blkX_r, blkX_e, finX_r, finX_n, res_n, res_t, op2_op2, op2_op, op2_s, op2_cond, op2_bf, mov_v, j61_j0 rec N]
  first | done | kernel_rfl
def F61 (rec : Rec) (N : Nat) (a0 : Value) (a1 : Value) (s : St) : Out := opt2 (oBin (int2 (cmpO eqI)) (.v a1) (.v (.int .i64 2)) rec PT.nil s) fun x1 s =>
 condV x1
 (opt2 (rec 65 [a0] s) fun x2 s =>
 condV x2
 (some (oneOf [(.int .i64 29)], s))
 (some (oneOf [(.int .i64 28)], s)))
 (opt2 (oBin (int2 (cmpO eqI)) (.v a1) (.v (.int .i64 4)) rec PT.nil s) fun x3 s =>
 condV x3
 (J61_j1 rec N (a1, x3) s)
 (opt2 (oBin (int2 (cmpO eqI)) (.v a1) (.v (.int .i64 6)) rec PT.nil s) fun x4 s =>
 condV x4
 (J61_j1 rec N (a1, x4) s)
 (opt2 (oBin (int2 (cmpO eqI)) (.v a1) (.v (.int .i64 9)) rec PT.nil s) fun x5 s =>
 condV x5
 (J61_j1 rec N (a1, x5) s)
 (opt2 (oBin (int2 (cmpO eqI)) (.v a1) (.v (.int .i64 11)) rec PT.nil s) fun x6 s =>
 J61_j1 rec N (a1, x6) s))))
theorem f61 (rec : Rec) (N : Nat) (a0 : Value) (a1 : Value) (s : St) : callF rec N c61 [a0, a1] s = F61 rec N a0 a1 s := by
  rw [d61]
  unfold D61 F61
  simp (maxSteps := 4000000) only [mov_v, op2_s, j61_j1 rec N]
  first | done | kernel_rfl
-- c62
def D62 (rec : Rec) (N : Nat) (a0 : Value) (s : St) : Out := opt2 (oMov (.v (.int .i64 0)) rec PT.nil s) fun x1 s =>
 opt2 (oMov (.v a0) rec PT.nil s) fun x2 s =>
 opt2 (oBin (int2 subO) (.v x2) (.v (.int .i64 1900)) rec PT.nil s) fun x3 s =>
 opt2 (oMov (.v x3) rec PT.nil s) fun x4 s =>
 opt2 (oMov (.v a0) rec PT.nil s) fun x5 s =>
 opt2 (oBin (int2 subO) (.v x5) (.v (.int .i64 1)) rec PT.nil s) fun x6 s =>
 opt2 (oBin (int2 quoO) (.v x6) (.v (.int .i64 4)) rec PT.nil s) fun x7 s =>
 opt2 (oBin (int2 subO) (.v x7) (.v (.int .i64 474)) rec PT.nil s) fun x8 s =>
 opt2 (oMov (.v a0) rec PT.nil s) fun x9 s =>
 opt2 (oBin (int2 subO) (.v x9) (.v (.int .i64 1)) rec PT.nil s) fun x10 s =>
 opt2 (oBin (int2 quoO) (.v x10) (.v (.int .i64 100)) rec PT.nil s) fun x11 s =>
 opt2 (oBin (int2 subO) (.v x11) (.v (.int .i64 18)) rec PT.nil s) fun x12 s =>
 opt2 (oBin (int2 subO) (.v x8) (.v x12) rec PT.nil s) fun x13 s =>
 opt2 (oMov (.v a0) rec PT.nil s) fun x14 s =>
 opt2 (oBin (int2 subO) (.v x14) (.v (.int .i64 1)) rec PT.nil s) fun x15 s =>
 opt2 (oBin (int2 quoO) (.v x15) (.v (.int .i64 400)) rec PT.nil s) fun x16 s =>
 opt2 (oBin (int2 subO) (.v x16) (.v (.int .i64 4)) rec PT.nil s) fun x17 s =>
 opt2 (oBin (int2 addO) (.v x13) (.v x17) rec PT.nil s) fun x18 s =>
 opt2 (oMov (.v x18) rec PT.nil s) fun x19 s =>
 opt2 (oMov (.v x4) rec PT.nil s) fun x20 s =>
 opt2 (oBin (int2 mulO) (.v x20) (.v (.int .i64 365)) rec PT.nil s) fun x21 s =>
 opt2 (oMov (.v x19) rec PT.nil s) fun x22 s =>
 opt2 (oBin (int2 addO) (.v x21) (.v x22) rec PT.nil s) fun x23 s =>
 opt2 (oMov (.v x23) rec PT.nil s) fun x24 s =>
 some (oneOf [x24], s)
set_option maxHeartbeats 4000000 in
theorem d62 (rec : Rec) (N : Nat) (a0 : Value) (s : St) : callF rec N c62 [a0] s = D62 rec N a0 s := by
  rw [call_f _ _ _ _ _ rfl]
  simp (maxSteps := 4000000) only [c62, lenN, x_seq, x_ops, x_skip, x_ret, x_exit, x_cond, x_block, x_loop, ops_c, ops_n, op1_u, op1_gj, rq_c, rq_n, opQ_u, opQ_g, op2_op2, op2_op, op2_s, op2_cond, thenX_n, thenX_e, thenX_r, blkX_n, blkX_r, blkX_e, finX_r, finX_n, res_n, res_t, op_s, Nat.beq_refl, cond_true]
  first | done | kernel_rfl
def F62 (rec : Rec) (N : Nat) (a0 : Value) (s : St) : Out := opt2 (oBin (int2 subO) (.v a0) (.v (.int .i64 1900)) rec PT.nil s) fun x1 s =>
 opt2 (oBin (int2 subO) (.v a0) (.v (.int .i64 1)) rec PT.nil s) fun x2 s =>
 opt2 (oBin (int2 quoO) (.v x2) (.v (.int .i64 4)) rec PT.nil s) fun x3 s =>
 opt2 (oBin (int2 subO) (.v x3) (.v (.int .i64 474)) rec PT.nil s) fun x4 s =>
 opt2 (oBin (int2 subO) (.v a0) (.v (.int .i64 1)) rec PT.nil s) fun x5 s =>
 opt2 (oBin (int2 quoO) (.v x5) (.v (.int .i64 100)) rec PT.nil s) fun x6 s =>
 opt2 (oBin (int2 subO) (.v x6) (.v (.int .i64 18)) rec PT.nil s) fun x7 s =>
 opt2 (oBin (int2 subO) (.v x4) (.v x7) rec PT.nil s) fun x8 s =>
 opt2 (oBin (int2 subO) (.v a0) (.v (.int .i64 1)) rec PT.nil s) fun x9 s =>
 opt2 (oBin (int2 quoO) (.v x9) (.v (.int .i64 400)) rec PT.nil s) fun x10 s =>
 opt2 (oBin (int2 subO) (.v x10) (.v (.int .i64 4)) rec PT.nil s) fun x11 s =>
 opt2 (oBin (int2 addO) (.v x8) (.v x11) rec PT.nil s) fun x12 s =>
 opt2 (oBin (int2 mulO) (.v x1) (.v (.int .i64 365)) rec PT.nil s) fun x13 s =>
 opt2 (oBin (int2 addO) (.v x13) (.v x12) rec PT.nil s) fun x14 s =>
 some (oneOf [x14], s)
set_option maxHeartbeats 4000000 in
theorem f62 (rec : Rec) (N : Nat) (a0 : Value) (s : St) : callF rec N c62 [a0] s = F62 rec N a0 s := by
  rw [d62]
  unfold D62 F62
  first
    | done
    | rfl
    | (simp (maxSteps := 4000000) only [mov_v, op2_s]; first | done | kernel_rfl)
    | kernel_rfl
-- c65
def D65 (rec : Rec) (N : Nat) (a0 : Value) (s : St) : Out := opt2 (oMov (.v (.bool false)) rec PT.nil s) fun x1 s =>
 opt2 (oMov (.v a0) rec PT.nil s) fun x2 s =>
 opt2 (oBin (int2 remO) (.v x2) (.v (.int .i64 4)) rec PT.nil s) fun x3 s =>
 opt2 (oBin (int2 (cmpO eqI)) (.v x3) (.v (.int .i64 0)) rec PT.nil s) fun x4 s =>
 opt2 (oMov (.v x4) rec PT.nil s) fun x5 s =>
 opt (gval true x5) fun x6 => opt2 (orUndef x6 (oMov (.v a0) rec PT.nil s) s) fun x7 s =>
 opt (gval true x5) fun x8 => opt2 (orUndef x8 (oBin (int2 remO) (.v x7) (.v (.int .i64 100)) rec PT.nil s) s) fun x9 s =>
 opt (gval true x5) fun x10 => opt2 (orUndef x10 (oBin (int2 (cmpO neI)) (.v x9) (.v (.int .i64 0)) rec PT.nil s) s) fun x11 s =>
 opt2 (oPick (.v x5) (.v x11) (.v (.bool false)) rec PT.nil s) fun x12 s =>
 opt2 (oMov (.v x12) rec PT.nil s) fun x13 s =>
 opt (gval false x13) fun x14 => opt2 (orUndef x14 (oMov (.v a0) rec PT.nil s) s) fun x15 s =>
 opt (gval false x13) fun x16 => opt2 (orUndef x16 (oBin (int2 remO) (.v x15) (.v (.int .i64 400)) rec PT.nil s) s) fun x17 s =>
 opt (gval false x13) fun x18 => opt2 (orUndef x18 (oBin (int2 (cmpO eqI)) (.v x17) (.v (.int .i64 0)) rec PT.nil s) s) fun x19 s =>
 opt2 (oPick (.v x13) (.v (.bool true)) (.v x19) rec PT.nil s) fun x20 s =>
 opt2 (oMov (.v x20) rec PT.nil s) fun x21 s =>
 some (oneOf [x21], s)
set_option maxHeartbeats 4000000 in
theorem d65 (rec : Rec) (N : Nat) (a0 : Value) (s : St) : callF rec N c65 [a0] s = D65 rec N a0 s := by
  rw [call_f _ _ _ _ _ rfl]
  simp (maxSteps := 4000000) only [c65, lenN, x_seq, x_ops, x_skip, x_ret, x_exit, x_cond, x_block, x_loop, ops_c, ops_n, op1_u, op1_gj, rq_c, rq_n, opQ_u, opQ_g, op2_op2, op2_op, op2_s, op2_cond, thenX_n, thenX_e, thenX_r, blkX_n, blkX_r, blkX_e, finX_r, finX_n, res_n, res_t, op_s, Nat.beq_refl, cond_true]
  first | done | kernel_rfl
def F65 (rec : Rec) (N : Nat) (a0 : Value) (s : St) : Out := opt2 (oBin (int2 remO) (.v a0) (.v (.int .i64 4)) rec PT.nil s) fun x1 s =>
 opt2 (oBin (int2 (cmpO eqI)) (.v x1) (.v (.int .i64 0)) rec PT.nil s) fun x2 s =>
 opt (gval true x2) fun x3 => opt2 (orUndef x3 (some (a0, s)) s) fun x4 s =>
 opt (gval true x2) fun x5 => opt2 (orUndef x5 (oBin (int2 remO) (.v x4) (.v (.int .i64 100)) rec PT.nil s) s) fun x6 s =>
 opt (gval true x2) fun x7 => opt2 (orUndef x7 (oBin (int2 (cmpO neI)) (.v x6) (.v (.int .i64 0)) rec PT.nil s) s) fun x8 s =>
 opt2 (oPick (.v x2) (.v x8) (.v (.bool false)) rec PT.nil s) fun x9 s =>
 opt (gval false x9) fun x10 => opt2 (orUndef x10 (some (a0, s)) s) fun x11 s =>
 opt (gval false x9) fun x12 => opt2 (orUndef x12 (oBin (int2 remO) (.v x11) (.v (.int .i64 400)) rec PT.nil s) s) fun x13 s =>
 opt (gval false x9) fun x14 => opt2 (orUndef x14 (oBin (int2 (cmpO eqI)) (.v x13) (.v (.int .i64 0)) rec PT.nil s) s) fun x15 s =>
 opt2 (oPick (.v x9) (.v (.bool true)) (.v x15) rec PT.nil s) fun x16 s =>
 some (oneOf [x16], s)
set_option maxHeartbeats 4000000 in
theorem f65 (rec : Rec) (N : Nat) (a0 : Value) (s : St) : callF rec N c65 [a0] s = F65 rec N a0 s := by
  rw [d65]
  unfold D65 F65
  first
    | done
    | rfl
    | (simp (maxSteps := 4000000) only [mov_v, op2_s]; first | done | kernel_rfl)
    | kernel_rfl
end
end Go.Proofs.Ytikdjhlcbkkkfaa.AbsLexO
