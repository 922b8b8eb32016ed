import Derived.Test.YtdnedangfnincaaAbsAccOE
import Derived.Test.YtdnedangfnincaaAbsZL
namespace Go.Proofs.Ytdnedangfnincaa.AbsAccO
open Go Go.Abs Go.Proofs
set_option maxRecDepth 100000
set_option linter.unusedVariables false
set_option linter.unusedSimpArgs false
noncomputable section
-- c12
def D12_q0 (rec : Rec) (fs : Frm) (s : St) : Option (Frm × St) := opt (gval false (orU (fs.get t49))) fun x1 => opt2 (orUndef x1 (oMov (.v (orU (fs.get t7))) rec PT.nil s) s) fun x2 s =>
 opt (gval false (orU (fs.get t49))) fun x3 => opt2 (orUndef x3 (oBin (int2 (cmpO gtI)) (.v x2) (.v (.int .i64 4503599627370496)) rec PT.nil s) s) fun x4 s =>
 opt2 (oPick (.v (orU (fs.get t49))) (.v (.bool true)) (.v x4) rec PT.nil s) fun x5 s =>
 opt2 (oMov (.v x5) rec PT.nil s) fun x6 s =>
 opt (gval false x6) fun x7 => opt2 (orUndef x7 (oFieldAddr 0 (.v (orU (fs.get t8))) rec PT.nil s) s) fun x8 s =>
 opt (gval false x6) fun x9 => opt2 (orUndef x9 (oLoad1 (.v x8) rec PT.nil s) s) fun x10 s =>
 opt (gval false x6) fun x11 => opt2 (orUndef x11 (oBin (int2 (cmpO ltI)) (.v x10) (.v (.int .i64 0)) rec PT.nil s) s) fun x12 s =>
 opt2 (oPick (.v x6) (.v (.bool true)) (.v x12) rec PT.nil s) fun x13 s =>
 opt2 (oMov (.v x13) rec PT.nil s) fun x14 s =>
 opt (gval false x14) fun x15 => opt2 (orUndef x15 (oLoadN 2 (.v (orU (fs.get t8))) rec PT.nil s) s) fun x16 s =>
 opt (gval false x14) fun x17 => opt2 (orUndef x17 (oBuild [(.int .i64 0), (.int .u64 0)] [(0, 1, (.v (.int .i64 68719476736)))] rec PT.nil s) s) fun x18 s =>
 opt (gval false x14) fun x19 => opt2 (orUndef x19 (rec 44 [x16, x18] s) s) fun x20 s =>
 opt (gval false x14) fun x21 => opt2 (orUndef x21 (oBin (int2 (cmpO gtI)) (.v x20) (.v (.int .i64 0)) rec PT.nil s) s) fun x22 s =>
 opt2 (oPick (.v x14) (.v (.bool true)) (.v x22) rec PT.nil s) fun x23 s =>
 some ((PT.put x23 t63 (PT.put x22 t62 (PT.put x20 t61 (PT.put x18 t60 (PT.put x16 t59 (PT.put x14 t58 (PT.put x13 t57 (PT.put x12 t56 (PT.put x10 t55 (PT.put x8 t54 (PT.put x6 t53 (PT.put x5 t52 (PT.put x4 t51 (PT.put x2 t50 fs)))))))))))))), s)
set_option maxHeartbeats 4000000 in
theorem d12_q0 (rec : Rec) (fs : Frm) (s : St) : runOps rec c12_q0 fs s = D12_q0 rec fs s := by
  simp (maxSteps := 4000000) only [c12_q0, ops_c, ops_n, op1_u, op1_gj, rq_c, rq_n, opQ_u, opQ_g, op2_op2, op2_op, op2_s]
  first | done | kernel_rfl
def D12_q1 (rec : Rec) (fs : Frm) (s : St) : Option (Frm × St) := opt2 (oPick (.v (orU (fs.get t33))) (.v (.bool true)) (.v (orU (fs.get t35))) rec PT.nil s) fun x1 s =>
 opt2 (oMov (.v x1) rec PT.nil s) fun x2 s =>
 opt (gval false x2) fun x3 => opt2 (orUndef x3 (oMov (.v (orU (fs.get t6))) rec PT.nil s) s) fun x4 s =>
 opt (gval false x2) fun x5 => opt2 (orUndef x5 (oBin (int2 (cmpO ltI)) (.v x4) (.v (.int .i64 0)) rec PT.nil s) s) fun x6 s =>
 opt2 (oPick (.v x2) (.v (.bool true)) (.v x6) rec PT.nil s) fun x7 s =>
 opt2 (oMov (.v x7) rec PT.nil s) fun x8 s =>
 opt (gval false x8) fun x9 => opt2 (orUndef x9 (oMov (.v (orU (fs.get t6))) rec PT.nil s) s) fun x10 s =>
 opt (gval false x8) fun x11 => opt2 (orUndef x11 (oBin (int2 (cmpO gtI)) (.v x10) (.v (.int .i64 4503599627370496)) rec PT.nil s) s) fun x12 s =>
 opt2 (oPick (.v x8) (.v (.bool true)) (.v x12) rec PT.nil s) fun x13 s =>
 opt2 (oMov (.v x13) rec PT.nil s) fun x14 s =>
 opt (gval false x14) fun x15 => opt2 (orUndef x15 (oMov (.v (orU (fs.get t7))) rec PT.nil s) s) fun x16 s =>
 opt (gval false x14) fun x17 => opt2 (orUndef x17 (oBin (int2 (cmpO ltI)) (.v x16) (.v (.int .i64 0)) rec PT.nil s) s) fun x18 s =>
 opt2 (oPick (.v x14) (.v (.bool true)) (.v x18) rec PT.nil s) fun x19 s =>
 opt2 (oMov (.v x19) rec PT.nil s) fun x20 s =>
 runOps rec c12_q0 (PT.put x20 t49 (PT.put x19 t48 (PT.put x18 t47 (PT.put x16 t46 (PT.put x14 t45 (PT.put x13 t44 (PT.put x12 t43 (PT.put x10 t42 (PT.put x8 t41 (PT.put x7 t40 (PT.put x6 t39 (PT.put x4 t38 (PT.put x2 t37 (PT.put x1 t36 fs)))))))))))))) s
set_option maxHeartbeats 4000000 in
theorem d12_q1 (rec : Rec) (fs : Frm) (s : St) : runOps rec c12_q1 fs s = D12_q1 rec fs s := by
  simp (maxSteps := 4000000) only [c12_q1, ops_c, ops_n, op1_u, op1_gj, rq_c, rq_n, opQ_u, opQ_g, op2_op2, op2_op, op2_s]
  first | done | kernel_rfl
def D12_j0 (rec : Rec) (N : Nat) (fs : Frm) (s : St) : OutX := condV (orU (fs.get t63))
 (opt2 (oMov (.v (.pointer none)) rec PT.nil s) fun x1 s =>
 opt2 (oMov (.v (.int .i64 3)) rec PT.nil s) fun x2 s =>
 some (.ret, (PT.put x2 t3 (PT.put x1 t2 fs)), s))
 (some (.norm, fs, s))
set_option maxHeartbeats 4000000 in
theorem d12_j0 (rec : Rec) (N : Nat) (fs : Frm) (s : St) : c12_j0 rec N fs s = D12_j0 rec N fs s := by
  simp (maxSteps := 4000000) only [c12_j0, lenN, x_seq, x_ops, x_skip, x_ret, x_exit, x_cond, x_block, x_loop, ops_c, ops_n, op1_u, op1_gj, rq_c, rq_n, opQ_u, opQ_g, op2_op2, op2_op, op2_s, op2_cond, thenX_n, thenX_e, thenX_r, blkX_n, blkX_r, blkX_e, finX_r, finX_n, res_n, res_t, op_s, Nat.beq_refl, cond_true]
  first | done | kernel_rfl
def D12_j1 (rec : Rec) (N : Nat) (fs : Frm) (s : St) : OutX := opt2 (oMov (.v (orU (fs.get t5))) rec PT.nil s) fun x1 s =>
 opt2 (oMov (.v (orU (fs.get t6))) rec PT.nil s) fun x2 s =>
 opt2 (oMov (.v (orU (fs.get t7))) rec PT.nil s) fun x3 s =>
 opt2 (oLoadN 2 (.v (orU (fs.get t8))) rec PT.nil s) fun x4 s =>
 opt2 (oBuild [(.int .i64 0), (.int .i64 0), (.int .i64 0), (.int .i64 0), (.int .u64 0)] [(0, 1, (.v x1)), (1, 1, (.v x2)), (2, 1, (.v x3)), (3, 2, (.v x4))] rec PT.nil s) fun x5 s =>
 opt2 (oBox (.v x5) rec PT.nil s) fun x6 s =>
 opt2 (oMov (.v x6) rec PT.nil s) fun x7 s =>
 opt2 (oMov (.v (.int .i64 0)) rec PT.nil s) fun x8 s =>
 some (.ret, (PT.put x8 t3 (PT.put x7 t2 (PT.put x6 t69 (PT.put x5 t68 (PT.put x4 t67 (PT.put x3 t66 (PT.put x2 t65 (PT.put x1 t64 fs)))))))), s)
set_option maxHeartbeats 4000000 in
theorem d12_j1 (rec : Rec) (N : Nat) (fs : Frm) (s : St) : c12_j1 rec N fs s = D12_j1 rec N fs s := by
  simp (maxSteps := 4000000) only [c12_j1, lenN, x_seq, x_ops, x_skip, x_ret, x_exit, x_cond, x_block, x_loop, ops_c, ops_n, op1_u, op1_gj, rq_c, rq_n, opQ_u, opQ_g, op2_op2, op2_op, op2_s, op2_cond, thenX_n, thenX_e, thenX_r, blkX_n, blkX_r, blkX_e, finX_r, finX_n, res_n, res_t, op_s, Nat.beq_refl, cond_true]
  first | done | kernel_rfl
def D12 (rec : Rec) (N : Nat) (a0 : Value) (s : St) : Out := opt2 (oMov (.v (.pointer none)) rec PT.nil s) fun x1 s =>
 opt2 (oMov (.v (.int .i64 0)) rec PT.nil s) fun x2 s =>
 opt2 (oMov (.v a0) rec PT.nil s) fun x3 s =>
 opt2 (rec 39 [x3] s) fun x4 s =>
 opt2 (oMov (.v x4) rec PT.nil s) fun x5 s =>
 opt2 (oMov (.v x5) rec PT.nil s) fun x6 s =>
 opt2 (rec 40 [x6] s) fun x7 s =>
 opt2 (oMov (.v x5) rec PT.nil s) fun x8 s =>
 opt2 (rec 40 [x8] s) fun x9 s =>
 opt2 (oMov (.v x5) rec PT.nil s) fun x10 s =>
 opt2 (rec 40 [x10] s) fun x11 s =>
 opt2 (oMov (.v x7) rec PT.nil s) fun x12 s =>
 opt2 (oMov (.v x9) rec PT.nil s) fun x13 s =>
 opt2 (oMov (.v x11) rec PT.nil s) fun x14 s =>
 opt2 (oMov (.v x5) rec PT.nil s) fun x15 s =>
 opt2 (rec 40 [x15] s) fun x16 s =>
 opt2 (oMov (.v x5) rec PT.nil s) fun x17 s =>
 opt2 (rec 41 [x17] s) fun x18 s =>
 opt2 (oBuild [(.int .i64 0), (.int .u64 0)] [(0, 1, (.v x16)), (1, 1, (.v x18))] rec PT.nil s) fun x19 s =>
 opt2 (oNew [(.int .i64 0), (.int .u64 0)] rec PT.nil s) fun x20 s =>
 opt2 (oStore 2 (.v x20) (.v x19) rec PT.nil s) fun x21 s =>
 opt2 (oMov (.v x5) rec PT.nil s) fun x22 s =>
 opt2 (rec 42 [x22] s) fun x23 s =>
 opt2 (oMov (.v x23) rec PT.nil s) fun x24 s =>
 opt (gval false x24) fun x25 => opt2 (orUndef x25 (oMov (.v x5) rec PT.nil s) s) fun x26 s =>
 opt (gval false x24) fun x27 => opt2 (orUndef x27 (rec 43 [x26] s) s) fun x28 s =>
 opt (gval false x24) fun x29 => opt2 (orUndef x29 (oBin (int2 (cmpO gtI)) (.v x28) (.v (.int .i64 0)) rec PT.nil s) s) fun x30 s =>
 opt2 (oPick (.v x24) (.v (.bool true)) (.v x30) rec PT.nil s) fun x31 s =>
 opt2 (oMov (.v x31) rec PT.nil s) fun x32 s =>
 opt (gval false x32) fun x33 => opt2 (orUndef x33 (oMov (.v x12) rec PT.nil s) s) fun x34 s =>
 opt (gval false x32) fun x35 => opt2 (orUndef x35 (oBin (int2 (cmpO ltI)) (.v x34) (.v (.int .i64 0)) rec PT.nil s) s) fun x36 s =>
 opt2 (oPick (.v x32) (.v (.bool true)) (.v x36) rec PT.nil s) fun x37 s =>
 opt2 (oMov (.v x37) rec PT.nil s) fun x38 s =>
 opt (gval false x38) fun x39 => opt2 (orUndef x39 (oMov (.v x12) rec PT.nil s) s) fun x40 s =>
 opt (gval false x38) fun x41 => opt2 (orUndef x41 (oBin (int2 (cmpO gtI)) (.v x40) (.v (.int .i64 109572)) rec PT.nil s) s) fun x42 s =>
 opt2 (runOps rec c12_q1 (PT.put x42 t35 (PT.put x40 t34 (PT.put x38 t33 (PT.put x37 t32 (PT.put x36 t31 (PT.put x34 t30 (PT.put x32 t29 (PT.put x31 t28 (PT.put x30 t27 (PT.put x28 t26 (PT.put x26 t25 (PT.put x24 t24 (PT.put x23 t23 (PT.put x22 t22 (PT.put x20 t8 (PT.put x19 t21 (PT.put x18 t20 (PT.put x17 t19 (PT.put x16 t18 (PT.put x15 t17 (PT.put x14 t7 (PT.put x13 t6 (PT.put x12 t5 (PT.put x11 t16 (PT.put x10 t15 (PT.put x9 t14 (PT.put x8 t13 (PT.put x7 t12 (PT.put x6 t11 (PT.put x5 t4 (PT.put x4 t10 (PT.put x3 t9 (PT.put x2 t3 (PT.put x1 t2 (PT.put a0 t0 PT.nil))))))))))))))))))))))))))))))))))) s) fun fs s =>
 opt2 (c12_j0 rec N fs s) fun e r => opt2 (thenX (c12_j1 rec N) e r) fun e r => finX [.tmp t2, .tmp t3] e r
set_option maxHeartbeats 4000000 in
theorem d12 (rec : Rec) (N : Nat) (a0 : Value) (s : St) : callF rec N c12 [a0] s = D12 rec N a0 s := by
  rw [call_f _ _ _ _ _ rfl]
  simp (maxSteps := 4000000) only [c12, lenN, x_seq, x_ops, x_skip, x_ret, x_exit, x_cond, x_block, x_loop, ops_c, ops_n, op1_u, op1_gj, rq_c, rq_n, opQ_u, opQ_g, op2_op2, op2_op, op2_s, op2_cond, thenX_n, thenX_e, thenX_r, blkX_n, blkX_r, blkX_e, finX_r, finX_n, res_n, res_t, op_s, Nat.beq_refl, cond_true]
  first | done | kernel_rfl
def J12_j1 (rec : Rec) (N : Nat) (k : Value × Value × Value × Value) (s : St) : Out := opt2 (oLoadN 2 (.v k.2.2.2) rec PT.nil s) fun x1 s =>
 opt2 (oBuild [(.int .i64 0), (.int .i64 0), (.int .i64 0), (.int .i64 0), (.int .u64 0)] [(0, 1, (.v k.1)), (1, 1, (.v k.2.1)), (2, 1, (.v k.2.2.1)), (3, 2, (.v x1))] rec PT.nil s) fun x2 s =>
 opt2 (oBox (.v x2) rec PT.nil s) fun x3 s =>
 some (oneOf [x3, (.int .i64 0)], s)
set_option maxHeartbeats 4000000 in
theorem j12_j1 (rec : Rec) (N : Nat) (fs : Frm) (s : St) : opt2 (c12_j1 rec N fs s) (fun e r => finX [.tmp t2, .tmp t3] e r) = J12_j1 rec N (orU (fs.get t5), orU (fs.get t6), orU (fs.get t7), orU (fs.get t8)) s := by
  rw [d12_j1]
  unfold D12_j1 J12_j1
  simp (maxSteps := 4000000) only [thenX_n, thenX_e, thenX_r, x_exit, x_skip, x_ret, blkX_n, blkX_r, blkX_e, finX_r, finX_n, res_n, res_t, op2_op2, op2_op, op2_s, op2_cond, op2_bf, mov_v]
  first | done | kernel_rfl
def J12_j0 (rec : Rec) (N : Nat) (k : Value × Value × Value × Value × Value) (s : St) : Out := condV k.2.2.2.2
 (some (oneOf [(.pointer none), (.int .i64 3)], s))
 (J12_j1 rec N (k.1, k.2.1, k.2.2.1, k.2.2.2.1) s)
set_option maxHeartbeats 4000000 in
theorem j12_j0 (rec : Rec) (N : Nat) (fs : Frm) (s : St) : opt2 (c12_j0 rec N fs s) (fun e r => opt2 (thenX (c12_j1 rec N) e r) fun e r => finX [.tmp t2, .tmp t3] e r) = J12_j0 rec N (orU (fs.get t5), orU (fs.get t6), orU (fs.get t7), orU (fs.get t8), orU (fs.get t63)) s := by
  rw [d12_j0]
  unfold D12_j0 J12_j0
  simp (maxSteps := 4000000) only [thenX_n, thenX_e, thenX_r, x_exit, x_skip, x_ret, blkX_n, blkX_r, blkX_e, finX_r, finX_n, res_n, res_t, op2_op2, op2_op, op2_s, op2_cond, op2_bf, mov_v, j12_j1 rec N]
  first | done | kernel_rfl
def Q12_q0 (rec : Rec) (N : Nat) (k : Value × Value × Value × Value × Value) (s : St) : Out := opt (gval false k.2.2.2.2) fun x1 => opt2 (orUndef x1 (some (k.2.2.1, s)) s) fun x2 s =>
 opt (gval false k.2.2.2.2) fun x3 => opt2 (orUndef x3 (oBin (int2 (cmpO gtI)) (.v x2) (.v (.int .i64 4503599627370496)) rec PT.nil s) s) fun x4 s =>
 opt2 (oPick (.v k.2.2.2.2) (.v (.bool true)) (.v x4) rec PT.nil s) fun x5 s =>
 opt (gval false x5) fun x6 => opt2 (orUndef x6 (oFieldAddr 0 (.v k.2.2.2.1) rec PT.nil s) s) fun x7 s =>
 opt (gval false x5) fun x8 => opt2 (orUndef x8 (oLoad1 (.v x7) rec PT.nil s) s) fun x9 s =>
 opt (gval false x5) fun x10 => opt2 (orUndef x10 (oBin (int2 (cmpO ltI)) (.v x9) (.v (.int .i64 0)) rec PT.nil s) s) fun x11 s =>
 opt2 (oPick (.v x5) (.v (.bool true)) (.v x11) rec PT.nil s) fun x12 s =>
 opt (gval false x12) fun x13 => opt2 (orUndef x13 (oLoadN 2 (.v k.2.2.2.1) rec PT.nil s) s) fun x14 s =>
 opt (gval false x12) fun x15 => opt2 (orUndef x15 (oBuild [(.int .i64 0), (.int .u64 0)] [(0, 1, (.v (.int .i64 68719476736)))] rec PT.nil s) s) fun x16 s =>
 opt (gval false x12) fun x17 => opt2 (orUndef x17 (rec 44 [x14, x16] s) s) fun x18 s =>
 opt (gval false x12) fun x19 => opt2 (orUndef x19 (oBin (int2 (cmpO gtI)) (.v x18) (.v (.int .i64 0)) rec PT.nil s) s) fun x20 s =>
 opt2 (oPick (.v x12) (.v (.bool true)) (.v x20) rec PT.nil s) fun x21 s =>
 J12_j0 rec N (k.1, k.2.1, k.2.2.1, k.2.2.2.1, x21) s
set_option maxHeartbeats 4000000 in
theorem j12_q0 (rec : Rec) (N : Nat) (fs : Frm) (s : St) : opt2 (runOps rec c12_q0 fs s) (fun fs s => opt2 (c12_j0 rec N fs s) fun e r => opt2 (thenX (c12_j1 rec N) e r) fun e r => finX [.tmp t2, .tmp t3] e r) = Q12_q0 rec N (orU (fs.get t5), orU (fs.get t6), orU (fs.get t7), orU (fs.get t8), orU (fs.get t49)) s := by
  rw [d12_q0]
  unfold D12_q0 Q12_q0
  simp (maxSteps := 4000000) only [thenX_n, thenX_e, thenX_r, x_exit, x_skip, x_ret, blkX_n, blkX_r, blkX_e, finX_r, finX_n, res_n, res_t, op2_op2, op2_op, op2_s, op2_cond, op2_bf, mov_v, j12_j0 rec N]
  first | done | kernel_rfl
def Q12_q1 (rec : Rec) (N : Nat) (k : Value × Value × Value × Value × Value × Value) (s : St) : Out := opt2 (oPick (.v k.2.2.2.2.1) (.v (.bool true)) (.v k.2.2.2.2.2) rec PT.nil s) fun x1 s =>
 opt (gval false x1) fun x2 => opt2 (orUndef x2 (some (k.2.1, s)) s) fun x3 s =>
 opt (gval false x1) fun x4 => opt2 (orUndef x4 (oBin (int2 (cmpO ltI)) (.v x3) (.v (.int .i64 0)) rec PT.nil s) s) fun x5 s =>
 opt2 (oPick (.v x1) (.v (.bool true)) (.v x5) rec PT.nil s) fun x6 s =>
 opt (gval false x6) fun x7 => opt2 (orUndef x7 (some (k.2.1, s)) s) fun x8 s =>
 opt (gval false x6) fun x9 => opt2 (orUndef x9 (oBin (int2 (cmpO gtI)) (.v x8) (.v (.int .i64 4503599627370496)) rec PT.nil s) s) fun x10 s =>
 opt2 (oPick (.v x6) (.v (.bool true)) (.v x10) rec PT.nil s) fun x11 s =>
 opt (gval false x11) fun x12 => opt2 (orUndef x12 (some (k.2.2.1, s)) s) fun x13 s =>
 opt (gval false x11) fun x14 => opt2 (orUndef x14 (oBin (int2 (cmpO ltI)) (.v x13) (.v (.int .i64 0)) rec PT.nil s) s) fun x15 s =>
 opt2 (oPick (.v x11) (.v (.bool true)) (.v x15) rec PT.nil s) fun x16 s =>
 Q12_q0 rec N (k.1, k.2.1, k.2.2.1, k.2.2.2.1, x16) s
set_option maxHeartbeats 4000000 in
theorem j12_q1 (rec : Rec) (N : Nat) (fs : Frm) (s : St) : opt2 (runOps rec c12_q1 fs s) (fun fs s => opt2 (c12_j0 rec N fs s) fun e r => opt2 (thenX (c12_j1 rec N) e r) fun e r => finX [.tmp t2, .tmp t3] e r) = Q12_q1 rec N (orU (fs.get t5), orU (fs.get t6), orU (fs.get t7), orU (fs.get t8), orU (fs.get t33), orU (fs.get t35)) s := by
  rw [d12_q1]
  unfold D12_q1 Q12_q1
  simp (maxSteps := 4000000) only [thenX_n, thenX_e, thenX_r, x_exit, x_skip, x_ret, blkX_n, blkX_r, blkX_e, finX_r, finX_n, res_n, res_t, op2_op2, op2_op, op2_s, op2_cond, op2_bf, mov_v, j12_q0 rec N]
  first | done | kernel_rfl
def F12 (rec : Rec) (N : Nat) (a0 : Value) (s : St) : Out := opt2 (rec 39 [a0] s) fun x1 s =>
 opt2 (rec 40 [x1] s) fun x2 s =>
 opt2 (rec 40 [x1] s) fun x3 s =>
 opt2 (rec 40 [x1] s) fun x4 s =>
 opt2 (rec 40 [x1] s) fun x5 s =>
 opt2 (rec 41 [x1] s) fun x6 s =>
 opt2 (oBuild [(.int .i64 0), (.int .u64 0)] [(0, 1, (.v x5)), (1, 1, (.v x6))] rec PT.nil s) fun x7 s =>
 opt2 (oNew [(.int .i64 0), (.int .u64 0)] rec PT.nil s) fun x8 s =>
 opt2 (oStore 2 (.v x8) (.v x7) rec PT.nil s) fun x9 s =>
 opt2 (rec 42 [x1] s) fun x10 s =>
 opt (gval false x10) fun x11 => opt2 (orUndef x11 (some (x1, s)) s) fun x12 s =>
 opt (gval false x10) fun x13 => opt2 (orUndef x13 (rec 43 [x12] s) s) fun x14 s =>
 opt (gval false x10) fun x15 => opt2 (orUndef x15 (oBin (int2 (cmpO gtI)) (.v x14) (.v (.int .i64 0)) rec PT.nil s) s) fun x16 s =>
 opt2 (oPick (.v x10) (.v (.bool true)) (.v x16) rec PT.nil s) fun x17 s =>
 opt (gval false x17) fun x18 => opt2 (orUndef x18 (some (x2, s)) s) fun x19 s =>
 opt (gval false x17) fun x20 => opt2 (orUndef x20 (oBin (int2 (cmpO ltI)) (.v x19) (.v (.int .i64 0)) rec PT.nil s) s) fun x21 s =>
 opt2 (oPick (.v x17) (.v (.bool true)) (.v x21) rec PT.nil s) fun x22 s =>
 opt (gval false x22) fun x23 => opt2 (orUndef x23 (some (x2, s)) s) fun x24 s =>
 opt (gval false x22) fun x25 => opt2 (orUndef x25 (oBin (int2 (cmpO gtI)) (.v x24) (.v (.int .i64 109572)) rec PT.nil s) s) fun x26 s =>
 Q12_q1 rec N (x2, x3, x4, x8, x22, x26) s
theorem f12 (rec : Rec) (N : Nat) (a0 : Value) (s : St) : callF rec N c12 [a0] s = F12 rec N a0 s := by
  rw [d12]
  unfold D12 F12
  simp (maxSteps := 4000000) only [mov_v, op2_s, j12_q1 rec N]
  first | done | kernel_rfl
-- c13
def D13 (rec : Rec) (N : Nat) (a0 : Value) (a1 : Value) (a2 : Value) (s : St) : Out := opt2 (oMov (.v (.int .i64 0)) rec PT.nil s) fun x1 s =>
 opt2 (oMov (.v a0) rec PT.nil s) fun x2 s =>
 opt2 (oMov (.v a2) rec PT.nil s) fun x3 s =>
 opt2 (rec 45 [x2, x3] s) fun x4 s =>
 opt2 (oMov (.v x4) rec PT.nil s) fun x5 s =>
 opt2 (oMov (.v x5) rec PT.nil s) fun x6 s =>
 opt2 (oBin (int2 (cmpO neI)) (.v x6) (.v (.int .i64 0)) rec PT.nil s) fun x7 s =>
 condV x7
 (opt2 (oMov (.v x5) rec PT.nil s) fun x8 s =>
 opt2 (oMov (.v x8) rec PT.nil s) fun x9 s =>
 some (oneOf [x9], s))
 (opt2 (oMov (.v a0) rec PT.nil s) fun x10 s =>
 opt2 (oMov (.v a0) rec PT.nil s) fun x11 s =>
 opt2 (oMov (.v a1) rec PT.nil s) fun x12 s =>
 opt2 (oMov (.v a2) rec PT.nil s) fun x13 s =>
 opt2 (rec 46 [x11, x12, x13] s) fun x14 s =>
 opt2 (oNilCheck (.v x10) rec PT.nil s) fun x15 s =>
 opt2 (oFieldAddr 3 (.v x15) rec PT.nil s) fun x16 s =>
 opt2 (oStore 2 (.v x16) (.v x14) rec PT.nil s) fun x17 s =>
 opt2 (oMov (.v a0) rec PT.nil s) fun x18 s =>
 opt2 (oMov (.v a2) rec PT.nil s) fun x19 s =>
 opt2 (oNilCheck (.v x18) rec PT.nil s) fun x20 s =>
 opt2 (oFieldAddr 0 (.v x20) rec PT.nil s) fun x21 s =>
 opt2 (oStore 1 (.v x21) (.v x19) rec PT.nil s) fun x22 s =>
 opt2 (oMov (.v (.int .i64 0)) rec PT.nil s) fun x23 s =>
 some (oneOf [x23], s))
set_option maxHeartbeats 4000000 in
theorem d13 (rec : Rec) (N : Nat) (a0 : Value) (a1 : Value) (a2 : Value) (s : St) : callF rec N c13 [a0, a1, a2] s = D13 rec N a0 a1 a2 s := by
  rw [call_f _ _ _ _ _ rfl]
  simp (maxSteps := 4000000) only [c13, lenN, x_seq, x_ops, x_skip, x_ret, x_exit, x_cond, x_block, x_loop, ops_c, ops_n, op1_u, op1_gj, rq_c, rq_n, opQ_u, opQ_g, op2_op2, op2_op, op2_s, op2_cond, thenX_n, thenX_e, thenX_r, blkX_n, blkX_r, blkX_e, finX_r, finX_n, res_n, res_t, op_s, Nat.beq_refl, cond_true]
  first | done | kernel_rfl
def F13 (rec : Rec) (N : Nat) (a0 : Value) (a1 : Value) (a2 : Value) (s : St) : Out := opt2 (rec 45 [a0, a2] s) fun x1 s =>
 opt2 (oBin (int2 (cmpO neI)) (.v x1) (.v (.int .i64 0)) rec PT.nil s) fun x2 s =>
 condV x2
 (some (oneOf [x1], s))
 (opt2 (rec 46 [a0, a1, a2] s) fun x3 s =>
 opt2 (oNilCheck (.v a0) rec PT.nil s) fun x4 s =>
 opt2 (oFieldAddr 3 (.v x4) rec PT.nil s) fun x5 s =>
 opt2 (oStore 2 (.v x5) (.v x3) rec PT.nil s) fun x6 s =>
 opt2 (oNilCheck (.v a0) rec PT.nil s) fun x7 s =>
 opt2 (oFieldAddr 0 (.v x7) rec PT.nil s) fun x8 s =>
 opt2 (oStore 1 (.v x8) (.v a2) rec PT.nil s) fun x9 s =>
 some (oneOf [(.int .i64 0)], s))
set_option maxHeartbeats 4000000 in
theorem f13 (rec : Rec) (N : Nat) (a0 : Value) (a1 : Value) (a2 : Value) (s : St) : callF rec N c13 [a0, a1, a2] s = F13 rec N a0 a1 a2 s := by
  rw [d13]
  unfold D13 F13
  first
    | done
    | rfl
    | (simp (maxSteps := 4000000) only [mov_v, op2_s]; first | done | kernel_rfl)
    | kernel_rfl
-- c14
def D14 (rec : Rec) (N : Nat) (a0 : Value) (a1 : Value) (a2 : Value) (a3 : Value) (s : St) : Out := opt2 (oMov (.v (.int .i64 0)) rec PT.nil s) fun x1 s =>
 opt2 (oMov (.v a0) rec PT.nil s) fun x2 s =>
 opt2 (oMov (.v a2) rec PT.nil s) fun x3 s =>
 opt2 (rec 45 [x2, x3] s) fun x4 s =>
 opt2 (oMov (.v x4) rec PT.nil s) fun x5 s =>
 opt2 (oMov (.v x5) rec PT.nil s) fun x6 s =>
 opt2 (oBin (int2 (cmpO neI)) (.v x6) (.v (.int .i64 0)) rec PT.nil s) fun x7 s =>
 condV x7
 (opt2 (oMov (.v x5) rec PT.nil s) fun x8 s =>
 opt2 (oMov (.v x8) rec PT.nil s) fun x9 s =>
 some (oneOf [x9], s))
 (opt2 (oMov (.v a3) rec PT.nil s) fun x10 s =>
 opt2 (oBin (int2 (cmpO ltI)) (.v x10) (.v (.int .i64 0)) rec PT.nil s) fun x11 s =>
 opt2 (oMov (.v x11) rec PT.nil s) fun x12 s =>
 opt (gval false x12) fun x13 => opt2 (orUndef x13 (oMov (.v a3) rec PT.nil s) s) fun x14 s =>
 opt (gval false x12) fun x15 => opt2 (orUndef x15 (oMov (.v a0) rec PT.nil s) s) fun x16 s =>
 opt (gval false x12) fun x17 => opt2 (orUndef x17 (oNilCheck (.v x16) rec PT.nil s) s) fun x18 s =>
 opt (gval false x12) fun x19 => opt2 (orUndef x19 (oFieldAddr 1 (.v x18) rec PT.nil s) s) fun x20 s =>
 opt (gval false x12) fun x21 => opt2 (orUndef x21 (oLoad1 (.v x20) rec PT.nil s) s) fun x22 s =>
 opt (gval false x12) fun x23 => opt2 (orUndef x23 (oBin (int2 (cmpO gtI)) (.v x14) (.v x22) rec PT.nil s) s) fun x24 s =>
 opt2 (oPick (.v x12) (.v (.bool true)) (.v x24) rec PT.nil s) fun x25 s =>
 condV x25
 (opt2 (oMov (.v (.int .i64 1)) rec PT.nil s) fun x26 s =>
 some (oneOf [x26], s))
 (opt2 (oMov (.v a0) rec PT.nil s) fun x27 s =>
 opt2 (oMov (.v a0) rec PT.nil s) fun x28 s =>
 opt2 (oMov (.v a0) rec PT.nil s) fun x29 s =>
 opt2 (oMov (.v a1) rec PT.nil s) fun x30 s =>
 opt2 (oMov (.v a2) rec PT.nil s) fun x31 s =>
 opt2 (rec 46 [x29, x30, x31] s) fun x32 s =>
 opt2 (oMov (.v a2) rec PT.nil s) fun x33 s =>
 opt2 (oNilCheck (.v x27) rec PT.nil s) fun x34 s =>
 opt2 (oFieldAddr 3 (.v x34) rec PT.nil s) fun x35 s =>
 opt2 (oStore 2 (.v x35) (.v x32) rec PT.nil s) fun x36 s =>
 opt2 (oNilCheck (.v x28) rec PT.nil s) fun x37 s =>
 opt2 (oFieldAddr 0 (.v x37) rec PT.nil s) fun x38 s =>
 opt2 (oStore 1 (.v x38) (.v x33) rec PT.nil s) fun x39 s =>
 opt2 (oMov (.v a0) rec PT.nil s) fun x40 s =>
 opt2 (oNilCheck (.v x40) rec PT.nil s) fun x41 s =>
 opt2 (oFieldAddr 1 (.v x41) rec PT.nil s) fun x42 s =>
 opt2 (oLoad1 (.v x42) rec PT.nil s) fun x43 s =>
 opt2 (oMov (.v a3) rec PT.nil s) fun x44 s =>
 opt2 (oBin (int2 subO) (.v x43) (.v x44) rec PT.nil s) fun x45 s =>
 opt2 (oNilCheck (.v x40) rec PT.nil s) fun x46 s =>
 opt2 (oFieldAddr 1 (.v x46) rec PT.nil s) fun x47 s =>
 opt2 (oStore 1 (.v x47) (.v x45) rec PT.nil s) fun x48 s =>
 opt2 (oMov (.v (.int .i64 0)) rec PT.nil s) fun x49 s =>
 some (oneOf [x49], s)))
set_option maxHeartbeats 4000000 in
theorem d14 (rec : Rec) (N : Nat) (a0 : Value) (a1 : Value) (a2 : Value) (a3 : Value) (s : St) : callF rec N c14 [a0, a1, a2, a3] s = D14 rec N a0 a1 a2 a3 s := by
  rw [call_f _ _ _ _ _ rfl]
  simp (maxSteps := 4000000) only [c14, lenN, x_seq, x_ops, x_skip, x_ret, x_exit, x_cond, x_block, x_loop, ops_c, ops_n, op1_u, op1_gj, rq_c, rq_n, opQ_u, opQ_g, op2_op2, op2_op, op2_s, op2_cond, thenX_n, thenX_e, thenX_r, blkX_n, blkX_r, blkX_e, finX_r, finX_n, res_n, res_t, op_s, Nat.beq_refl, cond_true]
  first | done | kernel_rfl
def F14 (rec : Rec) (N : Nat) (a0 : Value) (a1 : Value) (a2 : Value) (a3 : Value) (s : St) : Out := opt2 (rec 45 [a0, a2] s) fun x1 s =>
 opt2 (oBin (int2 (cmpO neI)) (.v x1) (.v (.int .i64 0)) rec PT.nil s) fun x2 s =>
 condV x2
 (some (oneOf [x1], s))
 (opt2 (oBin (int2 (cmpO ltI)) (.v a3) (.v (.int .i64 0)) rec PT.nil s) fun x3 s =>
 opt (gval false x3) fun x4 => opt2 (orUndef x4 (some (a3, s)) s) fun x5 s =>
 opt (gval false x3) fun x6 => opt2 (orUndef x6 (some (a0, s)) s) fun x7 s =>
 opt (gval false x3) fun x8 => opt2 (orUndef x8 (oNilCheck (.v x7) rec PT.nil s) s) fun x9 s =>
 opt (gval false x3) fun x10 => opt2 (orUndef x10 (oFieldAddr 1 (.v x9) rec PT.nil s) s) fun x11 s =>
 opt (gval false x3) fun x12 => opt2 (orUndef x12 (oLoad1 (.v x11) rec PT.nil s) s) fun x13 s =>
 opt (gval false x3) fun x14 => opt2 (orUndef x14 (oBin (int2 (cmpO gtI)) (.v x5) (.v x13) rec PT.nil s) s) fun x15 s =>
 opt2 (oPick (.v x3) (.v (.bool true)) (.v x15) rec PT.nil s) fun x16 s =>
 condV x16
 (some (oneOf [(.int .i64 1)], s))
 (opt2 (rec 46 [a0, a1, a2] s) fun x17 s =>
 opt2 (oNilCheck (.v a0) rec PT.nil s) fun x18 s =>
 opt2 (oFieldAddr 3 (.v x18) rec PT.nil s) fun x19 s =>
 opt2 (oStore 2 (.v x19) (.v x17) rec PT.nil s) fun x20 s =>
 opt2 (oNilCheck (.v a0) rec PT.nil s) fun x21 s =>
 opt2 (oFieldAddr 0 (.v x21) rec PT.nil s) fun x22 s =>
 opt2 (oStore 1 (.v x22) (.v a2) rec PT.nil s) fun x23 s =>
 opt2 (oNilCheck (.v a0) rec PT.nil s) fun x24 s =>
 opt2 (oFieldAddr 1 (.v x24) rec PT.nil s) fun x25 s =>
 opt2 (oLoad1 (.v x25) rec PT.nil s) fun x26 s =>
 opt2 (oBin (int2 subO) (.v x26) (.v a3) rec PT.nil s) fun x27 s =>
 opt2 (oNilCheck (.v a0) rec PT.nil s) fun x28 s =>
 opt2 (oFieldAddr 1 (.v x28) rec PT.nil s) fun x29 s =>
 opt2 (oStore 1 (.v x29) (.v x27) rec PT.nil s) fun x30 s =>
 some (oneOf [(.int .i64 0)], s)))
set_option maxHeartbeats 4000000 in
theorem f14 (rec : Rec) (N : Nat) (a0 : Value) (a1 : Value) (a2 : Value) (a3 : Value) (s : St) : callF rec N c14 [a0, a1, a2, a3] s = F14 rec N a0 a1 a2 a3 s := by
  rw [d14]
  unfold D14 F14
  first
    | done
    | rfl
    | (simp (maxSteps := 4000000) only [mov_v, op2_s]; first | done | kernel_rfl)
    | kernel_rfl
-- c20
def D20 (rec : Rec) (N : Nat) (a0 : Value) (a1 : Value) (a2 : Value) (s : St) : Out := opt2 (oMov (.v (.int .i64 0)) rec PT.nil s) fun x1 s =>
 opt2 (oMov (.v (.int .i64 0)) rec PT.nil s) fun x2 s =>
 opt2 (oMov (.v a0) rec PT.nil s) fun x3 s =>
 opt2 (oMov (.v a1) rec PT.nil s) fun x4 s =>
 opt2 (oMov (.v a2) rec PT.nil s) fun x5 s =>
 opt2 (rec 22 [x3, x4, x5] s) fun x6 s =>
 opt2 (oMov (.v x6) rec PT.nil s) fun x7 s =>
 opt2 (oExtract (.v x7) 0 rec PT.nil s) fun x8 s =>
 opt2 (oExtract (.v x7) 1 rec PT.nil s) fun x9 s =>
 opt2 (oMov (.v x8) rec PT.nil s) fun x10 s =>
 opt2 (oMov (.v x9) rec PT.nil s) fun x11 s =>
 opt2 (oMov (.v x11) rec PT.nil s) fun x12 s =>
 opt2 (oBin (int2 (cmpO neI)) (.v x12) (.v (.int .i64 0)) rec PT.nil s) fun x13 s =>
 condV x13
 (opt2 (oMov (.v x11) rec PT.nil s) fun x14 s =>
 opt2 (oMov (.v (.int .i64 0)) rec PT.nil s) fun x15 s =>
 opt2 (oMov (.v x14) rec PT.nil s) fun x16 s =>
 some (oneOf [x15, x16], s))
 (opt2 (oMov (.v a0) rec PT.nil s) fun x17 s =>
 opt2 (oMov (.v a1) rec PT.nil s) fun x18 s =>
 opt2 (oMov (.v a2) rec PT.nil s) fun x19 s =>
 opt2 (rec 13 [x17, x18, x19] s) fun x20 s =>
 opt2 (oMov (.v x20) rec PT.nil s) fun x21 s =>
 opt2 (oMov (.v x21) rec PT.nil s) fun x22 s =>
 opt2 (oBin (int2 (cmpO neI)) (.v x22) (.v (.int .i64 0)) rec PT.nil s) fun x23 s =>
 condV x23
 (opt2 (oMov (.v x21) rec PT.nil s) fun x24 s =>
 opt2 (oMov (.v (.int .i64 0)) rec PT.nil s) fun x25 s =>
 opt2 (oMov (.v x24) rec PT.nil s) fun x26 s =>
 some (oneOf [x25, x26], s))
 (opt2 (oMov (.v a0) rec PT.nil s) fun x27 s =>
 opt2 (oNilCheck (.v x27) rec PT.nil s) fun x28 s =>
 opt2 (oFieldAddr 2 (.v x28) rec PT.nil s) fun x29 s =>
 opt2 (oLoad1 (.v x29) rec PT.nil s) fun x30 s =>
 opt2 (oMov (.v x10) rec PT.nil s) fun x31 s =>
 opt2 (oBin (int2 addO) (.v x30) (.v x31) rec PT.nil s) fun x32 s =>
 opt2 (oNilCheck (.v x27) rec PT.nil s) fun x33 s =>
 opt2 (oFieldAddr 2 (.v x33) rec PT.nil s) fun x34 s =>
 opt2 (oStore 1 (.v x34) (.v x32) rec PT.nil s) fun x35 s =>
 opt2 (oMov (.v x10) rec PT.nil s) fun x36 s =>
 opt2 (oMov (.v x36) rec PT.nil s) fun x37 s =>
 opt2 (oMov (.v (.int .i64 0)) rec PT.nil s) fun x38 s =>
 some (oneOf [x37, x38], s)))
set_option maxHeartbeats 4000000 in
theorem d20 (rec : Rec) (N : Nat) (a0 : Value) (a1 : Value) (a2 : Value) (s : St) : callF rec N c20 [a0, a1, a2] s = D20 rec N a0 a1 a2 s := by
  rw [call_f _ _ _ _ _ rfl]
  simp (maxSteps := 4000000) only [c20, lenN, x_seq, x_ops, x_skip, x_ret, x_exit, x_cond, x_block, x_loop, ops_c, ops_n, op1_u, op1_gj, rq_c, rq_n, opQ_u, opQ_g, op2_op2, op2_op, op2_s, op2_cond, thenX_n, thenX_e, thenX_r, blkX_n, blkX_r, blkX_e, finX_r, finX_n, res_n, res_t, op_s, Nat.beq_refl, cond_true]
  first | done | kernel_rfl
def F20 (rec : Rec) (N : Nat) (a0 : Value) (a1 : Value) (a2 : Value) (s : St) : Out := opt2 (rec 22 [a0, a1, a2] s) fun x1 s =>
 opt2 (oExtract (.v x1) 0 rec PT.nil s) fun x2 s =>
 opt2 (oExtract (.v x1) 1 rec PT.nil s) fun x3 s =>
 opt2 (oBin (int2 (cmpO neI)) (.v x3) (.v (.int .i64 0)) rec PT.nil s) fun x4 s =>
 condV x4
 (some (oneOf [(.int .i64 0), x3], s))
 (opt2 (rec 13 [a0, a1, a2] s) fun x5 s =>
 opt2 (oBin (int2 (cmpO neI)) (.v x5) (.v (.int .i64 0)) rec PT.nil s) fun x6 s =>
 condV x6
 (some (oneOf [(.int .i64 0), x5], s))
 (opt2 (oNilCheck (.v a0) rec PT.nil s) fun x7 s =>
 opt2 (oFieldAddr 2 (.v x7) rec PT.nil s) fun x8 s =>
 opt2 (oLoad1 (.v x8) rec PT.nil s) fun x9 s =>
 opt2 (oBin (int2 addO) (.v x9) (.v x2) rec PT.nil s) fun x10 s =>
 opt2 (oNilCheck (.v a0) rec PT.nil s) fun x11 s =>
 opt2 (oFieldAddr 2 (.v x11) rec PT.nil s) fun x12 s =>
 opt2 (oStore 1 (.v x12) (.v x10) rec PT.nil s) fun x13 s =>
 some (oneOf [x2, (.int .i64 0)], s)))
set_option maxHeartbeats 4000000 in
theorem f20 (rec : Rec) (N : Nat) (a0 : Value) (a1 : Value) (a2 : Value) (s : St) : callF rec N c20 [a0, a1, a2] s = F20 rec N a0 a1 a2 s := by
  rw [d20]
  unfold D20 F20
  first
    | done
    | rfl
    | (simp (maxSteps := 4000000) only [mov_v, op2_s]; first | done | kernel_rfl)
    | kernel_rfl
-- c22
def D22 (rec : Rec) (N : Nat) (a0 : Value) (a1 : Value) (a2 : Value) (s : St) : Out := opt2 (oMov (.v (.int .i64 0)) rec PT.nil s) fun x1 s =>
 opt2 (oMov (.v (.int .i64 0)) rec PT.nil s) fun x2 s =>
 opt2 (oMov (.v a0) rec PT.nil s) fun x3 s =>
 opt2 (oMov (.v a2) rec PT.nil s) fun x4 s =>
 opt2 (rec 45 [x3, x4] s) fun x5 s =>
 opt2 (oMov (.v x5) rec PT.nil s) fun x6 s =>
 opt2 (oMov (.v x6) rec PT.nil s) fun x7 s =>
 opt2 (oBin (int2 (cmpO neI)) (.v x7) (.v (.int .i64 0)) rec PT.nil s) fun x8 s =>
 condV x8
 (opt2 (oMov (.v x6) rec PT.nil s) fun x9 s =>
 opt2 (oMov (.v (.int .i64 0)) rec PT.nil s) fun x10 s =>
 opt2 (oMov (.v x9) rec PT.nil s) fun x11 s =>
 some (oneOf [x10, x11], s))
 (opt2 (oMov (.v a0) rec PT.nil s) fun x12 s =>
 opt2 (oMov (.v a1) rec PT.nil s) fun x13 s =>
 opt2 (oMov (.v a2) rec PT.nil s) fun x14 s =>
 opt2 (rec 46 [x12, x13, x14] s) fun x15 s =>
 opt2 (rec 48 [x15, (.int .i64 365000000)] s) fun x16 s =>
 opt2 (oMov (.v x16) rec PT.nil s) fun x17 s =>
 opt2 (oExtract (.v x17) 0 rec PT.nil s) fun x18 s =>
 opt2 (oExtract (.v x17) 1 rec PT.nil s) fun x19 s =>
 opt2 (oMov (.v x18) rec PT.nil s) fun x20 s =>
 opt2 (oMov (.v x19) rec PT.nil s) fun x21 s =>
 opt2 (oMov (.v x21) rec PT.nil s) fun x22 s =>
 opt2 (oNot (.v x22) rec PT.nil s) fun x23 s =>
 opt2 (oMov (.v x23) rec PT.nil s) fun x24 s =>
 opt (gval false x24) fun x25 => opt2 (orUndef x25 (oMov (.v x20) rec PT.nil s) s) fun x26 s =>
 opt (gval false x24) fun x27 => opt2 (orUndef x27 (oBin (int2 (cmpO gtI)) (.v x26) (.v (.int .i64 4503599627370496)) rec PT.nil s) s) fun x28 s =>
 opt2 (oPick (.v x24) (.v (.bool true)) (.v x28) rec PT.nil s) fun x29 s =>
 condV x29
 (opt2 (oMov (.v (.int .i64 0)) rec PT.nil s) fun x30 s =>
 opt2 (oMov (.v (.int .i64 10)) rec PT.nil s) fun x31 s =>
 some (oneOf [x30, x31], s))
 (opt2 (oMov (.v x20) rec PT.nil s) fun x32 s =>
 opt2 (oMov (.v a0) rec PT.nil s) fun x33 s =>
 opt2 (oNilCheck (.v x33) rec PT.nil s) fun x34 s =>
 opt2 (oFieldAddr 2 (.v x34) rec PT.nil s) fun x35 s =>
 opt2 (oLoad1 (.v x35) rec PT.nil s) fun x36 s =>
 opt2 (oBin (int2 subO) (.v x32) (.v x36) rec PT.nil s) fun x37 s =>
 opt2 (oMov (.v x37) rec PT.nil s) fun x38 s =>
 opt2 (oMov (.v (.int .i64 0)) rec PT.nil s) fun x39 s =>
 some (oneOf [x38, x39], s)))
set_option maxHeartbeats 4000000 in
theorem d22 (rec : Rec) (N : Nat) (a0 : Value) (a1 : Value) (a2 : Value) (s : St) : callF rec N c22 [a0, a1, a2] s = D22 rec N a0 a1 a2 s := by
  rw [call_f _ _ _ _ _ rfl]
  simp (maxSteps := 4000000) only [c22, lenN, x_seq, x_ops, x_skip, x_ret, x_exit, x_cond, x_block, x_loop, ops_c, ops_n, op1_u, op1_gj, rq_c, rq_n, opQ_u, opQ_g, op2_op2, op2_op, op2_s, op2_cond, thenX_n, thenX_e, thenX_r, blkX_n, blkX_r, blkX_e, finX_r, finX_n, res_n, res_t, op_s, Nat.beq_refl, cond_true]
  first | done | kernel_rfl
def F22 (rec : Rec) (N : Nat) (a0 : Value) (a1 : Value) (a2 : Value) (s : St) : Out := opt2 (rec 45 [a0, a2] s) fun x1 s =>
 opt2 (oBin (int2 (cmpO neI)) (.v x1) (.v (.int .i64 0)) rec PT.nil s) fun x2 s =>
 condV x2
 (some (oneOf [(.int .i64 0), x1], s))
 (opt2 (rec 46 [a0, a1, a2] s) fun x3 s =>
 opt2 (rec 48 [x3, (.int .i64 365000000)] s) fun x4 s =>
 opt2 (oExtract (.v x4) 0 rec PT.nil s) fun x5 s =>
 opt2 (oExtract (.v x4) 1 rec PT.nil s) fun x6 s =>
 opt2 (oNot (.v x6) rec PT.nil s) fun x7 s =>
 opt (gval false x7) fun x8 => opt2 (orUndef x8 (some (x5, s)) s) fun x9 s =>
 opt (gval false x7) fun x10 => opt2 (orUndef x10 (oBin (int2 (cmpO gtI)) (.v x9) (.v (.int .i64 4503599627370496)) rec PT.nil s) s) fun x11 s =>
 opt2 (oPick (.v x7) (.v (.bool true)) (.v x11) rec PT.nil s) fun x12 s =>
 condV x12
 (some (oneOf [(.int .i64 0), (.int .i64 10)], s))
 (opt2 (oNilCheck (.v a0) rec PT.nil s) fun x13 s =>
 opt2 (oFieldAddr 2 (.v x13) rec PT.nil s) fun x14 s =>
 opt2 (oLoad1 (.v x14) rec PT.nil s) fun x15 s =>
 opt2 (oBin (int2 subO) (.v x5) (.v x15) rec PT.nil s) fun x16 s =>
 some (oneOf [x16, (.int .i64 0)], s)))
set_option maxHeartbeats 4000000 in
theorem f22 (rec : Rec) (N : Nat) (a0 : Value) (a1 : Value) (a2 : Value) (s : St) : callF rec N c22 [a0, a1, a2] s = F22 rec N a0 a1 a2 s := by
  rw [d22]
  unfold D22 F22
  first
    | done
    | rfl
    | (simp (maxSteps := 4000000) only [mov_v, op2_s]; first | done | kernel_rfl)
    | kernel_rfl
-- c24
def D24 (rec : Rec) (N : Nat) (a0 : Value) (s : St) : Out := opt2 (oMov (.v (.slice none 0 0)) rec PT.nil s) fun x1 s =>
 opt2 (rU (oMov (.v a0) rec PT.nil ⟨s.heap, s.next, 0, 0⟩) PT.nil s none) fun x2 m2 =>
 (fun s => opt2 (rU (oNilCheck (.v x2) rec PT.nil ⟨s.heap, s.next, 0, 0⟩) PT.nil s none) fun x3 m3 =>
 (fun s => opt2 (rU (oFieldAddr 0 (.v x3) rec PT.nil ⟨s.heap, s.next, 0, 0⟩) PT.nil s none) fun x4 m4 =>
 (fun s => opt2 (rU (oLoad1 (.v x4) rec PT.nil ⟨s.heap, s.next, 0, 0⟩) PT.nil s (some (.v x4))) fun x5 m5 =>
 (fun s => opt2 (rU (rec 51 [(.slice none 0 0), x5] ⟨s.heap, s.next, 0, 0⟩) PT.nil s none) fun x6 m6 =>
 (fun s => opt2 (rU (oMov (.v a0) rec PT.nil ⟨s.heap, s.next, 0, 0⟩) PT.nil s none) fun x7 m7 =>
 (fun s => opt2 (rU (oNilCheck (.v x7) rec PT.nil ⟨s.heap, s.next, 0, 0⟩) PT.nil s none) fun x8 m8 =>
 (fun s => opt2 (rU (oFieldAddr 1 (.v x8) rec PT.nil ⟨s.heap, s.next, 0, 0⟩) PT.nil s none) fun x9 m9 =>
 (fun s => opt2 (rU (oLoad1 (.v x9) rec PT.nil ⟨s.heap, s.next, 0, 0⟩) PT.nil s (some (.v x9))) fun x10 m10 =>
 (fun s => opt2 (rU (rec 51 [x6, x10] ⟨s.heap, s.next, 0, 0⟩) PT.nil s none) fun x11 m11 =>
 (fun s => opt2 (rU (oMov (.v a0) rec PT.nil ⟨s.heap, s.next, 0, 0⟩) PT.nil s none) fun x12 m12 =>
 (fun s => opt2 (rU (oNilCheck (.v x12) rec PT.nil ⟨s.heap, s.next, 0, 0⟩) PT.nil s none) fun x13 m13 =>
 (fun s => opt2 (rU (oFieldAddr 2 (.v x13) rec PT.nil ⟨s.heap, s.next, 0, 0⟩) PT.nil s none) fun x14 m14 =>
 (fun s => opt2 (rU (oLoad1 (.v x14) rec PT.nil ⟨s.heap, s.next, 0, 0⟩) PT.nil s (some (.v x14))) fun x15 m15 =>
 (fun s => opt2 (rU (rec 51 [x11, x15] ⟨s.heap, s.next, 0, 0⟩) PT.nil s none) fun x16 m16 =>
 (fun s => opt2 (rU (oMov (.v x16) rec PT.nil ⟨s.heap, s.next, 0, 0⟩) PT.nil s none) fun x17 m17 =>
 (fun s => bif apartAll [m2.1, m3.1, m4.1, m5.1, m6.1, m7.1, m8.1, m9.1, m10.1, m11.1, m12.1, m13.1, m14.1, m15.1, m16.1, m17.1] [(0, 5), (1, 5), (2, 5), (3, 5), (4, 5), (0, 6), (1, 6), (2, 6), (3, 6), (4, 6), (0, 7), (1, 7), (2, 7), (3, 7), (4, 7), (0, 8), (1, 8), (2, 8), (3, 8), (4, 8), (0, 10), (1, 10), (2, 10), (3, 10), (4, 10), (5, 10), (6, 10), (7, 10), (8, 10), (9, 10), (0, 11), (1, 11), (2, 11), (3, 11), (4, 11), (5, 11), (6, 11), (7, 11), (8, 11), (9, 11), (0, 12), (1, 12), (2, 12), (3, 12), (4, 12), (5, 12), (6, 12), (7, 12), (8, 12), (9, 12), (0, 13), (1, 13), (2, 13), (3, 13), (4, 13), (5, 13), (6, 13), (7, 13), (8, 13), (9, 13)] then opt2 (rU (oMov (.v x17) rec PT.nil ⟨s.heap, s.next, 0, 0⟩) PT.nil s none) fun x18 m18 =>
 (fun s => opt2 (rU (oMov (.v a0) rec PT.nil ⟨s.heap, s.next, 0, 0⟩) PT.nil s none) fun x19 m19 =>
 (fun s => opt2 (rU (oNilCheck (.v x19) rec PT.nil ⟨s.heap, s.next, 0, 0⟩) PT.nil s none) fun x20 m20 =>
 (fun s => opt2 (rU (oFieldAddr 3 (.v x20) rec PT.nil ⟨s.heap, s.next, 0, 0⟩) PT.nil s none) fun x21 m21 =>
 (fun s => opt2 (rU (oFieldAddr 0 (.v x21) rec PT.nil ⟨s.heap, s.next, 0, 0⟩) PT.nil s none) fun x22 m22 =>
 (fun s => opt2 (rU (oLoad1 (.v x22) rec PT.nil ⟨s.heap, s.next, 0, 0⟩) PT.nil s (some (.v x22))) fun x23 m23 =>
 (fun s => opt2 (rU (rec 51 [x18, x23] ⟨s.heap, s.next, 0, 0⟩) PT.nil s none) fun x24 m24 =>
 (fun s => opt2 (rU (oMov (.v a0) rec PT.nil ⟨s.heap, s.next, 0, 0⟩) PT.nil s none) fun x25 m25 =>
 (fun s => opt2 (rU (oNilCheck (.v x25) rec PT.nil ⟨s.heap, s.next, 0, 0⟩) PT.nil s none) fun x26 m26 =>
 (fun s => opt2 (rU (oFieldAddr 3 (.v x26) rec PT.nil ⟨s.heap, s.next, 0, 0⟩) PT.nil s none) fun x27 m27 =>
 (fun s => opt2 (rU (oFieldAddr 1 (.v x27) rec PT.nil ⟨s.heap, s.next, 0, 0⟩) PT.nil s none) fun x28 m28 =>
 (fun s => opt2 (rU (oLoad1 (.v x28) rec PT.nil ⟨s.heap, s.next, 0, 0⟩) PT.nil s (some (.v x28))) fun x29 m29 =>
 (fun s => opt2 (rU (rec 52 [x24, x29] ⟨s.heap, s.next, 0, 0⟩) PT.nil s none) fun x30 m30 =>
 (fun s => opt2 (rU (oMov (.v x30) rec PT.nil ⟨s.heap, s.next, 0, 0⟩) PT.nil s none) fun x31 m31 =>
 (fun s => bif apartAll [m18.1, m19.1, m20.1, m21.1, m22.1, m23.1, m24.1, m25.1, m26.1, m27.1, m28.1, m29.1, m30.1, m31.1] [(0, 1), (0, 2), (0, 3), (0, 4), (0, 5), (0, 7), (1, 7), (2, 7), (3, 7), (4, 7), (5, 7), (6, 7), (0, 8), (1, 8), (2, 8), (3, 8), (4, 8), (5, 8), (6, 8), (0, 9), (1, 9), (2, 9), (3, 9), (4, 9), (5, 9), (6, 9), (0, 10), (1, 10), (2, 10), (3, 10), (4, 10), (5, 10), (6, 10), (0, 11), (1, 11), (2, 11), (3, 11), (4, 11), (5, 11), (6, 11)] then some (oneOf [x31], s) else none) m31.2) m30.2) m29.2) m28.2) m27.2) m26.2) m25.2) m24.2) m23.2) m22.2) m21.2) m20.2) m19.2) m18.2 else none) m17.2) m16.2) m15.2) m14.2) m13.2) m12.2) m11.2) m10.2) m9.2) m8.2) m7.2) m6.2) m5.2) m4.2) m3.2) m2.2
set_option maxHeartbeats 4000000 in
theorem d24 (rec : Rec) (N : Nat) (a0 : Value) (s : St) : callF rec N c24 [a0] s = D24 rec N a0 s := by
  rw [call_f _ _ _ _ _ rfl]
  simp (maxSteps := 4000000) only [c24, lenN, x_regc, reg_n, reg_c, reg1_u, reg1_g, op2_cons, op2_bif, x_seq, x_ops, x_skip, x_ret, x_exit, x_cond, x_block, x_loop, ops_c, ops_n, op1_u, op1_gj, rq_c, rq_n, opQ_u, opQ_g, op2_op2, op2_op, op2_s, op2_cond, thenX_n, thenX_e, thenX_r, blkX_n, blkX_r, blkX_e, finX_r, finX_n, res_n, res_t, op_s, Nat.beq_refl, cond_true]
  first | done | kernel_rfl
def F24 (rec : Rec) (N : Nat) (a0 : Value) (s : St) : Out := opt2 (oMov (.v (.slice none 0 0)) rec PT.nil s) fun x1 s =>
 opt2 (rU (oMov (.v a0) rec PT.nil ⟨s.heap, s.next, 0, 0⟩) PT.nil s none) fun x2 m2 =>
 (fun s => opt2 (rU (oNilCheck (.v x2) rec PT.nil ⟨s.heap, s.next, 0, 0⟩) PT.nil s none) fun x3 m3 =>
 (fun s => opt2 (rU (oFieldAddr 0 (.v x3) rec PT.nil ⟨s.heap, s.next, 0, 0⟩) PT.nil s none) fun x4 m4 =>
 (fun s => opt2 (rU (oLoad1 (.v x4) rec PT.nil ⟨s.heap, s.next, 0, 0⟩) PT.nil s (some (.v x4))) fun x5 m5 =>
 (fun s => opt2 (rU (rec 51 [(.slice none 0 0), x5] ⟨s.heap, s.next, 0, 0⟩) PT.nil s none) fun x6 m6 =>
 (fun s => opt2 (rU (oMov (.v a0) rec PT.nil ⟨s.heap, s.next, 0, 0⟩) PT.nil s none) fun x7 m7 =>
 (fun s => opt2 (rU (oNilCheck (.v x7) rec PT.nil ⟨s.heap, s.next, 0, 0⟩) PT.nil s none) fun x8 m8 =>
 (fun s => opt2 (rU (oFieldAddr 1 (.v x8) rec PT.nil ⟨s.heap, s.next, 0, 0⟩) PT.nil s none) fun x9 m9 =>
 (fun s => opt2 (rU (oLoad1 (.v x9) rec PT.nil ⟨s.heap, s.next, 0, 0⟩) PT.nil s (some (.v x9))) fun x10 m10 =>
 (fun s => opt2 (rU (rec 51 [x6, x10] ⟨s.heap, s.next, 0, 0⟩) PT.nil s none) fun x11 m11 =>
 (fun s => opt2 (rU (oMov (.v a0) rec PT.nil ⟨s.heap, s.next, 0, 0⟩) PT.nil s none) fun x12 m12 =>
 (fun s => opt2 (rU (oNilCheck (.v x12) rec PT.nil ⟨s.heap, s.next, 0, 0⟩) PT.nil s none) fun x13 m13 =>
 (fun s => opt2 (rU (oFieldAddr 2 (.v x13) rec PT.nil ⟨s.heap, s.next, 0, 0⟩) PT.nil s none) fun x14 m14 =>
 (fun s => opt2 (rU (oLoad1 (.v x14) rec PT.nil ⟨s.heap, s.next, 0, 0⟩) PT.nil s (some (.v x14))) fun x15 m15 =>
 (fun s => opt2 (rU (rec 51 [x11, x15] ⟨s.heap, s.next, 0, 0⟩) PT.nil s none) fun x16 m16 =>
 (fun s => opt2 (rU (oMov (.v x16) rec PT.nil ⟨s.heap, s.next, 0, 0⟩) PT.nil s none) fun x17 m17 =>
 (fun s => bif apartAll [m2.1, m3.1, m4.1, m5.1, m6.1, m7.1, m8.1, m9.1, m10.1, m11.1, m12.1, m13.1, m14.1, m15.1, m16.1, m17.1] [(0, 5), (1, 5), (2, 5), (3, 5), (4, 5), (0, 6), (1, 6), (2, 6), (3, 6), (4, 6), (0, 7), (1, 7), (2, 7), (3, 7), (4, 7), (0, 8), (1, 8), (2, 8), (3, 8), (4, 8), (0, 10), (1, 10), (2, 10), (3, 10), (4, 10), (5, 10), (6, 10), (7, 10), (8, 10), (9, 10), (0, 11), (1, 11), (2, 11), (3, 11), (4, 11), (5, 11), (6, 11), (7, 11), (8, 11), (9, 11), (0, 12), (1, 12), (2, 12), (3, 12), (4, 12), (5, 12), (6, 12), (7, 12), (8, 12), (9, 12), (0, 13), (1, 13), (2, 13), (3, 13), (4, 13), (5, 13), (6, 13), (7, 13), (8, 13), (9, 13)] then opt2 (rU (oMov (.v x17) rec PT.nil ⟨s.heap, s.next, 0, 0⟩) PT.nil s none) fun x18 m18 =>
 (fun s => opt2 (rU (oMov (.v a0) rec PT.nil ⟨s.heap, s.next, 0, 0⟩) PT.nil s none) fun x19 m19 =>
 (fun s => opt2 (rU (oNilCheck (.v x19) rec PT.nil ⟨s.heap, s.next, 0, 0⟩) PT.nil s none) fun x20 m20 =>
 (fun s => opt2 (rU (oFieldAddr 3 (.v x20) rec PT.nil ⟨s.heap, s.next, 0, 0⟩) PT.nil s none) fun x21 m21 =>
 (fun s => opt2 (rU (oFieldAddr 0 (.v x21) rec PT.nil ⟨s.heap, s.next, 0, 0⟩) PT.nil s none) fun x22 m22 =>
 (fun s => opt2 (rU (oLoad1 (.v x22) rec PT.nil ⟨s.heap, s.next, 0, 0⟩) PT.nil s (some (.v x22))) fun x23 m23 =>
 (fun s => opt2 (rU (rec 51 [x18, x23] ⟨s.heap, s.next, 0, 0⟩) PT.nil s none) fun x24 m24 =>
 (fun s => opt2 (rU (oMov (.v a0) rec PT.nil ⟨s.heap, s.next, 0, 0⟩) PT.nil s none) fun x25 m25 =>
 (fun s => opt2 (rU (oNilCheck (.v x25) rec PT.nil ⟨s.heap, s.next, 0, 0⟩) PT.nil s none) fun x26 m26 =>
 (fun s => opt2 (rU (oFieldAddr 3 (.v x26) rec PT.nil ⟨s.heap, s.next, 0, 0⟩) PT.nil s none) fun x27 m27 =>
 (fun s => opt2 (rU (oFieldAddr 1 (.v x27) rec PT.nil ⟨s.heap, s.next, 0, 0⟩) PT.nil s none) fun x28 m28 =>
 (fun s => opt2 (rU (oLoad1 (.v x28) rec PT.nil ⟨s.heap, s.next, 0, 0⟩) PT.nil s (some (.v x28))) fun x29 m29 =>
 (fun s => opt2 (rU (rec 52 [x24, x29] ⟨s.heap, s.next, 0, 0⟩) PT.nil s none) fun x30 m30 =>
 (fun s => opt2 (rU (oMov (.v x30) rec PT.nil ⟨s.heap, s.next, 0, 0⟩) PT.nil s none) fun x31 m31 =>
 (fun s => bif apartAll [m18.1, m19.1, m20.1, m21.1, m22.1, m23.1, m24.1, m25.1, m26.1, m27.1, m28.1, m29.1, m30.1, m31.1] [(0, 1), (0, 2), (0, 3), (0, 4), (0, 5), (0, 7), (1, 7), (2, 7), (3, 7), (4, 7), (5, 7), (6, 7), (0, 8), (1, 8), (2, 8), (3, 8), (4, 8), (5, 8), (6, 8), (0, 9), (1, 9), (2, 9), (3, 9), (4, 9), (5, 9), (6, 9), (0, 10), (1, 10), (2, 10), (3, 10), (4, 10), (5, 10), (6, 10), (0, 11), (1, 11), (2, 11), (3, 11), (4, 11), (5, 11), (6, 11)] then some (oneOf [x31], s) else none) m31.2) m30.2) m29.2) m28.2) m27.2) m26.2) m25.2) m24.2) m23.2) m22.2) m21.2) m20.2) m19.2) m18.2 else none) m17.2) m16.2) m15.2) m14.2) m13.2) m12.2) m11.2) m10.2) m9.2) m8.2) m7.2) m6.2) m5.2) m4.2) m3.2) m2.2
set_option maxHeartbeats 4000000 in
theorem f24 (rec : Rec) (N : Nat) (a0 : Value) (s : St) : callF rec N c24 [a0] s = F24 rec N a0 s := by
  rw [d24]
  unfold D24 F24
  first
    | done
    | rfl
    | (simp (maxSteps := 4000000) only [mov_v, op2_s]; first | done | kernel_rfl)
    | kernel_rfl
-- c30
def D30 (rec : Rec) (N : Nat) (a0 : Value) (s : St) : Out := opt2 (oMov (.v (.int .i64 0)) rec PT.nil s) fun x1 s =>
 opt2 (oMov (.v a0) rec PT.nil s) fun x2 s =>
 opt2 (oNilCheck (.v x2) rec PT.nil s) fun x3 s =>
 opt2 (oFieldAddr 0 (.v x3) rec PT.nil s) fun x4 s =>
 opt2 (oLoad1 (.v x4) rec PT.nil s) fun x5 s =>
 opt2 (oMov (.v x5) rec PT.nil s) fun x6 s =>
 some (oneOf [x6], s)
set_option maxHeartbeats 4000000 in
theorem d30 (rec : Rec) (N : Nat) (a0 : Value) (s : St) : callF rec N c30 [a0] s = D30 rec N a0 s := by
  rw [call_f _ _ _ _ _ rfl]
  simp (maxSteps := 4000000) only [c30, lenN, x_seq, x_ops, x_skip, x_ret, x_exit, x_cond, x_block, x_loop, ops_c, ops_n, op1_u, op1_gj, rq_c, rq_n, opQ_u, opQ_g, op2_op2, op2_op, op2_s, op2_cond, thenX_n, thenX_e, thenX_r, blkX_n, blkX_r, blkX_e, finX_r, finX_n, res_n, res_t, op_s, Nat.beq_refl, cond_true]
  first | done | kernel_rfl
def F30 (rec : Rec) (N : Nat) (a0 : Value) (s : St) : Out := opt2 (oNilCheck (.v a0) rec PT.nil s) fun x1 s =>
 opt2 (oFieldAddr 0 (.v x1) rec PT.nil s) fun x2 s =>
 opt2 (oLoad1 (.v x2) rec PT.nil s) fun x3 s =>
 some (oneOf [x3], s)
set_option maxHeartbeats 4000000 in
theorem f30 (rec : Rec) (N : Nat) (a0 : Value) (s : St) : callF rec N c30 [a0] s = F30 rec N a0 s := by
  rw [d30]
  unfold D30 F30
  first
    | done
    | rfl
    | (simp (maxSteps := 4000000) only [mov_v, op2_s]; first | done | kernel_rfl)
    | kernel_rfl
-- c31
def D31 (rec : Rec) (N : Nat) (a0 : Value) (s : St) : Out := opt2 (oMov (.v (.int .i64 0)) rec PT.nil s) fun x1 s =>
 opt2 (oMov (.v a0) rec PT.nil s) fun x2 s =>
 opt2 (oNilCheck (.v x2) rec PT.nil s) fun x3 s =>
 opt2 (oFieldAddr 1 (.v x3) rec PT.nil s) fun x4 s =>
 opt2 (oLoad1 (.v x4) rec PT.nil s) fun x5 s =>
 opt2 (oMov (.v x5) rec PT.nil s) fun x6 s =>
 some (oneOf [x6], s)
set_option maxHeartbeats 4000000 in
theorem d31 (rec : Rec) (N : Nat) (a0 : Value) (s : St) : callF rec N c31 [a0] s = D31 rec N a0 s := by
  rw [call_f _ _ _ _ _ rfl]
  simp (maxSteps := 4000000) only [c31, lenN, x_seq, x_ops, x_skip, x_ret, x_exit, x_cond, x_block, x_loop, ops_c, ops_n, op1_u, op1_gj, rq_c, rq_n, opQ_u, opQ_g, op2_op2, op2_op, op2_s, op2_cond, thenX_n, thenX_e, thenX_r, blkX_n, blkX_r, blkX_e, finX_r, finX_n, res_n, res_t, op_s, Nat.beq_refl, cond_true]
  first | done | kernel_rfl
def F31 (rec : Rec) (N : Nat) (a0 : Value) (s : St) : Out := opt2 (oNilCheck (.v a0) rec PT.nil s) fun x1 s =>
 opt2 (oFieldAddr 1 (.v x1) rec PT.nil s) fun x2 s =>
 opt2 (oLoad1 (.v x2) rec PT.nil s) fun x3 s =>
 some (oneOf [x3], s)
set_option maxHeartbeats 4000000 in
theorem f31 (rec : Rec) (N : Nat) (a0 : Value) (s : St) : callF rec N c31 [a0] s = F31 rec N a0 s := by
  rw [d31]
  unfold D31 F31
  first
    | done
    | rfl
    | (simp (maxSteps := 4000000) only [mov_v, op2_s]; first | done | kernel_rfl)
    | kernel_rfl
-- c32
def D32 (rec : Rec) (N : Nat) (a0 : Value) (s : St) : Out := opt2 (oMov (.v (.int .i64 0)) rec PT.nil s) fun x1 s =>
 opt2 (oMov (.v a0) rec PT.nil s) fun x2 s =>
 opt2 (oNilCheck (.v x2) rec PT.nil s) fun x3 s =>
 opt2 (oFieldAddr 2 (.v x3) rec PT.nil s) fun x4 s =>
 opt2 (oLoad1 (.v x4) rec PT.nil s) fun x5 s =>
 opt2 (oMov (.v x5) rec PT.nil s) fun x6 s =>
 some (oneOf [x6], s)
set_option maxHeartbeats 4000000 in
theorem d32 (rec : Rec) (N : Nat) (a0 : Value) (s : St) : callF rec N c32 [a0] s = D32 rec N a0 s := by
  rw [call_f _ _ _ _ _ rfl]
  simp (maxSteps := 4000000) only [c32, lenN, x_seq, x_ops, x_skip, x_ret, x_exit, x_cond, x_block, x_loop, ops_c, ops_n, op1_u, op1_gj, rq_c, rq_n, opQ_u, opQ_g, op2_op2, op2_op, op2_s, op2_cond, thenX_n, thenX_e, thenX_r, blkX_n, blkX_r, blkX_e, finX_r, finX_n, res_n, res_t, op_s, Nat.beq_refl, cond_true]
  first | done | kernel_rfl
def F32 (rec : Rec) (N : Nat) (a0 : Value) (s : St) : Out := opt2 (oNilCheck (.v a0) rec PT.nil s) fun x1 s =>
 opt2 (oFieldAddr 2 (.v x1) rec PT.nil s) fun x2 s =>
 opt2 (oLoad1 (.v x2) rec PT.nil s) fun x3 s =>
 some (oneOf [x3], s)
set_option maxHeartbeats 4000000 in
theorem f32 (rec : Rec) (N : Nat) (a0 : Value) (s : St) : callF rec N c32 [a0] s = F32 rec N a0 s := by
  rw [d32]
  unfold D32 F32
  first
    | done
    | rfl
    | (simp (maxSteps := 4000000) only [mov_v, op2_s]; first | done | kernel_rfl)
    | kernel_rfl
-- c33
def D33 (rec : Rec) (N : Nat) (a0 : Value) (s : St) : Out := opt2 (oNew [(.int .i64 0), (.int .u64 0)] rec PT.nil s) fun x1 s =>
 opt2 (oMov (.v a0) rec PT.nil s) fun x2 s =>
 opt2 (oNilCheck (.v x2) rec PT.nil s) fun x3 s =>
 opt2 (oFieldAddr 3 (.v x3) rec PT.nil s) fun x4 s =>
 opt2 (oLoadN 2 (.v x4) rec PT.nil s) fun x5 s =>
 opt2 (oStore 2 (.v x1) (.v x5) rec PT.nil s) fun x6 s =>
 finX [.cell t2 (some 2)] .ret ((PT.put x5 t6 (PT.put x4 t5 (PT.put x3 t4 (PT.put x2 t3 (PT.put x1 t2 (PT.put a0 t0 PT.nil)))))), s)
set_option maxHeartbeats 4000000 in
theorem d33 (rec : Rec) (N : Nat) (a0 : Value) (s : St) : callF rec N c33 [a0] s = D33 rec N a0 s := by
  rw [call_f _ _ _ _ _ rfl]
  simp (maxSteps := 4000000) only [c33, lenN, x_seq, x_ops, x_skip, x_ret, x_exit, x_cond, x_block, x_loop, ops_c, ops_n, op1_u, op1_gj, rq_c, rq_n, opQ_u, opQ_g, op2_op2, op2_op, op2_s, op2_cond, thenX_n, thenX_e, thenX_r, blkX_n, blkX_r, blkX_e, finX_r, finX_n, res_n, res_t, op_s, Nat.beq_refl, cond_true]
  first | done | kernel_rfl
def F33 (rec : Rec) (N : Nat) (a0 : Value) (s : St) : Out := opt2 (oNew [(.int .i64 0), (.int .u64 0)] rec PT.nil s) fun x1 s =>
 opt2 (oNilCheck (.v a0) rec PT.nil s) fun x2 s =>
 opt2 (oFieldAddr 3 (.v x2) rec PT.nil s) fun x3 s =>
 opt2 (oLoadN 2 (.v x3) rec PT.nil s) fun x4 s =>
 opt2 (oStore 2 (.v x1) (.v x4) rec PT.nil s) fun x5 s =>
 finX [.cell t2 (some 2)] .ret ((PT.put x1 t2 PT.nil), s)
set_option maxHeartbeats 4000000 in
theorem f33 (rec : Rec) (N : Nat) (a0 : Value) (s : St) : callF rec N c33 [a0] s = F33 rec N a0 s := by
  rw [d33]
  unfold D33 F33
  first
    | done
    | rfl
    | (simp (maxSteps := 4000000) only [mov_v, op2_s]; first | done | kernel_rfl)
    | kernel_rfl
-- c38
def D38 (rec : Rec) (N : Nat) (a0 : Value) (s : St) : Out := opt2 (oMov (.v (.pointer none)) rec PT.nil s) fun x1 s =>
 opt2 (oMov (.v a0) rec PT.nil s) fun x2 s =>
 opt2 (oNilCheck (.v x2) rec PT.nil s) fun x3 s =>
 opt2 (oLoadN 5 (.v x3) rec PT.nil s) fun x4 s =>
 opt2 (oNew [(.int .i64 0), (.int .i64 0), (.int .i64 0), (.int .i64 0), (.int .u64 0)] rec PT.nil s) fun x5 s =>
 opt2 (oStore 5 (.v x5) (.v x4) rec PT.nil s) fun x6 s =>
 opt2 (oMov (.v x5) rec PT.nil s) fun x7 s =>
 some (oneOf [x7], s)
set_option maxHeartbeats 4000000 in
theorem d38 (rec : Rec) (N : Nat) (a0 : Value) (s : St) : callF rec N c38 [a0] s = D38 rec N a0 s := by
  rw [call_f _ _ _ _ _ rfl]
  simp (maxSteps := 4000000) only [c38, lenN, x_seq, x_ops, x_skip, x_ret, x_exit, x_cond, x_block, x_loop, ops_c, ops_n, op1_u, op1_gj, rq_c, rq_n, opQ_u, opQ_g, op2_op2, op2_op, op2_s, op2_cond, thenX_n, thenX_e, thenX_r, blkX_n, blkX_r, blkX_e, finX_r, finX_n, res_n, res_t, op_s, Nat.beq_refl, cond_true]
  first | done | kernel_rfl
def F38 (rec : Rec) (N : Nat) (a0 : Value) (s : St) : Out := opt2 (oNilCheck (.v a0) rec PT.nil s) fun x1 s =>
 opt2 (oLoadN 5 (.v x1) rec PT.nil s) fun x2 s =>
 opt2 (oNew [(.int .i64 0), (.int .i64 0), (.int .i64 0), (.int .i64 0), (.int .u64 0)] rec PT.nil s) fun x3 s =>
 opt2 (oStore 5 (.v x3) (.v x2) rec PT.nil s) fun x4 s =>
 some (oneOf [x3], s)
set_option maxHeartbeats 4000000 in
theorem f38 (rec : Rec) (N : Nat) (a0 : Value) (s : St) : callF rec N c38 [a0] s = F38 rec N a0 s := by
  rw [d38]
  unfold D38 F38
  first
    | done
    | rfl
    | (simp (maxSteps := 4000000) only [mov_v, op2_s]; first | done | kernel_rfl)
    | kernel_rfl
-- c39
def D39 (rec : Rec) (N : Nat) (a0 : Value) (s : St) : Out := opt2 (oMov (.v (.pointer none)) rec PT.nil s) fun x1 s =>
 opt2 (oMov (.v a0) rec PT.nil s) fun x2 s =>
 opt2 (rec 60 [x2] s) fun x3 s =>
 opt2 (oBuild [(.slice none 0 0), (.bool false)] [(0, 1, (.v x3))] rec PT.nil s) fun x4 s =>
 opt2 (oBox (.v x4) rec PT.nil s) fun x5 s =>
 opt2 (oMov (.v x5) rec PT.nil s) fun x6 s =>
 some (oneOf [x6], s)
set_option maxHeartbeats 4000000 in
theorem d39 (rec : Rec) (N : Nat) (a0 : Value) (s : St) : callF rec N c39 [a0] s = D39 rec N a0 s := by
  rw [call_f _ _ _ _ _ rfl]
  simp (maxSteps := 4000000) only [c39, lenN, x_seq, x_ops, x_skip, x_ret, x_exit, x_cond, x_block, x_loop, ops_c, ops_n, op1_u, op1_gj, rq_c, rq_n, opQ_u, opQ_g, op2_op2, op2_op, op2_s, op2_cond, thenX_n, thenX_e, thenX_r, blkX_n, blkX_r, blkX_e, finX_r, finX_n, res_n, res_t, op_s, Nat.beq_refl, cond_true]
  first | done | kernel_rfl
def F39 (rec : Rec) (N : Nat) (a0 : Value) (s : St) : Out := opt2 (rec 60 [a0] s) fun x1 s =>
 opt2 (oBuild [(.slice none 0 0), (.bool false)] [(0, 1, (.v x1))] rec PT.nil s) fun x2 s =>
 opt2 (oBox (.v x2) rec PT.nil s) fun x3 s =>
 some (oneOf [x3], s)
set_option maxHeartbeats 4000000 in
theorem f39 (rec : Rec) (N : Nat) (a0 : Value) (s : St) : callF rec N c39 [a0] s = F39 rec N a0 s := by
  rw [d39]
  unfold D39 F39
  first
    | done
    | rfl
    | (simp (maxSteps := 4000000) only [mov_v, op2_s]; first | done | kernel_rfl)
    | kernel_rfl
-- c40
def D40 (rec : Rec) (N : Nat) (a0 : Value) (s : St) : Out := opt2 (oMov (.v (.int .i64 0)) rec PT.nil s) fun x1 s =>
 opt2 (oMov (.v a0) rec PT.nil s) fun x2 s =>
 opt2 (rec 41 [x2] s) fun x3 s =>
 opt2 (oMov (.v x3) rec PT.nil s) fun x4 s =>
 opt2 (oMov (.v x4) rec PT.nil s) fun x5 s =>
 opt2 (oBin (sh2 shrO) (.v x5) (.v (.int .u64 1)) rec PT.nil s) fun x6 s =>
 opt2 (oConv .i64 (.v x6) rec PT.nil s) fun x7 s =>
 opt2 (oMov (.v x4) rec PT.nil s) fun x8 s =>
 opt2 (oBin (int2 andO) (.v x8) (.v (.int .u64 1)) rec PT.nil s) fun x9 s =>
 opt2 (oConv .i64 (.v x9) rec PT.nil s) fun x10 s =>
 opt2 (oNeg (.v x10) rec PT.nil s) fun x11 s =>
 opt2 (oBin (int2 xorO) (.v x7) (.v x11) rec PT.nil s) fun x12 s =>
 opt2 (oMov (.v x12) rec PT.nil s) fun x13 s =>
 some (oneOf [x13], s)
set_option maxHeartbeats 4000000 in
theorem d40 (rec : Rec) (N : Nat) (a0 : Value) (s : St) : callF rec N c40 [a0] s = D40 rec N a0 s := by
  rw [call_f _ _ _ _ _ rfl]
  simp (maxSteps := 4000000) only [c40, lenN, x_seq, x_ops, x_skip, x_ret, x_exit, x_cond, x_block, x_loop, ops_c, ops_n, op1_u, op1_gj, rq_c, rq_n, opQ_u, opQ_g, op2_op2, op2_op, op2_s, op2_cond, thenX_n, thenX_e, thenX_r, blkX_n, blkX_r, blkX_e, finX_r, finX_n, res_n, res_t, op_s, Nat.beq_refl, cond_true]
  first | done | kernel_rfl
def F40 (rec : Rec) (N : Nat) (a0 : Value) (s : St) : Out := opt2 (rec 41 [a0] s) fun x1 s =>
 opt2 (oBin (sh2 shrO) (.v x1) (.v (.int .u64 1)) rec PT.nil s) fun x2 s =>
 opt2 (oConv .i64 (.v x2) rec PT.nil s) fun x3 s =>
 opt2 (oBin (int2 andO) (.v x1) (.v (.int .u64 1)) rec PT.nil s) fun x4 s =>
 opt2 (oConv .i64 (.v x4) rec PT.nil s) fun x5 s =>
 opt2 (oNeg (.v x5) rec PT.nil s) fun x6 s =>
 opt2 (oBin (int2 xorO) (.v x3) (.v x6) rec PT.nil s) fun x7 s =>
 some (oneOf [x7], s)
set_option maxHeartbeats 4000000 in
theorem f40 (rec : Rec) (N : Nat) (a0 : Value) (s : St) : callF rec N c40 [a0] s = F40 rec N a0 s := by
  rw [d40]
  unfold D40 F40
  first
    | done
    | rfl
    | (simp (maxSteps := 4000000) only [mov_v, op2_s]; first | done | kernel_rfl)
    | kernel_rfl
-- c41
def D41_l0 (rec : Rec) (N : Nat) (fs : Frm) (s : St) : OutX := opt2 (oBin (int2 (cmpO ltI)) (.v (orU (fs.get t11))) (.v (orU (fs.get t10))) rec PT.nil s) fun x1 s =>
 condV x1
 (opt2 (oMov (.v (orU (fs.get t11))) rec PT.nil s) fun x2 s =>
 opt2 (oIdxAddrL 1 (.v (orU (fs.get t9))) (.v (orU (fs.get t11))) rec PT.nil s) fun x3 s =>
 opt2 (oLoad1 (.v x3) rec PT.nil s) fun x4 s =>
 opt2 (oMov (.v x2) rec PT.nil s) fun x5 s =>
 opt2 (oMov (.v x4) rec PT.nil s) fun x6 s =>
 opt2 (oMov (.v x5) rec PT.nil s) fun x7 s =>
 opt2 (oBin (int2 (cmpO eqI)) (.v x7) (.v (.int .i64 9)) rec PT.nil s) fun x8 s =>
 opt2 (oMov (.v x8) rec PT.nil s) fun x9 s =>
 opt (gval true x9) fun x10 => opt2 (orUndef x10 (oMov (.v x6) rec PT.nil s) s) fun x11 s =>
 opt (gval true x9) fun x12 => opt2 (orUndef x12 (oBin (int2 (cmpO gtI)) (.v x11) (.v (.int .u8 1)) rec PT.nil s) s) fun x13 s =>
 opt2 (oPick (.v x9) (.v x13) (.v (.bool false)) rec PT.nil s) fun x14 s =>
 condV x14
 (some ((.exit 0), (PT.put x14 t21 (PT.put x13 t20 (PT.put x11 t19 (PT.put x9 t18 (PT.put x8 t17 (PT.put x7 t16 (PT.put x6 t5 (PT.put x5 t4 (PT.put x4 t15 (PT.put x3 t14 (PT.put x2 t13 (PT.put x1 t12 fs)))))))))))), s))
 (opt2 (oMov (.v (orU (fs.get t3))) rec PT.nil s) fun x15 s =>
 opt2 (oMov (.v x6) rec PT.nil s) fun x16 s =>
 opt2 (oBin (int2 andO) (.v x16) (.v (.int .u8 127)) rec PT.nil s) fun x17 s =>
 opt2 (oConv .u64 (.v x17) rec PT.nil s) fun x18 s =>
 opt2 (oMov (.v x5) rec PT.nil s) fun x19 s =>
 opt2 (oConv .u64 (.v x19) rec PT.nil s) fun x20 s =>
 opt2 (oBin (int2 mulO) (.v (.int .u64 7)) (.v x20) rec PT.nil s) fun x21 s =>
 opt2 (oBin (sh2 shlO) (.v x18) (.v x21) rec PT.nil s) fun x22 s =>
 opt2 (oBin (int2 orO) (.v x15) (.v x22) rec PT.nil s) fun x23 s =>
 opt2 (oMov (.v x23) rec PT.nil s) fun x24 s =>
 opt2 (oMov (.v x6) rec PT.nil s) fun x25 s =>
 opt2 (oBin (int2 (cmpO geI)) (.v x25) (.v (.int .u8 128)) rec PT.nil s) fun x26 s =>
 condV x26
 (opt2 (oBin (int2 addO) (.v (orU (fs.get t11))) (.v (.int .i64 1)) rec PT.nil s) fun x27 s =>
 opt2 (oMov (.v x27) rec PT.nil s) fun x28 s =>
 some (.norm, (PT.put x28 t11 (PT.put x27 t50 (PT.put x26 t32 (PT.put x25 t31 (PT.put x24 t3 (PT.put x23 t30 (PT.put x22 t29 (PT.put x21 t28 (PT.put x20 t27 (PT.put x19 t26 (PT.put x18 t25 (PT.put x17 t24 (PT.put x16 t23 (PT.put x15 t22 (PT.put x14 t21 (PT.put x13 t20 (PT.put x11 t19 (PT.put x9 t18 (PT.put x8 t17 (PT.put x7 t16 (PT.put x6 t5 (PT.put x5 t4 (PT.put x4 t15 (PT.put x3 t14 (PT.put x2 t13 (PT.put x1 t12 fs)))))))))))))))))))))))))), s))
 (opt2 (oMov (.v x6) rec PT.nil s) fun x29 s =>
 opt2 (oBin (int2 (cmpO eqI)) (.v x29) (.v (.int .u8 0)) rec PT.nil s) fun x30 s =>
 opt2 (oMov (.v x30) rec PT.nil s) fun x31 s =>
 opt (gval true x31) fun x32 => opt2 (orUndef x32 (oMov (.v x5) rec PT.nil s) s) fun x33 s =>
 opt (gval true x31) fun x34 => opt2 (orUndef x34 (oBin (int2 (cmpO gtI)) (.v x33) (.v (.int .i64 0)) rec PT.nil s) s) fun x35 s =>
 opt2 (oPick (.v x31) (.v x35) (.v (.bool false)) rec PT.nil s) fun x36 s =>
 condV x36
 (some ((.exit 0), (PT.put x36 t38 (PT.put x35 t37 (PT.put x33 t36 (PT.put x31 t35 (PT.put x30 t34 (PT.put x29 t33 (PT.put x26 t32 (PT.put x25 t31 (PT.put x24 t3 (PT.put x23 t30 (PT.put x22 t29 (PT.put x21 t28 (PT.put x20 t27 (PT.put x19 t26 (PT.put x18 t25 (PT.put x17 t24 (PT.put x16 t23 (PT.put x15 t22 (PT.put x14 t21 (PT.put x13 t20 (PT.put x11 t19 (PT.put x9 t18 (PT.put x8 t17 (PT.put x7 t16 (PT.put x6 t5 (PT.put x5 t4 (PT.put x4 t15 (PT.put x3 t14 (PT.put x2 t13 (PT.put x1 t12 fs)))))))))))))))))))))))))))))), s))
 (opt2 (oMov (.v (orU (fs.get t0))) rec PT.nil s) fun x37 s =>
 opt2 (oMov (.v (orU (fs.get t0))) rec PT.nil s) fun x38 s =>
 opt2 (oNilCheck (.v x38) rec PT.nil s) fun x39 s =>
 opt2 (oFieldAddr 0 (.v x39) rec PT.nil s) fun x40 s =>
 opt2 (oLoad1 (.v x40) rec PT.nil s) fun x41 s =>
 opt2 (oMov (.v x5) rec PT.nil s) fun x42 s =>
 opt2 (oBin (int2 addO) (.v x42) (.v (.int .i64 1)) rec PT.nil s) fun x43 s =>
 opt2 (oSliceL 1 (.v x41) (some (.v x43)) none none rec PT.nil s) fun x44 s =>
 opt2 (oNilCheck (.v x37) rec PT.nil s) fun x45 s =>
 opt2 (oFieldAddr 0 (.v x45) rec PT.nil s) fun x46 s =>
 opt2 (oStore 1 (.v x46) (.v x44) rec PT.nil s) fun x47 s =>
 opt2 (oMov (.v x24) rec PT.nil s) fun x48 s =>
 opt2 (oMov (.v x48) rec PT.nil s) fun x49 s =>
 some (.ret, (PT.put x49 t2 (PT.put x48 t49 (PT.put x46 t48 (PT.put x45 t47 (PT.put x44 t46 (PT.put x43 t45 (PT.put x42 t44 (PT.put x41 t43 (PT.put x40 t42 (PT.put x39 t41 (PT.put x38 t40 (PT.put x37 t39 (PT.put x36 t38 (PT.put x35 t37 (PT.put x33 t36 (PT.put x31 t35 (PT.put x30 t34 (PT.put x29 t33 (PT.put x26 t32 (PT.put x25 t31 (PT.put x24 t3 (PT.put x23 t30 (PT.put x22 t29 (PT.put x21 t28 (PT.put x20 t27 (PT.put x19 t26 (PT.put x18 t25 (PT.put x17 t24 (PT.put x16 t23 (PT.put x15 t22 (PT.put x14 t21 (PT.put x13 t20 (PT.put x11 t19 (PT.put x9 t18 (PT.put x8 t17 (PT.put x7 t16 (PT.put x6 t5 (PT.put x5 t4 (PT.put x4 t15 (PT.put x3 t14 (PT.put x2 t13 (PT.put x1 t12 fs)))))))))))))))))))))))))))))))))))))))))), s)))))
 (some ((.exit 0), (PT.put x1 t12 fs), s))
set_option maxHeartbeats 4000000 in
theorem d41_l0 (rec : Rec) (N : Nat) (fs : Frm) (s : St) : c41_l0 rec N fs s = D41_l0 rec N fs s := by
  simp (maxSteps := 4000000) only [c41_l0, lenN, x_seq, x_ops, x_skip, x_ret, x_exit, x_cond, x_block, x_loop, ops_c, ops_n, op1_u, op1_gj, rq_c, rq_n, opQ_u, opQ_g, op2_op2, op2_op, op2_s, op2_cond, thenX_n, thenX_e, thenX_r, blkX_n, blkX_r, blkX_e, finX_r, finX_n, res_n, res_t, op_s, Nat.beq_refl, cond_true]
  first | done | kernel_rfl
def D41_r0 (rec : Rec) (N : Nat) (fs : Frm) (s : St) : OutX := opt2 (oMov (.v (orU (fs.get t0))) rec PT.nil s) fun x1 s =>
 opt2 (rec 61 [x1] s) fun x2 s =>
 opt2 (oMov (.v (.int .u64 0)) rec PT.nil s) fun x3 s =>
 some (.ret, (PT.put x3 t2 (PT.put x2 t52 (PT.put x1 t51 fs))), s)
set_option maxHeartbeats 4000000 in
theorem d41_r0 (rec : Rec) (N : Nat) (fs : Frm) (s : St) : c41_r0 rec N fs s = D41_r0 rec N fs s := by
  simp (maxSteps := 4000000) only [c41_r0, lenN, x_seq, x_ops, x_skip, x_ret, x_exit, x_cond, x_block, x_loop, ops_c, ops_n, op1_u, op1_gj, rq_c, rq_n, opQ_u, opQ_g, op2_op2, op2_op, op2_s, op2_cond, thenX_n, thenX_e, thenX_r, blkX_n, blkX_r, blkX_e, finX_r, finX_n, res_n, res_t, op_s, Nat.beq_refl, cond_true]
  first | done | kernel_rfl
def D41 (rec : Rec) (N : Nat) (a0 : Value) (s : St) : Out := opt2 (oMov (.v (.int .u64 0)) rec PT.nil s) fun x1 s =>
 opt2 (oMov (.v (.int .u64 0)) rec PT.nil s) fun x2 s =>
 opt2 (oMov (.v a0) rec PT.nil s) fun x3 s =>
 opt2 (oNilCheck (.v x3) rec PT.nil s) fun x4 s =>
 opt2 (oFieldAddr 0 (.v x4) rec PT.nil s) fun x5 s =>
 opt2 (oLoad1 (.v x5) rec PT.nil s) fun x6 s =>
 opt2 (oLenL (.v x6) rec PT.nil s) fun x7 s =>
 opt2 (oMov (.v (.int .i64 0)) rec PT.nil s) fun x8 s =>
 opt2 (loopF (c41_l0 rec N) N (PT.put x8 t11 (PT.put x7 t10 (PT.put x6 t9 (PT.put x5 t8 (PT.put x4 t7 (PT.put x3 t6 (PT.put x2 t3 (PT.put x1 t2 (PT.put a0 t0 PT.nil))))))))) s) fun e r => opt2 (blkX 0 e r) fun e r => opt2 (thenX (c41_r0 rec N) e r) fun e r => finX [.tmp t2] e r
set_option maxHeartbeats 4000000 in
theorem d41 (rec : Rec) (N : Nat) (a0 : Value) (s : St) : callF rec N c41 [a0] s = D41 rec N a0 s := by
  rw [call_f _ _ _ _ _ rfl]
  simp (maxSteps := 4000000) only [c41, lenN, x_seq, x_ops, x_skip, x_ret, x_exit, x_cond, x_block, x_loop, ops_c, ops_n, op1_u, op1_gj, rq_c, rq_n, opQ_u, opQ_g, op2_op2, op2_op, op2_s, op2_cond, thenX_n, thenX_e, thenX_r, blkX_n, blkX_r, blkX_e, finX_r, finX_n, res_n, res_t, op_s, Nat.beq_refl, cond_true]
  first | done | kernel_rfl
def J41_r0 (rec : Rec) (N : Nat) (k : Value) (s : St) : Out := opt2 (rec 61 [k] s) fun x1 s =>
 some (oneOf [(.int .u64 0)], s)
set_option maxHeartbeats 4000000 in
theorem j41_r0 (rec : Rec) (N : Nat) (fs : Frm) (s : St) : opt2 (c41_r0 rec N fs s) (fun e r => finX [.tmp t2] e r) = J41_r0 rec N (orU (fs.get t0)) s := by
  rw [d41_r0]
  unfold D41_r0 J41_r0
  simp (maxSteps := 4000000) only [thenX_n, thenX_e, thenX_r, x_exit, x_skip, x_ret, blkX_n, blkX_r, blkX_e, finX_r, finX_n, res_n, res_t, op2_op2, op2_op, op2_s, op2_cond, op2_bf, mov_v]
  first | done | kernel_rfl
def B41_l0 (rec : Rec) (N : Nat) (k : Value × Value × Value) (v : Value × Value × Value) (s : St) : OutV (Value × Value × Value) := opt2 (oBin (int2 (cmpO ltI)) (.v v.2.2) (.v k.2.2) rec PT.nil s) fun x1 s =>
 condV x1
 (opt2 (oIdxAddrL 1 (.v k.2.1) (.v v.2.2) rec PT.nil s) fun x2 s =>
 opt2 (oLoad1 (.v x2) rec PT.nil s) fun x3 s =>
 opt2 (oBin (int2 (cmpO eqI)) (.v v.2.2) (.v (.int .i64 9)) rec PT.nil s) fun x4 s =>
 opt (gval true x4) fun x5 => opt2 (orUndef x5 (some (x3, s)) s) fun x6 s =>
 opt (gval true x4) fun x7 => opt2 (orUndef x7 (oBin (int2 (cmpO gtI)) (.v x6) (.v (.int .u8 1)) rec PT.nil s) s) fun x8 s =>
 opt2 (oPick (.v x4) (.v x8) (.v (.bool false)) rec PT.nil s) fun x9 s =>
 condV x9
 (some ((.exit 0), ((v.1, v.2.1, v.2.2), s)))
 (opt2 (oBin (int2 andO) (.v x3) (.v (.int .u8 127)) rec PT.nil s) fun x10 s =>
 opt2 (oConv .u64 (.v x10) rec PT.nil s) fun x11 s =>
 opt2 (oConv .u64 (.v v.2.2) rec PT.nil s) fun x12 s =>
 opt2 (oBin (int2 mulO) (.v (.int .u64 7)) (.v x12) rec PT.nil s) fun x13 s =>
 opt2 (oBin (sh2 shlO) (.v x11) (.v x13) rec PT.nil s) fun x14 s =>
 opt2 (oBin (int2 orO) (.v v.2.1) (.v x14) rec PT.nil s) fun x15 s =>
 opt2 (oBin (int2 (cmpO geI)) (.v x3) (.v (.int .u8 128)) rec PT.nil s) fun x16 s =>
 condV x16
 (opt2 (oBin (int2 addO) (.v v.2.2) (.v (.int .i64 1)) rec PT.nil s) fun x17 s =>
 some (.norm, ((v.1, x15, x17), s)))
 (opt2 (oBin (int2 (cmpO eqI)) (.v x3) (.v (.int .u8 0)) rec PT.nil s) fun x18 s =>
 opt (gval true x18) fun x19 => opt2 (orUndef x19 (some (v.2.2, s)) s) fun x20 s =>
 opt (gval true x18) fun x21 => opt2 (orUndef x21 (oBin (int2 (cmpO gtI)) (.v x20) (.v (.int .i64 0)) rec PT.nil s) s) fun x22 s =>
 opt2 (oPick (.v x18) (.v x22) (.v (.bool false)) rec PT.nil s) fun x23 s =>
 condV x23
 (some ((.exit 0), ((v.1, x15, v.2.2), s)))
 (opt2 (oNilCheck (.v k.1) rec PT.nil s) fun x24 s =>
 opt2 (oFieldAddr 0 (.v x24) rec PT.nil s) fun x25 s =>
 opt2 (oLoad1 (.v x25) rec PT.nil s) fun x26 s =>
 opt2 (oBin (int2 addO) (.v v.2.2) (.v (.int .i64 1)) rec PT.nil s) fun x27 s =>
 opt2 (oSliceL 1 (.v x26) (some (.v x27)) none none rec PT.nil s) fun x28 s =>
 opt2 (oNilCheck (.v k.1) rec PT.nil s) fun x29 s =>
 opt2 (oFieldAddr 0 (.v x29) rec PT.nil s) fun x30 s =>
 opt2 (oStore 1 (.v x30) (.v x28) rec PT.nil s) fun x31 s =>
 some (.ret, ((x15, x15, v.2.2), s))))))
 (some ((.exit 0), ((v.1, v.2.1, v.2.2), s)))
set_option maxHeartbeats 4000000 in
theorem s41_l0 (rec : Rec) (N : Nat) (fs : Frm) (s : St) : opt2 (c41_l0 rec N fs s) (fun e r => some (e, (((orU (r.1.get t2), orU (r.1.get t3), orU (r.1.get t11)), (orU (r.1.get t0), orU (r.1.get t9), orU (r.1.get t10))), r.2))) = opt2 (B41_l0 rec N (orU (fs.get t0), orU (fs.get t9), orU (fs.get t10)) (orU (fs.get t2), orU (fs.get t3), orU (fs.get t11)) s) fun e r => some (e, ((r.1, (orU (fs.get t0), orU (fs.get t9), orU (fs.get t10))), r.2)) := by
  rw [d41_l0]
  unfold D41_l0 B41_l0
  simp (maxSteps := 4000000) only [op2_op2, op2_op, op2_s, op2_cond, op2_bf, mov_v]
  first | done | kernel_rfl
def C41_l0 (rec : Rec) (N : Nat) (k : Value × Value × Value) (e : AExit) (r : (Value × Value × Value) × St) : Out := (fun s => exV (fun i => bif Nat.beq i 0 then (J41_r0 rec N k.1 s)
 else (none))
 (some (oneOf [r.1.1], s)) e) r.2
theorem j41_l0 (rec : Rec) (N : Nat) (fs : Frm) (s : St) : opt2 (loopF (c41_l0 rec N) N fs s) (fun e r => opt2 (blkX 0 e r) fun e r => opt2 (thenX (c41_r0 rec N) e r) fun e r => finX [.tmp t2] e r) = opt2 (loopV (B41_l0 rec N (orU (fs.get t0), orU (fs.get t9), orU (fs.get t10))) N (orU (fs.get t2), orU (fs.get t3), orU (fs.get t11)) s) (C41_l0 rec N (orU (fs.get t0), orU (fs.get t9), orU (fs.get t10))) := by
  refine loop_j (fun fs => (orU (fs.get t2), orU (fs.get t3), orU (fs.get t11))) (fun fs => (orU (fs.get t0), orU (fs.get t9), orU (fs.get t10))) (B41_l0 rec N) (c41_l0 rec N) (s41_l0 rec N) (fun e r => opt2 (blkX 0 e r) fun e r => opt2 (thenX (c41_r0 rec N) e r) fun e r => finX [.tmp t2] e r) (C41_l0 rec N) ?_ ?_ N fs s
  · intro i fs s
    unfold C41_l0
    simp (maxSteps := 4000000) only [thenX_n, thenX_e, thenX_r, x_exit, x_skip, x_ret, blkX_n, blkX_r, blkX_e, finX_r, finX_n, res_n, res_t, exV_e, exV_r, op2_op2, op2_op, op2_s, op2_cond, op2_bf, mov_v, j41_r0 rec N]
    first | done | kernel_rfl
  · intro fs s
    unfold C41_l0
    simp (maxSteps := 4000000) only [thenX_n, thenX_e, thenX_r, x_exit, x_skip, x_ret, blkX_n, blkX_r, blkX_e, finX_r, finX_n, res_n, res_t, exV_e, exV_r, op2_op2, op2_op, op2_s, op2_cond, op2_bf, mov_v, j41_r0 rec N]
    first | done | kernel_rfl
def F41 (rec : Rec) (N : Nat) (a0 : Value) (s : St) : Out := opt2 (oNilCheck (.v a0) rec PT.nil s) fun x1 s =>
 opt2 (oFieldAddr 0 (.v x1) rec PT.nil s) fun x2 s =>
 opt2 (oLoad1 (.v x2) rec PT.nil s) fun x3 s =>
 opt2 (oLenL (.v x3) rec PT.nil s) fun x4 s =>
 opt2 (loopV (B41_l0 rec N (a0, x3, x4)) N ((.int .u64 0), (.int .u64 0), (.int .i64 0)) s) (C41_l0 rec N (a0, x3, x4))
theorem f41 (rec : Rec) (N : Nat) (a0 : Value) (s : St) : callF rec N c41 [a0] s = F41 rec N a0 s := by
  rw [d41]
  unfold D41 F41
  simp (maxSteps := 4000000) only [mov_v, op2_s, j41_l0 rec N]
  first | done | kernel_rfl
end
end Go.Proofs.Ytdnedangfnincaa.AbsAccO
