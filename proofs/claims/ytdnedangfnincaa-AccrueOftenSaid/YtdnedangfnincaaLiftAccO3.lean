import Derived.Test.YtdnedangfnincaaAbsAccOE
import Derived.Test.YtdnedangfnincaaAbsZL
namespace Go.Proofs.Ytdnedangfnincaa.AbsAccO
open Go Go.Abs Go.Proofs
set_option maxRecDepth 100000
set_option linter.unusedVariables false
set_option linter.unusedSimpArgs false
noncomputable section
-- c42
def D42 (rec : Rec) (N : Nat) (a0 : Value) (s : St) : Out := opt2 (oMov (.v (.bool false)) rec PT.nil s) fun x1 s =>
 opt2 (oMov (.v a0) rec PT.nil s) fun x2 s =>
 opt2 (oNilCheck (.v x2) rec PT.nil s) fun x3 s =>
 opt2 (oFieldAddr 1 (.v x3) rec PT.nil s) fun x4 s =>
 opt2 (oLoad1 (.v x4) rec PT.nil s) fun x5 s =>
 opt2 (oMov (.v x5) rec PT.nil s) fun x6 s =>
 some (oneOf [x6], s)
set_option maxHeartbeats 4000000 in
theorem d42 (rec : Rec) (N : Nat) (a0 : Value) (s : St) : callF rec N c42 [a0] s = D42 rec N a0 s := by
  rw [call_f _ _ _ _ _ rfl]
  simp (maxSteps := 4000000) only [c42, lenN, x_seq, x_ops, x_skip, x_ret, x_exit, x_cond, x_block, x_loop, ops_c, ops_n, op1_u, op1_gj, rq_c, rq_n, opQ_u, opQ_g, op2_op2, op2_op, op2_s, op2_cond, thenX_n, thenX_e, thenX_r, blkX_n, blkX_r, blkX_e, finX_r, finX_n, res_n, res_t, op_s, Nat.beq_refl, cond_true]
  first | done | kernel_rfl
def F42 (rec : Rec) (N : Nat) (a0 : Value) (s : St) : Out := opt2 (oNilCheck (.v a0) rec PT.nil s) fun x1 s =>
 opt2 (oFieldAddr 1 (.v x1) rec PT.nil s) fun x2 s =>
 opt2 (oLoad1 (.v x2) rec PT.nil s) fun x3 s =>
 some (oneOf [x3], s)
set_option maxHeartbeats 4000000 in
theorem f42 (rec : Rec) (N : Nat) (a0 : Value) (s : St) : callF rec N c42 [a0] s = F42 rec N a0 s := by
  rw [d42]
  unfold D42 F42
  first
    | done
    | rfl
    | (simp (maxSteps := 4000000) only [mov_v, op2_s]; first | done | kernel_rfl)
    | kernel_rfl
-- c43
def D43 (rec : Rec) (N : Nat) (a0 : Value) (s : St) : Out := opt2 (oMov (.v (.int .i64 0)) rec PT.nil s) fun x1 s =>
 opt2 (oMov (.v a0) rec PT.nil s) fun x2 s =>
 opt2 (oNilCheck (.v x2) rec PT.nil s) fun x3 s =>
 opt2 (oFieldAddr 0 (.v x3) rec PT.nil s) fun x4 s =>
 opt2 (oLoad1 (.v x4) rec PT.nil s) fun x5 s =>
 opt2 (oLenL (.v x5) rec PT.nil s) fun x6 s =>
 opt2 (oMov (.v x6) rec PT.nil s) fun x7 s =>
 some (oneOf [x7], s)
set_option maxHeartbeats 4000000 in
theorem d43 (rec : Rec) (N : Nat) (a0 : Value) (s : St) : callF rec N c43 [a0] s = D43 rec N a0 s := by
  rw [call_f _ _ _ _ _ rfl]
  simp (maxSteps := 4000000) only [c43, lenN, x_seq, x_ops, x_skip, x_ret, x_exit, x_cond, x_block, x_loop, ops_c, ops_n, op1_u, op1_gj, rq_c, rq_n, opQ_u, opQ_g, op2_op2, op2_op, op2_s, op2_cond, thenX_n, thenX_e, thenX_r, blkX_n, blkX_r, blkX_e, finX_r, finX_n, res_n, res_t, op_s, Nat.beq_refl, cond_true]
  first | done | kernel_rfl
def F43 (rec : Rec) (N : Nat) (a0 : Value) (s : St) : Out := opt2 (oNilCheck (.v a0) rec PT.nil s) fun x1 s =>
 opt2 (oFieldAddr 0 (.v x1) rec PT.nil s) fun x2 s =>
 opt2 (oLoad1 (.v x2) rec PT.nil s) fun x3 s =>
 opt2 (oLenL (.v x3) rec PT.nil s) fun x4 s =>
 some (oneOf [x4], s)
set_option maxHeartbeats 4000000 in
theorem f43 (rec : Rec) (N : Nat) (a0 : Value) (s : St) : callF rec N c43 [a0] s = F43 rec N a0 s := by
  rw [d43]
  unfold D43 F43
  first
    | done
    | rfl
    | (simp (maxSteps := 4000000) only [mov_v, op2_s]; first | done | kernel_rfl)
    | kernel_rfl
-- c44
def D44_q0 (rec : Rec) (fs : Frm) (s : St) : Option (Frm × St) := opt (gval true (orU (fs.get t21))) fun x1 => opt2 (orUndef x1 (oFieldAddr 1 (.v (orU (fs.get t3))) rec PT.nil s) s) fun x2 s =>
 opt (gval true (orU (fs.get t21))) fun x3 => opt2 (orUndef x3 (oLoad1 (.v x2) rec PT.nil s) s) fun x4 s =>
 opt (gval true (orU (fs.get t21))) fun x5 => opt2 (orUndef x5 (oBin (int2 (cmpO ltI)) (.v (orU (fs.get t23))) (.v x4) rec PT.nil s) s) fun x6 s =>
 opt (gval false (orU (fs.get t15))) fun x7 => opt2 (orUndef x7 (oPick (.v (orU (fs.get t21))) (.v x6) (.v (.bool false)) rec PT.nil s) s) fun x8 s =>
 opt2 (oPick (.v (orU (fs.get t15))) (.v (.bool true)) (.v x8) rec PT.nil s) fun x9 s =>
 opt2 (oMov (.v x9) rec PT.nil s) fun x10 s =>
 some ((PT.put x10 t9 (PT.put x9 t28 (PT.put x8 t27 (PT.put x6 t26 (PT.put x4 t25 (PT.put x2 t24 fs)))))), s)
set_option maxHeartbeats 4000000 in
theorem d44_q0 (rec : Rec) (fs : Frm) (s : St) : runOps rec c44_q0 fs s = D44_q0 rec fs s := by
  simp (maxSteps := 4000000) only [c44_q0, ops_c, ops_n, op1_u, op1_gj, rq_c, rq_n, opQ_u, opQ_g, op2_op2, op2_op, op2_s]
  first | done | kernel_rfl
def D44_j0 (rec : Rec) (N : Nat) (fs : Frm) (s : St) : OutX := condV (orU (fs.get t9))
 (opt2 (oMov (.v (.int .i64 (-1))) rec PT.nil s) fun x1 s =>
 some (.ret, (PT.put x1 t4 fs), s))
 (some (.norm, fs, s))
set_option maxHeartbeats 4000000 in
theorem d44_j0 (rec : Rec) (N : Nat) (fs : Frm) (s : St) : c44_j0 rec N fs s = D44_j0 rec N fs s := by
  simp (maxSteps := 4000000) only [c44_j0, lenN, x_seq, x_ops, x_skip, x_ret, x_exit, x_cond, x_block, x_loop, ops_c, ops_n, op1_u, op1_gj, rq_c, rq_n, opQ_u, opQ_g, op2_op2, op2_op, op2_s, op2_cond, thenX_n, thenX_e, thenX_r, blkX_n, blkX_r, blkX_e, finX_r, finX_n, res_n, res_t, op_s, Nat.beq_refl, cond_true]
  first | done | kernel_rfl
def D44_j1 (rec : Rec) (N : Nat) (fs : Frm) (s : St) : OutX := opt2 (oMov (.v (.int .i64 1)) rec PT.nil s) fun x1 s =>
 some (.ret, (PT.put x1 t4 fs), s)
set_option maxHeartbeats 4000000 in
theorem d44_j1 (rec : Rec) (N : Nat) (fs : Frm) (s : St) : c44_j1 rec N fs s = D44_j1 rec N fs s := by
  simp (maxSteps := 4000000) only [c44_j1, lenN, x_seq, x_ops, x_skip, x_ret, x_exit, x_cond, x_block, x_loop, ops_c, ops_n, op1_u, op1_gj, rq_c, rq_n, opQ_u, opQ_g, op2_op2, op2_op, op2_s, op2_cond, thenX_n, thenX_e, thenX_r, blkX_n, blkX_r, blkX_e, finX_r, finX_n, res_n, res_t, op_s, Nat.beq_refl, cond_true]
  first | done | kernel_rfl
def D44 (rec : Rec) (N : Nat) (a0 : Value) (a1 : Value) (s : St) : Out := opt2 (oBox (.v a0) rec PT.nil s) fun x1 s =>
 opt2 (oBox (.v a1) rec PT.nil s) fun x2 s =>
 opt2 (oMov (.v (.int .i64 0)) rec PT.nil s) fun x3 s =>
 opt2 (oLoadN 2 (.v x1) rec PT.nil s) fun x4 s =>
 opt2 (oLoadN 2 (.v x2) rec PT.nil s) fun x5 s =>
 opt2 (oEqs false [(0, eqN), (1, eqN)] (.v x4) (.v x5) rec PT.nil s) fun x6 s =>
 opt2 (oMov (.v x6) rec PT.nil s) fun x7 s =>
 condV x7
 (opt2 (oMov (.v (.int .i64 0)) rec PT.nil s) fun x8 s =>
 some (oneOf [x8], s))
 (opt2 (oFieldAddr 0 (.v x1) rec PT.nil s) fun x9 s =>
 opt2 (oLoad1 (.v x9) rec PT.nil s) fun x10 s =>
 opt2 (oFieldAddr 0 (.v x2) rec PT.nil s) fun x11 s =>
 opt2 (oLoad1 (.v x11) rec PT.nil s) fun x12 s =>
 opt2 (oBin (int2 (cmpO ltI)) (.v x10) (.v x12) rec PT.nil s) fun x13 s =>
 opt2 (oMov (.v x13) rec PT.nil s) fun x14 s =>
 opt (gval false x14) fun x15 => opt2 (orUndef x15 (oFieldAddr 0 (.v x1) rec PT.nil s) s) fun x16 s =>
 opt (gval false x14) fun x17 => opt2 (orUndef x17 (oLoad1 (.v x16) rec PT.nil s) s) fun x18 s =>
 opt (gval false x14) fun x19 => opt2 (orUndef x19 (oFieldAddr 0 (.v x2) rec PT.nil s) s) fun x20 s =>
 opt (gval false x14) fun x21 => opt2 (orUndef x21 (oLoad1 (.v x20) rec PT.nil s) s) fun x22 s =>
 opt (gval false x14) fun x23 => opt2 (orUndef x23 (oBin (int2 (cmpO eqI)) (.v x18) (.v x22) rec PT.nil s) s) fun x24 s =>
 opt (gval false x14) fun x25 => opt2 (orUndef x25 (oMov (.v x24) rec PT.nil s) s) fun x26 s =>
 opt (gval true x26) fun x27 => opt2 (orUndef x27 (oFieldAddr 1 (.v x1) rec PT.nil s) s) fun x28 s =>
 opt (gval true x26) fun x29 => opt2 (orUndef x29 (oLoad1 (.v x28) rec PT.nil s) s) fun x30 s =>
 opt2 (runOps rec c44_q0 (PT.put x30 t23 (PT.put x28 t22 (PT.put x26 t21 (PT.put x24 t20 (PT.put x22 t19 (PT.put x20 t18 (PT.put x18 t17 (PT.put x16 t16 (PT.put x14 t15 (PT.put x13 t14 (PT.put x12 t13 (PT.put x11 t12 (PT.put x10 t11 (PT.put x9 t10 (PT.put x7 t5 (PT.put x6 t8 (PT.put x5 t7 (PT.put x4 t6 (PT.put x3 t4 (PT.put x2 t3 (PT.put x1 t2 (PT.put a1 t1 (PT.put a0 t0 PT.nil))))))))))))))))))))))) s) fun fs s =>
 opt2 (c44_j0 rec N fs s) fun e r => opt2 (blkX 0 e r) fun e r => opt2 (thenX (c44_j1 rec N) e r) fun e r => finX [.tmp t4] e r)
set_option maxHeartbeats 4000000 in
theorem d44 (rec : Rec) (N : Nat) (a0 : Value) (a1 : Value) (s : St) : callF rec N c44 [a0, a1] s = D44 rec N a0 a1 s := by
  rw [call_f _ _ _ _ _ rfl]
  simp (maxSteps := 4000000) only [c44, lenN, x_seq, x_ops, x_skip, x_ret, x_exit, x_cond, x_block, x_loop, ops_c, ops_n, op1_u, op1_gj, rq_c, rq_n, opQ_u, opQ_g, op2_op2, op2_op, op2_s, op2_cond, thenX_n, thenX_e, thenX_r, blkX_n, blkX_r, blkX_e, finX_r, finX_n, res_n, res_t, op_s, Nat.beq_refl, cond_true]
  first | done | kernel_rfl
def J44_j1 (rec : Rec) (N : Nat) (k : Unit) (s : St) : Out := some (oneOf [(.int .i64 1)], s)
set_option maxHeartbeats 4000000 in
theorem j44_j1 (rec : Rec) (N : Nat) (fs : Frm) (s : St) : opt2 (c44_j1 rec N fs s) (fun e r => finX [.tmp t4] e r) = J44_j1 rec N () s := by
  rw [d44_j1]
  unfold D44_j1 J44_j1
  simp (maxSteps := 4000000) only [thenX_n, thenX_e, thenX_r, x_exit, x_skip, x_ret, blkX_n, blkX_r, blkX_e, finX_r, finX_n, res_n, res_t, op2_op2, op2_op, op2_s, op2_cond, op2_bf, mov_v]
  first | done | kernel_rfl
def J44_j0 (rec : Rec) (N : Nat) (k : Value) (s : St) : Out := condV k
 (some (oneOf [(.int .i64 (-1))], s))
 (J44_j1 rec N () s)
set_option maxHeartbeats 4000000 in
theorem j44_j0 (rec : Rec) (N : Nat) (fs : Frm) (s : St) : opt2 (c44_j0 rec N fs s) (fun e r => opt2 (blkX 0 e r) fun e r => opt2 (thenX (c44_j1 rec N) e r) fun e r => finX [.tmp t4] e r) = J44_j0 rec N (orU (fs.get t9)) s := by
  rw [d44_j0]
  unfold D44_j0 J44_j0
  simp (maxSteps := 4000000) only [thenX_n, thenX_e, thenX_r, x_exit, x_skip, x_ret, blkX_n, blkX_r, blkX_e, finX_r, finX_n, res_n, res_t, op2_op2, op2_op, op2_s, op2_cond, op2_bf, mov_v, j44_j1 rec N]
  first | done | kernel_rfl
def Q44_q0 (rec : Rec) (N : Nat) (k : Value × Value × Value × Value) (s : St) : Out := opt (gval true k.2.2.1) fun x1 => opt2 (orUndef x1 (oFieldAddr 1 (.v k.1) rec PT.nil s) s) fun x2 s =>
 opt (gval true k.2.2.1) fun x3 => opt2 (orUndef x3 (oLoad1 (.v x2) rec PT.nil s) s) fun x4 s =>
 opt (gval true k.2.2.1) fun x5 => opt2 (orUndef x5 (oBin (int2 (cmpO ltI)) (.v k.2.2.2) (.v x4) rec PT.nil s) s) fun x6 s =>
 opt (gval false k.2.1) fun x7 => opt2 (orUndef x7 (oPick (.v k.2.2.1) (.v x6) (.v (.bool false)) rec PT.nil s) s) fun x8 s =>
 opt2 (oPick (.v k.2.1) (.v (.bool true)) (.v x8) rec PT.nil s) fun x9 s =>
 J44_j0 rec N x9 s
set_option maxHeartbeats 4000000 in
theorem j44_q0 (rec : Rec) (N : Nat) (fs : Frm) (s : St) : opt2 (runOps rec c44_q0 fs s) (fun fs s => opt2 (c44_j0 rec N fs s) fun e r => opt2 (blkX 0 e r) fun e r => opt2 (thenX (c44_j1 rec N) e r) fun e r => finX [.tmp t4] e r) = Q44_q0 rec N (orU (fs.get t3), orU (fs.get t15), orU (fs.get t21), orU (fs.get t23)) s := by
  rw [d44_q0]
  unfold D44_q0 Q44_q0
  simp (maxSteps := 4000000) only [thenX_n, thenX_e, thenX_r, x_exit, x_skip, x_ret, blkX_n, blkX_r, blkX_e, finX_r, finX_n, res_n, res_t, op2_op2, op2_op, op2_s, op2_cond, op2_bf, mov_v, j44_j0 rec N]
  first | done | kernel_rfl
def F44 (rec : Rec) (N : Nat) (a0 : Value) (a1 : Value) (s : St) : Out := opt2 (oBox (.v a0) rec PT.nil s) fun x1 s =>
 opt2 (oBox (.v a1) rec PT.nil s) fun x2 s =>
 opt2 (oLoadN 2 (.v x1) rec PT.nil s) fun x3 s =>
 opt2 (oLoadN 2 (.v x2) rec PT.nil s) fun x4 s =>
 opt2 (oEqs false [(0, eqN), (1, eqN)] (.v x3) (.v x4) rec PT.nil s) fun x5 s =>
 condV x5
 (some (oneOf [(.int .i64 0)], s))
 (opt2 (oFieldAddr 0 (.v x1) rec PT.nil s) fun x6 s =>
 opt2 (oLoad1 (.v x6) rec PT.nil s) fun x7 s =>
 opt2 (oFieldAddr 0 (.v x2) rec PT.nil s) fun x8 s =>
 opt2 (oLoad1 (.v x8) rec PT.nil s) fun x9 s =>
 opt2 (oBin (int2 (cmpO ltI)) (.v x7) (.v x9) rec PT.nil s) fun x10 s =>
 opt (gval false x10) fun x11 => opt2 (orUndef x11 (oFieldAddr 0 (.v x1) rec PT.nil s) s) fun x12 s =>
 opt (gval false x10) fun x13 => opt2 (orUndef x13 (oLoad1 (.v x12) rec PT.nil s) s) fun x14 s =>
 opt (gval false x10) fun x15 => opt2 (orUndef x15 (oFieldAddr 0 (.v x2) rec PT.nil s) s) fun x16 s =>
 opt (gval false x10) fun x17 => opt2 (orUndef x17 (oLoad1 (.v x16) rec PT.nil s) s) fun x18 s =>
 opt (gval false x10) fun x19 => opt2 (orUndef x19 (oBin (int2 (cmpO eqI)) (.v x14) (.v x18) rec PT.nil s) s) fun x20 s =>
 opt (gval false x10) fun x21 => opt2 (orUndef x21 (some (x20, s)) s) fun x22 s =>
 opt (gval true x22) fun x23 => opt2 (orUndef x23 (oFieldAddr 1 (.v x1) rec PT.nil s) s) fun x24 s =>
 opt (gval true x22) fun x25 => opt2 (orUndef x25 (oLoad1 (.v x24) rec PT.nil s) s) fun x26 s =>
 Q44_q0 rec N (x2, x10, x22, x26) s)
theorem f44 (rec : Rec) (N : Nat) (a0 : Value) (a1 : Value) (s : St) : callF rec N c44 [a0, a1] s = F44 rec N a0 a1 s := by
  rw [d44]
  unfold D44 F44
  simp (maxSteps := 4000000) only [mov_v, op2_s, j44_q0 rec N]
  first | done | kernel_rfl
-- c45
def D45 (rec : Rec) (N : Nat) (a0 : Value) (a1 : Value) (s : St) : Out := opt2 (oMov (.v (.int .i64 0)) rec PT.nil s) fun x1 s =>
 opt2 (oMov (.v a1) rec PT.nil s) fun x2 s =>
 opt2 (oBin (int2 (cmpO ltI)) (.v x2) (.v (.int .i64 0)) rec PT.nil s) fun x3 s =>
 opt2 (oMov (.v x3) rec PT.nil s) fun x4 s =>
 opt (gval false x4) fun x5 => opt2 (orUndef x5 (oMov (.v a1) rec PT.nil s) s) fun x6 s =>
 opt (gval false x4) fun x7 => opt2 (orUndef x7 (oBin (int2 (cmpO gtI)) (.v x6) (.v (.int .i64 109572)) rec PT.nil s) s) fun x8 s =>
 opt2 (oPick (.v x4) (.v (.bool true)) (.v x8) rec PT.nil s) fun x9 s =>
 opt2 (oMov (.v x9) rec PT.nil s) fun x10 s =>
 condV x10
 (opt2 (oMov (.v (.int .i64 12)) rec PT.nil s) fun x11 s =>
 some (oneOf [x11], s))
 (opt2 (oMov (.v a1) rec PT.nil s) fun x12 s =>
 opt2 (oMov (.v a0) rec PT.nil s) fun x13 s =>
 opt2 (oNilCheck (.v x13) rec PT.nil s) fun x14 s =>
 opt2 (oFieldAddr 0 (.v x14) rec PT.nil s) fun x15 s =>
 opt2 (oLoad1 (.v x15) rec PT.nil s) fun x16 s =>
 opt2 (oBin (int2 (cmpO ltI)) (.v x12) (.v x16) rec PT.nil s) fun x17 s =>
 opt2 (oMov (.v x17) rec PT.nil s) fun x18 s =>
 condV x18
 (opt2 (oMov (.v (.int .i64 14)) rec PT.nil s) fun x19 s =>
 some (oneOf [x19], s))
 (opt2 (oMov (.v (.int .i64 0)) rec PT.nil s) fun x20 s =>
 some (oneOf [x20], s)))
set_option maxHeartbeats 4000000 in
theorem d45 (rec : Rec) (N : Nat) (a0 : Value) (a1 : Value) (s : St) : callF rec N c45 [a0, a1] s = D45 rec N a0 a1 s := by
  rw [call_f _ _ _ _ _ rfl]
  simp (maxSteps := 4000000) only [c45, lenN, x_seq, x_ops, x_skip, x_ret, x_exit, x_cond, x_block, x_loop, ops_c, ops_n, op1_u, op1_gj, rq_c, rq_n, opQ_u, opQ_g, op2_op2, op2_op, op2_s, op2_cond, thenX_n, thenX_e, thenX_r, blkX_n, blkX_r, blkX_e, finX_r, finX_n, res_n, res_t, op_s, Nat.beq_refl, cond_true]
  first | done | kernel_rfl
def F45 (rec : Rec) (N : Nat) (a0 : Value) (a1 : Value) (s : St) : Out := opt2 (oBin (int2 (cmpO ltI)) (.v a1) (.v (.int .i64 0)) rec PT.nil s) fun x1 s =>
 opt (gval false x1) fun x2 => opt2 (orUndef x2 (some (a1, s)) s) fun x3 s =>
 opt (gval false x1) fun x4 => opt2 (orUndef x4 (oBin (int2 (cmpO gtI)) (.v x3) (.v (.int .i64 109572)) rec PT.nil s) s) fun x5 s =>
 opt2 (oPick (.v x1) (.v (.bool true)) (.v x5) rec PT.nil s) fun x6 s =>
 condV x6
 (some (oneOf [(.int .i64 12)], s))
 (opt2 (oNilCheck (.v a0) rec PT.nil s) fun x7 s =>
 opt2 (oFieldAddr 0 (.v x7) rec PT.nil s) fun x8 s =>
 opt2 (oLoad1 (.v x8) rec PT.nil s) fun x9 s =>
 opt2 (oBin (int2 (cmpO ltI)) (.v a1) (.v x9) rec PT.nil s) fun x10 s =>
 condV x10
 (some (oneOf [(.int .i64 14)], s))
 (some (oneOf [(.int .i64 0)], s)))
set_option maxHeartbeats 4000000 in
theorem f45 (rec : Rec) (N : Nat) (a0 : Value) (a1 : Value) (s : St) : callF rec N c45 [a0, a1] s = F45 rec N a0 a1 s := by
  rw [d45]
  unfold D45 F45
  first
    | done
    | rfl
    | (simp (maxSteps := 4000000) only [mov_v, op2_s]; first | done | kernel_rfl)
    | kernel_rfl
-- c51
def D51 (rec : Rec) (N : Nat) (a0 : Value) (a1 : Value) (s : St) : Out := opt2 (oMov (.v (.slice none 0 0)) rec PT.nil s) fun x1 s =>
 opt2 (oMov (.v a0) rec PT.nil s) fun x2 s =>
 opt2 (oMov (.v a1) rec PT.nil s) fun x3 s =>
 opt2 (oBin (sh2 shlO) (.v x3) (.v (.int .u64 1)) rec PT.nil s) fun x4 s =>
 opt2 (oConv .u64 (.v x4) rec PT.nil s) fun x5 s =>
 opt2 (oMov (.v a1) rec PT.nil s) fun x6 s =>
 opt2 (oBin (sh2 shrO) (.v x6) (.v (.int .u64 63)) rec PT.nil s) fun x7 s =>
 opt2 (oConv .u64 (.v x7) rec PT.nil s) fun x8 s =>
 opt2 (oBin (int2 xorO) (.v x5) (.v x8) rec PT.nil s) fun x9 s =>
 opt2 (rec 52 [x2, x9] s) fun x10 s =>
 opt2 (oMov (.v x10) rec PT.nil s) fun x11 s =>
 some (oneOf [x11], s)
set_option maxHeartbeats 4000000 in
theorem d51 (rec : Rec) (N : Nat) (a0 : Value) (a1 : Value) (s : St) : callF rec N c51 [a0, a1] s = D51 rec N a0 a1 s := by
  rw [call_f _ _ _ _ _ rfl]
  simp (maxSteps := 4000000) only [c51, lenN, x_seq, x_ops, x_skip, x_ret, x_exit, x_cond, x_block, x_loop, ops_c, ops_n, op1_u, op1_gj, rq_c, rq_n, opQ_u, opQ_g, op2_op2, op2_op, op2_s, op2_cond, thenX_n, thenX_e, thenX_r, blkX_n, blkX_r, blkX_e, finX_r, finX_n, res_n, res_t, op_s, Nat.beq_refl, cond_true]
  first | done | kernel_rfl
def F51 (rec : Rec) (N : Nat) (a0 : Value) (a1 : Value) (s : St) : Out := opt2 (oBin (sh2 shlO) (.v a1) (.v (.int .u64 1)) rec PT.nil s) fun x1 s =>
 opt2 (oConv .u64 (.v x1) rec PT.nil s) fun x2 s =>
 opt2 (oBin (sh2 shrO) (.v a1) (.v (.int .u64 63)) rec PT.nil s) fun x3 s =>
 opt2 (oConv .u64 (.v x3) rec PT.nil s) fun x4 s =>
 opt2 (oBin (int2 xorO) (.v x2) (.v x4) rec PT.nil s) fun x5 s =>
 opt2 (rec 52 [a0, x5] s) fun x6 s =>
 some (oneOf [x6], s)
set_option maxHeartbeats 4000000 in
theorem f51 (rec : Rec) (N : Nat) (a0 : Value) (a1 : Value) (s : St) : callF rec N c51 [a0, a1] s = F51 rec N a0 a1 s := by
  rw [d51]
  unfold D51 F51
  first
    | done
    | rfl
    | (simp (maxSteps := 4000000) only [mov_v, op2_s]; first | done | kernel_rfl)
    | kernel_rfl
-- c52
def D52_l0 (rec : Rec) (N : Nat) (fs : Frm) (s : St) : OutX := opt2 (oMov (.v (orU (fs.get t1))) rec PT.nil s) fun x1 s =>
 opt2 (oBin (int2 (cmpO gtI)) (.v x1) (.v (.int .u64 127)) rec PT.nil s) fun x2 s =>
 condV x2
 (opt2 (oMov (.v (orU (fs.get t0))) rec PT.nil s) fun x3 s =>
 opt2 (oMov (.v (orU (fs.get t1))) rec PT.nil s) fun x4 s =>
 opt2 (oBin (int2 andO) (.v x4) (.v (.int .u64 127)) rec PT.nil s) fun x5 s =>
 opt2 (oBin (int2 orO) (.v x5) (.v (.int .u64 128)) rec PT.nil s) fun x6 s =>
 opt2 (oConv .u8 (.v x6) rec PT.nil s) fun x7 s =>
 opt2 (oBuildSlice 1 [(.int .u8 0)] [(0, 1, (.v x7))] rec PT.nil s) fun x8 s =>
 opt2 (oAppend 1 1 (.v x3) (.v x8) rec PT.nil s) fun x9 s =>
 opt2 (oMov (.v x9) rec PT.nil s) fun x10 s =>
 opt2 (oMov (.v (orU (fs.get t1))) rec PT.nil s) fun x11 s =>
 opt2 (oBin (sh2 shrO) (.v x11) (.v (.int .u64 7)) rec PT.nil s) fun x12 s =>
 opt2 (oMov (.v x12) rec PT.nil s) fun x13 s =>
 some (.norm, (PT.put x13 t1 (PT.put x12 t10 (PT.put x11 t9 (PT.put x10 t0 (PT.put x9 t17 (PT.put x8 t16 (PT.put x7 t15 (PT.put x6 t14 (PT.put x5 t13 (PT.put x4 t12 (PT.put x3 t11 (PT.put x2 t8 (PT.put x1 t7 fs))))))))))))), s))
 (some ((.exit 0), (PT.put x2 t8 (PT.put x1 t7 fs)), s))
set_option maxHeartbeats 4000000 in
theorem d52_l0 (rec : Rec) (N : Nat) (fs : Frm) (s : St) : c52_l0 rec N fs s = D52_l0 rec N fs s := by
  simp (maxSteps := 4000000) only [c52_l0, lenN, x_seq, x_ops, x_skip, x_ret, x_exit, x_cond, x_block, x_loop, ops_c, ops_n, op1_u, op1_gj, rq_c, rq_n, opQ_u, opQ_g, op2_op2, op2_op, op2_s, op2_cond, thenX_n, thenX_e, thenX_r, blkX_n, blkX_r, blkX_e, finX_r, finX_n, res_n, res_t, op_s, Nat.beq_refl, cond_true]
  first | done | kernel_rfl
def D52_r0 (rec : Rec) (N : Nat) (fs : Frm) (s : St) : OutX := opt2 (oMov (.v (orU (fs.get t0))) rec PT.nil s) fun x1 s =>
 opt2 (oMov (.v (orU (fs.get t1))) rec PT.nil s) fun x2 s =>
 opt2 (oConv .u8 (.v x2) rec PT.nil s) fun x3 s =>
 opt2 (oBuildSlice 1 [(.int .u8 0)] [(0, 1, (.v x3))] rec PT.nil s) fun x4 s =>
 opt2 (oAppend 1 1 (.v x1) (.v x4) rec PT.nil s) fun x5 s =>
 opt2 (oMov (.v x5) rec PT.nil s) fun x6 s =>
 some (.ret, (PT.put x6 t4 (PT.put x5 t22 (PT.put x4 t21 (PT.put x3 t20 (PT.put x2 t19 (PT.put x1 t18 fs)))))), s)
set_option maxHeartbeats 4000000 in
theorem d52_r0 (rec : Rec) (N : Nat) (fs : Frm) (s : St) : c52_r0 rec N fs s = D52_r0 rec N fs s := by
  simp (maxSteps := 4000000) only [c52_r0, lenN, x_seq, x_ops, x_skip, x_ret, x_exit, x_cond, x_block, x_loop, ops_c, ops_n, op1_u, op1_gj, rq_c, rq_n, opQ_u, opQ_g, op2_op2, op2_op, op2_s, op2_cond, thenX_n, thenX_e, thenX_r, blkX_n, blkX_r, blkX_e, finX_r, finX_n, res_n, res_t, op_s, Nat.beq_refl, cond_true]
  first | done | kernel_rfl
def D52 (rec : Rec) (N : Nat) (a0 : Value) (a1 : Value) (s : St) : Out := opt2 (oMov (.v (.slice none 0 0)) rec PT.nil s) fun x1 s =>
 opt2 (oMov (.v a0) rec PT.nil s) fun x2 s =>
 opt2 (rec 60 [x2] s) fun x3 s =>
 opt2 (oMov (.v x3) rec PT.nil s) fun x4 s =>
 opt2 (loopF (c52_l0 rec N) N (PT.put x4 t0 (PT.put x3 t6 (PT.put x2 t5 (PT.put x1 t4 (PT.put a1 t1 (PT.put a0 t0 PT.nil)))))) s) fun e r => opt2 (blkX 0 e r) fun e r => opt2 (thenX (c52_r0 rec N) e r) fun e r => finX [.tmp t4] e r
set_option maxHeartbeats 4000000 in
theorem d52 (rec : Rec) (N : Nat) (a0 : Value) (a1 : Value) (s : St) : callF rec N c52 [a0, a1] s = D52 rec N a0 a1 s := by
  rw [call_f _ _ _ _ _ rfl]
  simp (maxSteps := 4000000) only [c52, lenN, x_seq, x_ops, x_skip, x_ret, x_exit, x_cond, x_block, x_loop, ops_c, ops_n, op1_u, op1_gj, rq_c, rq_n, opQ_u, opQ_g, op2_op2, op2_op, op2_s, op2_cond, thenX_n, thenX_e, thenX_r, blkX_n, blkX_r, blkX_e, finX_r, finX_n, res_n, res_t, op_s, Nat.beq_refl, cond_true]
  first | done | kernel_rfl
def J52_r0 (rec : Rec) (N : Nat) (k : Value × Value) (s : St) : Out := opt2 (oConv .u8 (.v k.2) rec PT.nil s) fun x1 s =>
 opt2 (oBuildSlice 1 [(.int .u8 0)] [(0, 1, (.v x1))] rec PT.nil s) fun x2 s =>
 opt2 (oAppend 1 1 (.v k.1) (.v x2) rec PT.nil s) fun x3 s =>
 some (oneOf [x3], s)
set_option maxHeartbeats 4000000 in
theorem j52_r0 (rec : Rec) (N : Nat) (fs : Frm) (s : St) : opt2 (c52_r0 rec N fs s) (fun e r => finX [.tmp t4] e r) = J52_r0 rec N (orU (fs.get t0), orU (fs.get t1)) s := by
  rw [d52_r0]
  unfold D52_r0 J52_r0
  simp (maxSteps := 4000000) only [thenX_n, thenX_e, thenX_r, x_exit, x_skip, x_ret, blkX_n, blkX_r, blkX_e, finX_r, finX_n, res_n, res_t, op2_op2, op2_op, op2_s, op2_cond, op2_bf, mov_v]
  first | done | kernel_rfl
def B52_l0 (rec : Rec) (N : Nat) (k : Value) (v : Value × Value) (s : St) : OutV (Value × Value) := opt2 (oBin (int2 (cmpO gtI)) (.v v.2) (.v (.int .u64 127)) rec PT.nil s) fun x1 s =>
 condV x1
 (opt2 (oBin (int2 andO) (.v v.2) (.v (.int .u64 127)) rec PT.nil s) fun x2 s =>
 opt2 (oBin (int2 orO) (.v x2) (.v (.int .u64 128)) rec PT.nil s) fun x3 s =>
 opt2 (oConv .u8 (.v x3) rec PT.nil s) fun x4 s =>
 opt2 (oBuildSlice 1 [(.int .u8 0)] [(0, 1, (.v x4))] rec PT.nil s) fun x5 s =>
 opt2 (oAppend 1 1 (.v v.1) (.v x5) rec PT.nil s) fun x6 s =>
 opt2 (oBin (sh2 shrO) (.v v.2) (.v (.int .u64 7)) rec PT.nil s) fun x7 s =>
 some (.norm, ((x6, x7), s)))
 (some ((.exit 0), ((v.1, v.2), s)))
set_option maxHeartbeats 4000000 in
theorem s52_l0 (rec : Rec) (N : Nat) (fs : Frm) (s : St) : opt2 (c52_l0 rec N fs s) (fun e r => some (e, (((orU (r.1.get t0), orU (r.1.get t1)), (orU (r.1.get t4))), r.2))) = opt2 (B52_l0 rec N (orU (fs.get t4)) (orU (fs.get t0), orU (fs.get t1)) s) fun e r => some (e, ((r.1, (orU (fs.get t4))), r.2)) := by
  rw [d52_l0]
  unfold D52_l0 B52_l0
  simp (maxSteps := 4000000) only [op2_op2, op2_op, op2_s, op2_cond, op2_bf, mov_v]
  first | done | kernel_rfl
def C52_l0 (rec : Rec) (N : Nat) (k : Value) (e : AExit) (r : (Value × Value) × St) : Out := (fun s => exV (fun i => bif Nat.beq i 0 then (J52_r0 rec N (r.1.1, r.1.2) s)
 else (none))
 (some (oneOf [k], s)) e) r.2
theorem j52_l0 (rec : Rec) (N : Nat) (fs : Frm) (s : St) : opt2 (loopF (c52_l0 rec N) N fs s) (fun e r => opt2 (blkX 0 e r) fun e r => opt2 (thenX (c52_r0 rec N) e r) fun e r => finX [.tmp t4] e r) = opt2 (loopV (B52_l0 rec N (orU (fs.get t4))) N (orU (fs.get t0), orU (fs.get t1)) s) (C52_l0 rec N (orU (fs.get t4))) := by
  refine loop_j (fun fs => (orU (fs.get t0), orU (fs.get t1))) (fun fs => (orU (fs.get t4))) (B52_l0 rec N) (c52_l0 rec N) (s52_l0 rec N) (fun e r => opt2 (blkX 0 e r) fun e r => opt2 (thenX (c52_r0 rec N) e r) fun e r => finX [.tmp t4] e r) (C52_l0 rec N) ?_ ?_ N fs s
  · intro i fs s
    unfold C52_l0
    simp (maxSteps := 4000000) only [thenX_n, thenX_e, thenX_r, x_exit, x_skip, x_ret, blkX_n, blkX_r, blkX_e, finX_r, finX_n, res_n, res_t, exV_e, exV_r, op2_op2, op2_op, op2_s, op2_cond, op2_bf, mov_v, j52_r0 rec N]
    first | done | kernel_rfl
  · intro fs s
    unfold C52_l0
    simp (maxSteps := 4000000) only [thenX_n, thenX_e, thenX_r, x_exit, x_skip, x_ret, blkX_n, blkX_r, blkX_e, finX_r, finX_n, res_n, res_t, exV_e, exV_r, op2_op2, op2_op, op2_s, op2_cond, op2_bf, mov_v, j52_r0 rec N]
    first | done | kernel_rfl
def F52 (rec : Rec) (N : Nat) (a0 : Value) (a1 : Value) (s : St) : Out := opt2 (rec 60 [a0] s) fun x1 s =>
 opt2 (loopV (B52_l0 rec N (.slice none 0 0)) N (x1, a1) s) (C52_l0 rec N (.slice none 0 0))
theorem f52 (rec : Rec) (N : Nat) (a0 : Value) (a1 : Value) (s : St) : callF rec N c52 [a0, a1] s = F52 rec N a0 a1 s := by
  rw [d52]
  unfold D52 F52
  simp (maxSteps := 4000000) only [mov_v, op2_s, j52_l0 rec N]
  first | done | kernel_rfl
-- c60
def D60 (rec : Rec) (N : Nat) (a0 : Value) (s : St) : Out := opt2 (oMov (.v (.slice none 0 0)) rec PT.nil s) fun x1 s =>
 opt2 (oMov (.v a0) rec PT.nil s) fun x2 s =>
 opt2 (oEqv eqL false (.v x2) (.v (.slice none 0 0)) rec PT.nil s) fun x3 s =>
 condV x3
 (opt2 (oMov (.v (.slice none 0 0)) rec PT.nil s) fun x4 s =>
 some (oneOf [x4], s))
 (opt2 (oBuildSlice 0 [] [] rec PT.nil s) fun x5 s =>
 opt2 (oMov (.v a0) rec PT.nil s) fun x6 s =>
 opt2 (oAppend 1 1 (.v x5) (.v x6) rec PT.nil s) fun x7 s =>
 opt2 (oMov (.v x7) rec PT.nil s) fun x8 s =>
 some (oneOf [x8], s))
set_option maxHeartbeats 4000000 in
theorem d60 (rec : Rec) (N : Nat) (a0 : Value) (s : St) : callF rec N c60 [a0] s = D60 rec N a0 s := by
  rw [call_f _ _ _ _ _ rfl]
  simp (maxSteps := 4000000) only [c60, lenN, x_seq, x_ops, x_skip, x_ret, x_exit, x_cond, x_block, x_loop, ops_c, ops_n, op1_u, op1_gj, rq_c, rq_n, opQ_u, opQ_g, op2_op2, op2_op, op2_s, op2_cond, thenX_n, thenX_e, thenX_r, blkX_n, blkX_r, blkX_e, finX_r, finX_n, res_n, res_t, op_s, Nat.beq_refl, cond_true]
  first | done | kernel_rfl
def F60 (rec : Rec) (N : Nat) (a0 : Value) (s : St) : Out := opt2 (oEqv eqL false (.v a0) (.v (.slice none 0 0)) rec PT.nil s) fun x1 s =>
 condV x1
 (some (oneOf [(.slice none 0 0)], s))
 (opt2 (oBuildSlice 0 [] [] rec PT.nil s) fun x2 s =>
 opt2 (oAppend 1 1 (.v x2) (.v a0) rec PT.nil s) fun x3 s =>
 some (oneOf [x3], s))
set_option maxHeartbeats 4000000 in
theorem f60 (rec : Rec) (N : Nat) (a0 : Value) (s : St) : callF rec N c60 [a0] s = F60 rec N a0 s := by
  rw [d60]
  unfold D60 F60
  first
    | done
    | rfl
    | (simp (maxSteps := 4000000) only [mov_v, op2_s]; first | done | kernel_rfl)
    | kernel_rfl
-- c61
def D61 (rec : Rec) (N : Nat) (a0 : Value) (s : St) : Out := opt2 (oMov (.v a0) rec PT.nil s) fun x1 s =>
 opt2 (oMov (.v a0) rec PT.nil s) fun x2 s =>
 opt2 (oNilCheck (.v x1) rec PT.nil s) fun x3 s =>
 opt2 (oFieldAddr 0 (.v x3) rec PT.nil s) fun x4 s =>
 opt2 (oStore 1 (.v x4) (.v (.slice none 0 0)) rec PT.nil s) fun x5 s =>
 opt2 (oNilCheck (.v x2) rec PT.nil s) fun x6 s =>
 opt2 (oFieldAddr 1 (.v x6) rec PT.nil s) fun x7 s =>
 opt2 (oStore 1 (.v x7) (.v (.bool true)) rec PT.nil s) fun x8 s =>
 some (oneOf [], s)
set_option maxHeartbeats 4000000 in
theorem d61 (rec : Rec) (N : Nat) (a0 : Value) (s : St) : callF rec N c61 [a0] s = D61 rec N a0 s := by
  rw [call_f _ _ _ _ _ rfl]
  simp (maxSteps := 4000000) only [c61, lenN, x_seq, x_ops, x_skip, x_ret, x_exit, x_cond, x_block, x_loop, ops_c, ops_n, op1_u, op1_gj, rq_c, rq_n, opQ_u, opQ_g, op2_op2, op2_op, op2_s, op2_cond, thenX_n, thenX_e, thenX_r, blkX_n, blkX_r, blkX_e, finX_r, finX_n, res_n, res_t, op_s, Nat.beq_refl, cond_true]
  first | done | kernel_rfl
def F61 (rec : Rec) (N : Nat) (a0 : Value) (s : St) : Out := opt2 (oNilCheck (.v a0) rec PT.nil s) fun x1 s =>
 opt2 (oFieldAddr 0 (.v x1) rec PT.nil s) fun x2 s =>
 opt2 (oStore 1 (.v x2) (.v (.slice none 0 0)) rec PT.nil s) fun x3 s =>
 opt2 (oNilCheck (.v a0) rec PT.nil s) fun x4 s =>
 opt2 (oFieldAddr 1 (.v x4) rec PT.nil s) fun x5 s =>
 opt2 (oStore 1 (.v x5) (.v (.bool true)) rec PT.nil s) fun x6 s =>
 some (oneOf [], s)
set_option maxHeartbeats 4000000 in
theorem f61 (rec : Rec) (N : Nat) (a0 : Value) (s : St) : callF rec N c61 [a0] s = F61 rec N a0 s := by
  rw [d61]
  unfold D61 F61
  first
    | done
    | rfl
    | (simp (maxSteps := 4000000) only [mov_v, op2_s]; first | done | kernel_rfl)
    | kernel_rfl
-- c62
def D62 (rec : Rec) (N : Nat) (a0 : Value) (a1 : Value) (a2 : Value) (s : St) : Out := opt2 (oBox (.v a0) rec PT.nil s) fun x1 s =>
 opt2 (oNew [(.int .i64 0), (.int .u64 0)] rec PT.nil s) fun x2 s =>
 opt2 (oMov (.v (.bool false)) rec PT.nil s) fun x3 s =>
 opt2 (rU (oLoadN 2 (.v x1) rec PT.nil ⟨s.heap, s.next, 0, 0⟩) PT.nil s none) fun x4 m4 =>
 (fun s => opt2 (rU (oMov (.v a1) rec PT.nil ⟨s.heap, s.next, 0, 0⟩) PT.nil s none) fun x5 m5 =>
 (fun s => opt2 (rU (oMov (.v a2) rec PT.nil ⟨s.heap, s.next, 0, 0⟩) PT.nil s none) fun x6 m6 =>
 (fun s => opt2 (rU (rec 77 [x5, x6] ⟨s.heap, s.next, 0, 0⟩) PT.nil s none) fun x7 m7 =>
 (fun s => opt2 (rU (rec 68 [x4, x7] ⟨s.heap, s.next, 0, 0⟩) PT.nil s none) fun x8 m8 =>
 (fun s => opt2 (rU (oExtract (.v x8) 0 rec PT.nil ⟨s.heap, s.next, 0, 0⟩) PT.nil s none) fun x9 m9 =>
 (fun s => opt2 (rU (oExtract (.v x8) 1 rec PT.nil ⟨s.heap, s.next, 0, 0⟩) PT.nil s none) fun x10 m10 =>
 (fun s => opt2 (rU (oStore 2 (.v x2) (.v x9) rec PT.nil ⟨s.heap, s.next, 0, 0⟩) PT.nil s none) fun x11 m11 =>
 (fun s => opt2 (rU (oMov (.v x10) rec PT.nil ⟨s.heap, s.next, 0, 0⟩) PT.nil s none) fun x12 m12 =>
 (fun s => bif apartAll [m4.1, m5.1, m6.1, m7.1, m8.1, m9.1, m10.1, m11.1, m12.1] [(0, 1), (0, 2), (1, 2), (0, 3), (5, 6)] then finX [.cell t6 (some 2), .tmp t7] .ret ((PT.put x12 t7 (PT.put x10 t14 (PT.put x9 t13 (PT.put x8 t12 (PT.put x7 t11 (PT.put x6 t10 (PT.put x5 t9 (PT.put x4 t8 (PT.put x3 t7 (PT.put x2 t6 (PT.put x1 t3 (PT.put a2 t2 (PT.put a1 t1 (PT.put a0 t0 PT.nil)))))))))))))), s) else none) m12.2) m11.2) m10.2) m9.2) m8.2) m7.2) m6.2) m5.2) m4.2
set_option maxHeartbeats 4000000 in
theorem d62 (rec : Rec) (N : Nat) (a0 : Value) (a1 : Value) (a2 : Value) (s : St) : callF rec N c62 [a0, a1, a2] s = D62 rec N a0 a1 a2 s := by
  rw [call_f _ _ _ _ _ rfl]
  simp (maxSteps := 4000000) only [c62, lenN, x_regc, reg_n, reg_c, reg1_u, reg1_g, op2_cons, op2_bif, x_seq, x_ops, x_skip, x_ret, x_exit, x_cond, x_block, x_loop, ops_c, ops_n, op1_u, op1_gj, rq_c, rq_n, opQ_u, opQ_g, op2_op2, op2_op, op2_s, op2_cond, thenX_n, thenX_e, thenX_r, blkX_n, blkX_r, blkX_e, finX_r, finX_n, res_n, res_t, op_s, Nat.beq_refl, cond_true]
  first | done | kernel_rfl
def F62 (rec : Rec) (N : Nat) (a0 : Value) (a1 : Value) (a2 : Value) (s : St) : Out := opt2 (oBox (.v a0) rec PT.nil s) fun x1 s =>
 opt2 (oNew [(.int .i64 0), (.int .u64 0)] rec PT.nil s) fun x2 s =>
 opt2 (oMov (.v (.bool false)) rec PT.nil s) fun x3 s =>
 opt2 (rU (oLoadN 2 (.v x1) rec PT.nil ⟨s.heap, s.next, 0, 0⟩) PT.nil s none) fun x4 m4 =>
 (fun s => opt2 (rU (oMov (.v a1) rec PT.nil ⟨s.heap, s.next, 0, 0⟩) PT.nil s none) fun x5 m5 =>
 (fun s => opt2 (rU (oMov (.v a2) rec PT.nil ⟨s.heap, s.next, 0, 0⟩) PT.nil s none) fun x6 m6 =>
 (fun s => opt2 (rU (rec 77 [x5, x6] ⟨s.heap, s.next, 0, 0⟩) PT.nil s none) fun x7 m7 =>
 (fun s => opt2 (rU (rec 68 [x4, x7] ⟨s.heap, s.next, 0, 0⟩) PT.nil s none) fun x8 m8 =>
 (fun s => opt2 (rU (oExtract (.v x8) 0 rec PT.nil ⟨s.heap, s.next, 0, 0⟩) PT.nil s none) fun x9 m9 =>
 (fun s => opt2 (rU (oExtract (.v x8) 1 rec PT.nil ⟨s.heap, s.next, 0, 0⟩) PT.nil s none) fun x10 m10 =>
 (fun s => opt2 (rU (oStore 2 (.v x2) (.v x9) rec PT.nil ⟨s.heap, s.next, 0, 0⟩) PT.nil s none) fun x11 m11 =>
 (fun s => opt2 (rU (oMov (.v x10) rec PT.nil ⟨s.heap, s.next, 0, 0⟩) PT.nil s none) fun x12 m12 =>
 (fun s => bif apartAll [m4.1, m5.1, m6.1, m7.1, m8.1, m9.1, m10.1, m11.1, m12.1] [(0, 1), (0, 2), (1, 2), (0, 3), (5, 6)] then finX [.cell t6 (some 2), .tmp t7] .ret ((PT.put x12 t7 (PT.put x10 t14 (PT.put x9 t13 (PT.put x8 t12 (PT.put x7 t11 (PT.put x6 t10 (PT.put x5 t9 (PT.put x4 t8 (PT.put x3 t7 (PT.put x2 t6 (PT.put x1 t3 (PT.put a2 t2 (PT.put a1 t1 (PT.put a0 t0 PT.nil)))))))))))))), s) else none) m12.2) m11.2) m10.2) m9.2) m8.2) m7.2) m6.2) m5.2) m4.2
set_option maxHeartbeats 4000000 in
theorem f62 (rec : Rec) (N : Nat) (a0 : Value) (a1 : Value) (a2 : Value) (s : St) : callF rec N c62 [a0, a1, a2] s = F62 rec N a0 a1 a2 s := by
  rw [d62]
  unfold D62 F62
  first
    | done
    | rfl
    | (simp (maxSteps := 4000000) only [mov_v, op2_s]; first | done | kernel_rfl)
    | kernel_rfl
-- c66
theorem q66_g0 (rec : Rec) (n : Nat) (fs : Frm) (s : St) : xReg c66_g0 [(0, 1), (0, 3), (1, 3), (2, 3), (0, 4), (1, 4), (2, 4), (3, 4), (0, 5), (1, 5), (2, 5), (3, 6), (4, 6), (5, 6)] rec n fs s = opt2 (runQ rec [⟨(some t28), oMov (.t t1), none, none⟩,
   ⟨(some t29), oMov (.t t2), none, none⟩,
   ⟨(some t30), oBin (int2 quoO) (.t t28) (.t t29), none, none⟩,
   ⟨(some t31), oMov (.t t1), none, none⟩,
   ⟨(some t32), oMov (.t t2), none, none⟩,
   ⟨(some t33), oBin (int2 remO) (.t t31) (.t t32), none, none⟩,
   ⟨(some t6), oMov (.t t30), none, none⟩,
   ⟨(some t7), oMov (.t t33), none, none⟩] fs s) fun fs s => some (.norm, fs, s) :=
 reg_q (ks := [0, 0, 0, 0, 0, 0, 0, 0]) (okc (ok0 (qv_mov (.t t1)) rfl)
 (okc (ok0 (qv_mov (.t t2)) rfl)
 (okc (ok0 (qv_bin (int2 quoO) (.t t28) (.t t29)) rfl)
 (okc (ok0 (qv_mov (.t t1)) rfl)
 (okc (ok0 (qv_mov (.t t2)) rfl)
 (okc (ok0 (qv_bin (int2 remO) (.t t31) (.t t32)) rfl)
 (okc (ok0 (qv_mov (.t t30)) rfl)
 (okc (ok0 (qv_mov (.t t33)) rfl)
 okn)))))))) (by kernel_rfl) rec n fs s
def D66_l0 (rec : Rec) (N : Nat) (fs : Frm) (s : St) : OutX := opt2 (oMov (.v (orU (fs.get t15))) rec PT.nil s) fun x1 s =>
 opt2 (oBin (int2 (cmpO geI)) (.v x1) (.v (.int .u64 4294967296)) rec PT.nil s) fun x2 s =>
 opt2 (oMov (.v x2) rec PT.nil s) fun x3 s =>
 opt (gval false x3) fun x4 => opt2 (orUndef x4 (oMov (.v (orU (fs.get t15))) rec PT.nil s) s) fun x5 s =>
 opt (gval false x3) fun x6 => opt2 (orUndef x6 (oMov (.v (orU (fs.get t10))) rec PT.nil s) s) fun x7 s =>
 opt (gval false x3) fun x8 => opt2 (orUndef x8 (oBin (int2 mulO) (.v x5) (.v x7) rec PT.nil s) s) fun x9 s =>
 opt (gval false x3) fun x10 => opt2 (orUndef x10 (oMov (.v (orU (fs.get t16))) rec PT.nil s) s) fun x11 s =>
 opt (gval false x3) fun x12 => opt2 (orUndef x12 (oBin (int2 mulO) (.v (.int .u64 4294967296)) (.v x11) rec PT.nil s) s) fun x13 s =>
 opt (gval false x3) fun x14 => opt2 (orUndef x14 (oMov (.v (orU (fs.get t13))) rec PT.nil s) s) fun x15 s =>
 opt (gval false x3) fun x16 => opt2 (orUndef x16 (oBin (int2 addO) (.v x13) (.v x15) rec PT.nil s) s) fun x17 s =>
 opt (gval false x3) fun x18 => opt2 (orUndef x18 (oBin (int2 (cmpO gtI)) (.v x9) (.v x17) rec PT.nil s) s) fun x19 s =>
 opt2 (oPick (.v x3) (.v (.bool true)) (.v x19) rec PT.nil s) fun x20 s =>
 condV x20
 (opt2 (oMov (.v (orU (fs.get t15))) rec PT.nil s) fun x21 s =>
 opt2 (oBin (int2 subO) (.v x21) (.v (.int .u64 1)) rec PT.nil s) fun x22 s =>
 opt2 (oMov (.v x22) rec PT.nil s) fun x23 s =>
 opt2 (oMov (.v (orU (fs.get t16))) rec PT.nil s) fun x24 s =>
 opt2 (oMov (.v (orU (fs.get t9))) rec PT.nil s) fun x25 s =>
 opt2 (oBin (int2 addO) (.v x24) (.v x25) rec PT.nil s) fun x26 s =>
 opt2 (oMov (.v x26) rec PT.nil s) fun x27 s =>
 opt2 (oMov (.v x27) rec PT.nil s) fun x28 s =>
 opt2 (oBin (int2 (cmpO geI)) (.v x28) (.v (.int .u64 4294967296)) rec PT.nil s) fun x29 s =>
 condV x29
 (some ((.exit 0), (PT.put x29 t85 (PT.put x28 t84 (PT.put x27 t16 (PT.put x26 t83 (PT.put x25 t82 (PT.put x24 t81 (PT.put x23 t15 (PT.put x22 t80 (PT.put x21 t79 (PT.put x20 t78 (PT.put x19 t77 (PT.put x17 t76 (PT.put x15 t75 (PT.put x13 t74 (PT.put x11 t73 (PT.put x9 t72 (PT.put x7 t71 (PT.put x5 t70 (PT.put x3 t69 (PT.put x2 t68 (PT.put x1 t67 fs))))))))))))))))))))), s))
 (some (.norm, (PT.put x29 t85 (PT.put x28 t84 (PT.put x27 t16 (PT.put x26 t83 (PT.put x25 t82 (PT.put x24 t81 (PT.put x23 t15 (PT.put x22 t80 (PT.put x21 t79 (PT.put x20 t78 (PT.put x19 t77 (PT.put x17 t76 (PT.put x15 t75 (PT.put x13 t74 (PT.put x11 t73 (PT.put x9 t72 (PT.put x7 t71 (PT.put x5 t70 (PT.put x3 t69 (PT.put x2 t68 (PT.put x1 t67 fs))))))))))))))))))))), s)))
 (some ((.exit 0), (PT.put x20 t78 (PT.put x19 t77 (PT.put x17 t76 (PT.put x15 t75 (PT.put x13 t74 (PT.put x11 t73 (PT.put x9 t72 (PT.put x7 t71 (PT.put x5 t70 (PT.put x3 t69 (PT.put x2 t68 (PT.put x1 t67 fs)))))))))))), s))
set_option maxHeartbeats 4000000 in
theorem d66_l0 (rec : Rec) (N : Nat) (fs : Frm) (s : St) : c66_l0 rec N fs s = D66_l0 rec N fs s := by
  simp (maxSteps := 4000000) only [c66_l0, lenN, x_seq, x_ops, x_skip, x_ret, x_exit, x_cond, x_block, x_loop, ops_c, ops_n, op1_u, op1_gj, rq_c, rq_n, opQ_u, opQ_g, op2_op2, op2_op, op2_s, op2_cond, thenX_n, thenX_e, thenX_r, blkX_n, blkX_r, blkX_e, finX_r, finX_n, res_n, res_t, op_s, Nat.beq_refl, cond_true, q66_g0, sm_bin, sm_box, sm_build, sm_buildslice, sm_bytesstr, sm_compl, sm_conv, sm_eqs, sm_eqv, sm_ext, sm_extract, sm_field, sm_fieldaddr, sm_func, sm_idxaa, sm_idxl, sm_idxs, sm_iface, sm_lenc, sm_lenl, sm_lens, sm_load1, sm_loadn, sm_mm, sm_mov, sm_neg, sm_new, sm_nil, sm_not, sm_pick, sm_same, sm_slices, sm_store]
  first | done | kernel_rfl
def D66_l1 (rec : Rec) (N : Nat) (fs : Frm) (s : St) : OutX := opt2 (oMov (.v (orU (fs.get t18))) rec PT.nil s) fun x1 s =>
 opt2 (oBin (int2 (cmpO geI)) (.v x1) (.v (.int .u64 4294967296)) rec PT.nil s) fun x2 s =>
 opt2 (oMov (.v x2) rec PT.nil s) fun x3 s =>
 opt (gval false x3) fun x4 => opt2 (orUndef x4 (oMov (.v (orU (fs.get t18))) rec PT.nil s) s) fun x5 s =>
 opt (gval false x3) fun x6 => opt2 (orUndef x6 (oMov (.v (orU (fs.get t10))) rec PT.nil s) s) fun x7 s =>
 opt (gval false x3) fun x8 => opt2 (orUndef x8 (oBin (int2 mulO) (.v x5) (.v x7) rec PT.nil s) s) fun x9 s =>
 opt (gval false x3) fun x10 => opt2 (orUndef x10 (oMov (.v (orU (fs.get t16))) rec PT.nil s) s) fun x11 s =>
 opt (gval false x3) fun x12 => opt2 (orUndef x12 (oBin (int2 mulO) (.v (.int .u64 4294967296)) (.v x11) rec PT.nil s) s) fun x13 s =>
 opt (gval false x3) fun x14 => opt2 (orUndef x14 (oMov (.v (orU (fs.get t14))) rec PT.nil s) s) fun x15 s =>
 opt (gval false x3) fun x16 => opt2 (orUndef x16 (oBin (int2 addO) (.v x13) (.v x15) rec PT.nil s) s) fun x17 s =>
 opt (gval false x3) fun x18 => opt2 (orUndef x18 (oBin (int2 (cmpO gtI)) (.v x9) (.v x17) rec PT.nil s) s) fun x19 s =>
 opt2 (oPick (.v x3) (.v (.bool true)) (.v x19) rec PT.nil s) fun x20 s =>
 condV x20
 (opt2 (oMov (.v (orU (fs.get t18))) rec PT.nil s) fun x21 s =>
 opt2 (oBin (int2 subO) (.v x21) (.v (.int .u64 1)) rec PT.nil s) fun x22 s =>
 opt2 (oMov (.v x22) rec PT.nil s) fun x23 s =>
 opt2 (oMov (.v (orU (fs.get t16))) rec PT.nil s) fun x24 s =>
 opt2 (oMov (.v (orU (fs.get t9))) rec PT.nil s) fun x25 s =>
 opt2 (oBin (int2 addO) (.v x24) (.v x25) rec PT.nil s) fun x26 s =>
 opt2 (oMov (.v x26) rec PT.nil s) fun x27 s =>
 opt2 (oMov (.v x27) rec PT.nil s) fun x28 s =>
 opt2 (oBin (int2 (cmpO geI)) (.v x28) (.v (.int .u64 4294967296)) rec PT.nil s) fun x29 s =>
 condV x29
 (some ((.exit 2), (PT.put x29 t120 (PT.put x28 t119 (PT.put x27 t16 (PT.put x26 t118 (PT.put x25 t117 (PT.put x24 t116 (PT.put x23 t18 (PT.put x22 t115 (PT.put x21 t114 (PT.put x20 t113 (PT.put x19 t112 (PT.put x17 t111 (PT.put x15 t110 (PT.put x13 t109 (PT.put x11 t108 (PT.put x9 t107 (PT.put x7 t106 (PT.put x5 t105 (PT.put x3 t104 (PT.put x2 t103 (PT.put x1 t102 fs))))))))))))))))))))), s))
 (some (.norm, (PT.put x29 t120 (PT.put x28 t119 (PT.put x27 t16 (PT.put x26 t118 (PT.put x25 t117 (PT.put x24 t116 (PT.put x23 t18 (PT.put x22 t115 (PT.put x21 t114 (PT.put x20 t113 (PT.put x19 t112 (PT.put x17 t111 (PT.put x15 t110 (PT.put x13 t109 (PT.put x11 t108 (PT.put x9 t107 (PT.put x7 t106 (PT.put x5 t105 (PT.put x3 t104 (PT.put x2 t103 (PT.put x1 t102 fs))))))))))))))))))))), s)))
 (some ((.exit 2), (PT.put x20 t113 (PT.put x19 t112 (PT.put x17 t111 (PT.put x15 t110 (PT.put x13 t109 (PT.put x11 t108 (PT.put x9 t107 (PT.put x7 t106 (PT.put x5 t105 (PT.put x3 t104 (PT.put x2 t103 (PT.put x1 t102 fs)))))))))))), s))
set_option maxHeartbeats 4000000 in
theorem d66_l1 (rec : Rec) (N : Nat) (fs : Frm) (s : St) : c66_l1 rec N fs s = D66_l1 rec N fs s := by
  simp (maxSteps := 4000000) only [c66_l1, lenN, x_seq, x_ops, x_skip, x_ret, x_exit, x_cond, x_block, x_loop, ops_c, ops_n, op1_u, op1_gj, rq_c, rq_n, opQ_u, opQ_g, op2_op2, op2_op, op2_s, op2_cond, thenX_n, thenX_e, thenX_r, blkX_n, blkX_r, blkX_e, finX_r, finX_n, res_n, res_t, op_s, Nat.beq_refl, cond_true, q66_g0, sm_bin, sm_box, sm_build, sm_buildslice, sm_bytesstr, sm_compl, sm_conv, sm_eqs, sm_eqv, sm_ext, sm_extract, sm_field, sm_fieldaddr, sm_func, sm_idxaa, sm_idxl, sm_idxs, sm_iface, sm_lenc, sm_lenl, sm_lens, sm_load1, sm_loadn, sm_mm, sm_mov, sm_neg, sm_new, sm_nil, sm_not, sm_pick, sm_same, sm_slices, sm_store]
  first | done | kernel_rfl
def D66_r0 (rec : Rec) (N : Nat) (fs : Frm) (s : St) : OutX := opt2 (oMov (.v (orU (fs.get t15))) rec PT.nil s) fun x1 s =>
 opt2 (oBin (int2 mulO) (.v x1) (.v (.int .u64 4294967296)) rec PT.nil s) fun x2 s =>
 opt2 (oMov (.v (orU (fs.get t18))) rec PT.nil s) fun x3 s =>
 opt2 (oBin (int2 addO) (.v x2) (.v x3) rec PT.nil s) fun x4 s =>
 opt2 (oMov (.v (orU (fs.get t17))) rec PT.nil s) fun x5 s =>
 opt2 (oBin (int2 mulO) (.v x5) (.v (.int .u64 4294967296)) rec PT.nil s) fun x6 s =>
 opt2 (oMov (.v (orU (fs.get t14))) rec PT.nil s) fun x7 s =>
 opt2 (oBin (int2 addO) (.v x6) (.v x7) rec PT.nil s) fun x8 s =>
 opt2 (oMov (.v (orU (fs.get t18))) rec PT.nil s) fun x9 s =>
 opt2 (oMov (.v (orU (fs.get t2))) rec PT.nil s) fun x10 s =>
 opt2 (oBin (int2 mulO) (.v x9) (.v x10) rec PT.nil s) fun x11 s =>
 opt2 (oBin (int2 subO) (.v x8) (.v x11) rec PT.nil s) fun x12 s =>
 opt2 (oMov (.v (orU (fs.get t8))) rec PT.nil s) fun x13 s =>
 opt2 (oBin (sh2 shrO) (.v x12) (.v x13) rec PT.nil s) fun x14 s =>
 opt2 (oMov (.v x4) rec PT.nil s) fun x15 s =>
 opt2 (oMov (.v x14) rec PT.nil s) fun x16 s =>
 some (.ret, (PT.put x16 t7 (PT.put x15 t6 (PT.put x14 t134 (PT.put x13 t133 (PT.put x12 t132 (PT.put x11 t131 (PT.put x10 t130 (PT.put x9 t129 (PT.put x8 t128 (PT.put x7 t127 (PT.put x6 t126 (PT.put x5 t125 (PT.put x4 t124 (PT.put x3 t123 (PT.put x2 t122 (PT.put x1 t121 fs)))))))))))))))), s)
set_option maxHeartbeats 4000000 in
theorem d66_r0 (rec : Rec) (N : Nat) (fs : Frm) (s : St) : c66_r0 rec N fs s = D66_r0 rec N fs s := by
  simp (maxSteps := 4000000) only [c66_r0, lenN, x_seq, x_ops, x_skip, x_ret, x_exit, x_cond, x_block, x_loop, ops_c, ops_n, op1_u, op1_gj, rq_c, rq_n, opQ_u, opQ_g, op2_op2, op2_op, op2_s, op2_cond, thenX_n, thenX_e, thenX_r, blkX_n, blkX_r, blkX_e, finX_r, finX_n, res_n, res_t, op_s, Nat.beq_refl, cond_true, q66_g0, sm_bin, sm_box, sm_build, sm_buildslice, sm_bytesstr, sm_compl, sm_conv, sm_eqs, sm_eqv, sm_ext, sm_extract, sm_field, sm_fieldaddr, sm_func, sm_idxaa, sm_idxl, sm_idxs, sm_iface, sm_lenc, sm_lenl, sm_lens, sm_load1, sm_loadn, sm_mm, sm_mov, sm_neg, sm_new, sm_nil, sm_not, sm_pick, sm_same, sm_slices, sm_store]
  first | done | kernel_rfl
def D66_r1 (rec : Rec) (N : Nat) (fs : Frm) (s : St) : OutX := opt2 (oMov (.v (orU (fs.get t11))) rec PT.nil s) fun x1 s =>
 opt2 (oBin (int2 mulO) (.v x1) (.v (.int .u64 4294967296)) rec PT.nil s) fun x2 s =>
 opt2 (oMov (.v (orU (fs.get t13))) rec PT.nil s) fun x3 s =>
 opt2 (oBin (int2 addO) (.v x2) (.v x3) rec PT.nil s) fun x4 s =>
 opt2 (oMov (.v (orU (fs.get t15))) rec PT.nil s) fun x5 s =>
 opt2 (oMov (.v (orU (fs.get t2))) rec PT.nil s) fun x6 s =>
 opt2 (oBin (int2 mulO) (.v x5) (.v x6) rec PT.nil s) fun x7 s =>
 opt2 (oBin (int2 subO) (.v x4) (.v x7) rec PT.nil s) fun x8 s =>
 opt2 (oMov (.v x8) rec PT.nil s) fun x9 s =>
 opt2 (oMov (.v x9) rec PT.nil s) fun x10 s =>
 opt2 (oMov (.v (orU (fs.get t9))) rec PT.nil s) fun x11 s =>
 opt2 (oBin (int2 quoO) (.v x10) (.v x11) rec PT.nil s) fun x12 s =>
 opt2 (oMov (.v x12) rec PT.nil s) fun x13 s =>
 opt2 (oMov (.v x9) rec PT.nil s) fun x14 s =>
 opt2 (oMov (.v x13) rec PT.nil s) fun x15 s =>
 opt2 (oMov (.v (orU (fs.get t9))) rec PT.nil s) fun x16 s =>
 opt2 (oBin (int2 mulO) (.v x15) (.v x16) rec PT.nil s) fun x17 s =>
 opt2 (oBin (int2 subO) (.v x14) (.v x17) rec PT.nil s) fun x18 s =>
 opt2 (oMov (.v x18) rec PT.nil s) fun x19 s =>
 opt2 (loopF (c66_l1 rec N) N (PT.put x19 t16 (PT.put x18 t101 (PT.put x17 t100 (PT.put x16 t99 (PT.put x15 t98 (PT.put x14 t97 (PT.put x13 t18 (PT.put x12 t96 (PT.put x11 t95 (PT.put x10 t94 (PT.put x9 t17 (PT.put x8 t93 (PT.put x7 t92 (PT.put x6 t91 (PT.put x5 t90 (PT.put x4 t89 (PT.put x3 t88 (PT.put x2 t87 (PT.put x1 t86 fs))))))))))))))))))) s) fun e r => opt2 (blkX 2 e r) fun e r => thenX (c66_r0 rec N) e r
set_option maxHeartbeats 4000000 in
theorem d66_r1 (rec : Rec) (N : Nat) (fs : Frm) (s : St) : c66_r1 rec N fs s = D66_r1 rec N fs s := by
  simp (maxSteps := 4000000) only [c66_r1, lenN, x_seq, x_ops, x_skip, x_ret, x_exit, x_cond, x_block, x_loop, ops_c, ops_n, op1_u, op1_gj, rq_c, rq_n, opQ_u, opQ_g, op2_op2, op2_op, op2_s, op2_cond, thenX_n, thenX_e, thenX_r, blkX_n, blkX_r, blkX_e, finX_r, finX_n, res_n, res_t, op_s, Nat.beq_refl, cond_true, q66_g0, sm_bin, sm_box, sm_build, sm_buildslice, sm_bytesstr, sm_compl, sm_conv, sm_eqs, sm_eqv, sm_ext, sm_extract, sm_field, sm_fieldaddr, sm_func, sm_idxaa, sm_idxl, sm_idxs, sm_iface, sm_lenc, sm_lenl, sm_lens, sm_load1, sm_loadn, sm_mm, sm_mov, sm_neg, sm_new, sm_nil, sm_not, sm_pick, sm_same, sm_slices, sm_store]
  first | done | kernel_rfl
def D66_j0 (rec : Rec) (N : Nat) (fs : Frm) (s : St) : OutX := opt2 (oMov (.v (orU (fs.get t0))) rec PT.nil s) fun x1 s =>
 opt2 (oBin (int2 (cmpO eqI)) (.v x1) (.v (.int .u64 0)) rec PT.nil s) fun x2 s =>
 condV x2
 (opt2 (oMov (.v (orU (fs.get t1))) rec PT.nil s) fun x3 s =>
 opt2 (oMov (.v (orU (fs.get t2))) rec PT.nil s) fun x4 s =>
 opt2 (oBin (int2 quoO) (.v x3) (.v x4) rec PT.nil s) fun x5 s =>
 opt2 (oMov (.v (orU (fs.get t1))) rec PT.nil s) fun x6 s =>
 opt2 (oMov (.v (orU (fs.get t2))) rec PT.nil s) fun x7 s =>
 opt2 (oBin (int2 remO) (.v x6) (.v x7) rec PT.nil s) fun x8 s =>
 opt2 (oMov (.v x5) rec PT.nil s) fun x9 s =>
 opt2 (oMov (.v x8) rec PT.nil s) fun x10 s =>
 some (.ret, (PT.put x10 t7 (PT.put x9 t6 (PT.put x8 t33 (PT.put x7 t32 (PT.put x6 t31 (PT.put x5 t30 (PT.put x4 t29 (PT.put x3 t28 (PT.put x2 t27 (PT.put x1 t26 fs)))))))))), s))
 (opt2 (oMov (.v (orU (fs.get t2))) rec PT.nil s) fun x11 s =>
 opt2 (rec 79 [x11] s) fun x12 s =>
 opt2 (oConv .u64 (.v x12) rec PT.nil s) fun x13 s =>
 opt2 (oMov (.v x13) rec PT.nil s) fun x14 s =>
 opt2 (oMov (.v (orU (fs.get t2))) rec PT.nil s) fun x15 s =>
 opt2 (oMov (.v x14) rec PT.nil s) fun x16 s =>
 opt2 (oBin (sh2 shlO) (.v x15) (.v x16) rec PT.nil s) fun x17 s =>
 opt2 (oMov (.v x17) rec PT.nil s) fun x18 s =>
 opt2 (oMov (.v x18) rec PT.nil s) fun x19 s =>
 opt2 (oBin (sh2 shrO) (.v x19) (.v (.int .u64 32)) rec PT.nil s) fun x20 s =>
 opt2 (oMov (.v x20) rec PT.nil s) fun x21 s =>
 opt2 (oMov (.v x18) rec PT.nil s) fun x22 s =>
 opt2 (oBin (int2 andO) (.v x22) (.v (.int .u64 4294967295)) rec PT.nil s) fun x23 s =>
 opt2 (oMov (.v x23) rec PT.nil s) fun x24 s =>
 opt2 (oMov (.v (orU (fs.get t0))) rec PT.nil s) fun x25 s =>
 opt2 (oMov (.v x14) rec PT.nil s) fun x26 s =>
 opt2 (oBin (sh2 shlO) (.v x25) (.v x26) rec PT.nil s) fun x27 s =>
 opt2 (oMov (.v (orU (fs.get t1))) rec PT.nil s) fun x28 s =>
 opt2 (oMov (.v x14) rec PT.nil s) fun x29 s =>
 opt2 (oBin (int2 subO) (.v (.int .u64 64)) (.v x29) rec PT.nil s) fun x30 s =>
 opt2 (oBin (sh2 shrO) (.v x28) (.v x30) rec PT.nil s) fun x31 s =>
 opt2 (oBin (int2 orO) (.v x27) (.v x31) rec PT.nil s) fun x32 s =>
 opt2 (oMov (.v x32) rec PT.nil s) fun x33 s =>
 opt2 (oMov (.v (orU (fs.get t1))) rec PT.nil s) fun x34 s =>
 opt2 (oMov (.v x14) rec PT.nil s) fun x35 s =>
 opt2 (oBin (sh2 shlO) (.v x34) (.v x35) rec PT.nil s) fun x36 s =>
 opt2 (oMov (.v x36) rec PT.nil s) fun x37 s =>
 opt2 (oMov (.v x37) rec PT.nil s) fun x38 s =>
 opt2 (oBin (sh2 shrO) (.v x38) (.v (.int .u64 32)) rec PT.nil s) fun x39 s =>
 opt2 (oMov (.v x39) rec PT.nil s) fun x40 s =>
 opt2 (oMov (.v x37) rec PT.nil s) fun x41 s =>
 opt2 (oBin (int2 andO) (.v x41) (.v (.int .u64 4294967295)) rec PT.nil s) fun x42 s =>
 opt2 (oMov (.v x42) rec PT.nil s) fun x43 s =>
 opt2 (oMov (.v x33) rec PT.nil s) fun x44 s =>
 opt2 (oMov (.v x21) rec PT.nil s) fun x45 s =>
 opt2 (oBin (int2 quoO) (.v x44) (.v x45) rec PT.nil s) fun x46 s =>
 opt2 (oMov (.v x46) rec PT.nil s) fun x47 s =>
 opt2 (oMov (.v x33) rec PT.nil s) fun x48 s =>
 opt2 (oMov (.v x47) rec PT.nil s) fun x49 s =>
 opt2 (oMov (.v x21) rec PT.nil s) fun x50 s =>
 opt2 (oBin (int2 mulO) (.v x49) (.v x50) rec PT.nil s) fun x51 s =>
 opt2 (oBin (int2 subO) (.v x48) (.v x51) rec PT.nil s) fun x52 s =>
 opt2 (oMov (.v x52) rec PT.nil s) fun x53 s =>
 opt2 (loopF (c66_l0 rec N) N (PT.put x53 t16 (PT.put x52 t66 (PT.put x51 t65 (PT.put x50 t64 (PT.put x49 t63 (PT.put x48 t62 (PT.put x47 t15 (PT.put x46 t61 (PT.put x45 t60 (PT.put x44 t59 (PT.put x43 t14 (PT.put x42 t58 (PT.put x41 t57 (PT.put x40 t13 (PT.put x39 t56 (PT.put x38 t55 (PT.put x37 t12 (PT.put x36 t54 (PT.put x35 t53 (PT.put x34 t52 (PT.put x33 t11 (PT.put x32 t51 (PT.put x31 t50 (PT.put x30 t49 (PT.put x29 t48 (PT.put x28 t47 (PT.put x27 t46 (PT.put x26 t45 (PT.put x25 t44 (PT.put x24 t10 (PT.put x23 t43 (PT.put x22 t42 (PT.put x21 t9 (PT.put x20 t41 (PT.put x19 t40 (PT.put x18 t2 (PT.put x17 t39 (PT.put x16 t38 (PT.put x15 t37 (PT.put x14 t8 (PT.put x13 t36 (PT.put x12 t35 (PT.put x11 t34 (PT.put x2 t27 (PT.put x1 t26 fs))))))))))))))))))))))))))))))))))))))))))))) s) fun e r => opt2 (blkX 0 e r) fun e r => thenX (c66_r1 rec N) e r)
set_option maxHeartbeats 4000000 in
theorem d66_j0 (rec : Rec) (N : Nat) (fs : Frm) (s : St) : c66_j0 rec N fs s = D66_j0 rec N fs s := by
  simp (maxSteps := 4000000) only [c66_j0, lenN, x_seq, x_ops, x_skip, x_ret, x_exit, x_cond, x_block, x_loop, ops_c, ops_n, op1_u, op1_gj, rq_c, rq_n, opQ_u, opQ_g, op2_op2, op2_op, op2_s, op2_cond, thenX_n, thenX_e, thenX_r, blkX_n, blkX_r, blkX_e, finX_r, finX_n, res_n, res_t, op_s, Nat.beq_refl, cond_true, q66_g0, sm_bin, sm_box, sm_build, sm_buildslice, sm_bytesstr, sm_compl, sm_conv, sm_eqs, sm_eqv, sm_ext, sm_extract, sm_field, sm_fieldaddr, sm_func, sm_idxaa, sm_idxl, sm_idxs, sm_iface, sm_lenc, sm_lenl, sm_lens, sm_load1, sm_loadn, sm_mm, sm_mov, sm_neg, sm_new, sm_nil, sm_not, sm_pick, sm_same, sm_slices, sm_store]
  first | done | kernel_rfl
def D66 (rec : Rec) (N : Nat) (a0 : Value) (a1 : Value) (a2 : Value) (s : St) : Out := opt2 (oMov (.v (.int .u64 0)) rec PT.nil s) fun x1 s =>
 opt2 (oMov (.v (.int .u64 0)) rec PT.nil s) fun x2 s =>
 opt2 (oMov (.v a2) rec PT.nil s) fun x3 s =>
 opt2 (oBin (int2 (cmpO eqI)) (.v x3) (.v (.int .u64 0)) rec PT.nil s) fun x4 s =>
 condV x4
 (opt2 (oBad rec PT.nil s) fun x5 s =>
 opt2 (oBad rec PT.nil s) fun x6 s =>
 opt2 (oMov (.v a2) rec PT.nil s) fun x7 s =>
 opt2 (oMov (.v a0) rec PT.nil s) fun x8 s =>
 opt2 (oBin (int2 (cmpO leI)) (.v x7) (.v x8) rec PT.nil s) fun x9 s =>
 condV x9
 (opt2 (oBad rec PT.nil s) fun x10 s =>
 opt2 (oBad rec PT.nil s) fun x11 s =>
 opt2 (c66_j0 rec N (PT.put x10 t25 (PT.put x9 t24 (PT.put x8 t23 (PT.put x7 t22 (PT.put x5 t21 (PT.put x4 t20 (PT.put x3 t19 (PT.put x2 t7 (PT.put x1 t6 (PT.put a2 t2 (PT.put a1 t1 (PT.put a0 t0 PT.nil)))))))))))) s) fun e r => finX [.tmp t6, .tmp t7] e r)
 (opt2 (c66_j0 rec N (PT.put x9 t24 (PT.put x8 t23 (PT.put x7 t22 (PT.put x5 t21 (PT.put x4 t20 (PT.put x3 t19 (PT.put x2 t7 (PT.put x1 t6 (PT.put a2 t2 (PT.put a1 t1 (PT.put a0 t0 PT.nil))))))))))) s) fun e r => finX [.tmp t6, .tmp t7] e r))
 (opt2 (oMov (.v a2) rec PT.nil s) fun x12 s =>
 opt2 (oMov (.v a0) rec PT.nil s) fun x13 s =>
 opt2 (oBin (int2 (cmpO leI)) (.v x12) (.v x13) rec PT.nil s) fun x14 s =>
 condV x14
 (opt2 (oBad rec PT.nil s) fun x15 s =>
 opt2 (oBad rec PT.nil s) fun x16 s =>
 opt2 (c66_j0 rec N (PT.put x15 t25 (PT.put x14 t24 (PT.put x13 t23 (PT.put x12 t22 (PT.put x4 t20 (PT.put x3 t19 (PT.put x2 t7 (PT.put x1 t6 (PT.put a2 t2 (PT.put a1 t1 (PT.put a0 t0 PT.nil))))))))))) s) fun e r => finX [.tmp t6, .tmp t7] e r)
 (opt2 (c66_j0 rec N (PT.put x14 t24 (PT.put x13 t23 (PT.put x12 t22 (PT.put x4 t20 (PT.put x3 t19 (PT.put x2 t7 (PT.put x1 t6 (PT.put a2 t2 (PT.put a1 t1 (PT.put a0 t0 PT.nil)))))))))) s) fun e r => finX [.tmp t6, .tmp t7] e r))
set_option maxHeartbeats 4000000 in
theorem d66 (rec : Rec) (N : Nat) (a0 : Value) (a1 : Value) (a2 : Value) (s : St) : callF rec N c66 [a0, a1, a2] s = D66 rec N a0 a1 a2 s := by
  rw [call_f _ _ _ _ _ rfl]
  simp (maxSteps := 4000000) only [c66, lenN, x_seq, x_ops, x_skip, x_ret, x_exit, x_cond, x_block, x_loop, ops_c, ops_n, op1_u, op1_gj, rq_c, rq_n, opQ_u, opQ_g, op2_op2, op2_op, op2_s, op2_cond, thenX_n, thenX_e, thenX_r, blkX_n, blkX_r, blkX_e, finX_r, finX_n, res_n, res_t, op_s, Nat.beq_refl, cond_true, q66_g0, sm_bin, sm_box, sm_build, sm_buildslice, sm_bytesstr, sm_compl, sm_conv, sm_eqs, sm_eqv, sm_ext, sm_extract, sm_field, sm_fieldaddr, sm_func, sm_idxaa, sm_idxl, sm_idxs, sm_iface, sm_lenc, sm_lenl, sm_lens, sm_load1, sm_loadn, sm_mm, sm_mov, sm_neg, sm_new, sm_nil, sm_not, sm_pick, sm_same, sm_slices, sm_store]
  first | done | kernel_rfl
def J66_r0 (rec : Rec) (N : Nat) (k : Value × Value × Value × Value × Value × Value) (s : St) : Out := opt2 (oBin (int2 mulO) (.v k.2.2.2.1) (.v (.int .u64 4294967296)) rec PT.nil s) fun x1 s =>
 opt2 (oBin (int2 addO) (.v x1) (.v k.2.2.2.2.2) rec PT.nil s) fun x2 s =>
 opt2 (oBin (int2 mulO) (.v k.2.2.2.2.1) (.v (.int .u64 4294967296)) rec PT.nil s) fun x3 s =>
 opt2 (oBin (int2 addO) (.v x3) (.v k.2.2.1) rec PT.nil s) fun x4 s =>
 opt2 (oBin (int2 mulO) (.v k.2.2.2.2.2) (.v k.1) rec PT.nil s) fun x5 s =>
 opt2 (oBin (int2 subO) (.v x4) (.v x5) rec PT.nil s) fun x6 s =>
 opt2 (oBin (sh2 shrO) (.v x6) (.v k.2.1) rec PT.nil s) fun x7 s =>
 some (oneOf [x2, x7], s)
set_option maxHeartbeats 4000000 in
theorem j66_r0 (rec : Rec) (N : Nat) (fs : Frm) (s : St) : opt2 (c66_r0 rec N fs s) (fun e r => finX [.tmp t6, .tmp t7] e r) = J66_r0 rec N (orU (fs.get t2), orU (fs.get t8), orU (fs.get t14), orU (fs.get t15), orU (fs.get t17), orU (fs.get t18)) s := by
  rw [d66_r0]
  unfold D66_r0 J66_r0
  simp (maxSteps := 4000000) only [thenX_n, thenX_e, thenX_r, x_exit, x_skip, x_ret, blkX_n, blkX_r, blkX_e, finX_r, finX_n, res_n, res_t, op2_op2, op2_op, op2_s, op2_cond, op2_bf, mov_v]
  first | done | kernel_rfl
def B66_l1 (rec : Rec) (N : Nat) (k : Value × Value × Value × Value × Value × Value × Value × Value × Value) (v : Value × Value) (s : St) : OutV (Value × Value) := opt2 (oBin (int2 (cmpO geI)) (.v v.2) (.v (.int .u64 4294967296)) rec PT.nil s) fun x1 s =>
 opt (gval false x1) fun x2 => opt2 (orUndef x2 (some (v.2, s)) s) fun x3 s =>
 opt (gval false x1) fun x4 => opt2 (orUndef x4 (some (k.2.2.2.2.2.1, s)) s) fun x5 s =>
 opt (gval false x1) fun x6 => opt2 (orUndef x6 (oBin (int2 mulO) (.v x3) (.v x5) rec PT.nil s) s) fun x7 s =>
 opt (gval false x1) fun x8 => opt2 (orUndef x8 (some (v.1, s)) s) fun x9 s =>
 opt (gval false x1) fun x10 => opt2 (orUndef x10 (oBin (int2 mulO) (.v (.int .u64 4294967296)) (.v x9) rec PT.nil s) s) fun x11 s =>
 opt (gval false x1) fun x12 => opt2 (orUndef x12 (some (k.2.2.2.2.2.2.1, s)) s) fun x13 s =>
 opt (gval false x1) fun x14 => opt2 (orUndef x14 (oBin (int2 addO) (.v x11) (.v x13) rec PT.nil s) s) fun x15 s =>
 opt (gval false x1) fun x16 => opt2 (orUndef x16 (oBin (int2 (cmpO gtI)) (.v x7) (.v x15) rec PT.nil s) s) fun x17 s =>
 opt2 (oPick (.v x1) (.v (.bool true)) (.v x17) rec PT.nil s) fun x18 s =>
 condV x18
 (opt2 (oBin (int2 subO) (.v v.2) (.v (.int .u64 1)) rec PT.nil s) fun x19 s =>
 opt2 (oBin (int2 addO) (.v v.1) (.v k.2.2.2.2.1) rec PT.nil s) fun x20 s =>
 opt2 (oBin (int2 (cmpO geI)) (.v x20) (.v (.int .u64 4294967296)) rec PT.nil s) fun x21 s =>
 condV x21
 (some ((.exit 2), ((x20, x19), s)))
 (some (.norm, ((x20, x19), s))))
 (some ((.exit 2), ((v.1, v.2), s)))
set_option maxHeartbeats 4000000 in
theorem s66_l1 (rec : Rec) (N : Nat) (fs : Frm) (s : St) : opt2 (c66_l1 rec N fs s) (fun e r => some (e, (((orU (r.1.get t16), orU (r.1.get t18)), (orU (r.1.get t2), orU (r.1.get t6), orU (r.1.get t7), orU (r.1.get t8), orU (r.1.get t9), orU (r.1.get t10), orU (r.1.get t14), orU (r.1.get t15), orU (r.1.get t17))), r.2))) = opt2 (B66_l1 rec N (orU (fs.get t2), orU (fs.get t6), orU (fs.get t7), orU (fs.get t8), orU (fs.get t9), orU (fs.get t10), orU (fs.get t14), orU (fs.get t15), orU (fs.get t17)) (orU (fs.get t16), orU (fs.get t18)) s) fun e r => some (e, ((r.1, (orU (fs.get t2), orU (fs.get t6), orU (fs.get t7), orU (fs.get t8), orU (fs.get t9), orU (fs.get t10), orU (fs.get t14), orU (fs.get t15), orU (fs.get t17))), r.2)) := by
  rw [d66_l1]
  unfold D66_l1 B66_l1
  simp (maxSteps := 4000000) only [op2_op2, op2_op, op2_s, op2_cond, op2_bf, mov_v]
  first | done | kernel_rfl
def C66_l1 (rec : Rec) (N : Nat) (k : Value × Value × Value × Value × Value × Value × Value × Value × Value) (e : AExit) (r : (Value × Value) × St) : Out := (fun s => exV (fun i => bif Nat.beq i 2 then (J66_r0 rec N (k.1, k.2.2.2.1, k.2.2.2.2.2.2.1, k.2.2.2.2.2.2.2.1, k.2.2.2.2.2.2.2.2, r.1.2) s)
 else (none))
 (some (oneOf [k.2.1, k.2.2.1], s)) e) r.2
theorem j66_l1 (rec : Rec) (N : Nat) (fs : Frm) (s : St) : opt2 (loopF (c66_l1 rec N) N fs s) (fun e r => opt2 (blkX 2 e r) fun e r => opt2 (thenX (c66_r0 rec N) e r) fun e r => finX [.tmp t6, .tmp t7] e r) = opt2 (loopV (B66_l1 rec N (orU (fs.get t2), orU (fs.get t6), orU (fs.get t7), orU (fs.get t8), orU (fs.get t9), orU (fs.get t10), orU (fs.get t14), orU (fs.get t15), orU (fs.get t17))) N (orU (fs.get t16), orU (fs.get t18)) s) (C66_l1 rec N (orU (fs.get t2), orU (fs.get t6), orU (fs.get t7), orU (fs.get t8), orU (fs.get t9), orU (fs.get t10), orU (fs.get t14), orU (fs.get t15), orU (fs.get t17))) := by
  refine loop_j (fun fs => (orU (fs.get t16), orU (fs.get t18))) (fun fs => (orU (fs.get t2), orU (fs.get t6), orU (fs.get t7), orU (fs.get t8), orU (fs.get t9), orU (fs.get t10), orU (fs.get t14), orU (fs.get t15), orU (fs.get t17))) (B66_l1 rec N) (c66_l1 rec N) (s66_l1 rec N) (fun e r => opt2 (blkX 2 e r) fun e r => opt2 (thenX (c66_r0 rec N) e r) fun e r => finX [.tmp t6, .tmp t7] e r) (C66_l1 rec N) ?_ ?_ N fs s
  · intro i fs s
    unfold C66_l1
    simp (maxSteps := 4000000) only [thenX_n, thenX_e, thenX_r, x_exit, x_skip, x_ret, blkX_n, blkX_r, blkX_e, finX_r, finX_n, res_n, res_t, exV_e, exV_r, op2_op2, op2_op, op2_s, op2_cond, op2_bf, mov_v, j66_r0 rec N]
    first | done | kernel_rfl
  · intro fs s
    unfold C66_l1
    simp (maxSteps := 4000000) only [thenX_n, thenX_e, thenX_r, x_exit, x_skip, x_ret, blkX_n, blkX_r, blkX_e, finX_r, finX_n, res_n, res_t, exV_e, exV_r, op2_op2, op2_op, op2_s, op2_cond, op2_bf, mov_v, j66_r0 rec N]
    first | done | kernel_rfl
def J66_r1 (rec : Rec) (N : Nat) (k : Value × Value × Value × Value × Value × Value × Value × Value × Value × Value) (s : St) : Out := opt2 (oBin (int2 mulO) (.v k.2.2.2.2.2.2.1) (.v (.int .u64 4294967296)) rec PT.nil s) fun x1 s =>
 opt2 (oBin (int2 addO) (.v x1) (.v k.2.2.2.2.2.2.2.1) rec PT.nil s) fun x2 s =>
 opt2 (oBin (int2 mulO) (.v k.2.2.2.2.2.2.2.2.2) (.v k.1) rec PT.nil s) fun x3 s =>
 opt2 (oBin (int2 subO) (.v x2) (.v x3) rec PT.nil s) fun x4 s =>
 opt2 (oBin (int2 quoO) (.v x4) (.v k.2.2.2.2.1) rec PT.nil s) fun x5 s =>
 opt2 (oBin (int2 mulO) (.v x5) (.v k.2.2.2.2.1) rec PT.nil s) fun x6 s =>
 opt2 (oBin (int2 subO) (.v x4) (.v x6) rec PT.nil s) fun x7 s =>
 opt2 (loopV (B66_l1 rec N (k.1, k.2.1, k.2.2.1, k.2.2.2.1, k.2.2.2.2.1, k.2.2.2.2.2.1, k.2.2.2.2.2.2.2.2.1, k.2.2.2.2.2.2.2.2.2, x4)) N (x7, x5) s) (C66_l1 rec N (k.1, k.2.1, k.2.2.1, k.2.2.2.1, k.2.2.2.2.1, k.2.2.2.2.2.1, k.2.2.2.2.2.2.2.2.1, k.2.2.2.2.2.2.2.2.2, x4))
set_option maxHeartbeats 4000000 in
theorem j66_r1 (rec : Rec) (N : Nat) (fs : Frm) (s : St) : opt2 (c66_r1 rec N fs s) (fun e r => finX [.tmp t6, .tmp t7] e r) = J66_r1 rec N (orU (fs.get t2), orU (fs.get t6), orU (fs.get t7), orU (fs.get t8), orU (fs.get t9), orU (fs.get t10), orU (fs.get t11), orU (fs.get t13), orU (fs.get t14), orU (fs.get t15)) s := by
  rw [d66_r1]
  unfold D66_r1 J66_r1
  simp (maxSteps := 4000000) only [thenX_n, thenX_e, thenX_r, x_exit, x_skip, x_ret, blkX_n, blkX_r, blkX_e, finX_r, finX_n, res_n, res_t, op2_op2, op2_op, op2_s, op2_cond, op2_bf, mov_v, j66_l1 rec N]
  first | done | kernel_rfl
def B66_l0 (rec : Rec) (N : Nat) (k : Value × Value × Value × Value × Value × Value × Value × Value × Value) (v : Value × Value) (s : St) : OutV (Value × Value) := opt2 (oBin (int2 (cmpO geI)) (.v v.1) (.v (.int .u64 4294967296)) rec PT.nil s) fun x1 s =>
 opt (gval false x1) fun x2 => opt2 (orUndef x2 (some (v.1, s)) s) fun x3 s =>
 opt (gval false x1) fun x4 => opt2 (orUndef x4 (some (k.2.2.2.2.2.1, s)) s) fun x5 s =>
 opt (gval false x1) fun x6 => opt2 (orUndef x6 (oBin (int2 mulO) (.v x3) (.v x5) rec PT.nil s) s) fun x7 s =>
 opt (gval false x1) fun x8 => opt2 (orUndef x8 (some (v.2, s)) s) fun x9 s =>
 opt (gval false x1) fun x10 => opt2 (orUndef x10 (oBin (int2 mulO) (.v (.int .u64 4294967296)) (.v x9) rec PT.nil s) s) fun x11 s =>
 opt (gval false x1) fun x12 => opt2 (orUndef x12 (some (k.2.2.2.2.2.2.2.1, s)) s) fun x13 s =>
 opt (gval false x1) fun x14 => opt2 (orUndef x14 (oBin (int2 addO) (.v x11) (.v x13) rec PT.nil s) s) fun x15 s =>
 opt (gval false x1) fun x16 => opt2 (orUndef x16 (oBin (int2 (cmpO gtI)) (.v x7) (.v x15) rec PT.nil s) s) fun x17 s =>
 opt2 (oPick (.v x1) (.v (.bool true)) (.v x17) rec PT.nil s) fun x18 s =>
 condV x18
 (opt2 (oBin (int2 subO) (.v v.1) (.v (.int .u64 1)) rec PT.nil s) fun x19 s =>
 opt2 (oBin (int2 addO) (.v v.2) (.v k.2.2.2.2.1) rec PT.nil s) fun x20 s =>
 opt2 (oBin (int2 (cmpO geI)) (.v x20) (.v (.int .u64 4294967296)) rec PT.nil s) fun x21 s =>
 condV x21
 (some ((.exit 0), ((x19, x20), s)))
 (some (.norm, ((x19, x20), s))))
 (some ((.exit 0), ((v.1, v.2), s)))
set_option maxHeartbeats 4000000 in
theorem s66_l0 (rec : Rec) (N : Nat) (fs : Frm) (s : St) : opt2 (c66_l0 rec N fs s) (fun e r => some (e, (((orU (r.1.get t15), orU (r.1.get t16)), (orU (r.1.get t2), orU (r.1.get t6), orU (r.1.get t7), orU (r.1.get t8), orU (r.1.get t9), orU (r.1.get t10), orU (r.1.get t11), orU (r.1.get t13), orU (r.1.get t14))), r.2))) = opt2 (B66_l0 rec N (orU (fs.get t2), orU (fs.get t6), orU (fs.get t7), orU (fs.get t8), orU (fs.get t9), orU (fs.get t10), orU (fs.get t11), orU (fs.get t13), orU (fs.get t14)) (orU (fs.get t15), orU (fs.get t16)) s) fun e r => some (e, ((r.1, (orU (fs.get t2), orU (fs.get t6), orU (fs.get t7), orU (fs.get t8), orU (fs.get t9), orU (fs.get t10), orU (fs.get t11), orU (fs.get t13), orU (fs.get t14))), r.2)) := by
  rw [d66_l0]
  unfold D66_l0 B66_l0
  simp (maxSteps := 4000000) only [op2_op2, op2_op, op2_s, op2_cond, op2_bf, mov_v]
  first | done | kernel_rfl
def C66_l0 (rec : Rec) (N : Nat) (k : Value × Value × Value × Value × Value × Value × Value × Value × Value) (e : AExit) (r : (Value × Value) × St) : Out := (fun s => exV (fun i => bif Nat.beq i 0 then (J66_r1 rec N (k.1, k.2.1, k.2.2.1, k.2.2.2.1, k.2.2.2.2.1, k.2.2.2.2.2.1, k.2.2.2.2.2.2.1, k.2.2.2.2.2.2.2.1, k.2.2.2.2.2.2.2.2, r.1.1) s)
 else (none))
 (some (oneOf [k.2.1, k.2.2.1], s)) e) r.2
theorem j66_l0 (rec : Rec) (N : Nat) (fs : Frm) (s : St) : opt2 (loopF (c66_l0 rec N) N fs s) (fun e r => opt2 (blkX 0 e r) fun e r => opt2 (thenX (c66_r1 rec N) e r) fun e r => finX [.tmp t6, .tmp t7] e r) = opt2 (loopV (B66_l0 rec N (orU (fs.get t2), orU (fs.get t6), orU (fs.get t7), orU (fs.get t8), orU (fs.get t9), orU (fs.get t10), orU (fs.get t11), orU (fs.get t13), orU (fs.get t14))) N (orU (fs.get t15), orU (fs.get t16)) s) (C66_l0 rec N (orU (fs.get t2), orU (fs.get t6), orU (fs.get t7), orU (fs.get t8), orU (fs.get t9), orU (fs.get t10), orU (fs.get t11), orU (fs.get t13), orU (fs.get t14))) := by
  refine loop_j (fun fs => (orU (fs.get t15), orU (fs.get t16))) (fun fs => (orU (fs.get t2), orU (fs.get t6), orU (fs.get t7), orU (fs.get t8), orU (fs.get t9), orU (fs.get t10), orU (fs.get t11), orU (fs.get t13), orU (fs.get t14))) (B66_l0 rec N) (c66_l0 rec N) (s66_l0 rec N) (fun e r => opt2 (blkX 0 e r) fun e r => opt2 (thenX (c66_r1 rec N) e r) fun e r => finX [.tmp t6, .tmp t7] e r) (C66_l0 rec N) ?_ ?_ N fs s
  · intro i fs s
    unfold C66_l0
    simp (maxSteps := 4000000) only [thenX_n, thenX_e, thenX_r, x_exit, x_skip, x_ret, blkX_n, blkX_r, blkX_e, finX_r, finX_n, res_n, res_t, exV_e, exV_r, op2_op2, op2_op, op2_s, op2_cond, op2_bf, mov_v, j66_r1 rec N]
    first | done | kernel_rfl
  · intro fs s
    unfold C66_l0
    simp (maxSteps := 4000000) only [thenX_n, thenX_e, thenX_r, x_exit, x_skip, x_ret, blkX_n, blkX_r, blkX_e, finX_r, finX_n, res_n, res_t, exV_e, exV_r, op2_op2, op2_op, op2_s, op2_cond, op2_bf, mov_v, j66_r1 rec N]
    first | done | kernel_rfl
def J66_j0 (rec : Rec) (N : Nat) (k : Value × Value × Value × Value × Value) (s : St) : Out := opt2 (oBin (int2 (cmpO eqI)) (.v k.1) (.v (.int .u64 0)) rec PT.nil s) fun x1 s =>
 condV x1
 (opt2 (oBin (int2 quoO) (.v k.2.1) (.v k.2.2.1) rec PT.nil s) fun x2 s =>
 opt2 (oBin (int2 remO) (.v k.2.1) (.v k.2.2.1) rec PT.nil s) fun x3 s =>
 some (oneOf [x2, x3], s))
 (opt2 (rec 79 [k.2.2.1] s) fun x4 s =>
 opt2 (oConv .u64 (.v x4) rec PT.nil s) fun x5 s =>
 opt2 (oBin (sh2 shlO) (.v k.2.2.1) (.v x5) rec PT.nil s) fun x6 s =>
 opt2 (oBin (sh2 shrO) (.v x6) (.v (.int .u64 32)) rec PT.nil s) fun x7 s =>
 opt2 (oBin (int2 andO) (.v x6) (.v (.int .u64 4294967295)) rec PT.nil s) fun x8 s =>
 opt2 (oBin (sh2 shlO) (.v k.1) (.v x5) rec PT.nil s) fun x9 s =>
 opt2 (oBin (int2 subO) (.v (.int .u64 64)) (.v x5) rec PT.nil s) fun x10 s =>
 opt2 (oBin (sh2 shrO) (.v k.2.1) (.v x10) rec PT.nil s) fun x11 s =>
 opt2 (oBin (int2 orO) (.v x9) (.v x11) rec PT.nil s) fun x12 s =>
 opt2 (oBin (sh2 shlO) (.v k.2.1) (.v x5) rec PT.nil s) fun x13 s =>
 opt2 (oBin (sh2 shrO) (.v x13) (.v (.int .u64 32)) rec PT.nil s) fun x14 s =>
 opt2 (oBin (int2 andO) (.v x13) (.v (.int .u64 4294967295)) rec PT.nil s) fun x15 s =>
 opt2 (oBin (int2 quoO) (.v x12) (.v x7) rec PT.nil s) fun x16 s =>
 opt2 (oBin (int2 mulO) (.v x16) (.v x7) rec PT.nil s) fun x17 s =>
 opt2 (oBin (int2 subO) (.v x12) (.v x17) rec PT.nil s) fun x18 s =>
 opt2 (loopV (B66_l0 rec N (x6, k.2.2.2.1, k.2.2.2.2, x5, x7, x8, x12, x14, x15)) N (x16, x18) s) (C66_l0 rec N (x6, k.2.2.2.1, k.2.2.2.2, x5, x7, x8, x12, x14, x15)))
set_option maxHeartbeats 4000000 in
theorem j66_j0 (rec : Rec) (N : Nat) (fs : Frm) (s : St) : opt2 (c66_j0 rec N fs s) (fun e r => finX [.tmp t6, .tmp t7] e r) = J66_j0 rec N (orU (fs.get t0), orU (fs.get t1), orU (fs.get t2), orU (fs.get t6), orU (fs.get t7)) s := by
  rw [d66_j0]
  unfold D66_j0 J66_j0
  simp (maxSteps := 4000000) only [thenX_n, thenX_e, thenX_r, x_exit, x_skip, x_ret, blkX_n, blkX_r, blkX_e, finX_r, finX_n, res_n, res_t, op2_op2, op2_op, op2_s, op2_cond, op2_bf, mov_v, j66_l0 rec N]
  first | done | kernel_rfl
def F66 (rec : Rec) (N : Nat) (a0 : Value) (a1 : Value) (a2 : Value) (s : St) : Out := opt2 (oBin (int2 (cmpO eqI)) (.v a2) (.v (.int .u64 0)) rec PT.nil s) fun x1 s =>
 condV x1
 (opt2 (oBad rec PT.nil s) fun x2 s =>
 opt2 (oBad rec PT.nil s) fun x3 s =>
 opt2 (oBin (int2 (cmpO leI)) (.v a2) (.v a0) rec PT.nil s) fun x4 s =>
 condV x4
 (opt2 (oBad rec PT.nil s) fun x5 s =>
 opt2 (oBad rec PT.nil s) fun x6 s =>
 J66_j0 rec N (a0, a1, a2, (.int .u64 0), (.int .u64 0)) s)
 (J66_j0 rec N (a0, a1, a2, (.int .u64 0), (.int .u64 0)) s))
 (opt2 (oBin (int2 (cmpO leI)) (.v a2) (.v a0) rec PT.nil s) fun x7 s =>
 condV x7
 (opt2 (oBad rec PT.nil s) fun x8 s =>
 opt2 (oBad rec PT.nil s) fun x9 s =>
 J66_j0 rec N (a0, a1, a2, (.int .u64 0), (.int .u64 0)) s)
 (J66_j0 rec N (a0, a1, a2, (.int .u64 0), (.int .u64 0)) s))
theorem f66 (rec : Rec) (N : Nat) (a0 : Value) (a1 : Value) (a2 : Value) (s : St) : callF rec N c66 [a0, a1, a2] s = F66 rec N a0 a1 a2 s := by
  rw [d66]
  unfold D66 F66
  simp (maxSteps := 4000000) only [mov_v, op2_s, j66_j0 rec N]
  first | done | kernel_rfl
end
end Go.Proofs.Ytdnedangfnincaa.AbsAccO
