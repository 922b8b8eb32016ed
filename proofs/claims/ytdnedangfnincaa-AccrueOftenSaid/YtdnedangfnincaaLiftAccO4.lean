import Derived.Test.YtdnedangfnincaaAbsAccOE
import Derived.Test.YtdnedangfnincaaAbsZL
namespace Go.Proofs.Ytdnedangfnincaa.AbsAccO
open Go Go.Abs Go.Proofs
set_option maxRecDepth 100000
set_option linter.unusedVariables false
set_option linter.unusedSimpArgs false
noncomputable section
-- c67
def D67 (rec : Rec) (N : Nat) (a0 : Value) (s : St) : Out := opt2 (oBox (.v a0) rec PT.nil s) fun x1 s =>
 opt2 (oMov (.v (.int .i64 0)) rec PT.nil s) fun x2 s =>
 opt2 (oMov (.v (.bool false)) rec PT.nil s) fun x3 s =>
 opt2 (oFieldAddr 1 (.v x1) rec PT.nil s) fun x4 s =>
 opt2 (oLoad1 (.v x4) rec PT.nil s) fun x5 s =>
 opt2 (oConv .i64 (.v x5) rec PT.nil s) fun x6 s =>
 opt2 (oMov (.v x6) rec PT.nil s) fun x7 s =>
 opt2 (oFieldAddr 0 (.v x1) rec PT.nil s) fun x8 s =>
 opt2 (oLoad1 (.v x8) rec PT.nil s) fun x9 s =>
 opt2 (oMov (.v x7) rec PT.nil s) fun x10 s =>
 opt2 (oBin (sh2 shrO) (.v x10) (.v (.int .u64 63)) rec PT.nil s) fun x11 s =>
 opt2 (oBin (int2 (cmpO neI)) (.v x9) (.v x11) rec PT.nil s) fun x12 s =>
 condV x12
 (opt2 (oMov (.v (.int .i64 0)) rec PT.nil s) fun x13 s =>
 opt2 (oMov (.v (.bool false)) rec PT.nil s) fun x14 s =>
 some (oneOf [x13, x14], s))
 (opt2 (oMov (.v x7) rec PT.nil s) fun x15 s =>
 opt2 (oMov (.v x15) rec PT.nil s) fun x16 s =>
 opt2 (oMov (.v (.bool true)) rec PT.nil s) fun x17 s =>
 some (oneOf [x16, x17], s))
set_option maxHeartbeats 4000000 in
theorem d67 (rec : Rec) (N : Nat) (a0 : Value) (s : St) : callF rec N c67 [a0] s = D67 rec N a0 s := by
  rw [call_f _ _ _ _ _ rfl]
  simp (maxSteps := 4000000) only [c67, lenN, x_seq, x_ops, x_skip, x_ret, x_exit, x_cond, x_block, x_loop, ops_c, ops_n, op1_u, op1_gj, rq_c, rq_n, opQ_u, opQ_g, op2_op2, op2_op, op2_s, op2_cond, thenX_n, thenX_e, thenX_r, blkX_n, blkX_r, blkX_e, finX_r, finX_n, res_n, res_t, op_s, Nat.beq_refl, cond_true]
  first | done | kernel_rfl
def F67 (rec : Rec) (N : Nat) (a0 : Value) (s : St) : Out := opt2 (oBox (.v a0) rec PT.nil s) fun x1 s =>
 opt2 (oFieldAddr 1 (.v x1) rec PT.nil s) fun x2 s =>
 opt2 (oLoad1 (.v x2) rec PT.nil s) fun x3 s =>
 opt2 (oConv .i64 (.v x3) rec PT.nil s) fun x4 s =>
 opt2 (oFieldAddr 0 (.v x1) rec PT.nil s) fun x5 s =>
 opt2 (oLoad1 (.v x5) rec PT.nil s) fun x6 s =>
 opt2 (oBin (sh2 shrO) (.v x4) (.v (.int .u64 63)) rec PT.nil s) fun x7 s =>
 opt2 (oBin (int2 (cmpO neI)) (.v x6) (.v x7) rec PT.nil s) fun x8 s =>
 condV x8
 (some (oneOf [(.int .i64 0), (.bool false)], s))
 (some (oneOf [x4, (.bool true)], s))
set_option maxHeartbeats 4000000 in
theorem f67 (rec : Rec) (N : Nat) (a0 : Value) (s : St) : callF rec N c67 [a0] s = F67 rec N a0 s := by
  rw [d67]
  unfold D67 F67
  first
    | done
    | rfl
    | (simp (maxSteps := 4000000) only [mov_v, op2_s]; first | done | kernel_rfl)
    | kernel_rfl
-- c68
def D68_q0 (rec : Rec) (fs : Frm) (s : St) : Option (Frm × St) := opt (gval true (orU (fs.get t41))) fun x1 => opt2 (orUndef x1 (oLoad1 (.v (orU (fs.get t42))) rec PT.nil s) s) fun x2 s =>
 opt (gval true (orU (fs.get t41))) fun x3 => opt2 (orUndef x3 (oBin (int2 (cmpO ltI)) (.v x2) (.v (.int .i64 0)) rec PT.nil s) s) fun x4 s =>
 opt (gval true (orU (fs.get t41))) fun x5 => opt2 (orUndef x5 (oFieldAddr 0 (.v (orU (fs.get t2))) rec PT.nil s) s) fun x6 s =>
 opt (gval true (orU (fs.get t41))) fun x7 => opt2 (orUndef x7 (oLoad1 (.v x6) rec PT.nil s) s) fun x8 s =>
 opt (gval true (orU (fs.get t41))) fun x9 => opt2 (orUndef x9 (oBin (int2 (cmpO ltI)) (.v x8) (.v (.int .i64 0)) rec PT.nil s) s) fun x10 s =>
 opt (gval true (orU (fs.get t41))) fun x11 => opt2 (orUndef x11 (oEqv eqB true (.v x4) (.v x10) rec PT.nil s) s) fun x12 s =>
 opt2 (oPick (.v (orU (fs.get t41))) (.v x12) (.v (.bool false)) rec PT.nil s) fun x13 s =>
 some ((PT.put x13 t49 (PT.put x12 t48 (PT.put x10 t47 (PT.put x8 t46 (PT.put x6 t45 (PT.put x4 t44 (PT.put x2 t43 fs))))))), s)
set_option maxHeartbeats 4000000 in
theorem d68_q0 (rec : Rec) (fs : Frm) (s : St) : runOps rec c68_q0 fs s = D68_q0 rec fs s := by
  simp (maxSteps := 4000000) only [c68_q0, ops_c, ops_n, op1_u, op1_gj, rq_c, rq_n, opQ_u, opQ_g, op2_op2, op2_op, op2_s]
  first | done | kernel_rfl
def D68_j0 (rec : Rec) (N : Nat) (fs : Frm) (s : St) : OutX := condV (orU (fs.get t49))
 (opt2 (oBuild [(.int .i64 0), (.int .u64 0)] [] rec PT.nil s) fun x1 s =>
 opt2 (oStore 2 (.v (orU (fs.get t4))) (.v x1) rec PT.nil s) fun x2 s =>
 opt2 (oMov (.v (.bool false)) rec PT.nil s) fun x3 s =>
 some (.ret, (PT.put x3 t5 (PT.put x1 t50 fs)), s))
 (some (.norm, fs, s))
set_option maxHeartbeats 4000000 in
theorem d68_j0 (rec : Rec) (N : Nat) (fs : Frm) (s : St) : c68_j0 rec N fs s = D68_j0 rec N fs s := by
  simp (maxSteps := 4000000) only [c68_j0, lenN, x_seq, x_ops, x_skip, x_ret, x_exit, x_cond, x_block, x_loop, ops_c, ops_n, op1_u, op1_gj, rq_c, rq_n, opQ_u, opQ_g, op2_op2, op2_op, op2_s, op2_cond, thenX_n, thenX_e, thenX_r, blkX_n, blkX_r, blkX_e, finX_r, finX_n, res_n, res_t, op_s, Nat.beq_refl, cond_true]
  first | done | kernel_rfl
def D68_j1 (rec : Rec) (N : Nat) (fs : Frm) (s : St) : OutX := opt2 (oLoadN 2 (.v (orU (fs.get t10))) rec PT.nil s) fun x1 s =>
 opt2 (oStore 2 (.v (orU (fs.get t4))) (.v x1) rec PT.nil s) fun x2 s =>
 opt2 (oMov (.v (.bool true)) rec PT.nil s) fun x3 s =>
 some (.ret, (PT.put x3 t5 (PT.put x1 t51 fs)), s)
set_option maxHeartbeats 4000000 in
theorem d68_j1 (rec : Rec) (N : Nat) (fs : Frm) (s : St) : c68_j1 rec N fs s = D68_j1 rec N fs s := by
  simp (maxSteps := 4000000) only [c68_j1, lenN, x_seq, x_ops, x_skip, x_ret, x_exit, x_cond, x_block, x_loop, ops_c, ops_n, op1_u, op1_gj, rq_c, rq_n, opQ_u, opQ_g, op2_op2, op2_op, op2_s, op2_cond, thenX_n, thenX_e, thenX_r, blkX_n, blkX_r, blkX_e, finX_r, finX_n, res_n, res_t, op_s, Nat.beq_refl, cond_true]
  first | done | kernel_rfl
def D68 (rec : Rec) (N : Nat) (a0 : Value) (a1 : Value) (s : St) : Out := opt2 (oBox (.v a0) rec PT.nil s) fun x1 s =>
 opt2 (oBox (.v a1) rec PT.nil s) fun x2 s =>
 opt2 (oNew [(.int .i64 0), (.int .u64 0)] rec PT.nil s) fun x3 s =>
 opt2 (oMov (.v (.bool false)) rec PT.nil s) fun x4 s =>
 opt2 (oFieldAddr 1 (.v x1) rec PT.nil s) fun x5 s =>
 opt2 (oLoad1 (.v x5) rec PT.nil s) fun x6 s =>
 opt2 (oFieldAddr 1 (.v x2) rec PT.nil s) fun x7 s =>
 opt2 (oLoad1 (.v x7) rec PT.nil s) fun x8 s =>
 opt2 (oExt add64X [(.v x6), (.v x8), (.v (.int .u64 0))] rec PT.nil s) fun x9 s =>
 opt2 (oMov (.v x9) rec PT.nil s) fun x10 s =>
 opt2 (oExtract (.v x10) 0 rec PT.nil s) fun x11 s =>
 opt2 (oExtract (.v x10) 1 rec PT.nil s) fun x12 s =>
 opt2 (oMov (.v x11) rec PT.nil s) fun x13 s =>
 opt2 (oMov (.v x12) rec PT.nil s) fun x14 s =>
 opt2 (oFieldAddr 0 (.v x1) rec PT.nil s) fun x15 s =>
 opt2 (oLoad1 (.v x15) rec PT.nil s) fun x16 s =>
 opt2 (oConv .u64 (.v x16) rec PT.nil s) fun x17 s =>
 opt2 (oFieldAddr 0 (.v x2) rec PT.nil s) fun x18 s =>
 opt2 (oLoad1 (.v x18) rec PT.nil s) fun x19 s =>
 opt2 (oConv .u64 (.v x19) rec PT.nil s) fun x20 s =>
 opt2 (oMov (.v x14) rec PT.nil s) fun x21 s =>
 opt2 (oExt add64X [(.v x17), (.v x20), (.v x21)] rec PT.nil s) fun x22 s =>
 opt2 (oMov (.v x22) rec PT.nil s) fun x23 s =>
 opt2 (oExtract (.v x23) 0 rec PT.nil s) fun x24 s =>
 opt2 (oExtract (.v x23) 1 rec PT.nil s) fun x25 s =>
 opt2 (oMov (.v x24) rec PT.nil s) fun x26 s =>
 opt2 (oMov (.v x25) rec PT.nil s) fun x27 s =>
 opt2 (oMov (.v x26) rec PT.nil s) fun x28 s =>
 opt2 (oConv .i64 (.v x28) rec PT.nil s) fun x29 s =>
 opt2 (oMov (.v x13) rec PT.nil s) fun x30 s =>
 opt2 (oBuild [(.int .i64 0), (.int .u64 0)] [(0, 1, (.v x29)), (1, 1, (.v x30))] rec PT.nil s) fun x31 s =>
 opt2 (oNew [(.int .i64 0), (.int .u64 0)] rec PT.nil s) fun x32 s =>
 opt2 (oStore 2 (.v x32) (.v x31) rec PT.nil s) fun x33 s =>
 opt2 (oFieldAddr 0 (.v x1) rec PT.nil s) fun x34 s =>
 opt2 (oLoad1 (.v x34) rec PT.nil s) fun x35 s =>
 opt2 (oBin (int2 (cmpO ltI)) (.v x35) (.v (.int .i64 0)) rec PT.nil s) fun x36 s =>
 opt2 (oFieldAddr 0 (.v x2) rec PT.nil s) fun x37 s =>
 opt2 (oLoad1 (.v x37) rec PT.nil s) fun x38 s =>
 opt2 (oBin (int2 (cmpO ltI)) (.v x38) (.v (.int .i64 0)) rec PT.nil s) fun x39 s =>
 opt2 (oEqv eqB false (.v x36) (.v x39) rec PT.nil s) fun x40 s =>
 opt2 (oMov (.v x40) rec PT.nil s) fun x41 s =>
 opt (gval true x41) fun x42 => opt2 (orUndef x42 (oFieldAddr 0 (.v x32) rec PT.nil s) s) fun x43 s =>
 opt2 (runOps rec c68_q0 (PT.put x43 t42 (PT.put x41 t41 (PT.put x40 t40 (PT.put x39 t39 (PT.put x38 t38 (PT.put x37 t37 (PT.put x36 t36 (PT.put x35 t35 (PT.put x34 t34 (PT.put x32 t10 (PT.put x31 t33 (PT.put x30 t32 (PT.put x29 t31 (PT.put x28 t30 (PT.put x27 t9 (PT.put x26 t8 (PT.put x25 t29 (PT.put x24 t28 (PT.put x23 t19 (PT.put x22 t27 (PT.put x21 t26 (PT.put x20 t25 (PT.put x19 t24 (PT.put x18 t23 (PT.put x17 t22 (PT.put x16 t21 (PT.put x15 t20 (PT.put x14 t7 (PT.put x13 t6 (PT.put x12 t18 (PT.put x11 t17 (PT.put x10 t11 (PT.put x9 t16 (PT.put x8 t15 (PT.put x7 t14 (PT.put x6 t13 (PT.put x5 t12 (PT.put x4 t5 (PT.put x3 t4 (PT.put x2 t3 (PT.put x1 t2 (PT.put a1 t1 (PT.put a0 t0 PT.nil))))))))))))))))))))))))))))))))))))))))))) s) fun fs s =>
 opt2 (c68_j0 rec N fs s) fun e r => opt2 (thenX (c68_j1 rec N) e r) fun e r => finX [.cell t4 (some 2), .tmp t5] e r
set_option maxHeartbeats 4000000 in
theorem d68 (rec : Rec) (N : Nat) (a0 : Value) (a1 : Value) (s : St) : callF rec N c68 [a0, a1] s = D68 rec N a0 a1 s := by
  rw [call_f _ _ _ _ _ rfl]
  simp (maxSteps := 4000000) only [c68, lenN, x_seq, x_ops, x_skip, x_ret, x_exit, x_cond, x_block, x_loop, ops_c, ops_n, op1_u, op1_gj, rq_c, rq_n, opQ_u, opQ_g, op2_op2, op2_op, op2_s, op2_cond, thenX_n, thenX_e, thenX_r, blkX_n, blkX_r, blkX_e, finX_r, finX_n, res_n, res_t, op_s, Nat.beq_refl, cond_true]
  first | done | kernel_rfl
def J68_j1 (rec : Rec) (N : Nat) (k : Value × Value) (s : St) : Out := opt2 (oLoadN 2 (.v k.2) rec PT.nil s) fun x1 s =>
 opt2 (oStore 2 (.v k.1) (.v x1) rec PT.nil s) fun x2 s =>
 finX [.cell t4 (some 2), .tmp t5] .ret ((PT.put (.bool true) t5 (PT.put k.1 t4 PT.nil)), s)
set_option maxHeartbeats 4000000 in
theorem j68_j1 (rec : Rec) (N : Nat) (fs : Frm) (s : St) : opt2 (c68_j1 rec N fs s) (fun e r => finX [.cell t4 (some 2), .tmp t5] e r) = J68_j1 rec N (orU (fs.get t4), orU (fs.get t10)) s := by
  rw [d68_j1]
  unfold D68_j1 J68_j1
  simp (maxSteps := 4000000) only [thenX_n, thenX_e, thenX_r, x_exit, x_skip, x_ret, blkX_n, blkX_r, blkX_e, finX_r, finX_n, res_n, res_t, op2_op2, op2_op, op2_s, op2_cond, op2_bf, mov_v]
  first | done | kernel_rfl
def J68_j0 (rec : Rec) (N : Nat) (k : Value × Value × Value) (s : St) : Out := condV k.2.2
 (opt2 (oBuild [(.int .i64 0), (.int .u64 0)] [] rec PT.nil s) fun x1 s =>
 opt2 (oStore 2 (.v k.1) (.v x1) rec PT.nil s) fun x2 s =>
 finX [.cell t4 (some 2), .tmp t5] .ret ((PT.put (.bool false) t5 (PT.put k.1 t4 PT.nil)), s))
 (J68_j1 rec N (k.1, k.2.1) s)
set_option maxHeartbeats 4000000 in
theorem j68_j0 (rec : Rec) (N : Nat) (fs : Frm) (s : St) : opt2 (c68_j0 rec N fs s) (fun e r => opt2 (thenX (c68_j1 rec N) e r) fun e r => finX [.cell t4 (some 2), .tmp t5] e r) = J68_j0 rec N (orU (fs.get t4), orU (fs.get t10), orU (fs.get t49)) s := by
  rw [d68_j0]
  unfold D68_j0 J68_j0
  simp (maxSteps := 4000000) only [thenX_n, thenX_e, thenX_r, x_exit, x_skip, x_ret, blkX_n, blkX_r, blkX_e, finX_r, finX_n, res_n, res_t, op2_op2, op2_op, op2_s, op2_cond, op2_bf, mov_v, j68_j1 rec N]
  first | done | kernel_rfl
def Q68_q0 (rec : Rec) (N : Nat) (k : Value × Value × Value × Value × Value) (s : St) : Out := opt (gval true k.2.2.2.1) fun x1 => opt2 (orUndef x1 (oLoad1 (.v k.2.2.2.2) rec PT.nil s) s) fun x2 s =>
 opt (gval true k.2.2.2.1) fun x3 => opt2 (orUndef x3 (oBin (int2 (cmpO ltI)) (.v x2) (.v (.int .i64 0)) rec PT.nil s) s) fun x4 s =>
 opt (gval true k.2.2.2.1) fun x5 => opt2 (orUndef x5 (oFieldAddr 0 (.v k.1) rec PT.nil s) s) fun x6 s =>
 opt (gval true k.2.2.2.1) fun x7 => opt2 (orUndef x7 (oLoad1 (.v x6) rec PT.nil s) s) fun x8 s =>
 opt (gval true k.2.2.2.1) fun x9 => opt2 (orUndef x9 (oBin (int2 (cmpO ltI)) (.v x8) (.v (.int .i64 0)) rec PT.nil s) s) fun x10 s =>
 opt (gval true k.2.2.2.1) fun x11 => opt2 (orUndef x11 (oEqv eqB true (.v x4) (.v x10) rec PT.nil s) s) fun x12 s =>
 opt2 (oPick (.v k.2.2.2.1) (.v x12) (.v (.bool false)) rec PT.nil s) fun x13 s =>
 J68_j0 rec N (k.2.1, k.2.2.1, x13) s
set_option maxHeartbeats 4000000 in
theorem j68_q0 (rec : Rec) (N : Nat) (fs : Frm) (s : St) : opt2 (runOps rec c68_q0 fs s) (fun fs s => opt2 (c68_j0 rec N fs s) fun e r => opt2 (thenX (c68_j1 rec N) e r) fun e r => finX [.cell t4 (some 2), .tmp t5] e r) = Q68_q0 rec N (orU (fs.get t2), orU (fs.get t4), orU (fs.get t10), orU (fs.get t41), orU (fs.get t42)) s := by
  rw [d68_q0]
  unfold D68_q0 Q68_q0
  simp (maxSteps := 4000000) only [thenX_n, thenX_e, thenX_r, x_exit, x_skip, x_ret, blkX_n, blkX_r, blkX_e, finX_r, finX_n, res_n, res_t, op2_op2, op2_op, op2_s, op2_cond, op2_bf, mov_v, j68_j0 rec N]
  first | done | kernel_rfl
def F68 (rec : Rec) (N : Nat) (a0 : Value) (a1 : Value) (s : St) : Out := opt2 (oBox (.v a0) rec PT.nil s) fun x1 s =>
 opt2 (oBox (.v a1) rec PT.nil s) fun x2 s =>
 opt2 (oNew [(.int .i64 0), (.int .u64 0)] rec PT.nil s) fun x3 s =>
 opt2 (oFieldAddr 1 (.v x1) rec PT.nil s) fun x4 s =>
 opt2 (oLoad1 (.v x4) rec PT.nil s) fun x5 s =>
 opt2 (oFieldAddr 1 (.v x2) rec PT.nil s) fun x6 s =>
 opt2 (oLoad1 (.v x6) rec PT.nil s) fun x7 s =>
 opt2 (oExt add64X [(.v x5), (.v x7), (.v (.int .u64 0))] rec PT.nil s) fun x8 s =>
 opt2 (oExtract (.v x8) 0 rec PT.nil s) fun x9 s =>
 opt2 (oExtract (.v x8) 1 rec PT.nil s) fun x10 s =>
 opt2 (oFieldAddr 0 (.v x1) rec PT.nil s) fun x11 s =>
 opt2 (oLoad1 (.v x11) rec PT.nil s) fun x12 s =>
 opt2 (oConv .u64 (.v x12) rec PT.nil s) fun x13 s =>
 opt2 (oFieldAddr 0 (.v x2) rec PT.nil s) fun x14 s =>
 opt2 (oLoad1 (.v x14) rec PT.nil s) fun x15 s =>
 opt2 (oConv .u64 (.v x15) rec PT.nil s) fun x16 s =>
 opt2 (oExt add64X [(.v x13), (.v x16), (.v x10)] rec PT.nil s) fun x17 s =>
 opt2 (oExtract (.v x17) 0 rec PT.nil s) fun x18 s =>
 opt2 (oExtract (.v x17) 1 rec PT.nil s) fun x19 s =>
 opt2 (oConv .i64 (.v x18) rec PT.nil s) fun x20 s =>
 opt2 (oBuild [(.int .i64 0), (.int .u64 0)] [(0, 1, (.v x20)), (1, 1, (.v x9))] rec PT.nil s) fun x21 s =>
 opt2 (oNew [(.int .i64 0), (.int .u64 0)] rec PT.nil s) fun x22 s =>
 opt2 (oStore 2 (.v x22) (.v x21) rec PT.nil s) fun x23 s =>
 opt2 (oFieldAddr 0 (.v x1) rec PT.nil s) fun x24 s =>
 opt2 (oLoad1 (.v x24) rec PT.nil s) fun x25 s =>
 opt2 (oBin (int2 (cmpO ltI)) (.v x25) (.v (.int .i64 0)) rec PT.nil s) fun x26 s =>
 opt2 (oFieldAddr 0 (.v x2) rec PT.nil s) fun x27 s =>
 opt2 (oLoad1 (.v x27) rec PT.nil s) fun x28 s =>
 opt2 (oBin (int2 (cmpO ltI)) (.v x28) (.v (.int .i64 0)) rec PT.nil s) fun x29 s =>
 opt2 (oEqv eqB false (.v x26) (.v x29) rec PT.nil s) fun x30 s =>
 opt (gval true x30) fun x31 => opt2 (orUndef x31 (oFieldAddr 0 (.v x22) rec PT.nil s) s) fun x32 s =>
 Q68_q0 rec N (x1, x3, x22, x30, x32) s
theorem f68 (rec : Rec) (N : Nat) (a0 : Value) (a1 : Value) (s : St) : callF rec N c68 [a0, a1] s = F68 rec N a0 a1 s := by
  rw [d68]
  unfold D68 F68
  simp (maxSteps := 4000000) only [mov_v, op2_s, j68_q0 rec N]
  first | done | kernel_rfl
-- c76
def D76 (rec : Rec) (N : Nat) (a0 : Value) (a1 : Value) (s : St) : Out := opt2 (oMov (.v a0) rec PT.nil s) fun x1 s =>
 opt2 (oMov (.v a0) rec PT.nil s) fun x2 s =>
 opt2 (oLenL (.v x2) rec PT.nil s) fun x3 s =>
 opt2 (oMov (.v a1) rec PT.nil s) fun x4 s =>
 opt2 (oBin (int2 subO) (.v x3) (.v x4) rec PT.nil s) fun x5 s =>
 opt2 (rec 81 [x1, x5] s) fun x6 s =>
 some (oneOf [], s)
set_option maxHeartbeats 4000000 in
theorem d76 (rec : Rec) (N : Nat) (a0 : Value) (a1 : Value) (s : St) : callF rec N c76 [a0, a1] s = D76 rec N a0 a1 s := by
  rw [call_f _ _ _ _ _ rfl]
  simp (maxSteps := 4000000) only [c76, lenN, x_seq, x_ops, x_skip, x_ret, x_exit, x_cond, x_block, x_loop, ops_c, ops_n, op1_u, op1_gj, rq_c, rq_n, opQ_u, opQ_g, op2_op2, op2_op, op2_s, op2_cond, thenX_n, thenX_e, thenX_r, blkX_n, blkX_r, blkX_e, finX_r, finX_n, res_n, res_t, op_s, Nat.beq_refl, cond_true]
  first | done | kernel_rfl
def F76 (rec : Rec) (N : Nat) (a0 : Value) (a1 : Value) (s : St) : Out := opt2 (oLenL (.v a0) rec PT.nil s) fun x1 s =>
 opt2 (oBin (int2 subO) (.v x1) (.v a1) rec PT.nil s) fun x2 s =>
 opt2 (rec 81 [a0, x2] s) fun x3 s =>
 some (oneOf [], s)
set_option maxHeartbeats 4000000 in
theorem f76 (rec : Rec) (N : Nat) (a0 : Value) (a1 : Value) (s : St) : callF rec N c76 [a0, a1] s = F76 rec N a0 a1 s := by
  rw [d76]
  unfold D76 F76
  first
    | done
    | rfl
    | (simp (maxSteps := 4000000) only [mov_v, op2_s]; first | done | kernel_rfl)
    | kernel_rfl
-- c77
def D77 (rec : Rec) (N : Nat) (a0 : Value) (a1 : Value) (s : St) : Out := opt2 (oNew [(.int .i64 0), (.int .u64 0)] rec PT.nil s) fun x1 s =>
 opt2 (oMov (.v a0) rec PT.nil s) fun x2 s =>
 opt2 (oConv .u64 (.v x2) rec PT.nil s) fun x3 s =>
 opt2 (oMov (.v a1) rec PT.nil s) fun x4 s =>
 opt2 (oConv .u64 (.v x4) rec PT.nil s) fun x5 s =>
 opt2 (rec 82 [x3, x5] s) fun x6 s =>
 opt2 (oMov (.v x6) rec PT.nil s) fun x7 s =>
 opt2 (oExtract (.v x7) 0 rec PT.nil s) fun x8 s =>
 opt2 (oExtract (.v x7) 1 rec PT.nil s) fun x9 s =>
 opt2 (oMov (.v x8) rec PT.nil s) fun x10 s =>
 opt2 (oMov (.v x9) rec PT.nil s) fun x11 s =>
 opt2 (oMov (.v x10) rec PT.nil s) fun x12 s =>
 opt2 (oConv .i64 (.v x12) rec PT.nil s) fun x13 s =>
 opt2 (oMov (.v x13) rec PT.nil s) fun x14 s =>
 opt2 (oMov (.v a0) rec PT.nil s) fun x15 s =>
 opt2 (oBin (int2 (cmpO ltI)) (.v x15) (.v (.int .i64 0)) rec PT.nil s) fun x16 s =>
 condV x16
 (opt2 (oMov (.v x14) rec PT.nil s) fun x17 s =>
 opt2 (oMov (.v a1) rec PT.nil s) fun x18 s =>
 opt2 (oBin (int2 subO) (.v x17) (.v x18) rec PT.nil s) fun x19 s =>
 opt2 (oMov (.v x19) rec PT.nil s) fun x20 s =>
 opt2 (oMov (.v a1) rec PT.nil s) fun x21 s =>
 opt2 (oBin (int2 (cmpO ltI)) (.v x21) (.v (.int .i64 0)) rec PT.nil s) fun x22 s =>
 condV x22
 (opt2 (oMov (.v x20) rec PT.nil s) fun x23 s =>
 opt2 (oMov (.v a0) rec PT.nil s) fun x24 s =>
 opt2 (oBin (int2 subO) (.v x23) (.v x24) rec PT.nil s) fun x25 s =>
 opt2 (oMov (.v x25) rec PT.nil s) fun x26 s =>
 opt2 (oMov (.v x26) rec PT.nil s) fun x27 s =>
 opt2 (oMov (.v x11) rec PT.nil s) fun x28 s =>
 opt2 (oBuild [(.int .i64 0), (.int .u64 0)] [(0, 1, (.v x27)), (1, 1, (.v x28))] rec PT.nil s) fun x29 s =>
 opt2 (oStore 2 (.v x1) (.v x29) rec PT.nil s) fun x30 s =>
 finX [.cell t4 (some 2)] .ret ((PT.put x29 t30 (PT.put x28 t29 (PT.put x27 t28 (PT.put x26 t7 (PT.put x25 t27 (PT.put x24 t26 (PT.put x23 t25 (PT.put x22 t24 (PT.put x21 t23 (PT.put x20 t7 (PT.put x19 t22 (PT.put x18 t21 (PT.put x17 t20 (PT.put x16 t19 (PT.put x15 t18 (PT.put x14 t7 (PT.put x13 t17 (PT.put x12 t16 (PT.put x11 t6 (PT.put x10 t5 (PT.put x9 t15 (PT.put x8 t14 (PT.put x7 t8 (PT.put x6 t13 (PT.put x5 t12 (PT.put x4 t11 (PT.put x3 t10 (PT.put x2 t9 (PT.put x1 t4 (PT.put a1 t1 (PT.put a0 t0 PT.nil))))))))))))))))))))))))))))))), s))
 (opt2 (oMov (.v x20) rec PT.nil s) fun x31 s =>
 opt2 (oMov (.v x11) rec PT.nil s) fun x32 s =>
 opt2 (oBuild [(.int .i64 0), (.int .u64 0)] [(0, 1, (.v x31)), (1, 1, (.v x32))] rec PT.nil s) fun x33 s =>
 opt2 (oStore 2 (.v x1) (.v x33) rec PT.nil s) fun x34 s =>
 finX [.cell t4 (some 2)] .ret ((PT.put x33 t30 (PT.put x32 t29 (PT.put x31 t28 (PT.put x22 t24 (PT.put x21 t23 (PT.put x20 t7 (PT.put x19 t22 (PT.put x18 t21 (PT.put x17 t20 (PT.put x16 t19 (PT.put x15 t18 (PT.put x14 t7 (PT.put x13 t17 (PT.put x12 t16 (PT.put x11 t6 (PT.put x10 t5 (PT.put x9 t15 (PT.put x8 t14 (PT.put x7 t8 (PT.put x6 t13 (PT.put x5 t12 (PT.put x4 t11 (PT.put x3 t10 (PT.put x2 t9 (PT.put x1 t4 (PT.put a1 t1 (PT.put a0 t0 PT.nil))))))))))))))))))))))))))), s)))
 (opt2 (oMov (.v a1) rec PT.nil s) fun x35 s =>
 opt2 (oBin (int2 (cmpO ltI)) (.v x35) (.v (.int .i64 0)) rec PT.nil s) fun x36 s =>
 condV x36
 (opt2 (oMov (.v x14) rec PT.nil s) fun x37 s =>
 opt2 (oMov (.v a0) rec PT.nil s) fun x38 s =>
 opt2 (oBin (int2 subO) (.v x37) (.v x38) rec PT.nil s) fun x39 s =>
 opt2 (oMov (.v x39) rec PT.nil s) fun x40 s =>
 opt2 (oMov (.v x40) rec PT.nil s) fun x41 s =>
 opt2 (oMov (.v x11) rec PT.nil s) fun x42 s =>
 opt2 (oBuild [(.int .i64 0), (.int .u64 0)] [(0, 1, (.v x41)), (1, 1, (.v x42))] rec PT.nil s) fun x43 s =>
 opt2 (oStore 2 (.v x1) (.v x43) rec PT.nil s) fun x44 s =>
 finX [.cell t4 (some 2)] .ret ((PT.put x43 t30 (PT.put x42 t29 (PT.put x41 t28 (PT.put x40 t7 (PT.put x39 t27 (PT.put x38 t26 (PT.put x37 t25 (PT.put x36 t24 (PT.put x35 t23 (PT.put x16 t19 (PT.put x15 t18 (PT.put x14 t7 (PT.put x13 t17 (PT.put x12 t16 (PT.put x11 t6 (PT.put x10 t5 (PT.put x9 t15 (PT.put x8 t14 (PT.put x7 t8 (PT.put x6 t13 (PT.put x5 t12 (PT.put x4 t11 (PT.put x3 t10 (PT.put x2 t9 (PT.put x1 t4 (PT.put a1 t1 (PT.put a0 t0 PT.nil))))))))))))))))))))))))))), s))
 (opt2 (oMov (.v x14) rec PT.nil s) fun x45 s =>
 opt2 (oMov (.v x11) rec PT.nil s) fun x46 s =>
 opt2 (oBuild [(.int .i64 0), (.int .u64 0)] [(0, 1, (.v x45)), (1, 1, (.v x46))] rec PT.nil s) fun x47 s =>
 opt2 (oStore 2 (.v x1) (.v x47) rec PT.nil s) fun x48 s =>
 finX [.cell t4 (some 2)] .ret ((PT.put x47 t30 (PT.put x46 t29 (PT.put x45 t28 (PT.put x36 t24 (PT.put x35 t23 (PT.put x16 t19 (PT.put x15 t18 (PT.put x14 t7 (PT.put x13 t17 (PT.put x12 t16 (PT.put x11 t6 (PT.put x10 t5 (PT.put x9 t15 (PT.put x8 t14 (PT.put x7 t8 (PT.put x6 t13 (PT.put x5 t12 (PT.put x4 t11 (PT.put x3 t10 (PT.put x2 t9 (PT.put x1 t4 (PT.put a1 t1 (PT.put a0 t0 PT.nil))))))))))))))))))))))), s)))
set_option maxHeartbeats 4000000 in
theorem d77 (rec : Rec) (N : Nat) (a0 : Value) (a1 : Value) (s : St) : callF rec N c77 [a0, a1] s = D77 rec N a0 a1 s := by
  rw [call_f _ _ _ _ _ rfl]
  simp (maxSteps := 4000000) only [c77, lenN, x_seq, x_ops, x_skip, x_ret, x_exit, x_cond, x_block, x_loop, ops_c, ops_n, op1_u, op1_gj, rq_c, rq_n, opQ_u, opQ_g, op2_op2, op2_op, op2_s, op2_cond, thenX_n, thenX_e, thenX_r, blkX_n, blkX_r, blkX_e, finX_r, finX_n, res_n, res_t, op_s, Nat.beq_refl, cond_true]
  first | done | kernel_rfl
def F77 (rec : Rec) (N : Nat) (a0 : Value) (a1 : Value) (s : St) : Out := opt2 (oNew [(.int .i64 0), (.int .u64 0)] rec PT.nil s) fun x1 s =>
 opt2 (oConv .u64 (.v a0) rec PT.nil s) fun x2 s =>
 opt2 (oConv .u64 (.v a1) rec PT.nil s) fun x3 s =>
 opt2 (rec 82 [x2, x3] s) fun x4 s =>
 opt2 (oExtract (.v x4) 0 rec PT.nil s) fun x5 s =>
 opt2 (oExtract (.v x4) 1 rec PT.nil s) fun x6 s =>
 opt2 (oConv .i64 (.v x5) rec PT.nil s) fun x7 s =>
 opt2 (oBin (int2 (cmpO ltI)) (.v a0) (.v (.int .i64 0)) rec PT.nil s) fun x8 s =>
 condV x8
 (opt2 (oBin (int2 subO) (.v x7) (.v a1) rec PT.nil s) fun x9 s =>
 opt2 (oBin (int2 (cmpO ltI)) (.v a1) (.v (.int .i64 0)) rec PT.nil s) fun x10 s =>
 condV x10
 (opt2 (oBin (int2 subO) (.v x9) (.v a0) rec PT.nil s) fun x11 s =>
 opt2 (oBuild [(.int .i64 0), (.int .u64 0)] [(0, 1, (.v x11)), (1, 1, (.v x6))] rec PT.nil s) fun x12 s =>
 opt2 (oStore 2 (.v x1) (.v x12) rec PT.nil s) fun x13 s =>
 finX [.cell t4 (some 2)] .ret ((PT.put x1 t4 PT.nil), s))
 (opt2 (oBuild [(.int .i64 0), (.int .u64 0)] [(0, 1, (.v x9)), (1, 1, (.v x6))] rec PT.nil s) fun x14 s =>
 opt2 (oStore 2 (.v x1) (.v x14) rec PT.nil s) fun x15 s =>
 finX [.cell t4 (some 2)] .ret ((PT.put x1 t4 PT.nil), s)))
 (opt2 (oBin (int2 (cmpO ltI)) (.v a1) (.v (.int .i64 0)) rec PT.nil s) fun x16 s =>
 condV x16
 (opt2 (oBin (int2 subO) (.v x7) (.v a0) rec PT.nil s) fun x17 s =>
 opt2 (oBuild [(.int .i64 0), (.int .u64 0)] [(0, 1, (.v x17)), (1, 1, (.v x6))] rec PT.nil s) fun x18 s =>
 opt2 (oStore 2 (.v x1) (.v x18) rec PT.nil s) fun x19 s =>
 finX [.cell t4 (some 2)] .ret ((PT.put x1 t4 PT.nil), s))
 (opt2 (oBuild [(.int .i64 0), (.int .u64 0)] [(0, 1, (.v x7)), (1, 1, (.v x6))] rec PT.nil s) fun x20 s =>
 opt2 (oStore 2 (.v x1) (.v x20) rec PT.nil s) fun x21 s =>
 finX [.cell t4 (some 2)] .ret ((PT.put x1 t4 PT.nil), s)))
set_option maxHeartbeats 4000000 in
theorem f77 (rec : Rec) (N : Nat) (a0 : Value) (a1 : Value) (s : St) : callF rec N c77 [a0, a1] s = F77 rec N a0 a1 s := by
  rw [d77]
  unfold D77 F77
  first
    | done
    | rfl
    | (simp (maxSteps := 4000000) only [mov_v, op2_s]; first | done | kernel_rfl)
    | kernel_rfl
-- c79
def D79 (rec : Rec) (N : Nat) (a0 : Value) (s : St) : Out := opt2 (oMov (.v (.int .i64 0)) rec PT.nil s) fun x1 s =>
 opt2 (oMov (.v a0) rec PT.nil s) fun x2 s =>
 opt2 (rec 83 [x2] s) fun x3 s =>
 opt2 (oBin (int2 subO) (.v (.int .i64 64)) (.v x3) rec PT.nil s) fun x4 s =>
 opt2 (oMov (.v x4) rec PT.nil s) fun x5 s =>
 some (oneOf [x5], s)
set_option maxHeartbeats 4000000 in
theorem d79 (rec : Rec) (N : Nat) (a0 : Value) (s : St) : callF rec N c79 [a0] s = D79 rec N a0 s := by
  rw [call_f _ _ _ _ _ rfl]
  simp (maxSteps := 4000000) only [c79, lenN, x_seq, x_ops, x_skip, x_ret, x_exit, x_cond, x_block, x_loop, ops_c, ops_n, op1_u, op1_gj, rq_c, rq_n, opQ_u, opQ_g, op2_op2, op2_op, op2_s, op2_cond, thenX_n, thenX_e, thenX_r, blkX_n, blkX_r, blkX_e, finX_r, finX_n, res_n, res_t, op_s, Nat.beq_refl, cond_true]
  first | done | kernel_rfl
def F79 (rec : Rec) (N : Nat) (a0 : Value) (s : St) : Out := opt2 (rec 83 [a0] s) fun x1 s =>
 opt2 (oBin (int2 subO) (.v (.int .i64 64)) (.v x1) rec PT.nil s) fun x2 s =>
 some (oneOf [x2], s)
set_option maxHeartbeats 4000000 in
theorem f79 (rec : Rec) (N : Nat) (a0 : Value) (s : St) : callF rec N c79 [a0] s = F79 rec N a0 s := by
  rw [d79]
  unfold D79 F79
  first
    | done
    | rfl
    | (simp (maxSteps := 4000000) only [mov_v, op2_s]; first | done | kernel_rfl)
    | kernel_rfl
-- c81
def D81 (rec : Rec) (N : Nat) (a0 : Value) (a1 : Value) (s : St) : Out := opt2 (oMov (.v a0) rec PT.nil s) fun x1 s =>
 opt2 (oMov (.v a1) rec PT.nil s) fun x2 s =>
 opt2 (oSliceL 2 (.v x1) none (some (.v x2)) none rec PT.nil s) fun x3 s =>
 opt2 (rec 84 [x3] s) fun x4 s =>
 opt2 (oMov (.v a0) rec PT.nil s) fun x5 s =>
 opt2 (oMov (.v a1) rec PT.nil s) fun x6 s =>
 opt2 (oSliceL 2 (.v x5) (some (.v x6)) none none rec PT.nil s) fun x7 s =>
 opt2 (rec 84 [x7] s) fun x8 s =>
 opt2 (oMov (.v a0) rec PT.nil s) fun x9 s =>
 opt2 (rec 84 [x9] s) fun x10 s =>
 some (oneOf [], s)
set_option maxHeartbeats 4000000 in
theorem d81 (rec : Rec) (N : Nat) (a0 : Value) (a1 : Value) (s : St) : callF rec N c81 [a0, a1] s = D81 rec N a0 a1 s := by
  rw [call_f _ _ _ _ _ rfl]
  simp (maxSteps := 4000000) only [c81, lenN, x_seq, x_ops, x_skip, x_ret, x_exit, x_cond, x_block, x_loop, ops_c, ops_n, op1_u, op1_gj, rq_c, rq_n, opQ_u, opQ_g, op2_op2, op2_op, op2_s, op2_cond, thenX_n, thenX_e, thenX_r, blkX_n, blkX_r, blkX_e, finX_r, finX_n, res_n, res_t, op_s, Nat.beq_refl, cond_true]
  first | done | kernel_rfl
def F81 (rec : Rec) (N : Nat) (a0 : Value) (a1 : Value) (s : St) : Out := opt2 (oSliceL 2 (.v a0) none (some (.v a1)) none rec PT.nil s) fun x1 s =>
 opt2 (rec 84 [x1] s) fun x2 s =>
 opt2 (oSliceL 2 (.v a0) (some (.v a1)) none none rec PT.nil s) fun x3 s =>
 opt2 (rec 84 [x3] s) fun x4 s =>
 opt2 (rec 84 [a0] s) fun x5 s =>
 some (oneOf [], s)
set_option maxHeartbeats 4000000 in
theorem f81 (rec : Rec) (N : Nat) (a0 : Value) (a1 : Value) (s : St) : callF rec N c81 [a0, a1] s = F81 rec N a0 a1 s := by
  rw [d81]
  unfold D81 F81
  first
    | done
    | rfl
    | (simp (maxSteps := 4000000) only [mov_v, op2_s]; first | done | kernel_rfl)
    | kernel_rfl
-- c82
def D82 (rec : Rec) (N : Nat) (a0 : Value) (a1 : Value) (s : St) : Out := opt2 (oMov (.v (.int .u64 0)) rec PT.nil s) fun x1 s =>
 opt2 (oMov (.v (.int .u64 0)) rec PT.nil s) fun x2 s =>
 opt2 (oMov (.v a0) rec PT.nil s) fun x3 s =>
 opt2 (oBin (int2 andO) (.v x3) (.v (.int .u64 4294967295)) rec PT.nil s) fun x4 s =>
 opt2 (oMov (.v x4) rec PT.nil s) fun x5 s =>
 opt2 (oMov (.v a0) rec PT.nil s) fun x6 s =>
 opt2 (oBin (sh2 shrO) (.v x6) (.v (.int .u64 32)) rec PT.nil s) fun x7 s =>
 opt2 (oMov (.v x7) rec PT.nil s) fun x8 s =>
 opt2 (oMov (.v a1) rec PT.nil s) fun x9 s =>
 opt2 (oBin (int2 andO) (.v x9) (.v (.int .u64 4294967295)) rec PT.nil s) fun x10 s =>
 opt2 (oMov (.v x10) rec PT.nil s) fun x11 s =>
 opt2 (oMov (.v a1) rec PT.nil s) fun x12 s =>
 opt2 (oBin (sh2 shrO) (.v x12) (.v (.int .u64 32)) rec PT.nil s) fun x13 s =>
 opt2 (oMov (.v x13) rec PT.nil s) fun x14 s =>
 opt2 (oMov (.v x5) rec PT.nil s) fun x15 s =>
 opt2 (oMov (.v x11) rec PT.nil s) fun x16 s =>
 opt2 (oBin (int2 mulO) (.v x15) (.v x16) rec PT.nil s) fun x17 s =>
 opt2 (oMov (.v x17) rec PT.nil s) fun x18 s =>
 opt2 (oMov (.v x8) rec PT.nil s) fun x19 s =>
 opt2 (oMov (.v x11) rec PT.nil s) fun x20 s =>
 opt2 (oBin (int2 mulO) (.v x19) (.v x20) rec PT.nil s) fun x21 s =>
 opt2 (oMov (.v x18) rec PT.nil s) fun x22 s =>
 opt2 (oBin (sh2 shrO) (.v x22) (.v (.int .u64 32)) rec PT.nil s) fun x23 s =>
 opt2 (oBin (int2 addO) (.v x21) (.v x23) rec PT.nil s) fun x24 s =>
 opt2 (oMov (.v x24) rec PT.nil s) fun x25 s =>
 opt2 (oMov (.v x25) rec PT.nil s) fun x26 s =>
 opt2 (oBin (int2 andO) (.v x26) (.v (.int .u64 4294967295)) rec PT.nil s) fun x27 s =>
 opt2 (oMov (.v x27) rec PT.nil s) fun x28 s =>
 opt2 (oMov (.v x25) rec PT.nil s) fun x29 s =>
 opt2 (oBin (sh2 shrO) (.v x29) (.v (.int .u64 32)) rec PT.nil s) fun x30 s =>
 opt2 (oMov (.v x30) rec PT.nil s) fun x31 s =>
 opt2 (oMov (.v x28) rec PT.nil s) fun x32 s =>
 opt2 (oMov (.v x5) rec PT.nil s) fun x33 s =>
 opt2 (oMov (.v x14) rec PT.nil s) fun x34 s =>
 opt2 (oBin (int2 mulO) (.v x33) (.v x34) rec PT.nil s) fun x35 s =>
 opt2 (oBin (int2 addO) (.v x32) (.v x35) rec PT.nil s) fun x36 s =>
 opt2 (oMov (.v x36) rec PT.nil s) fun x37 s =>
 opt2 (oMov (.v x8) rec PT.nil s) fun x38 s =>
 opt2 (oMov (.v x14) rec PT.nil s) fun x39 s =>
 opt2 (oBin (int2 mulO) (.v x38) (.v x39) rec PT.nil s) fun x40 s =>
 opt2 (oMov (.v x31) rec PT.nil s) fun x41 s =>
 opt2 (oBin (int2 addO) (.v x40) (.v x41) rec PT.nil s) fun x42 s =>
 opt2 (oMov (.v x37) rec PT.nil s) fun x43 s =>
 opt2 (oBin (sh2 shrO) (.v x43) (.v (.int .u64 32)) rec PT.nil s) fun x44 s =>
 opt2 (oBin (int2 addO) (.v x42) (.v x44) rec PT.nil s) fun x45 s =>
 opt2 (oMov (.v x45) rec PT.nil s) fun x46 s =>
 opt2 (oMov (.v a0) rec PT.nil s) fun x47 s =>
 opt2 (oMov (.v a1) rec PT.nil s) fun x48 s =>
 opt2 (oBin (int2 mulO) (.v x47) (.v x48) rec PT.nil s) fun x49 s =>
 opt2 (oMov (.v x49) rec PT.nil s) fun x50 s =>
 some (oneOf [x46, x50], s)
set_option maxHeartbeats 4000000 in
theorem d82 (rec : Rec) (N : Nat) (a0 : Value) (a1 : Value) (s : St) : callF rec N c82 [a0, a1] s = D82 rec N a0 a1 s := by
  rw [call_f _ _ _ _ _ rfl]
  simp (maxSteps := 4000000) only [c82, lenN, x_seq, x_ops, x_skip, x_ret, x_exit, x_cond, x_block, x_loop, ops_c, ops_n, op1_u, op1_gj, rq_c, rq_n, opQ_u, opQ_g, op2_op2, op2_op, op2_s, op2_cond, thenX_n, thenX_e, thenX_r, blkX_n, blkX_r, blkX_e, finX_r, finX_n, res_n, res_t, op_s, Nat.beq_refl, cond_true]
  first | done | kernel_rfl
def F82 (rec : Rec) (N : Nat) (a0 : Value) (a1 : Value) (s : St) : Out := opt2 (oBin (int2 andO) (.v a0) (.v (.int .u64 4294967295)) rec PT.nil s) fun x1 s =>
 opt2 (oBin (sh2 shrO) (.v a0) (.v (.int .u64 32)) rec PT.nil s) fun x2 s =>
 opt2 (oBin (int2 andO) (.v a1) (.v (.int .u64 4294967295)) rec PT.nil s) fun x3 s =>
 opt2 (oBin (sh2 shrO) (.v a1) (.v (.int .u64 32)) rec PT.nil s) fun x4 s =>
 opt2 (oBin (int2 mulO) (.v x1) (.v x3) rec PT.nil s) fun x5 s =>
 opt2 (oBin (int2 mulO) (.v x2) (.v x3) rec PT.nil s) fun x6 s =>
 opt2 (oBin (sh2 shrO) (.v x5) (.v (.int .u64 32)) rec PT.nil s) fun x7 s =>
 opt2 (oBin (int2 addO) (.v x6) (.v x7) rec PT.nil s) fun x8 s =>
 opt2 (oBin (int2 andO) (.v x8) (.v (.int .u64 4294967295)) rec PT.nil s) fun x9 s =>
 opt2 (oBin (sh2 shrO) (.v x8) (.v (.int .u64 32)) rec PT.nil s) fun x10 s =>
 opt2 (oBin (int2 mulO) (.v x1) (.v x4) rec PT.nil s) fun x11 s =>
 opt2 (oBin (int2 addO) (.v x9) (.v x11) rec PT.nil s) fun x12 s =>
 opt2 (oBin (int2 mulO) (.v x2) (.v x4) rec PT.nil s) fun x13 s =>
 opt2 (oBin (int2 addO) (.v x13) (.v x10) rec PT.nil s) fun x14 s =>
 opt2 (oBin (sh2 shrO) (.v x12) (.v (.int .u64 32)) rec PT.nil s) fun x15 s =>
 opt2 (oBin (int2 addO) (.v x14) (.v x15) rec PT.nil s) fun x16 s =>
 opt2 (oBin (int2 mulO) (.v a0) (.v a1) rec PT.nil s) fun x17 s =>
 some (oneOf [x16, x17], s)
set_option maxHeartbeats 4000000 in
theorem f82 (rec : Rec) (N : Nat) (a0 : Value) (a1 : Value) (s : St) : callF rec N c82 [a0, a1] s = F82 rec N a0 a1 s := by
  rw [d82]
  unfold D82 F82
  first
    | done
    | rfl
    | (simp (maxSteps := 4000000) only [mov_v, op2_s]; first | done | kernel_rfl)
    | kernel_rfl
-- c83
def D83_j0 (rec : Rec) (N : Nat) (fs : Frm) (s : St) : OutX := opt2 (oMov (.v (orU (fs.get t0))) rec PT.nil s) fun x1 s =>
 opt2 (oBin (int2 (cmpO geI)) (.v x1) (.v (.int .u64 65536)) rec PT.nil s) fun x2 s =>
 condV x2
 (opt2 (oMov (.v (orU (fs.get t0))) rec PT.nil s) fun x3 s =>
 opt2 (oBin (sh2 shrO) (.v x3) (.v (.int .u64 16)) rec PT.nil s) fun x4 s =>
 opt2 (oMov (.v x4) rec PT.nil s) fun x5 s =>
 opt2 (oMov (.v (orU (fs.get t2))) rec PT.nil s) fun x6 s =>
 opt2 (oBin (int2 addO) (.v x6) (.v (.int .i64 16)) rec PT.nil s) fun x7 s =>
 opt2 (oMov (.v x7) rec PT.nil s) fun x8 s =>
 opt2 (oMov (.v x5) rec PT.nil s) fun x9 s =>
 opt2 (oBin (int2 (cmpO geI)) (.v x9) (.v (.int .u64 256)) rec PT.nil s) fun x10 s =>
 condV x10
 (opt2 (oMov (.v x5) rec PT.nil s) fun x11 s =>
 opt2 (oBin (sh2 shrO) (.v x11) (.v (.int .u64 8)) rec PT.nil s) fun x12 s =>
 opt2 (oMov (.v x12) rec PT.nil s) fun x13 s =>
 opt2 (oMov (.v x8) rec PT.nil s) fun x14 s =>
 opt2 (oBin (int2 addO) (.v x14) (.v (.int .i64 8)) rec PT.nil s) fun x15 s =>
 opt2 (oMov (.v x15) rec PT.nil s) fun x16 s =>
 opt2 (oMov (.v x16) rec PT.nil s) fun x17 s =>
 opt2 (oMov (.v x13) rec PT.nil s) fun x18 s =>
 opt2 (oConv .u8 (.v x18) rec PT.nil s) fun x19 s =>
 opt2 (oIdxS (.v (.string ⟨⟨[0, 1, 2, 2, 3, 3, 3, 3, 4, 4, 4, 4, 4, 4, 4, 4, 5, 5, 5, 5, 5, 5, 5, 5, 5, 5, 5, 5, 5, 5, 5, 5, 6, 6, 6, 6, 6, 6, 6, 6, 6, 6, 6, 6, 6, 6, 6, 6, 6, 6, 6, 6, 6, 6, 6, 6, 6, 6, 6, 6, 6, 6, 6, 6, 7, 7, 7, 7, 7, 7, 7, 7, 7, 7, 7, 7, 7, 7, 7, 7, 7, 7, 7, 7, 7, 7, 7, 7, 7, 7, 7, 7, 7, 7, 7, 7, 7, 7, 7, 7, 7, 7, 7, 7, 7, 7, 7, 7, 7, 7, 7, 7, 7, 7, 7, 7, 7, 7, 7, 7, 7, 7, 7, 7, 7, 7, 7, 7, 8, 8, 8, 8, 8, 8, 8, 8, 8, 8, 8, 8, 8, 8, 8, 8, 8, 8, 8, 8, 8, 8, 8, 8, 8, 8, 8, 8, 8, 8, 8, 8, 8, 8, 8, 8, 8, 8, 8, 8, 8, 8, 8, 8, 8, 8, 8, 8, 8, 8, 8, 8, 8, 8, 8, 8, 8, 8, 8, 8, 8, 8, 8, 8, 8, 8, 8, 8, 8, 8, 8, 8, 8, 8, 8, 8, 8, 8, 8, 8, 8, 8, 8, 8, 8, 8, 8, 8, 8, 8, 8, 8, 8, 8, 8, 8, 8, 8, 8, 8, 8, 8, 8, 8, 8, 8, 8, 8, 8, 8, 8, 8, 8, 8, 8, 8, 8, 8, 8, 8, 8, 8, 8, 8, 8, 8, 8, 8]⟩⟩)) (.v x19) rec PT.nil s) fun x20 s =>
 opt2 (oConv .i64 (.v x20) rec PT.nil s) fun x21 s =>
 opt2 (oBin (int2 addO) (.v x17) (.v x21) rec PT.nil s) fun x22 s =>
 opt2 (oMov (.v x22) rec PT.nil s) fun x23 s =>
 some (.ret, (PT.put x23 t2 (PT.put x22 t24 (PT.put x21 t23 (PT.put x20 t22 (PT.put x19 t21 (PT.put x18 t20 (PT.put x17 t19 (PT.put x16 t2 (PT.put x15 t18 (PT.put x14 t17 (PT.put x13 t0 (PT.put x12 t16 (PT.put x11 t15 (PT.put x10 t14 (PT.put x9 t13 (PT.put x8 t2 (PT.put x7 t12 (PT.put x6 t11 (PT.put x5 t0 (PT.put x4 t10 (PT.put x3 t9 (PT.put x2 t8 (PT.put x1 t7 fs))))))))))))))))))))))), s))
 (opt2 (oMov (.v x8) rec PT.nil s) fun x24 s =>
 opt2 (oMov (.v x5) rec PT.nil s) fun x25 s =>
 opt2 (oConv .u8 (.v x25) rec PT.nil s) fun x26 s =>
 opt2 (oIdxS (.v (.string ⟨⟨[0, 1, 2, 2, 3, 3, 3, 3, 4, 4, 4, 4, 4, 4, 4, 4, 5, 5, 5, 5, 5, 5, 5, 5, 5, 5, 5, 5, 5, 5, 5, 5, 6, 6, 6, 6, 6, 6, 6, 6, 6, 6, 6, 6, 6, 6, 6, 6, 6, 6, 6, 6, 6, 6, 6, 6, 6, 6, 6, 6, 6, 6, 6, 6, 7, 7, 7, 7, 7, 7, 7, 7, 7, 7, 7, 7, 7, 7, 7, 7, 7, 7, 7, 7, 7, 7, 7, 7, 7, 7, 7, 7, 7, 7, 7, 7, 7, 7, 7, 7, 7, 7, 7, 7, 7, 7, 7, 7, 7, 7, 7, 7, 7, 7, 7, 7, 7, 7, 7, 7, 7, 7, 7, 7, 7, 7, 7, 7, 8, 8, 8, 8, 8, 8, 8, 8, 8, 8, 8, 8, 8, 8, 8, 8, 8, 8, 8, 8, 8, 8, 8, 8, 8, 8, 8, 8, 8, 8, 8, 8, 8, 8, 8, 8, 8, 8, 8, 8, 8, 8, 8, 8, 8, 8, 8, 8, 8, 8, 8, 8, 8, 8, 8, 8, 8, 8, 8, 8, 8, 8, 8, 8, 8, 8, 8, 8, 8, 8, 8, 8, 8, 8, 8, 8, 8, 8, 8, 8, 8, 8, 8, 8, 8, 8, 8, 8, 8, 8, 8, 8, 8, 8, 8, 8, 8, 8, 8, 8, 8, 8, 8, 8, 8, 8, 8, 8, 8, 8, 8, 8, 8, 8, 8, 8, 8, 8, 8, 8, 8, 8, 8, 8, 8, 8, 8, 8]⟩⟩)) (.v x26) rec PT.nil s) fun x27 s =>
 opt2 (oConv .i64 (.v x27) rec PT.nil s) fun x28 s =>
 opt2 (oBin (int2 addO) (.v x24) (.v x28) rec PT.nil s) fun x29 s =>
 opt2 (oMov (.v x29) rec PT.nil s) fun x30 s =>
 some (.ret, (PT.put x30 t2 (PT.put x29 t24 (PT.put x28 t23 (PT.put x27 t22 (PT.put x26 t21 (PT.put x25 t20 (PT.put x24 t19 (PT.put x10 t14 (PT.put x9 t13 (PT.put x8 t2 (PT.put x7 t12 (PT.put x6 t11 (PT.put x5 t0 (PT.put x4 t10 (PT.put x3 t9 (PT.put x2 t8 (PT.put x1 t7 fs))))))))))))))))), s)))
 (opt2 (oMov (.v (orU (fs.get t0))) rec PT.nil s) fun x31 s =>
 opt2 (oBin (int2 (cmpO geI)) (.v x31) (.v (.int .u64 256)) rec PT.nil s) fun x32 s =>
 condV x32
 (opt2 (oMov (.v (orU (fs.get t0))) rec PT.nil s) fun x33 s =>
 opt2 (oBin (sh2 shrO) (.v x33) (.v (.int .u64 8)) rec PT.nil s) fun x34 s =>
 opt2 (oMov (.v x34) rec PT.nil s) fun x35 s =>
 opt2 (oMov (.v (orU (fs.get t2))) rec PT.nil s) fun x36 s =>
 opt2 (oBin (int2 addO) (.v x36) (.v (.int .i64 8)) rec PT.nil s) fun x37 s =>
 opt2 (oMov (.v x37) rec PT.nil s) fun x38 s =>
 opt2 (oMov (.v x38) rec PT.nil s) fun x39 s =>
 opt2 (oMov (.v x35) rec PT.nil s) fun x40 s =>
 opt2 (oConv .u8 (.v x40) rec PT.nil s) fun x41 s =>
 opt2 (oIdxS (.v (.string ⟨⟨[0, 1, 2, 2, 3, 3, 3, 3, 4, 4, 4, 4, 4, 4, 4, 4, 5, 5, 5, 5, 5, 5, 5, 5, 5, 5, 5, 5, 5, 5, 5, 5, 6, 6, 6, 6, 6, 6, 6, 6, 6, 6, 6, 6, 6, 6, 6, 6, 6, 6, 6, 6, 6, 6, 6, 6, 6, 6, 6, 6, 6, 6, 6, 6, 7, 7, 7, 7, 7, 7, 7, 7, 7, 7, 7, 7, 7, 7, 7, 7, 7, 7, 7, 7, 7, 7, 7, 7, 7, 7, 7, 7, 7, 7, 7, 7, 7, 7, 7, 7, 7, 7, 7, 7, 7, 7, 7, 7, 7, 7, 7, 7, 7, 7, 7, 7, 7, 7, 7, 7, 7, 7, 7, 7, 7, 7, 7, 7, 8, 8, 8, 8, 8, 8, 8, 8, 8, 8, 8, 8, 8, 8, 8, 8, 8, 8, 8, 8, 8, 8, 8, 8, 8, 8, 8, 8, 8, 8, 8, 8, 8, 8, 8, 8, 8, 8, 8, 8, 8, 8, 8, 8, 8, 8, 8, 8, 8, 8, 8, 8, 8, 8, 8, 8, 8, 8, 8, 8, 8, 8, 8, 8, 8, 8, 8, 8, 8, 8, 8, 8, 8, 8, 8, 8, 8, 8, 8, 8, 8, 8, 8, 8, 8, 8, 8, 8, 8, 8, 8, 8, 8, 8, 8, 8, 8, 8, 8, 8, 8, 8, 8, 8, 8, 8, 8, 8, 8, 8, 8, 8, 8, 8, 8, 8, 8, 8, 8, 8, 8, 8, 8, 8, 8, 8, 8, 8]⟩⟩)) (.v x41) rec PT.nil s) fun x42 s =>
 opt2 (oConv .i64 (.v x42) rec PT.nil s) fun x43 s =>
 opt2 (oBin (int2 addO) (.v x39) (.v x43) rec PT.nil s) fun x44 s =>
 opt2 (oMov (.v x44) rec PT.nil s) fun x45 s =>
 some (.ret, (PT.put x45 t2 (PT.put x44 t24 (PT.put x43 t23 (PT.put x42 t22 (PT.put x41 t21 (PT.put x40 t20 (PT.put x39 t19 (PT.put x38 t2 (PT.put x37 t18 (PT.put x36 t17 (PT.put x35 t0 (PT.put x34 t16 (PT.put x33 t15 (PT.put x32 t14 (PT.put x31 t13 (PT.put x2 t8 (PT.put x1 t7 fs))))))))))))))))), s))
 (opt2 (oMov (.v (orU (fs.get t2))) rec PT.nil s) fun x46 s =>
 opt2 (oMov (.v (orU (fs.get t0))) rec PT.nil s) fun x47 s =>
 opt2 (oConv .u8 (.v x47) rec PT.nil s) fun x48 s =>
 opt2 (oIdxS (.v (.string ⟨⟨[0, 1, 2, 2, 3, 3, 3, 3, 4, 4, 4, 4, 4, 4, 4, 4, 5, 5, 5, 5, 5, 5, 5, 5, 5, 5, 5, 5, 5, 5, 5, 5, 6, 6, 6, 6, 6, 6, 6, 6, 6, 6, 6, 6, 6, 6, 6, 6, 6, 6, 6, 6, 6, 6, 6, 6, 6, 6, 6, 6, 6, 6, 6, 6, 7, 7, 7, 7, 7, 7, 7, 7, 7, 7, 7, 7, 7, 7, 7, 7, 7, 7, 7, 7, 7, 7, 7, 7, 7, 7, 7, 7, 7, 7, 7, 7, 7, 7, 7, 7, 7, 7, 7, 7, 7, 7, 7, 7, 7, 7, 7, 7, 7, 7, 7, 7, 7, 7, 7, 7, 7, 7, 7, 7, 7, 7, 7, 7, 8, 8, 8, 8, 8, 8, 8, 8, 8, 8, 8, 8, 8, 8, 8, 8, 8, 8, 8, 8, 8, 8, 8, 8, 8, 8, 8, 8, 8, 8, 8, 8, 8, 8, 8, 8, 8, 8, 8, 8, 8, 8, 8, 8, 8, 8, 8, 8, 8, 8, 8, 8, 8, 8, 8, 8, 8, 8, 8, 8, 8, 8, 8, 8, 8, 8, 8, 8, 8, 8, 8, 8, 8, 8, 8, 8, 8, 8, 8, 8, 8, 8, 8, 8, 8, 8, 8, 8, 8, 8, 8, 8, 8, 8, 8, 8, 8, 8, 8, 8, 8, 8, 8, 8, 8, 8, 8, 8, 8, 8, 8, 8, 8, 8, 8, 8, 8, 8, 8, 8, 8, 8, 8, 8, 8, 8, 8, 8]⟩⟩)) (.v x48) rec PT.nil s) fun x49 s =>
 opt2 (oConv .i64 (.v x49) rec PT.nil s) fun x50 s =>
 opt2 (oBin (int2 addO) (.v x46) (.v x50) rec PT.nil s) fun x51 s =>
 opt2 (oMov (.v x51) rec PT.nil s) fun x52 s =>
 some (.ret, (PT.put x52 t2 (PT.put x51 t24 (PT.put x50 t23 (PT.put x49 t22 (PT.put x48 t21 (PT.put x47 t20 (PT.put x46 t19 (PT.put x32 t14 (PT.put x31 t13 (PT.put x2 t8 (PT.put x1 t7 fs))))))))))), s)))
set_option maxHeartbeats 4000000 in
theorem d83_j0 (rec : Rec) (N : Nat) (fs : Frm) (s : St) : c83_j0 rec N fs s = D83_j0 rec N fs s := by
  simp (maxSteps := 4000000) only [c83_j0, lenN, x_seq, x_ops, x_skip, x_ret, x_exit, x_cond, x_block, x_loop, ops_c, ops_n, op1_u, op1_gj, rq_c, rq_n, opQ_u, opQ_g, op2_op2, op2_op, op2_s, op2_cond, thenX_n, thenX_e, thenX_r, blkX_n, blkX_r, blkX_e, finX_r, finX_n, res_n, res_t, op_s, Nat.beq_refl, cond_true]
  first | done | kernel_rfl
def D83 (rec : Rec) (N : Nat) (a0 : Value) (s : St) : Out := opt2 (oMov (.v (.int .i64 0)) rec PT.nil s) fun x1 s =>
 opt2 (oMov (.v a0) rec PT.nil s) fun x2 s =>
 opt2 (oBin (int2 (cmpO geI)) (.v x2) (.v (.int .u64 4294967296)) rec PT.nil s) fun x3 s =>
 condV x3
 (opt2 (oMov (.v a0) rec PT.nil s) fun x4 s =>
 opt2 (oBin (sh2 shrO) (.v x4) (.v (.int .u64 32)) rec PT.nil s) fun x5 s =>
 opt2 (oMov (.v x5) rec PT.nil s) fun x6 s =>
 opt2 (oMov (.v (.int .i64 32)) rec PT.nil s) fun x7 s =>
 opt2 (c83_j0 rec N (PT.put x7 t2 (PT.put x6 t0 (PT.put x5 t6 (PT.put x4 t5 (PT.put x3 t4 (PT.put x2 t3 (PT.put x1 t2 (PT.put a0 t0 PT.nil)))))))) s) fun e r => finX [.tmp t2] e r)
 (opt2 (c83_j0 rec N (PT.put x3 t4 (PT.put x2 t3 (PT.put x1 t2 (PT.put a0 t0 PT.nil)))) s) fun e r => finX [.tmp t2] e r)
set_option maxHeartbeats 4000000 in
theorem d83 (rec : Rec) (N : Nat) (a0 : Value) (s : St) : callF rec N c83 [a0] s = D83 rec N a0 s := by
  rw [call_f _ _ _ _ _ rfl]
  simp (maxSteps := 4000000) only [c83, lenN, x_seq, x_ops, x_skip, x_ret, x_exit, x_cond, x_block, x_loop, ops_c, ops_n, op1_u, op1_gj, rq_c, rq_n, opQ_u, opQ_g, op2_op2, op2_op, op2_s, op2_cond, thenX_n, thenX_e, thenX_r, blkX_n, blkX_r, blkX_e, finX_r, finX_n, res_n, res_t, op_s, Nat.beq_refl, cond_true]
  first | done | kernel_rfl
def J83_j0 (rec : Rec) (N : Nat) (k : Value × Value) (s : St) : Out := opt2 (oBin (int2 (cmpO geI)) (.v k.1) (.v (.int .u64 65536)) rec PT.nil s) fun x1 s =>
 condV x1
 (opt2 (oBin (sh2 shrO) (.v k.1) (.v (.int .u64 16)) rec PT.nil s) fun x2 s =>
 opt2 (oBin (int2 addO) (.v k.2) (.v (.int .i64 16)) rec PT.nil s) fun x3 s =>
 opt2 (oBin (int2 (cmpO geI)) (.v x2) (.v (.int .u64 256)) rec PT.nil s) fun x4 s =>
 condV x4
 (opt2 (oBin (sh2 shrO) (.v x2) (.v (.int .u64 8)) rec PT.nil s) fun x5 s =>
 opt2 (oBin (int2 addO) (.v x3) (.v (.int .i64 8)) rec PT.nil s) fun x6 s =>
 opt2 (oConv .u8 (.v x5) rec PT.nil s) fun x7 s =>
 opt2 (oIdxS (.v (.string ⟨⟨[0, 1, 2, 2, 3, 3, 3, 3, 4, 4, 4, 4, 4, 4, 4, 4, 5, 5, 5, 5, 5, 5, 5, 5, 5, 5, 5, 5, 5, 5, 5, 5, 6, 6, 6, 6, 6, 6, 6, 6, 6, 6, 6, 6, 6, 6, 6, 6, 6, 6, 6, 6, 6, 6, 6, 6, 6, 6, 6, 6, 6, 6, 6, 6, 7, 7, 7, 7, 7, 7, 7, 7, 7, 7, 7, 7, 7, 7, 7, 7, 7, 7, 7, 7, 7, 7, 7, 7, 7, 7, 7, 7, 7, 7, 7, 7, 7, 7, 7, 7, 7, 7, 7, 7, 7, 7, 7, 7, 7, 7, 7, 7, 7, 7, 7, 7, 7, 7, 7, 7, 7, 7, 7, 7, 7, 7, 7, 7, 8, 8, 8, 8, 8, 8, 8, 8, 8, 8, 8, 8, 8, 8, 8, 8, 8, 8, 8, 8, 8, 8, 8, 8, 8, 8, 8, 8, 8, 8, 8, 8, 8, 8, 8, 8, 8, 8, 8, 8, 8, 8, 8, 8, 8, 8, 8, 8, 8, 8, 8, 8, 8, 8, 8, 8, 8, 8, 8, 8, 8, 8, 8, 8, 8, 8, 8, 8, 8, 8, 8, 8, 8, 8, 8, 8, 8, 8, 8, 8, 8, 8, 8, 8, 8, 8, 8, 8, 8, 8, 8, 8, 8, 8, 8, 8, 8, 8, 8, 8, 8, 8, 8, 8, 8, 8, 8, 8, 8, 8, 8, 8, 8, 8, 8, 8, 8, 8, 8, 8, 8, 8, 8, 8, 8, 8, 8, 8]⟩⟩)) (.v x7) rec PT.nil s) fun x8 s =>
 opt2 (oConv .i64 (.v x8) rec PT.nil s) fun x9 s =>
 opt2 (oBin (int2 addO) (.v x6) (.v x9) rec PT.nil s) fun x10 s =>
 some (oneOf [x10], s))
 (opt2 (oConv .u8 (.v x2) rec PT.nil s) fun x11 s =>
 opt2 (oIdxS (.v (.string ⟨⟨[0, 1, 2, 2, 3, 3, 3, 3, 4, 4, 4, 4, 4, 4, 4, 4, 5, 5, 5, 5, 5, 5, 5, 5, 5, 5, 5, 5, 5, 5, 5, 5, 6, 6, 6, 6, 6, 6, 6, 6, 6, 6, 6, 6, 6, 6, 6, 6, 6, 6, 6, 6, 6, 6, 6, 6, 6, 6, 6, 6, 6, 6, 6, 6, 7, 7, 7, 7, 7, 7, 7, 7, 7, 7, 7, 7, 7, 7, 7, 7, 7, 7, 7, 7, 7, 7, 7, 7, 7, 7, 7, 7, 7, 7, 7, 7, 7, 7, 7, 7, 7, 7, 7, 7, 7, 7, 7, 7, 7, 7, 7, 7, 7, 7, 7, 7, 7, 7, 7, 7, 7, 7, 7, 7, 7, 7, 7, 7, 8, 8, 8, 8, 8, 8, 8, 8, 8, 8, 8, 8, 8, 8, 8, 8, 8, 8, 8, 8, 8, 8, 8, 8, 8, 8, 8, 8, 8, 8, 8, 8, 8, 8, 8, 8, 8, 8, 8, 8, 8, 8, 8, 8, 8, 8, 8, 8, 8, 8, 8, 8, 8, 8, 8, 8, 8, 8, 8, 8, 8, 8, 8, 8, 8, 8, 8, 8, 8, 8, 8, 8, 8, 8, 8, 8, 8, 8, 8, 8, 8, 8, 8, 8, 8, 8, 8, 8, 8, 8, 8, 8, 8, 8, 8, 8, 8, 8, 8, 8, 8, 8, 8, 8, 8, 8, 8, 8, 8, 8, 8, 8, 8, 8, 8, 8, 8, 8, 8, 8, 8, 8, 8, 8, 8, 8, 8, 8]⟩⟩)) (.v x11) rec PT.nil s) fun x12 s =>
 opt2 (oConv .i64 (.v x12) rec PT.nil s) fun x13 s =>
 opt2 (oBin (int2 addO) (.v x3) (.v x13) rec PT.nil s) fun x14 s =>
 some (oneOf [x14], s)))
 (opt2 (oBin (int2 (cmpO geI)) (.v k.1) (.v (.int .u64 256)) rec PT.nil s) fun x15 s =>
 condV x15
 (opt2 (oBin (sh2 shrO) (.v k.1) (.v (.int .u64 8)) rec PT.nil s) fun x16 s =>
 opt2 (oBin (int2 addO) (.v k.2) (.v (.int .i64 8)) rec PT.nil s) fun x17 s =>
 opt2 (oConv .u8 (.v x16) rec PT.nil s) fun x18 s =>
 opt2 (oIdxS (.v (.string ⟨⟨[0, 1, 2, 2, 3, 3, 3, 3, 4, 4, 4, 4, 4, 4, 4, 4, 5, 5, 5, 5, 5, 5, 5, 5, 5, 5, 5, 5, 5, 5, 5, 5, 6, 6, 6, 6, 6, 6, 6, 6, 6, 6, 6, 6, 6, 6, 6, 6, 6, 6, 6, 6, 6, 6, 6, 6, 6, 6, 6, 6, 6, 6, 6, 6, 7, 7, 7, 7, 7, 7, 7, 7, 7, 7, 7, 7, 7, 7, 7, 7, 7, 7, 7, 7, 7, 7, 7, 7, 7, 7, 7, 7, 7, 7, 7, 7, 7, 7, 7, 7, 7, 7, 7, 7, 7, 7, 7, 7, 7, 7, 7, 7, 7, 7, 7, 7, 7, 7, 7, 7, 7, 7, 7, 7, 7, 7, 7, 7, 8, 8, 8, 8, 8, 8, 8, 8, 8, 8, 8, 8, 8, 8, 8, 8, 8, 8, 8, 8, 8, 8, 8, 8, 8, 8, 8, 8, 8, 8, 8, 8, 8, 8, 8, 8, 8, 8, 8, 8, 8, 8, 8, 8, 8, 8, 8, 8, 8, 8, 8, 8, 8, 8, 8, 8, 8, 8, 8, 8, 8, 8, 8, 8, 8, 8, 8, 8, 8, 8, 8, 8, 8, 8, 8, 8, 8, 8, 8, 8, 8, 8, 8, 8, 8, 8, 8, 8, 8, 8, 8, 8, 8, 8, 8, 8, 8, 8, 8, 8, 8, 8, 8, 8, 8, 8, 8, 8, 8, 8, 8, 8, 8, 8, 8, 8, 8, 8, 8, 8, 8, 8, 8, 8, 8, 8, 8, 8]⟩⟩)) (.v x18) rec PT.nil s) fun x19 s =>
 opt2 (oConv .i64 (.v x19) rec PT.nil s) fun x20 s =>
 opt2 (oBin (int2 addO) (.v x17) (.v x20) rec PT.nil s) fun x21 s =>
 some (oneOf [x21], s))
 (opt2 (oConv .u8 (.v k.1) rec PT.nil s) fun x22 s =>
 opt2 (oIdxS (.v (.string ⟨⟨[0, 1, 2, 2, 3, 3, 3, 3, 4, 4, 4, 4, 4, 4, 4, 4, 5, 5, 5, 5, 5, 5, 5, 5, 5, 5, 5, 5, 5, 5, 5, 5, 6, 6, 6, 6, 6, 6, 6, 6, 6, 6, 6, 6, 6, 6, 6, 6, 6, 6, 6, 6, 6, 6, 6, 6, 6, 6, 6, 6, 6, 6, 6, 6, 7, 7, 7, 7, 7, 7, 7, 7, 7, 7, 7, 7, 7, 7, 7, 7, 7, 7, 7, 7, 7, 7, 7, 7, 7, 7, 7, 7, 7, 7, 7, 7, 7, 7, 7, 7, 7, 7, 7, 7, 7, 7, 7, 7, 7, 7, 7, 7, 7, 7, 7, 7, 7, 7, 7, 7, 7, 7, 7, 7, 7, 7, 7, 7, 8, 8, 8, 8, 8, 8, 8, 8, 8, 8, 8, 8, 8, 8, 8, 8, 8, 8, 8, 8, 8, 8, 8, 8, 8, 8, 8, 8, 8, 8, 8, 8, 8, 8, 8, 8, 8, 8, 8, 8, 8, 8, 8, 8, 8, 8, 8, 8, 8, 8, 8, 8, 8, 8, 8, 8, 8, 8, 8, 8, 8, 8, 8, 8, 8, 8, 8, 8, 8, 8, 8, 8, 8, 8, 8, 8, 8, 8, 8, 8, 8, 8, 8, 8, 8, 8, 8, 8, 8, 8, 8, 8, 8, 8, 8, 8, 8, 8, 8, 8, 8, 8, 8, 8, 8, 8, 8, 8, 8, 8, 8, 8, 8, 8, 8, 8, 8, 8, 8, 8, 8, 8, 8, 8, 8, 8, 8, 8]⟩⟩)) (.v x22) rec PT.nil s) fun x23 s =>
 opt2 (oConv .i64 (.v x23) rec PT.nil s) fun x24 s =>
 opt2 (oBin (int2 addO) (.v k.2) (.v x24) rec PT.nil s) fun x25 s =>
 some (oneOf [x25], s)))
set_option maxHeartbeats 4000000 in
theorem j83_j0 (rec : Rec) (N : Nat) (fs : Frm) (s : St) : opt2 (c83_j0 rec N fs s) (fun e r => finX [.tmp t2] e r) = J83_j0 rec N (orU (fs.get t0), orU (fs.get t2)) s := by
  rw [d83_j0]
  unfold D83_j0 J83_j0
  simp (maxSteps := 4000000) only [thenX_n, thenX_e, thenX_r, x_exit, x_skip, x_ret, blkX_n, blkX_r, blkX_e, finX_r, finX_n, res_n, res_t, op2_op2, op2_op, op2_s, op2_cond, op2_bf, mov_v]
  first | done | kernel_rfl
def F83 (rec : Rec) (N : Nat) (a0 : Value) (s : St) : Out := opt2 (oBin (int2 (cmpO geI)) (.v a0) (.v (.int .u64 4294967296)) rec PT.nil s) fun x1 s =>
 condV x1
 (opt2 (oBin (sh2 shrO) (.v a0) (.v (.int .u64 32)) rec PT.nil s) fun x2 s =>
 J83_j0 rec N (x2, (.int .i64 32)) s)
 (J83_j0 rec N (a0, (.int .i64 0)) s)
theorem f83 (rec : Rec) (N : Nat) (a0 : Value) (s : St) : callF rec N c83 [a0] s = F83 rec N a0 s := by
  rw [d83]
  unfold D83 F83
  simp (maxSteps := 4000000) only [mov_v, op2_s, j83_j0 rec N]
  first | done | kernel_rfl
end
end Go.Proofs.Ytdnedangfnincaa.AbsAccO
