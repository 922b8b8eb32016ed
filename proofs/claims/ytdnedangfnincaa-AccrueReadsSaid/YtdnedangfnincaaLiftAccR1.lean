import Derived.Test.YtdnedangfnincaaAbsAccRE
import Derived.Test.YtdnedangfnincaaAbsZL
import Derived.Test.YtdnedangfnincaaAbsZW
namespace Go.Proofs.Ytdnedangfnincaa.AbsAccR
open Go Go.Abs Go.Proofs
set_option maxRecDepth 100000
set_option linter.unusedVariables false
set_option linter.unusedSimpArgs false
noncomputable section
-- c25
def D25 (rec : Rec) (N : Nat) (a0 : Value) (a1 : Value) (s : St) : Out := opt2 (oBox (.v a0) rec PT.nil s) fun x1 s =>
 opt2 (oBox (.v a1) rec PT.nil s) fun x2 s =>
 opt2 (oMov (.v (.int .i64 0)) rec PT.nil s) fun x3 s =>
 opt2 (rU (oLoadN 2 (.v x1) rec PT.nil ⟨s.heap, s.next, 0, 0⟩) PT.nil s none) fun x4 m4 =>
 (fun s => opt2 (rU (oLoadN 2 (.v x2) rec PT.nil ⟨s.heap, s.next, 0, 0⟩) PT.nil s none) fun x5 m5 =>
 (fun s => opt2 (rU (rec 54 [x5] ⟨s.heap, s.next, 0, 0⟩) PT.nil s none) fun x6 m6 =>
 (fun s => opt2 (rU (rec 53 [x4, x6] ⟨s.heap, s.next, 0, 0⟩) PT.nil s none) fun x7 m7 =>
 (fun s => opt2 (rU (oNew [(.bool false), (.slice none 0 0)] rec PT.nil ⟨s.heap, s.next, 0, 0⟩) PT.nil s none) fun x8 m8 =>
 (fun s => opt2 (rU (oStore 2 (.v x8) (.v x7) rec PT.nil ⟨s.heap, s.next, 0, 0⟩) PT.nil s none) fun x9 m9 =>
 (fun s => bif apartAll [m4.1, m5.1, m6.1, m7.1, m8.1, m9.1] [(0, 1), (0, 2), (0, 4), (1, 4), (2, 4), (3, 4)] then opt2 (oFieldAddr 1 (.v x8) rec PT.nil s) fun x10 s =>
 opt2 (oLoad1 (.v x10) rec PT.nil s) fun x11 s =>
 opt2 (oLenL (.v x11) rec PT.nil s) fun x12 s =>
 opt2 (oBin (int2 (cmpO eqI)) (.v x12) (.v (.int .i64 0)) rec PT.nil s) fun x13 s =>
 condV x13
 (opt2 (oMov (.v (.int .i64 0)) rec PT.nil s) fun x14 s =>
 some (oneOf [x14], s))
 (opt2 (oFieldAddr 0 (.v x8) rec PT.nil s) fun x15 s =>
 opt2 (oLoad1 (.v x15) rec PT.nil s) fun x16 s =>
 condV x16
 (opt2 (oMov (.v (.int .i64 (-1))) rec PT.nil s) fun x17 s =>
 some (oneOf [x17], s))
 (opt2 (oMov (.v (.int .i64 1)) rec PT.nil s) fun x18 s =>
 some (oneOf [x18], s))) else none) m9.2) m8.2) m7.2) m6.2) m5.2) m4.2
set_option maxHeartbeats 4000000 in
theorem d25 (rec : Rec) (N : Nat) (a0 : Value) (a1 : Value) (s : St) : callF rec N c25 [a0, a1] s = D25 rec N a0 a1 s := by
  rw [call_f _ _ _ _ _ rfl]
  simp (maxSteps := 4000000) only [c25, lenN, x_regc, reg_n, reg_c, reg1_u, reg1_g, op2_cons, op2_bif, x_seq, x_ops, x_skip, x_ret, x_exit, x_cond, x_block, x_loop, ops_c, ops_n, op1_u, op1_gj, rq_c, rq_n, opQ_u, opQ_g, op2_op2, op2_op, op2_s, op2_cond, thenX_n, thenX_e, thenX_r, blkX_n, blkX_r, blkX_e, finX_r, finX_n, res_n, res_t, op_s, Nat.beq_refl, cond_true]
  first | done | kernel_rfl
def F25 (rec : Rec) (N : Nat) (a0 : Value) (a1 : Value) (s : St) : Out := opt2 (oBox (.v a0) rec PT.nil s) fun x1 s =>
 opt2 (oBox (.v a1) rec PT.nil s) fun x2 s =>
 opt2 (oMov (.v (.int .i64 0)) rec PT.nil s) fun x3 s =>
 opt2 (rU (oLoadN 2 (.v x1) rec PT.nil ⟨s.heap, s.next, 0, 0⟩) PT.nil s none) fun x4 m4 =>
 (fun s => opt2 (rU (oLoadN 2 (.v x2) rec PT.nil ⟨s.heap, s.next, 0, 0⟩) PT.nil s none) fun x5 m5 =>
 (fun s => opt2 (rU (rec 54 [x5] ⟨s.heap, s.next, 0, 0⟩) PT.nil s none) fun x6 m6 =>
 (fun s => opt2 (rU (rec 53 [x4, x6] ⟨s.heap, s.next, 0, 0⟩) PT.nil s none) fun x7 m7 =>
 (fun s => opt2 (rU (oNew [(.bool false), (.slice none 0 0)] rec PT.nil ⟨s.heap, s.next, 0, 0⟩) PT.nil s none) fun x8 m8 =>
 (fun s => opt2 (rU (oStore 2 (.v x8) (.v x7) rec PT.nil ⟨s.heap, s.next, 0, 0⟩) PT.nil s none) fun x9 m9 =>
 (fun s => bif apartAll [m4.1, m5.1, m6.1, m7.1, m8.1, m9.1] [(0, 1), (0, 2), (0, 4), (1, 4), (2, 4), (3, 4)] then opt2 (oFieldAddr 1 (.v x8) rec PT.nil s) fun x10 s =>
 opt2 (oLoad1 (.v x10) rec PT.nil s) fun x11 s =>
 opt2 (oLenL (.v x11) rec PT.nil s) fun x12 s =>
 opt2 (oBin (int2 (cmpO eqI)) (.v x12) (.v (.int .i64 0)) rec PT.nil s) fun x13 s =>
 condV x13
 (opt2 (oMov (.v (.int .i64 0)) rec PT.nil s) fun x14 s =>
 some (oneOf [x14], s))
 (opt2 (oFieldAddr 0 (.v x8) rec PT.nil s) fun x15 s =>
 opt2 (oLoad1 (.v x15) rec PT.nil s) fun x16 s =>
 condV x16
 (opt2 (oMov (.v (.int .i64 (-1))) rec PT.nil s) fun x17 s =>
 some (oneOf [x17], s))
 (opt2 (oMov (.v (.int .i64 1)) rec PT.nil s) fun x18 s =>
 some (oneOf [x18], s))) else none) m9.2) m8.2) m7.2) m6.2) m5.2) m4.2
set_option maxHeartbeats 4000000 in
theorem f25 (rec : Rec) (N : Nat) (a0 : Value) (a1 : Value) (s : St) : callF rec N c25 [a0, a1] s = F25 rec N a0 a1 s := by
  rw [d25]
  unfold D25 F25
  first
    | done
    | rfl
    | (simp (maxSteps := 4000000) only [mov_v, op2_s]; first | done | kernel_rfl)
    | kernel_rfl
-- c26
def D26 (rec : Rec) (N : Nat) (s : St) : Out := opt2 (oNew [(.bool false), (.slice none 0 0)] rec PT.nil s) fun x1 s =>
 opt2 (rec 37 [(.int .i64 1125899906842624)] s) fun x2 s =>
 opt2 (rec 37 [(.int .i64 1125899906842624)] s) fun x3 s =>
 opt2 (rec 55 [x2, x3] s) fun x4 s =>
 opt2 (oStore 2 (.v x1) (.v x4) rec PT.nil s) fun x5 s =>
 finX [.cell t0 (some 2)] .ret ((PT.put x4 t3 (PT.put x3 t2 (PT.put x2 t1 (PT.put x1 t0 PT.nil)))), s)
set_option maxHeartbeats 4000000 in
theorem d26 (rec : Rec) (N : Nat) (s : St) : callF rec N c26 [] s = D26 rec N s := by
  rw [call_f _ _ _ _ _ rfl]
  simp (maxSteps := 4000000) only [c26, lenN, x_seq, x_ops, x_skip, x_ret, x_exit, x_cond, x_block, x_loop, ops_c, ops_n, op1_u, op1_gj, rq_c, rq_n, opQ_u, opQ_g, op2_op2, op2_op, op2_s, op2_cond, thenX_n, thenX_e, thenX_r, blkX_n, blkX_r, blkX_e, finX_r, finX_n, res_n, res_t, op_s, Nat.beq_refl, cond_true]
  first | done | kernel_rfl
def F26 (rec : Rec) (N : Nat) (s : St) : Out := opt2 (oNew [(.bool false), (.slice none 0 0)] rec PT.nil s) fun x1 s =>
 opt2 (rec 37 [(.int .i64 1125899906842624)] s) fun x2 s =>
 opt2 (rec 37 [(.int .i64 1125899906842624)] s) fun x3 s =>
 opt2 (rec 55 [x2, x3] s) fun x4 s =>
 opt2 (oStore 2 (.v x1) (.v x4) rec PT.nil s) fun x5 s =>
 finX [.cell t0 (some 2)] .ret ((PT.put x1 t0 PT.nil), s)
set_option maxHeartbeats 4000000 in
theorem f26 (rec : Rec) (N : Nat) (s : St) : callF rec N c26 [] s = F26 rec N s := by
  rw [d26]
  unfold D26 F26
  first
    | done
    | rfl
    | (simp (maxSteps := 4000000) only [mov_v, op2_s]; first | done | kernel_rfl)
    | kernel_rfl
-- c30
def D30 (rec : Rec) (N : Nat) (a0 : Value) (s : St) : Out := opt2 (oMov (.v (.int .i64 0)) rec PT.nil s) fun x1 s =>
 opt2 (oMov (.v a0) rec PT.nil s) fun x2 s =>
 opt2 (oNilCheck (.v x2) rec PT.nil s) fun x3 s =>
 opt2 (oFieldAddr 0 (.v x3) rec PT.nil s) fun x4 s =>
 opt2 (oLoad1 (.v x4) rec PT.nil s) fun x5 s =>
 opt2 (oMov (.v x5) rec PT.nil s) fun x6 s =>
 some (oneOf [x6], s)
set_option maxHeartbeats 4000000 in
theorem d30 (rec : Rec) (N : Nat) (a0 : Value) (s : St) : callF rec N c30 [a0] s = D30 rec N a0 s := by
  rw [call_f _ _ _ _ _ rfl]
  simp (maxSteps := 4000000) only [c30, lenN, x_seq, x_ops, x_skip, x_ret, x_exit, x_cond, x_block, x_loop, ops_c, ops_n, op1_u, op1_gj, rq_c, rq_n, opQ_u, opQ_g, op2_op2, op2_op, op2_s, op2_cond, thenX_n, thenX_e, thenX_r, blkX_n, blkX_r, blkX_e, finX_r, finX_n, res_n, res_t, op_s, Nat.beq_refl, cond_true]
  first | done | kernel_rfl
def F30 (rec : Rec) (N : Nat) (a0 : Value) (s : St) : Out := opt2 (oNilCheck (.v a0) rec PT.nil s) fun x1 s =>
 opt2 (oFieldAddr 0 (.v x1) rec PT.nil s) fun x2 s =>
 opt2 (oLoad1 (.v x2) rec PT.nil s) fun x3 s =>
 some (oneOf [x3], s)
set_option maxHeartbeats 4000000 in
theorem f30 (rec : Rec) (N : Nat) (a0 : Value) (s : St) : callF rec N c30 [a0] s = F30 rec N a0 s := by
  rw [d30]
  unfold D30 F30
  first
    | done
    | rfl
    | (simp (maxSteps := 4000000) only [mov_v, op2_s]; first | done | kernel_rfl)
    | kernel_rfl
-- c31
def D31 (rec : Rec) (N : Nat) (a0 : Value) (s : St) : Out := opt2 (oMov (.v (.int .i64 0)) rec PT.nil s) fun x1 s =>
 opt2 (oMov (.v a0) rec PT.nil s) fun x2 s =>
 opt2 (oNilCheck (.v x2) rec PT.nil s) fun x3 s =>
 opt2 (oFieldAddr 1 (.v x3) rec PT.nil s) fun x4 s =>
 opt2 (oLoad1 (.v x4) rec PT.nil s) fun x5 s =>
 opt2 (oMov (.v x5) rec PT.nil s) fun x6 s =>
 some (oneOf [x6], s)
set_option maxHeartbeats 4000000 in
theorem d31 (rec : Rec) (N : Nat) (a0 : Value) (s : St) : callF rec N c31 [a0] s = D31 rec N a0 s := by
  rw [call_f _ _ _ _ _ rfl]
  simp (maxSteps := 4000000) only [c31, lenN, x_seq, x_ops, x_skip, x_ret, x_exit, x_cond, x_block, x_loop, ops_c, ops_n, op1_u, op1_gj, rq_c, rq_n, opQ_u, opQ_g, op2_op2, op2_op, op2_s, op2_cond, thenX_n, thenX_e, thenX_r, blkX_n, blkX_r, blkX_e, finX_r, finX_n, res_n, res_t, op_s, Nat.beq_refl, cond_true]
  first | done | kernel_rfl
def F31 (rec : Rec) (N : Nat) (a0 : Value) (s : St) : Out := opt2 (oNilCheck (.v a0) rec PT.nil s) fun x1 s =>
 opt2 (oFieldAddr 1 (.v x1) rec PT.nil s) fun x2 s =>
 opt2 (oLoad1 (.v x2) rec PT.nil s) fun x3 s =>
 some (oneOf [x3], s)
set_option maxHeartbeats 4000000 in
theorem f31 (rec : Rec) (N : Nat) (a0 : Value) (s : St) : callF rec N c31 [a0] s = F31 rec N a0 s := by
  rw [d31]
  unfold D31 F31
  first
    | done
    | rfl
    | (simp (maxSteps := 4000000) only [mov_v, op2_s]; first | done | kernel_rfl)
    | kernel_rfl
-- c34
def D34 (rec : Rec) (N : Nat) (a0 : Value) (s : St) : Out := opt2 (oMov (.v (.int .i64 0)) rec PT.nil s) fun x1 s =>
 opt2 (oMov (.v a0) rec PT.nil s) fun x2 s =>
 opt2 (rec 35 [x2] s) fun x3 s =>
 opt2 (oMov (.v x3) rec PT.nil s) fun x4 s =>
 opt2 (oMov (.v x4) rec PT.nil s) fun x5 s =>
 opt2 (oBin (int2 remO) (.v x5) (.v (.int .u64 2)) rec PT.nil s) fun x6 s =>
 opt2 (oBin (int2 (cmpO eqI)) (.v x6) (.v (.int .u64 0)) rec PT.nil s) fun x7 s =>
 condV x7
 (opt2 (oMov (.v x4) rec PT.nil s) fun x8 s =>
 opt2 (oBin (int2 quoO) (.v x8) (.v (.int .u64 2)) rec PT.nil s) fun x9 s =>
 opt2 (oConv .i64 (.v x9) rec PT.nil s) fun x10 s =>
 opt2 (oMov (.v x10) rec PT.nil s) fun x11 s =>
 some (oneOf [x11], s))
 (opt2 (oMov (.v x4) rec PT.nil s) fun x12 s =>
 opt2 (oBin (int2 quoO) (.v x12) (.v (.int .u64 2)) rec PT.nil s) fun x13 s =>
 opt2 (oConv .i64 (.v x13) rec PT.nil s) fun x14 s =>
 opt2 (oNeg (.v x14) rec PT.nil s) fun x15 s =>
 opt2 (oBin (int2 subO) (.v x15) (.v (.int .i64 1)) rec PT.nil s) fun x16 s =>
 opt2 (oMov (.v x16) rec PT.nil s) fun x17 s =>
 some (oneOf [x17], s))
set_option maxHeartbeats 4000000 in
theorem d34 (rec : Rec) (N : Nat) (a0 : Value) (s : St) : callF rec N c34 [a0] s = D34 rec N a0 s := by
  rw [call_f _ _ _ _ _ rfl]
  simp (maxSteps := 4000000) only [c34, lenN, x_seq, x_ops, x_skip, x_ret, x_exit, x_cond, x_block, x_loop, ops_c, ops_n, op1_u, op1_gj, rq_c, rq_n, opQ_u, opQ_g, op2_op2, op2_op, op2_s, op2_cond, thenX_n, thenX_e, thenX_r, blkX_n, blkX_r, blkX_e, finX_r, finX_n, res_n, res_t, op_s, Nat.beq_refl, cond_true]
  first | done | kernel_rfl
def F34 (rec : Rec) (N : Nat) (a0 : Value) (s : St) : Out := opt2 (rec 35 [a0] s) fun x1 s =>
 opt2 (oBin (int2 remO) (.v x1) (.v (.int .u64 2)) rec PT.nil s) fun x2 s =>
 opt2 (oBin (int2 (cmpO eqI)) (.v x2) (.v (.int .u64 0)) rec PT.nil s) fun x3 s =>
 condV x3
 (opt2 (oBin (int2 quoO) (.v x1) (.v (.int .u64 2)) rec PT.nil s) fun x4 s =>
 opt2 (oConv .i64 (.v x4) rec PT.nil s) fun x5 s =>
 some (oneOf [x5], s))
 (opt2 (oBin (int2 quoO) (.v x1) (.v (.int .u64 2)) rec PT.nil s) fun x6 s =>
 opt2 (oConv .i64 (.v x6) rec PT.nil s) fun x7 s =>
 opt2 (oNeg (.v x7) rec PT.nil s) fun x8 s =>
 opt2 (oBin (int2 subO) (.v x8) (.v (.int .i64 1)) rec PT.nil s) fun x9 s =>
 some (oneOf [x9], s))
set_option maxHeartbeats 4000000 in
theorem f34 (rec : Rec) (N : Nat) (a0 : Value) (s : St) : callF rec N c34 [a0] s = F34 rec N a0 s := by
  rw [d34]
  unfold D34 F34
  first
    | done
    | rfl
    | (simp (maxSteps := 4000000) only [mov_v, op2_s]; first | done | kernel_rfl)
    | kernel_rfl
-- c35
def D35_l0 (rec : Rec) (N : Nat) (fs : Frm) (s : St) : OutX := opt2 (oMov (.v (orU (fs.get t4))) rec PT.nil s) fun x1 s =>
 opt2 (oMov (.v (orU (fs.get t0))) rec PT.nil s) fun x2 s =>
 opt2 (oNilCheck (.v x2) rec PT.nil s) fun x3 s =>
 opt2 (oFieldAddr 0 (.v x3) rec PT.nil s) fun x4 s =>
 opt2 (oLoad1 (.v x4) rec PT.nil s) fun x5 s =>
 opt2 (oLenL (.v x5) rec PT.nil s) fun x6 s =>
 opt2 (oBin (int2 (cmpO ltI)) (.v x1) (.v x6) rec PT.nil s) fun x7 s =>
 opt2 (oMov (.v x7) rec PT.nil s) fun x8 s =>
 opt (gval true x8) fun x9 => opt2 (orUndef x9 (oMov (.v (orU (fs.get t4))) rec PT.nil s) s) fun x10 s =>
 opt (gval true x8) fun x11 => opt2 (orUndef x11 (oBin (int2 (cmpO ltI)) (.v x10) (.v (.int .i64 10)) rec PT.nil s) s) fun x12 s =>
 opt2 (oPick (.v x8) (.v x12) (.v (.bool false)) rec PT.nil s) fun x13 s =>
 condV x13
 (opt2 (oMov (.v (orU (fs.get t0))) rec PT.nil s) fun x14 s =>
 opt2 (oNilCheck (.v x14) rec PT.nil s) fun x15 s =>
 opt2 (oFieldAddr 0 (.v x15) rec PT.nil s) fun x16 s =>
 opt2 (oLoad1 (.v x16) rec PT.nil s) fun x17 s =>
 opt2 (oMov (.v (orU (fs.get t4))) rec PT.nil s) fun x18 s =>
 opt2 (oIdxAddrL 1 (.v x17) (.v x18) rec PT.nil s) fun x19 s =>
 opt2 (oLoad1 (.v x19) rec PT.nil s) fun x20 s =>
 opt2 (oMov (.v x20) rec PT.nil s) fun x21 s =>
 opt2 (oMov (.v (orU (fs.get t4))) rec PT.nil s) fun x22 s =>
 opt2 (oBin (int2 (cmpO eqI)) (.v x22) (.v (.int .i64 9)) rec PT.nil s) fun x23 s =>
 opt2 (oMov (.v x23) rec PT.nil s) fun x24 s =>
 opt (gval true x24) fun x25 => opt2 (orUndef x25 (oMov (.v x21) rec PT.nil s) s) fun x26 s =>
 opt (gval true x24) fun x27 => opt2 (orUndef x27 (oBin (int2 (cmpO gtI)) (.v x26) (.v (.int .u8 1)) rec PT.nil s) s) fun x28 s =>
 opt2 (oPick (.v x24) (.v x28) (.v (.bool false)) rec PT.nil s) fun x29 s =>
 condV x29
 (opt2 (oMov (.v (orU (fs.get t0))) rec PT.nil s) fun x30 s =>
 opt2 (rec 59 [x30] s) fun x31 s =>
 opt2 (oMov (.v x31) rec PT.nil s) fun x32 s =>
 some (.ret, (PT.put x32 t2 (PT.put x31 t33 (PT.put x30 t32 (PT.put x29 t31 (PT.put x28 t30 (PT.put x26 t29 (PT.put x24 t28 (PT.put x23 t27 (PT.put x22 t26 (PT.put x21 t5 (PT.put x20 t25 (PT.put x19 t24 (PT.put x18 t23 (PT.put x17 t22 (PT.put x16 t21 (PT.put x15 t20 (PT.put x14 t19 (PT.put x13 t16 (PT.put x12 t15 (PT.put x10 t14 (PT.put x8 t13 (PT.put x7 t12 (PT.put x6 t11 (PT.put x5 t10 (PT.put x4 t9 (PT.put x3 t8 (PT.put x2 t7 (PT.put x1 t6 fs)))))))))))))))))))))))))))), s))
 (opt2 (oMov (.v (orU (fs.get t3))) rec PT.nil s) fun x33 s =>
 opt2 (oMov (.v x21) rec PT.nil s) fun x34 s =>
 opt2 (oBin (int2 andO) (.v x34) (.v (.int .u8 127)) rec PT.nil s) fun x35 s =>
 opt2 (oConv .u64 (.v x35) rec PT.nil s) fun x36 s =>
 opt2 (oMov (.v (orU (fs.get t4))) rec PT.nil s) fun x37 s =>
 opt2 (oBin (int2 mulO) (.v (.int .i64 7)) (.v x37) rec PT.nil s) fun x38 s =>
 opt2 (oConv .u64 (.v x38) rec PT.nil s) fun x39 s =>
 opt2 (oBin (sh2 shlO) (.v x36) (.v x39) rec PT.nil s) fun x40 s =>
 opt2 (oBin (int2 orO) (.v x33) (.v x40) rec PT.nil s) fun x41 s =>
 opt2 (oMov (.v x41) rec PT.nil s) fun x42 s =>
 opt2 (oMov (.v x21) rec PT.nil s) fun x43 s =>
 opt2 (oBin (int2 (cmpO ltI)) (.v x43) (.v (.int .u8 128)) rec PT.nil s) fun x44 s =>
 condV x44
 (opt2 (oMov (.v x21) rec PT.nil s) fun x45 s =>
 opt2 (oBin (int2 (cmpO eqI)) (.v x45) (.v (.int .u8 0)) rec PT.nil s) fun x46 s =>
 opt2 (oMov (.v x46) rec PT.nil s) fun x47 s =>
 opt (gval true x47) fun x48 => opt2 (orUndef x48 (oMov (.v (orU (fs.get t4))) rec PT.nil s) s) fun x49 s =>
 opt (gval true x47) fun x50 => opt2 (orUndef x50 (oBin (int2 (cmpO gtI)) (.v x49) (.v (.int .i64 0)) rec PT.nil s) s) fun x51 s =>
 opt2 (oPick (.v x47) (.v x51) (.v (.bool false)) rec PT.nil s) fun x52 s =>
 condV x52
 (opt2 (oMov (.v (orU (fs.get t0))) rec PT.nil s) fun x53 s =>
 opt2 (rec 59 [x53] s) fun x54 s =>
 opt2 (oMov (.v x54) rec PT.nil s) fun x55 s =>
 some (.ret, (PT.put x55 t2 (PT.put x54 t52 (PT.put x53 t51 (PT.put x52 t50 (PT.put x51 t49 (PT.put x49 t48 (PT.put x47 t47 (PT.put x46 t46 (PT.put x45 t45 (PT.put x44 t44 (PT.put x43 t43 (PT.put x42 t3 (PT.put x41 t42 (PT.put x40 t41 (PT.put x39 t40 (PT.put x38 t39 (PT.put x37 t38 (PT.put x36 t37 (PT.put x35 t36 (PT.put x34 t35 (PT.put x33 t34 (PT.put x29 t31 (PT.put x28 t30 (PT.put x26 t29 (PT.put x24 t28 (PT.put x23 t27 (PT.put x22 t26 (PT.put x21 t5 (PT.put x20 t25 (PT.put x19 t24 (PT.put x18 t23 (PT.put x17 t22 (PT.put x16 t21 (PT.put x15 t20 (PT.put x14 t19 (PT.put x13 t16 (PT.put x12 t15 (PT.put x10 t14 (PT.put x8 t13 (PT.put x7 t12 (PT.put x6 t11 (PT.put x5 t10 (PT.put x4 t9 (PT.put x3 t8 (PT.put x2 t7 (PT.put x1 t6 fs)))))))))))))))))))))))))))))))))))))))))))))), s))
 (opt2 (oMov (.v (orU (fs.get t0))) rec PT.nil s) fun x56 s =>
 opt2 (oMov (.v (orU (fs.get t0))) rec PT.nil s) fun x57 s =>
 opt2 (oNilCheck (.v x57) rec PT.nil s) fun x58 s =>
 opt2 (oFieldAddr 0 (.v x58) rec PT.nil s) fun x59 s =>
 opt2 (oLoad1 (.v x59) rec PT.nil s) fun x60 s =>
 opt2 (oMov (.v (orU (fs.get t4))) rec PT.nil s) fun x61 s =>
 opt2 (oBin (int2 addO) (.v x61) (.v (.int .i64 1)) rec PT.nil s) fun x62 s =>
 opt2 (oSliceL 1 (.v x60) (some (.v x62)) none none rec PT.nil s) fun x63 s =>
 opt2 (oNilCheck (.v x56) rec PT.nil s) fun x64 s =>
 opt2 (oFieldAddr 0 (.v x64) rec PT.nil s) fun x65 s =>
 opt2 (oStore 1 (.v x65) (.v x63) rec PT.nil s) fun x66 s =>
 opt2 (oMov (.v x42) rec PT.nil s) fun x67 s =>
 opt2 (oMov (.v x67) rec PT.nil s) fun x68 s =>
 some (.ret, (PT.put x68 t2 (PT.put x67 t63 (PT.put x65 t62 (PT.put x64 t61 (PT.put x63 t60 (PT.put x62 t59 (PT.put x61 t58 (PT.put x60 t57 (PT.put x59 t56 (PT.put x58 t55 (PT.put x57 t54 (PT.put x56 t53 (PT.put x52 t50 (PT.put x51 t49 (PT.put x49 t48 (PT.put x47 t47 (PT.put x46 t46 (PT.put x45 t45 (PT.put x44 t44 (PT.put x43 t43 (PT.put x42 t3 (PT.put x41 t42 (PT.put x40 t41 (PT.put x39 t40 (PT.put x38 t39 (PT.put x37 t38 (PT.put x36 t37 (PT.put x35 t36 (PT.put x34 t35 (PT.put x33 t34 (PT.put x29 t31 (PT.put x28 t30 (PT.put x26 t29 (PT.put x24 t28 (PT.put x23 t27 (PT.put x22 t26 (PT.put x21 t5 (PT.put x20 t25 (PT.put x19 t24 (PT.put x18 t23 (PT.put x17 t22 (PT.put x16 t21 (PT.put x15 t20 (PT.put x14 t19 (PT.put x13 t16 (PT.put x12 t15 (PT.put x10 t14 (PT.put x8 t13 (PT.put x7 t12 (PT.put x6 t11 (PT.put x5 t10 (PT.put x4 t9 (PT.put x3 t8 (PT.put x2 t7 (PT.put x1 t6 fs))))))))))))))))))))))))))))))))))))))))))))))))))))))), s)))
 (opt2 (oMov (.v (orU (fs.get t4))) rec PT.nil s) fun x69 s =>
 opt2 (oBin (int2 addO) (.v x69) (.v (.int .i64 1)) rec PT.nil s) fun x70 s =>
 opt2 (oMov (.v x70) rec PT.nil s) fun x71 s =>
 some (.norm, (PT.put x71 t4 (PT.put x70 t18 (PT.put x69 t17 (PT.put x44 t44 (PT.put x43 t43 (PT.put x42 t3 (PT.put x41 t42 (PT.put x40 t41 (PT.put x39 t40 (PT.put x38 t39 (PT.put x37 t38 (PT.put x36 t37 (PT.put x35 t36 (PT.put x34 t35 (PT.put x33 t34 (PT.put x29 t31 (PT.put x28 t30 (PT.put x26 t29 (PT.put x24 t28 (PT.put x23 t27 (PT.put x22 t26 (PT.put x21 t5 (PT.put x20 t25 (PT.put x19 t24 (PT.put x18 t23 (PT.put x17 t22 (PT.put x16 t21 (PT.put x15 t20 (PT.put x14 t19 (PT.put x13 t16 (PT.put x12 t15 (PT.put x10 t14 (PT.put x8 t13 (PT.put x7 t12 (PT.put x6 t11 (PT.put x5 t10 (PT.put x4 t9 (PT.put x3 t8 (PT.put x2 t7 (PT.put x1 t6 fs)))))))))))))))))))))))))))))))))))))))), s))))
 (some ((.exit 0), (PT.put x13 t16 (PT.put x12 t15 (PT.put x10 t14 (PT.put x8 t13 (PT.put x7 t12 (PT.put x6 t11 (PT.put x5 t10 (PT.put x4 t9 (PT.put x3 t8 (PT.put x2 t7 (PT.put x1 t6 fs))))))))))), s))
set_option maxHeartbeats 4000000 in
theorem d35_l0 (rec : Rec) (N : Nat) (fs : Frm) (s : St) : c35_l0 rec N fs s = D35_l0 rec N fs s := by
  simp (maxSteps := 4000000) only [c35_l0, lenN, x_seq, x_ops, x_skip, x_ret, x_exit, x_cond, x_block, x_loop, ops_c, ops_n, op1_u, op1_gj, rq_c, rq_n, opQ_u, opQ_g, op2_op2, op2_op, op2_s, op2_cond, thenX_n, thenX_e, thenX_r, blkX_n, blkX_r, blkX_e, finX_r, finX_n, res_n, res_t, op_s, Nat.beq_refl, cond_true]
  first | done | kernel_rfl
def D35_r0 (rec : Rec) (N : Nat) (fs : Frm) (s : St) : OutX := opt2 (oMov (.v (orU (fs.get t0))) rec PT.nil s) fun x1 s =>
 opt2 (rec 59 [x1] s) fun x2 s =>
 opt2 (oMov (.v x2) rec PT.nil s) fun x3 s =>
 some (.ret, (PT.put x3 t2 (PT.put x2 t65 (PT.put x1 t64 fs))), s)
set_option maxHeartbeats 4000000 in
theorem d35_r0 (rec : Rec) (N : Nat) (fs : Frm) (s : St) : c35_r0 rec N fs s = D35_r0 rec N fs s := by
  simp (maxSteps := 4000000) only [c35_r0, lenN, x_seq, x_ops, x_skip, x_ret, x_exit, x_cond, x_block, x_loop, ops_c, ops_n, op1_u, op1_gj, rq_c, rq_n, opQ_u, opQ_g, op2_op2, op2_op, op2_s, op2_cond, thenX_n, thenX_e, thenX_r, blkX_n, blkX_r, blkX_e, finX_r, finX_n, res_n, res_t, op_s, Nat.beq_refl, cond_true]
  first | done | kernel_rfl
def D35 (rec : Rec) (N : Nat) (a0 : Value) (s : St) : Out := opt2 (oMov (.v (.int .u64 0)) rec PT.nil s) fun x1 s =>
 opt2 (oMov (.v (.int .u64 0)) rec PT.nil s) fun x2 s =>
 opt2 (oMov (.v (.int .i64 0)) rec PT.nil s) fun x3 s =>
 opt2 (loopF (c35_l0 rec N) N (PT.put x3 t4 (PT.put x2 t3 (PT.put x1 t2 (PT.put a0 t0 PT.nil)))) s) fun e r => opt2 (blkX 0 e r) fun e r => opt2 (thenX (c35_r0 rec N) e r) fun e r => finX [.tmp t2] e r
set_option maxHeartbeats 4000000 in
theorem d35 (rec : Rec) (N : Nat) (a0 : Value) (s : St) : callF rec N c35 [a0] s = D35 rec N a0 s := by
  rw [call_f _ _ _ _ _ rfl]
  simp (maxSteps := 4000000) only [c35, lenN, x_seq, x_ops, x_skip, x_ret, x_exit, x_cond, x_block, x_loop, ops_c, ops_n, op1_u, op1_gj, rq_c, rq_n, opQ_u, opQ_g, op2_op2, op2_op, op2_s, op2_cond, thenX_n, thenX_e, thenX_r, blkX_n, blkX_r, blkX_e, finX_r, finX_n, res_n, res_t, op_s, Nat.beq_refl, cond_true]
  first | done | kernel_rfl
def J35_r0 (rec : Rec) (N : Nat) (k : Value) (s : St) : Out := opt2 (rec 59 [k] s) fun x1 s =>
 some (oneOf [x1], s)
set_option maxHeartbeats 4000000 in
theorem j35_r0 (rec : Rec) (N : Nat) (fs : Frm) (s : St) : opt2 (c35_r0 rec N fs s) (fun e r => finX [.tmp t2] e r) = J35_r0 rec N (orU (fs.get t0)) s := by
  rw [d35_r0]
  unfold D35_r0 J35_r0
  simp (maxSteps := 4000000) only [thenX_n, thenX_e, thenX_r, x_exit, x_skip, x_ret, blkX_n, blkX_r, blkX_e, finX_r, finX_n, res_n, res_t, op2_op2, op2_op, op2_s, op2_cond, op2_bf, mov_v]
  first | done | kernel_rfl
def B35_l0 (rec : Rec) (N : Nat) (k : Value) (v : Value × Value × Value) (s : St) : OutV (Value × Value × Value) := opt2 (oNilCheck (.v k) rec PT.nil s) fun x1 s =>
 opt2 (oFieldAddr 0 (.v x1) rec PT.nil s) fun x2 s =>
 opt2 (oLoad1 (.v x2) rec PT.nil s) fun x3 s =>
 opt2 (oLenL (.v x3) rec PT.nil s) fun x4 s =>
 opt2 (oBin (int2 (cmpO ltI)) (.v v.2.2) (.v x4) rec PT.nil s) fun x5 s =>
 opt (gval true x5) fun x6 => opt2 (orUndef x6 (some (v.2.2, s)) s) fun x7 s =>
 opt (gval true x5) fun x8 => opt2 (orUndef x8 (oBin (int2 (cmpO ltI)) (.v x7) (.v (.int .i64 10)) rec PT.nil s) s) fun x9 s =>
 opt2 (oPick (.v x5) (.v x9) (.v (.bool false)) rec PT.nil s) fun x10 s =>
 condV x10
 (opt2 (oNilCheck (.v k) rec PT.nil s) fun x11 s =>
 opt2 (oFieldAddr 0 (.v x11) rec PT.nil s) fun x12 s =>
 opt2 (oLoad1 (.v x12) rec PT.nil s) fun x13 s =>
 opt2 (oIdxAddrL 1 (.v x13) (.v v.2.2) rec PT.nil s) fun x14 s =>
 opt2 (oLoad1 (.v x14) rec PT.nil s) fun x15 s =>
 opt2 (oBin (int2 (cmpO eqI)) (.v v.2.2) (.v (.int .i64 9)) rec PT.nil s) fun x16 s =>
 opt (gval true x16) fun x17 => opt2 (orUndef x17 (some (x15, s)) s) fun x18 s =>
 opt (gval true x16) fun x19 => opt2 (orUndef x19 (oBin (int2 (cmpO gtI)) (.v x18) (.v (.int .u8 1)) rec PT.nil s) s) fun x20 s =>
 opt2 (oPick (.v x16) (.v x20) (.v (.bool false)) rec PT.nil s) fun x21 s =>
 condV x21
 (opt2 (rec 59 [k] s) fun x22 s =>
 some (.ret, ((x22, v.2.1, v.2.2), s)))
 (opt2 (oBin (int2 andO) (.v x15) (.v (.int .u8 127)) rec PT.nil s) fun x23 s =>
 opt2 (oConv .u64 (.v x23) rec PT.nil s) fun x24 s =>
 opt2 (oBin (int2 mulO) (.v (.int .i64 7)) (.v v.2.2) rec PT.nil s) fun x25 s =>
 opt2 (oConv .u64 (.v x25) rec PT.nil s) fun x26 s =>
 opt2 (oBin (sh2 shlO) (.v x24) (.v x26) rec PT.nil s) fun x27 s =>
 opt2 (oBin (int2 orO) (.v v.2.1) (.v x27) rec PT.nil s) fun x28 s =>
 opt2 (oBin (int2 (cmpO ltI)) (.v x15) (.v (.int .u8 128)) rec PT.nil s) fun x29 s =>
 condV x29
 (opt2 (oBin (int2 (cmpO eqI)) (.v x15) (.v (.int .u8 0)) rec PT.nil s) fun x30 s =>
 opt (gval true x30) fun x31 => opt2 (orUndef x31 (some (v.2.2, s)) s) fun x32 s =>
 opt (gval true x30) fun x33 => opt2 (orUndef x33 (oBin (int2 (cmpO gtI)) (.v x32) (.v (.int .i64 0)) rec PT.nil s) s) fun x34 s =>
 opt2 (oPick (.v x30) (.v x34) (.v (.bool false)) rec PT.nil s) fun x35 s =>
 condV x35
 (opt2 (rec 59 [k] s) fun x36 s =>
 some (.ret, ((x36, x28, v.2.2), s)))
 (opt2 (oNilCheck (.v k) rec PT.nil s) fun x37 s =>
 opt2 (oFieldAddr 0 (.v x37) rec PT.nil s) fun x38 s =>
 opt2 (oLoad1 (.v x38) rec PT.nil s) fun x39 s =>
 opt2 (oBin (int2 addO) (.v v.2.2) (.v (.int .i64 1)) rec PT.nil s) fun x40 s =>
 opt2 (oSliceL 1 (.v x39) (some (.v x40)) none none rec PT.nil s) fun x41 s =>
 opt2 (oNilCheck (.v k) rec PT.nil s) fun x42 s =>
 opt2 (oFieldAddr 0 (.v x42) rec PT.nil s) fun x43 s =>
 opt2 (oStore 1 (.v x43) (.v x41) rec PT.nil s) fun x44 s =>
 some (.ret, ((x28, x28, v.2.2), s))))
 (opt2 (oBin (int2 addO) (.v v.2.2) (.v (.int .i64 1)) rec PT.nil s) fun x45 s =>
 some (.norm, ((v.1, x28, x45), s)))))
 (some ((.exit 0), ((v.1, v.2.1, v.2.2), s)))
set_option maxHeartbeats 4000000 in
theorem s35_l0 (rec : Rec) (N : Nat) (fs : Frm) (s : St) : opt2 (c35_l0 rec N fs s) (fun e r => some (e, (((orU (r.1.get t2), orU (r.1.get t3), orU (r.1.get t4)), (orU (r.1.get t0))), r.2))) = opt2 (B35_l0 rec N (orU (fs.get t0)) (orU (fs.get t2), orU (fs.get t3), orU (fs.get t4)) s) fun e r => some (e, ((r.1, (orU (fs.get t0))), r.2)) := by
  rw [d35_l0]
  unfold D35_l0 B35_l0
  simp (maxSteps := 4000000) only [op2_op2, op2_op, op2_s, op2_cond, op2_bf, mov_v]
  first | done | kernel_rfl
def C35_l0 (rec : Rec) (N : Nat) (k : Value) (e : AExit) (r : (Value × Value × Value) × St) : Out := (fun s => exV (fun i => bif Nat.beq i 0 then (J35_r0 rec N k s)
 else (none))
 (some (oneOf [r.1.1], s)) e) r.2
theorem j35_l0 (rec : Rec) (N : Nat) (fs : Frm) (s : St) : opt2 (loopF (c35_l0 rec N) N fs s) (fun e r => opt2 (blkX 0 e r) fun e r => opt2 (thenX (c35_r0 rec N) e r) fun e r => finX [.tmp t2] e r) = opt2 (loopV (B35_l0 rec N (orU (fs.get t0))) N (orU (fs.get t2), orU (fs.get t3), orU (fs.get t4)) s) (C35_l0 rec N (orU (fs.get t0))) := by
  refine loop_j (fun fs => (orU (fs.get t2), orU (fs.get t3), orU (fs.get t4))) (fun fs => (orU (fs.get t0))) (B35_l0 rec N) (c35_l0 rec N) (s35_l0 rec N) (fun e r => opt2 (blkX 0 e r) fun e r => opt2 (thenX (c35_r0 rec N) e r) fun e r => finX [.tmp t2] e r) (C35_l0 rec N) ?_ ?_ N fs s
  · intro i fs s
    unfold C35_l0
    simp (maxSteps := 4000000) only [thenX_n, thenX_e, thenX_r, x_exit, x_skip, x_ret, blkX_n, blkX_r, blkX_e, finX_r, finX_n, res_n, res_t, exV_e, exV_r, op2_op2, op2_op, op2_s, op2_cond, op2_bf, mov_v, j35_r0 rec N]
    first | done | kernel_rfl
  · intro fs s
    unfold C35_l0
    simp (maxSteps := 4000000) only [thenX_n, thenX_e, thenX_r, x_exit, x_skip, x_ret, blkX_n, blkX_r, blkX_e, finX_r, finX_n, res_n, res_t, exV_e, exV_r, op2_op2, op2_op, op2_s, op2_cond, op2_bf, mov_v, j35_r0 rec N]
    first | done | kernel_rfl
def F35 (rec : Rec) (N : Nat) (a0 : Value) (s : St) : Out := opt2 (loopV (B35_l0 rec N a0) N ((.int .u64 0), (.int .u64 0), (.int .i64 0)) s) (C35_l0 rec N a0)
theorem f35 (rec : Rec) (N : Nat) (a0 : Value) (s : St) : callF rec N c35 [a0] s = F35 rec N a0 s := by
  rw [d35]
  unfold D35 F35
  simp (maxSteps := 4000000) only [mov_v, op2_s, j35_l0 rec N]
  first | done | kernel_rfl
-- c36
def D36 (rec : Rec) (N : Nat) (a0 : Value) (a1 : Value) (s : St) : Out := opt2 (oNew [(.bool false), (.slice none 0 0)] rec PT.nil s) fun x1 s =>
 opt2 (oMov (.v a0) rec PT.nil s) fun x2 s =>
 opt2 (rec 37 [x2] s) fun x3 s =>
 opt2 (oNew [(.bool false), (.slice none 0 0)] rec PT.nil s) fun x4 s =>
 opt2 (oStore 2 (.v x4) (.v x3) rec PT.nil s) fun x5 s =>
 opt2 (rU (oLoadN 2 (.v x4) rec PT.nil ⟨s.heap, s.next, 0, 0⟩) PT.nil s none) fun x6 m6 =>
 (fun s => opt2 (rU (rec 58 [(.int .u64 4294967296), (.bool false)] ⟨s.heap, s.next, 0, 0⟩) PT.nil s none) fun x7 m7 =>
 (fun s => opt2 (rU (rec 55 [x6, x7] ⟨s.heap, s.next, 0, 0⟩) PT.nil s none) fun x8 m8 =>
 (fun s => opt2 (rU (rec 58 [(.int .u64 4294967296), (.bool false)] ⟨s.heap, s.next, 0, 0⟩) PT.nil s none) fun x9 m9 =>
 (fun s => opt2 (rU (rec 55 [x8, x9] ⟨s.heap, s.next, 0, 0⟩) PT.nil s none) fun x10 m10 =>
 (fun s => opt2 (rU (oNew [(.bool false), (.slice none 0 0)] rec PT.nil ⟨s.heap, s.next, 0, 0⟩) PT.nil s none) fun x11 m11 =>
 (fun s => opt2 (rU (oStore 2 (.v x11) (.v x10) rec PT.nil ⟨s.heap, s.next, 0, 0⟩) PT.nil s none) fun x12 m12 =>
 (fun s => bif apartAll [m6.1, m7.1, m8.1, m9.1, m10.1, m11.1, m12.1] [(0, 1), (0, 5), (1, 5), (2, 5), (3, 5), (4, 5)] then opt2 (rU (oLoadN 2 (.v x11) rec PT.nil ⟨s.heap, s.next, 0, 0⟩) PT.nil s none) fun x13 m13 =>
 (fun s => opt2 (rU (oMov (.v a1) rec PT.nil ⟨s.heap, s.next, 0, 0⟩) PT.nil s none) fun x14 m14 =>
 (fun s => opt2 (rU (rec 58 [x14, (.bool false)] ⟨s.heap, s.next, 0, 0⟩) PT.nil s none) fun x15 m15 =>
 (fun s => opt2 (rU (rec 53 [x13, x15] ⟨s.heap, s.next, 0, 0⟩) PT.nil s none) fun x16 m16 =>
 (fun s => opt2 (rU (oStore 2 (.v x1) (.v x16) rec PT.nil ⟨s.heap, s.next, 0, 0⟩) PT.nil s none) fun x17 m17 =>
 (fun s => bif apartAll [m13.1, m14.1, m15.1, m16.1, m17.1] [(0, 1), (0, 2)] then finX [.cell t4 (some 2)] .ret ((PT.put x16 t17 (PT.put x15 t16 (PT.put x14 t15 (PT.put x13 t14 (PT.put x11 t6 (PT.put x10 t13 (PT.put x9 t12 (PT.put x8 t11 (PT.put x7 t10 (PT.put x6 t9 (PT.put x4 t5 (PT.put x3 t8 (PT.put x2 t7 (PT.put x1 t4 (PT.put a1 t1 (PT.put a0 t0 PT.nil)))))))))))))))), s) else none) m17.2) m16.2) m15.2) m14.2) m13.2 else none) m12.2) m11.2) m10.2) m9.2) m8.2) m7.2) m6.2
set_option maxHeartbeats 4000000 in
theorem d36 (rec : Rec) (N : Nat) (a0 : Value) (a1 : Value) (s : St) : callF rec N c36 [a0, a1] s = D36 rec N a0 a1 s := by
  rw [call_f _ _ _ _ _ rfl]
  simp (maxSteps := 4000000) only [c36, lenN, x_regc, reg_n, reg_c, reg1_u, reg1_g, op2_cons, op2_bif, x_seq, x_ops, x_skip, x_ret, x_exit, x_cond, x_block, x_loop, ops_c, ops_n, op1_u, op1_gj, rq_c, rq_n, opQ_u, opQ_g, op2_op2, op2_op, op2_s, op2_cond, thenX_n, thenX_e, thenX_r, blkX_n, blkX_r, blkX_e, finX_r, finX_n, res_n, res_t, op_s, Nat.beq_refl, cond_true]
  first | done | kernel_rfl
def F36 (rec : Rec) (N : Nat) (a0 : Value) (a1 : Value) (s : St) : Out := opt2 (oNew [(.bool false), (.slice none 0 0)] rec PT.nil s) fun x1 s =>
 opt2 (oMov (.v a0) rec PT.nil s) fun x2 s =>
 opt2 (rec 37 [x2] s) fun x3 s =>
 opt2 (oNew [(.bool false), (.slice none 0 0)] rec PT.nil s) fun x4 s =>
 opt2 (oStore 2 (.v x4) (.v x3) rec PT.nil s) fun x5 s =>
 opt2 (rU (oLoadN 2 (.v x4) rec PT.nil ⟨s.heap, s.next, 0, 0⟩) PT.nil s none) fun x6 m6 =>
 (fun s => opt2 (rU (rec 58 [(.int .u64 4294967296), (.bool false)] ⟨s.heap, s.next, 0, 0⟩) PT.nil s none) fun x7 m7 =>
 (fun s => opt2 (rU (rec 55 [x6, x7] ⟨s.heap, s.next, 0, 0⟩) PT.nil s none) fun x8 m8 =>
 (fun s => opt2 (rU (rec 58 [(.int .u64 4294967296), (.bool false)] ⟨s.heap, s.next, 0, 0⟩) PT.nil s none) fun x9 m9 =>
 (fun s => opt2 (rU (rec 55 [x8, x9] ⟨s.heap, s.next, 0, 0⟩) PT.nil s none) fun x10 m10 =>
 (fun s => opt2 (rU (oNew [(.bool false), (.slice none 0 0)] rec PT.nil ⟨s.heap, s.next, 0, 0⟩) PT.nil s none) fun x11 m11 =>
 (fun s => opt2 (rU (oStore 2 (.v x11) (.v x10) rec PT.nil ⟨s.heap, s.next, 0, 0⟩) PT.nil s none) fun x12 m12 =>
 (fun s => bif apartAll [m6.1, m7.1, m8.1, m9.1, m10.1, m11.1, m12.1] [(0, 1), (0, 5), (1, 5), (2, 5), (3, 5), (4, 5)] then opt2 (rU (oLoadN 2 (.v x11) rec PT.nil ⟨s.heap, s.next, 0, 0⟩) PT.nil s none) fun x13 m13 =>
 (fun s => opt2 (rU (oMov (.v a1) rec PT.nil ⟨s.heap, s.next, 0, 0⟩) PT.nil s none) fun x14 m14 =>
 (fun s => opt2 (rU (rec 58 [x14, (.bool false)] ⟨s.heap, s.next, 0, 0⟩) PT.nil s none) fun x15 m15 =>
 (fun s => opt2 (rU (rec 53 [x13, x15] ⟨s.heap, s.next, 0, 0⟩) PT.nil s none) fun x16 m16 =>
 (fun s => opt2 (rU (oStore 2 (.v x1) (.v x16) rec PT.nil ⟨s.heap, s.next, 0, 0⟩) PT.nil s none) fun x17 m17 =>
 (fun s => bif apartAll [m13.1, m14.1, m15.1, m16.1, m17.1] [(0, 1), (0, 2)] then finX [.cell t4 (some 2)] .ret ((PT.put x16 t17 (PT.put x15 t16 (PT.put x14 t15 (PT.put x13 t14 (PT.put x11 t6 (PT.put x10 t13 (PT.put x9 t12 (PT.put x8 t11 (PT.put x7 t10 (PT.put x6 t9 (PT.put x4 t5 (PT.put x3 t8 (PT.put x2 t7 (PT.put x1 t4 (PT.put a1 t1 (PT.put a0 t0 PT.nil)))))))))))))))), s) else none) m17.2) m16.2) m15.2) m14.2) m13.2 else none) m12.2) m11.2) m10.2) m9.2) m8.2) m7.2) m6.2
set_option maxHeartbeats 4000000 in
theorem f36 (rec : Rec) (N : Nat) (a0 : Value) (a1 : Value) (s : St) : callF rec N c36 [a0, a1] s = F36 rec N a0 a1 s := by
  rw [d36]
  unfold D36 F36
  first
    | done
    | rfl
    | (simp (maxSteps := 4000000) only [mov_v, op2_s]; first | done | kernel_rfl)
    | kernel_rfl
-- c37
def D37 (rec : Rec) (N : Nat) (a0 : Value) (s : St) : Out := opt2 (oNew [(.bool false), (.slice none 0 0)] rec PT.nil s) fun x1 s =>
 opt2 (oMov (.v a0) rec PT.nil s) fun x2 s =>
 opt2 (oConv .u64 (.v x2) rec PT.nil s) fun x3 s =>
 opt2 (oMov (.v x3) rec PT.nil s) fun x4 s =>
 opt2 (oMov (.v a0) rec PT.nil s) fun x5 s =>
 opt2 (oBin (int2 (cmpO ltI)) (.v x5) (.v (.int .i64 0)) rec PT.nil s) fun x6 s =>
 condV x6
 (opt2 (oMov (.v x4) rec PT.nil s) fun x7 s =>
 opt2 (oNeg (.v x7) rec PT.nil s) fun x8 s =>
 opt2 (oMov (.v x8) rec PT.nil s) fun x9 s =>
 opt2 (oMov (.v x9) rec PT.nil s) fun x10 s =>
 opt2 (oMov (.v a0) rec PT.nil s) fun x11 s =>
 opt2 (oBin (int2 (cmpO ltI)) (.v x11) (.v (.int .i64 0)) rec PT.nil s) fun x12 s =>
 opt2 (rec 58 [x10, x12] s) fun x13 s =>
 opt2 (oStore 2 (.v x1) (.v x13) rec PT.nil s) fun x14 s =>
 finX [.cell t2 (some 2)] .ret ((PT.put x13 t13 (PT.put x12 t12 (PT.put x11 t11 (PT.put x10 t10 (PT.put x9 t3 (PT.put x8 t9 (PT.put x7 t8 (PT.put x6 t7 (PT.put x5 t6 (PT.put x4 t3 (PT.put x3 t5 (PT.put x2 t4 (PT.put x1 t2 (PT.put a0 t0 PT.nil)))))))))))))), s))
 (opt2 (oMov (.v x4) rec PT.nil s) fun x15 s =>
 opt2 (oMov (.v a0) rec PT.nil s) fun x16 s =>
 opt2 (oBin (int2 (cmpO ltI)) (.v x16) (.v (.int .i64 0)) rec PT.nil s) fun x17 s =>
 opt2 (rec 58 [x15, x17] s) fun x18 s =>
 opt2 (oStore 2 (.v x1) (.v x18) rec PT.nil s) fun x19 s =>
 finX [.cell t2 (some 2)] .ret ((PT.put x18 t13 (PT.put x17 t12 (PT.put x16 t11 (PT.put x15 t10 (PT.put x6 t7 (PT.put x5 t6 (PT.put x4 t3 (PT.put x3 t5 (PT.put x2 t4 (PT.put x1 t2 (PT.put a0 t0 PT.nil))))))))))), s))
set_option maxHeartbeats 4000000 in
theorem d37 (rec : Rec) (N : Nat) (a0 : Value) (s : St) : callF rec N c37 [a0] s = D37 rec N a0 s := by
  rw [call_f _ _ _ _ _ rfl]
  simp (maxSteps := 4000000) only [c37, lenN, x_seq, x_ops, x_skip, x_ret, x_exit, x_cond, x_block, x_loop, ops_c, ops_n, op1_u, op1_gj, rq_c, rq_n, opQ_u, opQ_g, op2_op2, op2_op, op2_s, op2_cond, thenX_n, thenX_e, thenX_r, blkX_n, blkX_r, blkX_e, finX_r, finX_n, res_n, res_t, op_s, Nat.beq_refl, cond_true]
  first | done | kernel_rfl
def F37 (rec : Rec) (N : Nat) (a0 : Value) (s : St) : Out := opt2 (oNew [(.bool false), (.slice none 0 0)] rec PT.nil s) fun x1 s =>
 opt2 (oConv .u64 (.v a0) rec PT.nil s) fun x2 s =>
 opt2 (oBin (int2 (cmpO ltI)) (.v a0) (.v (.int .i64 0)) rec PT.nil s) fun x3 s =>
 condV x3
 (opt2 (oNeg (.v x2) rec PT.nil s) fun x4 s =>
 opt2 (oBin (int2 (cmpO ltI)) (.v a0) (.v (.int .i64 0)) rec PT.nil s) fun x5 s =>
 opt2 (rec 58 [x4, x5] s) fun x6 s =>
 opt2 (oStore 2 (.v x1) (.v x6) rec PT.nil s) fun x7 s =>
 finX [.cell t2 (some 2)] .ret ((PT.put x1 t2 PT.nil), s))
 (opt2 (oBin (int2 (cmpO ltI)) (.v a0) (.v (.int .i64 0)) rec PT.nil s) fun x8 s =>
 opt2 (rec 58 [x2, x8] s) fun x9 s =>
 opt2 (oStore 2 (.v x1) (.v x9) rec PT.nil s) fun x10 s =>
 finX [.cell t2 (some 2)] .ret ((PT.put x1 t2 PT.nil), s))
set_option maxHeartbeats 4000000 in
theorem f37 (rec : Rec) (N : Nat) (a0 : Value) (s : St) : callF rec N c37 [a0] s = F37 rec N a0 s := by
  rw [d37]
  unfold D37 F37
  first
    | done
    | rfl
    | (simp (maxSteps := 4000000) only [mov_v, op2_s]; first | done | kernel_rfl)
    | kernel_rfl
-- c39
def D39 (rec : Rec) (N : Nat) (a0 : Value) (s : St) : Out := opt2 (oMov (.v (.pointer none)) rec PT.nil s) fun x1 s =>
 opt2 (oMov (.v a0) rec PT.nil s) fun x2 s =>
 opt2 (rec 60 [x2] s) fun x3 s =>
 opt2 (oBuild [(.slice none 0 0), (.bool false)] [(0, 1, (.v x3))] rec PT.nil s) fun x4 s =>
 opt2 (oBox (.v x4) rec PT.nil s) fun x5 s =>
 opt2 (oMov (.v x5) rec PT.nil s) fun x6 s =>
 some (oneOf [x6], s)
set_option maxHeartbeats 4000000 in
theorem d39 (rec : Rec) (N : Nat) (a0 : Value) (s : St) : callF rec N c39 [a0] s = D39 rec N a0 s := by
  rw [call_f _ _ _ _ _ rfl]
  simp (maxSteps := 4000000) only [c39, lenN, x_seq, x_ops, x_skip, x_ret, x_exit, x_cond, x_block, x_loop, ops_c, ops_n, op1_u, op1_gj, rq_c, rq_n, opQ_u, opQ_g, op2_op2, op2_op, op2_s, op2_cond, thenX_n, thenX_e, thenX_r, blkX_n, blkX_r, blkX_e, finX_r, finX_n, res_n, res_t, op_s, Nat.beq_refl, cond_true]
  first | done | kernel_rfl
def F39 (rec : Rec) (N : Nat) (a0 : Value) (s : St) : Out := opt2 (rec 60 [a0] s) fun x1 s =>
 opt2 (oBuild [(.slice none 0 0), (.bool false)] [(0, 1, (.v x1))] rec PT.nil s) fun x2 s =>
 opt2 (oBox (.v x2) rec PT.nil s) fun x3 s =>
 some (oneOf [x3], s)
set_option maxHeartbeats 4000000 in
theorem f39 (rec : Rec) (N : Nat) (a0 : Value) (s : St) : callF rec N c39 [a0] s = F39 rec N a0 s := by
  rw [d39]
  unfold D39 F39
  first
    | done
    | rfl
    | (simp (maxSteps := 4000000) only [mov_v, op2_s]; first | done | kernel_rfl)
    | kernel_rfl
-- c40
def D40 (rec : Rec) (N : Nat) (a0 : Value) (s : St) : Out := opt2 (oMov (.v (.int .i64 0)) rec PT.nil s) fun x1 s =>
 opt2 (oMov (.v a0) rec PT.nil s) fun x2 s =>
 opt2 (rec 41 [x2] s) fun x3 s =>
 opt2 (oMov (.v x3) rec PT.nil s) fun x4 s =>
 opt2 (oMov (.v x4) rec PT.nil s) fun x5 s =>
 opt2 (oBin (sh2 shrO) (.v x5) (.v (.int .u64 1)) rec PT.nil s) fun x6 s =>
 opt2 (oConv .i64 (.v x6) rec PT.nil s) fun x7 s =>
 opt2 (oMov (.v x4) rec PT.nil s) fun x8 s =>
 opt2 (oBin (int2 andO) (.v x8) (.v (.int .u64 1)) rec PT.nil s) fun x9 s =>
 opt2 (oConv .i64 (.v x9) rec PT.nil s) fun x10 s =>
 opt2 (oNeg (.v x10) rec PT.nil s) fun x11 s =>
 opt2 (oBin (int2 xorO) (.v x7) (.v x11) rec PT.nil s) fun x12 s =>
 opt2 (oMov (.v x12) rec PT.nil s) fun x13 s =>
 some (oneOf [x13], s)
set_option maxHeartbeats 4000000 in
theorem d40 (rec : Rec) (N : Nat) (a0 : Value) (s : St) : callF rec N c40 [a0] s = D40 rec N a0 s := by
  rw [call_f _ _ _ _ _ rfl]
  simp (maxSteps := 4000000) only [c40, lenN, x_seq, x_ops, x_skip, x_ret, x_exit, x_cond, x_block, x_loop, ops_c, ops_n, op1_u, op1_gj, rq_c, rq_n, opQ_u, opQ_g, op2_op2, op2_op, op2_s, op2_cond, thenX_n, thenX_e, thenX_r, blkX_n, blkX_r, blkX_e, finX_r, finX_n, res_n, res_t, op_s, Nat.beq_refl, cond_true]
  first | done | kernel_rfl
def F40 (rec : Rec) (N : Nat) (a0 : Value) (s : St) : Out := opt2 (rec 41 [a0] s) fun x1 s =>
 opt2 (oBin (sh2 shrO) (.v x1) (.v (.int .u64 1)) rec PT.nil s) fun x2 s =>
 opt2 (oConv .i64 (.v x2) rec PT.nil s) fun x3 s =>
 opt2 (oBin (int2 andO) (.v x1) (.v (.int .u64 1)) rec PT.nil s) fun x4 s =>
 opt2 (oConv .i64 (.v x4) rec PT.nil s) fun x5 s =>
 opt2 (oNeg (.v x5) rec PT.nil s) fun x6 s =>
 opt2 (oBin (int2 xorO) (.v x3) (.v x6) rec PT.nil s) fun x7 s =>
 some (oneOf [x7], s)
set_option maxHeartbeats 4000000 in
theorem f40 (rec : Rec) (N : Nat) (a0 : Value) (s : St) : callF rec N c40 [a0] s = F40 rec N a0 s := by
  rw [d40]
  unfold D40 F40
  first
    | done
    | rfl
    | (simp (maxSteps := 4000000) only [mov_v, op2_s]; first | done | kernel_rfl)
    | kernel_rfl
-- c41
def D41_l0 (rec : Rec) (N : Nat) (fs : Frm) (s : St) : OutX := opt2 (oBin (int2 (cmpO ltI)) (.v (orU (fs.get t11))) (.v (orU (fs.get t10))) rec PT.nil s) fun x1 s =>
 condV x1
 (opt2 (oMov (.v (orU (fs.get t11))) rec PT.nil s) fun x2 s =>
 opt2 (oIdxAddrL 1 (.v (orU (fs.get t9))) (.v (orU (fs.get t11))) rec PT.nil s) fun x3 s =>
 opt2 (oLoad1 (.v x3) rec PT.nil s) fun x4 s =>
 opt2 (oMov (.v x2) rec PT.nil s) fun x5 s =>
 opt2 (oMov (.v x4) rec PT.nil s) fun x6 s =>
 opt2 (oMov (.v x5) rec PT.nil s) fun x7 s =>
 opt2 (oBin (int2 (cmpO eqI)) (.v x7) (.v (.int .i64 9)) rec PT.nil s) fun x8 s =>
 opt2 (oMov (.v x8) rec PT.nil s) fun x9 s =>
 opt (gval true x9) fun x10 => opt2 (orUndef x10 (oMov (.v x6) rec PT.nil s) s) fun x11 s =>
 opt (gval true x9) fun x12 => opt2 (orUndef x12 (oBin (int2 (cmpO gtI)) (.v x11) (.v (.int .u8 1)) rec PT.nil s) s) fun x13 s =>
 opt2 (oPick (.v x9) (.v x13) (.v (.bool false)) rec PT.nil s) fun x14 s =>
 condV x14
 (some ((.exit 0), (PT.put x14 t21 (PT.put x13 t20 (PT.put x11 t19 (PT.put x9 t18 (PT.put x8 t17 (PT.put x7 t16 (PT.put x6 t5 (PT.put x5 t4 (PT.put x4 t15 (PT.put x3 t14 (PT.put x2 t13 (PT.put x1 t12 fs)))))))))))), s))
 (opt2 (oMov (.v (orU (fs.get t3))) rec PT.nil s) fun x15 s =>
 opt2 (oMov (.v x6) rec PT.nil s) fun x16 s =>
 opt2 (oBin (int2 andO) (.v x16) (.v (.int .u8 127)) rec PT.nil s) fun x17 s =>
 opt2 (oConv .u64 (.v x17) rec PT.nil s) fun x18 s =>
 opt2 (oMov (.v x5) rec PT.nil s) fun x19 s =>
 opt2 (oConv .u64 (.v x19) rec PT.nil s) fun x20 s =>
 opt2 (oBin (int2 mulO) (.v (.int .u64 7)) (.v x20) rec PT.nil s) fun x21 s =>
 opt2 (oBin (sh2 shlO) (.v x18) (.v x21) rec PT.nil s) fun x22 s =>
 opt2 (oBin (int2 orO) (.v x15) (.v x22) rec PT.nil s) fun x23 s =>
 opt2 (oMov (.v x23) rec PT.nil s) fun x24 s =>
 opt2 (oMov (.v x6) rec PT.nil s) fun x25 s =>
 opt2 (oBin (int2 (cmpO geI)) (.v x25) (.v (.int .u8 128)) rec PT.nil s) fun x26 s =>
 condV x26
 (opt2 (oBin (int2 addO) (.v (orU (fs.get t11))) (.v (.int .i64 1)) rec PT.nil s) fun x27 s =>
 opt2 (oMov (.v x27) rec PT.nil s) fun x28 s =>
 some (.norm, (PT.put x28 t11 (PT.put x27 t50 (PT.put x26 t32 (PT.put x25 t31 (PT.put x24 t3 (PT.put x23 t30 (PT.put x22 t29 (PT.put x21 t28 (PT.put x20 t27 (PT.put x19 t26 (PT.put x18 t25 (PT.put x17 t24 (PT.put x16 t23 (PT.put x15 t22 (PT.put x14 t21 (PT.put x13 t20 (PT.put x11 t19 (PT.put x9 t18 (PT.put x8 t17 (PT.put x7 t16 (PT.put x6 t5 (PT.put x5 t4 (PT.put x4 t15 (PT.put x3 t14 (PT.put x2 t13 (PT.put x1 t12 fs)))))))))))))))))))))))))), s))
 (opt2 (oMov (.v x6) rec PT.nil s) fun x29 s =>
 opt2 (oBin (int2 (cmpO eqI)) (.v x29) (.v (.int .u8 0)) rec PT.nil s) fun x30 s =>
 opt2 (oMov (.v x30) rec PT.nil s) fun x31 s =>
 opt (gval true x31) fun x32 => opt2 (orUndef x32 (oMov (.v x5) rec PT.nil s) s) fun x33 s =>
 opt (gval true x31) fun x34 => opt2 (orUndef x34 (oBin (int2 (cmpO gtI)) (.v x33) (.v (.int .i64 0)) rec PT.nil s) s) fun x35 s =>
 opt2 (oPick (.v x31) (.v x35) (.v (.bool false)) rec PT.nil s) fun x36 s =>
 condV x36
 (some ((.exit 0), (PT.put x36 t38 (PT.put x35 t37 (PT.put x33 t36 (PT.put x31 t35 (PT.put x30 t34 (PT.put x29 t33 (PT.put x26 t32 (PT.put x25 t31 (PT.put x24 t3 (PT.put x23 t30 (PT.put x22 t29 (PT.put x21 t28 (PT.put x20 t27 (PT.put x19 t26 (PT.put x18 t25 (PT.put x17 t24 (PT.put x16 t23 (PT.put x15 t22 (PT.put x14 t21 (PT.put x13 t20 (PT.put x11 t19 (PT.put x9 t18 (PT.put x8 t17 (PT.put x7 t16 (PT.put x6 t5 (PT.put x5 t4 (PT.put x4 t15 (PT.put x3 t14 (PT.put x2 t13 (PT.put x1 t12 fs)))))))))))))))))))))))))))))), s))
 (opt2 (oMov (.v (orU (fs.get t0))) rec PT.nil s) fun x37 s =>
 opt2 (oMov (.v (orU (fs.get t0))) rec PT.nil s) fun x38 s =>
 opt2 (oNilCheck (.v x38) rec PT.nil s) fun x39 s =>
 opt2 (oFieldAddr 0 (.v x39) rec PT.nil s) fun x40 s =>
 opt2 (oLoad1 (.v x40) rec PT.nil s) fun x41 s =>
 opt2 (oMov (.v x5) rec PT.nil s) fun x42 s =>
 opt2 (oBin (int2 addO) (.v x42) (.v (.int .i64 1)) rec PT.nil s) fun x43 s =>
 opt2 (oSliceL 1 (.v x41) (some (.v x43)) none none rec PT.nil s) fun x44 s =>
 opt2 (oNilCheck (.v x37) rec PT.nil s) fun x45 s =>
 opt2 (oFieldAddr 0 (.v x45) rec PT.nil s) fun x46 s =>
 opt2 (oStore 1 (.v x46) (.v x44) rec PT.nil s) fun x47 s =>
 opt2 (oMov (.v x24) rec PT.nil s) fun x48 s =>
 opt2 (oMov (.v x48) rec PT.nil s) fun x49 s =>
 some (.ret, (PT.put x49 t2 (PT.put x48 t49 (PT.put x46 t48 (PT.put x45 t47 (PT.put x44 t46 (PT.put x43 t45 (PT.put x42 t44 (PT.put x41 t43 (PT.put x40 t42 (PT.put x39 t41 (PT.put x38 t40 (PT.put x37 t39 (PT.put x36 t38 (PT.put x35 t37 (PT.put x33 t36 (PT.put x31 t35 (PT.put x30 t34 (PT.put x29 t33 (PT.put x26 t32 (PT.put x25 t31 (PT.put x24 t3 (PT.put x23 t30 (PT.put x22 t29 (PT.put x21 t28 (PT.put x20 t27 (PT.put x19 t26 (PT.put x18 t25 (PT.put x17 t24 (PT.put x16 t23 (PT.put x15 t22 (PT.put x14 t21 (PT.put x13 t20 (PT.put x11 t19 (PT.put x9 t18 (PT.put x8 t17 (PT.put x7 t16 (PT.put x6 t5 (PT.put x5 t4 (PT.put x4 t15 (PT.put x3 t14 (PT.put x2 t13 (PT.put x1 t12 fs)))))))))))))))))))))))))))))))))))))))))), s)))))
 (some ((.exit 0), (PT.put x1 t12 fs), s))
set_option maxHeartbeats 4000000 in
theorem d41_l0 (rec : Rec) (N : Nat) (fs : Frm) (s : St) : c41_l0 rec N fs s = D41_l0 rec N fs s := by
  simp (maxSteps := 4000000) only [c41_l0, lenN, x_seq, x_ops, x_skip, x_ret, x_exit, x_cond, x_block, x_loop, ops_c, ops_n, op1_u, op1_gj, rq_c, rq_n, opQ_u, opQ_g, op2_op2, op2_op, op2_s, op2_cond, thenX_n, thenX_e, thenX_r, blkX_n, blkX_r, blkX_e, finX_r, finX_n, res_n, res_t, op_s, Nat.beq_refl, cond_true]
  first | done | kernel_rfl
def D41_r0 (rec : Rec) (N : Nat) (fs : Frm) (s : St) : OutX := opt2 (oMov (.v (orU (fs.get t0))) rec PT.nil s) fun x1 s =>
 opt2 (rec 61 [x1] s) fun x2 s =>
 opt2 (oMov (.v (.int .u64 0)) rec PT.nil s) fun x3 s =>
 some (.ret, (PT.put x3 t2 (PT.put x2 t52 (PT.put x1 t51 fs))), s)
set_option maxHeartbeats 4000000 in
theorem d41_r0 (rec : Rec) (N : Nat) (fs : Frm) (s : St) : c41_r0 rec N fs s = D41_r0 rec N fs s := by
  simp (maxSteps := 4000000) only [c41_r0, lenN, x_seq, x_ops, x_skip, x_ret, x_exit, x_cond, x_block, x_loop, ops_c, ops_n, op1_u, op1_gj, rq_c, rq_n, opQ_u, opQ_g, op2_op2, op2_op, op2_s, op2_cond, thenX_n, thenX_e, thenX_r, blkX_n, blkX_r, blkX_e, finX_r, finX_n, res_n, res_t, op_s, Nat.beq_refl, cond_true]
  first | done | kernel_rfl
def D41 (rec : Rec) (N : Nat) (a0 : Value) (s : St) : Out := opt2 (oMov (.v (.int .u64 0)) rec PT.nil s) fun x1 s =>
 opt2 (oMov (.v (.int .u64 0)) rec PT.nil s) fun x2 s =>
 opt2 (oMov (.v a0) rec PT.nil s) fun x3 s =>
 opt2 (oNilCheck (.v x3) rec PT.nil s) fun x4 s =>
 opt2 (oFieldAddr 0 (.v x4) rec PT.nil s) fun x5 s =>
 opt2 (oLoad1 (.v x5) rec PT.nil s) fun x6 s =>
 opt2 (oLenL (.v x6) rec PT.nil s) fun x7 s =>
 opt2 (oMov (.v (.int .i64 0)) rec PT.nil s) fun x8 s =>
 opt2 (loopF (c41_l0 rec N) N (PT.put x8 t11 (PT.put x7 t10 (PT.put x6 t9 (PT.put x5 t8 (PT.put x4 t7 (PT.put x3 t6 (PT.put x2 t3 (PT.put x1 t2 (PT.put a0 t0 PT.nil))))))))) s) fun e r => opt2 (blkX 0 e r) fun e r => opt2 (thenX (c41_r0 rec N) e r) fun e r => finX [.tmp t2] e r
set_option maxHeartbeats 4000000 in
theorem d41 (rec : Rec) (N : Nat) (a0 : Value) (s : St) : callF rec N c41 [a0] s = D41 rec N a0 s := by
  rw [call_f _ _ _ _ _ rfl]
  simp (maxSteps := 4000000) only [c41, lenN, x_seq, x_ops, x_skip, x_ret, x_exit, x_cond, x_block, x_loop, ops_c, ops_n, op1_u, op1_gj, rq_c, rq_n, opQ_u, opQ_g, op2_op2, op2_op, op2_s, op2_cond, thenX_n, thenX_e, thenX_r, blkX_n, blkX_r, blkX_e, finX_r, finX_n, res_n, res_t, op_s, Nat.beq_refl, cond_true]
  first | done | kernel_rfl
def J41_r0 (rec : Rec) (N : Nat) (k : Value) (s : St) : Out := opt2 (rec 61 [k] s) fun x1 s =>
 some (oneOf [(.int .u64 0)], s)
set_option maxHeartbeats 4000000 in
theorem j41_r0 (rec : Rec) (N : Nat) (fs : Frm) (s : St) : opt2 (c41_r0 rec N fs s) (fun e r => finX [.tmp t2] e r) = J41_r0 rec N (orU (fs.get t0)) s := by
  rw [d41_r0]
  unfold D41_r0 J41_r0
  simp (maxSteps := 4000000) only [thenX_n, thenX_e, thenX_r, x_exit, x_skip, x_ret, blkX_n, blkX_r, blkX_e, finX_r, finX_n, res_n, res_t, op2_op2, op2_op, op2_s, op2_cond, op2_bf, mov_v]
  first | done | kernel_rfl
def B41_l0 (rec : Rec) (N : Nat) (k : Value × Value × Value) (v : Value × Value × Value) (s : St) : OutV (Value × Value × Value) := opt2 (oBin (int2 (cmpO ltI)) (.v v.2.2) (.v k.2.2) rec PT.nil s) fun x1 s =>
 condV x1
 (opt2 (oIdxAddrL 1 (.v k.2.1) (.v v.2.2) rec PT.nil s) fun x2 s =>
 opt2 (oLoad1 (.v x2) rec PT.nil s) fun x3 s =>
 opt2 (oBin (int2 (cmpO eqI)) (.v v.2.2) (.v (.int .i64 9)) rec PT.nil s) fun x4 s =>
 opt (gval true x4) fun x5 => opt2 (orUndef x5 (some (x3, s)) s) fun x6 s =>
 opt (gval true x4) fun x7 => opt2 (orUndef x7 (oBin (int2 (cmpO gtI)) (.v x6) (.v (.int .u8 1)) rec PT.nil s) s) fun x8 s =>
 opt2 (oPick (.v x4) (.v x8) (.v (.bool false)) rec PT.nil s) fun x9 s =>
 condV x9
 (some ((.exit 0), ((v.1, v.2.1, v.2.2), s)))
 (opt2 (oBin (int2 andO) (.v x3) (.v (.int .u8 127)) rec PT.nil s) fun x10 s =>
 opt2 (oConv .u64 (.v x10) rec PT.nil s) fun x11 s =>
 opt2 (oConv .u64 (.v v.2.2) rec PT.nil s) fun x12 s =>
 opt2 (oBin (int2 mulO) (.v (.int .u64 7)) (.v x12) rec PT.nil s) fun x13 s =>
 opt2 (oBin (sh2 shlO) (.v x11) (.v x13) rec PT.nil s) fun x14 s =>
 opt2 (oBin (int2 orO) (.v v.2.1) (.v x14) rec PT.nil s) fun x15 s =>
 opt2 (oBin (int2 (cmpO geI)) (.v x3) (.v (.int .u8 128)) rec PT.nil s) fun x16 s =>
 condV x16
 (opt2 (oBin (int2 addO) (.v v.2.2) (.v (.int .i64 1)) rec PT.nil s) fun x17 s =>
 some (.norm, ((v.1, x15, x17), s)))
 (opt2 (oBin (int2 (cmpO eqI)) (.v x3) (.v (.int .u8 0)) rec PT.nil s) fun x18 s =>
 opt (gval true x18) fun x19 => opt2 (orUndef x19 (some (v.2.2, s)) s) fun x20 s =>
 opt (gval true x18) fun x21 => opt2 (orUndef x21 (oBin (int2 (cmpO gtI)) (.v x20) (.v (.int .i64 0)) rec PT.nil s) s) fun x22 s =>
 opt2 (oPick (.v x18) (.v x22) (.v (.bool false)) rec PT.nil s) fun x23 s =>
 condV x23
 (some ((.exit 0), ((v.1, x15, v.2.2), s)))
 (opt2 (oNilCheck (.v k.1) rec PT.nil s) fun x24 s =>
 opt2 (oFieldAddr 0 (.v x24) rec PT.nil s) fun x25 s =>
 opt2 (oLoad1 (.v x25) rec PT.nil s) fun x26 s =>
 opt2 (oBin (int2 addO) (.v v.2.2) (.v (.int .i64 1)) rec PT.nil s) fun x27 s =>
 opt2 (oSliceL 1 (.v x26) (some (.v x27)) none none rec PT.nil s) fun x28 s =>
 opt2 (oNilCheck (.v k.1) rec PT.nil s) fun x29 s =>
 opt2 (oFieldAddr 0 (.v x29) rec PT.nil s) fun x30 s =>
 opt2 (oStore 1 (.v x30) (.v x28) rec PT.nil s) fun x31 s =>
 some (.ret, ((x15, x15, v.2.2), s))))))
 (some ((.exit 0), ((v.1, v.2.1, v.2.2), s)))
set_option maxHeartbeats 4000000 in
theorem s41_l0 (rec : Rec) (N : Nat) (fs : Frm) (s : St) : opt2 (c41_l0 rec N fs s) (fun e r => some (e, (((orU (r.1.get t2), orU (r.1.get t3), orU (r.1.get t11)), (orU (r.1.get t0), orU (r.1.get t9), orU (r.1.get t10))), r.2))) = opt2 (B41_l0 rec N (orU (fs.get t0), orU (fs.get t9), orU (fs.get t10)) (orU (fs.get t2), orU (fs.get t3), orU (fs.get t11)) s) fun e r => some (e, ((r.1, (orU (fs.get t0), orU (fs.get t9), orU (fs.get t10))), r.2)) := by
  rw [d41_l0]
  unfold D41_l0 B41_l0
  simp (maxSteps := 4000000) only [op2_op2, op2_op, op2_s, op2_cond, op2_bf, mov_v]
  first | done | kernel_rfl
def C41_l0 (rec : Rec) (N : Nat) (k : Value × Value × Value) (e : AExit) (r : (Value × Value × Value) × St) : Out := (fun s => exV (fun i => bif Nat.beq i 0 then (J41_r0 rec N k.1 s)
 else (none))
 (some (oneOf [r.1.1], s)) e) r.2
theorem j41_l0 (rec : Rec) (N : Nat) (fs : Frm) (s : St) : opt2 (loopF (c41_l0 rec N) N fs s) (fun e r => opt2 (blkX 0 e r) fun e r => opt2 (thenX (c41_r0 rec N) e r) fun e r => finX [.tmp t2] e r) = opt2 (loopV (B41_l0 rec N (orU (fs.get t0), orU (fs.get t9), orU (fs.get t10))) N (orU (fs.get t2), orU (fs.get t3), orU (fs.get t11)) s) (C41_l0 rec N (orU (fs.get t0), orU (fs.get t9), orU (fs.get t10))) := by
  refine loop_j (fun fs => (orU (fs.get t2), orU (fs.get t3), orU (fs.get t11))) (fun fs => (orU (fs.get t0), orU (fs.get t9), orU (fs.get t10))) (B41_l0 rec N) (c41_l0 rec N) (s41_l0 rec N) (fun e r => opt2 (blkX 0 e r) fun e r => opt2 (thenX (c41_r0 rec N) e r) fun e r => finX [.tmp t2] e r) (C41_l0 rec N) ?_ ?_ N fs s
  · intro i fs s
    unfold C41_l0
    simp (maxSteps := 4000000) only [thenX_n, thenX_e, thenX_r, x_exit, x_skip, x_ret, blkX_n, blkX_r, blkX_e, finX_r, finX_n, res_n, res_t, exV_e, exV_r, op2_op2, op2_op, op2_s, op2_cond, op2_bf, mov_v, j41_r0 rec N]
    first | done | kernel_rfl
  · intro fs s
    unfold C41_l0
    simp (maxSteps := 4000000) only [thenX_n, thenX_e, thenX_r, x_exit, x_skip, x_ret, blkX_n, blkX_r, blkX_e, finX_r, finX_n, res_n, res_t, exV_e, exV_r, op2_op2, op2_op, op2_s, op2_cond, op2_bf, mov_v, j41_r0 rec N]
    first | done | kernel_rfl
def F41 (rec : Rec) (N : Nat) (a0 : Value) (s : St) : Out := opt2 (oNilCheck (.v a0) rec PT.nil s) fun x1 s =>
 opt2 (oFieldAddr 0 (.v x1) rec PT.nil s) fun x2 s =>
 opt2 (oLoad1 (.v x2) rec PT.nil s) fun x3 s =>
 opt2 (oLenL (.v x3) rec PT.nil s) fun x4 s =>
 opt2 (loopV (B41_l0 rec N (a0, x3, x4)) N ((.int .u64 0), (.int .u64 0), (.int .i64 0)) s) (C41_l0 rec N (a0, x3, x4))
theorem f41 (rec : Rec) (N : Nat) (a0 : Value) (s : St) : callF rec N c41 [a0] s = F41 rec N a0 s := by
  rw [d41]
  unfold D41 F41
  simp (maxSteps := 4000000) only [mov_v, op2_s, j41_l0 rec N]
  first | done | kernel_rfl
-- c42
def D42 (rec : Rec) (N : Nat) (a0 : Value) (s : St) : Out := opt2 (oMov (.v (.bool false)) rec PT.nil s) fun x1 s =>
 opt2 (oMov (.v a0) rec PT.nil s) fun x2 s =>
 opt2 (oNilCheck (.v x2) rec PT.nil s) fun x3 s =>
 opt2 (oFieldAddr 1 (.v x3) rec PT.nil s) fun x4 s =>
 opt2 (oLoad1 (.v x4) rec PT.nil s) fun x5 s =>
 opt2 (oMov (.v x5) rec PT.nil s) fun x6 s =>
 some (oneOf [x6], s)
set_option maxHeartbeats 4000000 in
theorem d42 (rec : Rec) (N : Nat) (a0 : Value) (s : St) : callF rec N c42 [a0] s = D42 rec N a0 s := by
  rw [call_f _ _ _ _ _ rfl]
  simp (maxSteps := 4000000) only [c42, lenN, x_seq, x_ops, x_skip, x_ret, x_exit, x_cond, x_block, x_loop, ops_c, ops_n, op1_u, op1_gj, rq_c, rq_n, opQ_u, opQ_g, op2_op2, op2_op, op2_s, op2_cond, thenX_n, thenX_e, thenX_r, blkX_n, blkX_r, blkX_e, finX_r, finX_n, res_n, res_t, op_s, Nat.beq_refl, cond_true]
  first | done | kernel_rfl
def F42 (rec : Rec) (N : Nat) (a0 : Value) (s : St) : Out := opt2 (oNilCheck (.v a0) rec PT.nil s) fun x1 s =>
 opt2 (oFieldAddr 1 (.v x1) rec PT.nil s) fun x2 s =>
 opt2 (oLoad1 (.v x2) rec PT.nil s) fun x3 s =>
 some (oneOf [x3], s)
set_option maxHeartbeats 4000000 in
theorem f42 (rec : Rec) (N : Nat) (a0 : Value) (s : St) : callF rec N c42 [a0] s = F42 rec N a0 s := by
  rw [d42]
  unfold D42 F42
  first
    | done
    | rfl
    | (simp (maxSteps := 4000000) only [mov_v, op2_s]; first | done | kernel_rfl)
    | kernel_rfl
-- c43
def D43 (rec : Rec) (N : Nat) (a0 : Value) (s : St) : Out := opt2 (oMov (.v (.int .i64 0)) rec PT.nil s) fun x1 s =>
 opt2 (oMov (.v a0) rec PT.nil s) fun x2 s =>
 opt2 (oNilCheck (.v x2) rec PT.nil s) fun x3 s =>
 opt2 (oFieldAddr 0 (.v x3) rec PT.nil s) fun x4 s =>
 opt2 (oLoad1 (.v x4) rec PT.nil s) fun x5 s =>
 opt2 (oLenL (.v x5) rec PT.nil s) fun x6 s =>
 opt2 (oMov (.v x6) rec PT.nil s) fun x7 s =>
 some (oneOf [x7], s)
set_option maxHeartbeats 4000000 in
theorem d43 (rec : Rec) (N : Nat) (a0 : Value) (s : St) : callF rec N c43 [a0] s = D43 rec N a0 s := by
  rw [call_f _ _ _ _ _ rfl]
  simp (maxSteps := 4000000) only [c43, lenN, x_seq, x_ops, x_skip, x_ret, x_exit, x_cond, x_block, x_loop, ops_c, ops_n, op1_u, op1_gj, rq_c, rq_n, opQ_u, opQ_g, op2_op2, op2_op, op2_s, op2_cond, thenX_n, thenX_e, thenX_r, blkX_n, blkX_r, blkX_e, finX_r, finX_n, res_n, res_t, op_s, Nat.beq_refl, cond_true]
  first | done | kernel_rfl
def F43 (rec : Rec) (N : Nat) (a0 : Value) (s : St) : Out := opt2 (oNilCheck (.v a0) rec PT.nil s) fun x1 s =>
 opt2 (oFieldAddr 0 (.v x1) rec PT.nil s) fun x2 s =>
 opt2 (oLoad1 (.v x2) rec PT.nil s) fun x3 s =>
 opt2 (oLenL (.v x3) rec PT.nil s) fun x4 s =>
 some (oneOf [x4], s)
set_option maxHeartbeats 4000000 in
theorem f43 (rec : Rec) (N : Nat) (a0 : Value) (s : St) : callF rec N c43 [a0] s = F43 rec N a0 s := by
  rw [d43]
  unfold D43 F43
  first
    | done
    | rfl
    | (simp (maxSteps := 4000000) only [mov_v, op2_s]; first | done | kernel_rfl)
    | kernel_rfl
-- c44
def D44_q0 (rec : Rec) (fs : Frm) (s : St) : Option (Frm × St) := opt (gval true (orU (fs.get t21))) fun x1 => opt2 (orUndef x1 (oFieldAddr 1 (.v (orU (fs.get t3))) rec PT.nil s) s) fun x2 s =>
 opt (gval true (orU (fs.get t21))) fun x3 => opt2 (orUndef x3 (oLoad1 (.v x2) rec PT.nil s) s) fun x4 s =>
 opt (gval true (orU (fs.get t21))) fun x5 => opt2 (orUndef x5 (oBin (int2 (cmpO ltI)) (.v (orU (fs.get t23))) (.v x4) rec PT.nil s) s) fun x6 s =>
 opt (gval false (orU (fs.get t15))) fun x7 => opt2 (orUndef x7 (oPick (.v (orU (fs.get t21))) (.v x6) (.v (.bool false)) rec PT.nil s) s) fun x8 s =>
 opt2 (oPick (.v (orU (fs.get t15))) (.v (.bool true)) (.v x8) rec PT.nil s) fun x9 s =>
 opt2 (oMov (.v x9) rec PT.nil s) fun x10 s =>
 some ((PT.put x10 t9 (PT.put x9 t28 (PT.put x8 t27 (PT.put x6 t26 (PT.put x4 t25 (PT.put x2 t24 fs)))))), s)
set_option maxHeartbeats 4000000 in
theorem d44_q0 (rec : Rec) (fs : Frm) (s : St) : runOps rec c44_q0 fs s = D44_q0 rec fs s := by
  simp (maxSteps := 4000000) only [c44_q0, ops_c, ops_n, op1_u, op1_gj, rq_c, rq_n, opQ_u, opQ_g, op2_op2, op2_op, op2_s]
  first | done | kernel_rfl
def D44_j0 (rec : Rec) (N : Nat) (fs : Frm) (s : St) : OutX := condV (orU (fs.get t9))
 (opt2 (oMov (.v (.int .i64 (-1))) rec PT.nil s) fun x1 s =>
 some (.ret, (PT.put x1 t4 fs), s))
 (some (.norm, fs, s))
set_option maxHeartbeats 4000000 in
theorem d44_j0 (rec : Rec) (N : Nat) (fs : Frm) (s : St) : c44_j0 rec N fs s = D44_j0 rec N fs s := by
  simp (maxSteps := 4000000) only [c44_j0, lenN, x_seq, x_ops, x_skip, x_ret, x_exit, x_cond, x_block, x_loop, ops_c, ops_n, op1_u, op1_gj, rq_c, rq_n, opQ_u, opQ_g, op2_op2, op2_op, op2_s, op2_cond, thenX_n, thenX_e, thenX_r, blkX_n, blkX_r, blkX_e, finX_r, finX_n, res_n, res_t, op_s, Nat.beq_refl, cond_true]
  first | done | kernel_rfl
def D44_j1 (rec : Rec) (N : Nat) (fs : Frm) (s : St) : OutX := opt2 (oMov (.v (.int .i64 1)) rec PT.nil s) fun x1 s =>
 some (.ret, (PT.put x1 t4 fs), s)
set_option maxHeartbeats 4000000 in
theorem d44_j1 (rec : Rec) (N : Nat) (fs : Frm) (s : St) : c44_j1 rec N fs s = D44_j1 rec N fs s := by
  simp (maxSteps := 4000000) only [c44_j1, lenN, x_seq, x_ops, x_skip, x_ret, x_exit, x_cond, x_block, x_loop, ops_c, ops_n, op1_u, op1_gj, rq_c, rq_n, opQ_u, opQ_g, op2_op2, op2_op, op2_s, op2_cond, thenX_n, thenX_e, thenX_r, blkX_n, blkX_r, blkX_e, finX_r, finX_n, res_n, res_t, op_s, Nat.beq_refl, cond_true]
  first | done | kernel_rfl
def D44 (rec : Rec) (N : Nat) (a0 : Value) (a1 : Value) (s : St) : Out := opt2 (oBox (.v a0) rec PT.nil s) fun x1 s =>
 opt2 (oBox (.v a1) rec PT.nil s) fun x2 s =>
 opt2 (oMov (.v (.int .i64 0)) rec PT.nil s) fun x3 s =>
 opt2 (oLoadN 2 (.v x1) rec PT.nil s) fun x4 s =>
 opt2 (oLoadN 2 (.v x2) rec PT.nil s) fun x5 s =>
 opt2 (oEqs false [(0, eqN), (1, eqN)] (.v x4) (.v x5) rec PT.nil s) fun x6 s =>
 opt2 (oMov (.v x6) rec PT.nil s) fun x7 s =>
 condV x7
 (opt2 (oMov (.v (.int .i64 0)) rec PT.nil s) fun x8 s =>
 some (oneOf [x8], s))
 (opt2 (oFieldAddr 0 (.v x1) rec PT.nil s) fun x9 s =>
 opt2 (oLoad1 (.v x9) rec PT.nil s) fun x10 s =>
 opt2 (oFieldAddr 0 (.v x2) rec PT.nil s) fun x11 s =>
 opt2 (oLoad1 (.v x11) rec PT.nil s) fun x12 s =>
 opt2 (oBin (int2 (cmpO ltI)) (.v x10) (.v x12) rec PT.nil s) fun x13 s =>
 opt2 (oMov (.v x13) rec PT.nil s) fun x14 s =>
 opt (gval false x14) fun x15 => opt2 (orUndef x15 (oFieldAddr 0 (.v x1) rec PT.nil s) s) fun x16 s =>
 opt (gval false x14) fun x17 => opt2 (orUndef x17 (oLoad1 (.v x16) rec PT.nil s) s) fun x18 s =>
 opt (gval false x14) fun x19 => opt2 (orUndef x19 (oFieldAddr 0 (.v x2) rec PT.nil s) s) fun x20 s =>
 opt (gval false x14) fun x21 => opt2 (orUndef x21 (oLoad1 (.v x20) rec PT.nil s) s) fun x22 s =>
 opt (gval false x14) fun x23 => opt2 (orUndef x23 (oBin (int2 (cmpO eqI)) (.v x18) (.v x22) rec PT.nil s) s) fun x24 s =>
 opt (gval false x14) fun x25 => opt2 (orUndef x25 (oMov (.v x24) rec PT.nil s) s) fun x26 s =>
 opt (gval true x26) fun x27 => opt2 (orUndef x27 (oFieldAddr 1 (.v x1) rec PT.nil s) s) fun x28 s =>
 opt (gval true x26) fun x29 => opt2 (orUndef x29 (oLoad1 (.v x28) rec PT.nil s) s) fun x30 s =>
 opt2 (runOps rec c44_q0 (PT.put x30 t23 (PT.put x28 t22 (PT.put x26 t21 (PT.put x24 t20 (PT.put x22 t19 (PT.put x20 t18 (PT.put x18 t17 (PT.put x16 t16 (PT.put x14 t15 (PT.put x13 t14 (PT.put x12 t13 (PT.put x11 t12 (PT.put x10 t11 (PT.put x9 t10 (PT.put x7 t5 (PT.put x6 t8 (PT.put x5 t7 (PT.put x4 t6 (PT.put x3 t4 (PT.put x2 t3 (PT.put x1 t2 (PT.put a1 t1 (PT.put a0 t0 PT.nil))))))))))))))))))))))) s) fun fs s =>
 opt2 (c44_j0 rec N fs s) fun e r => opt2 (blkX 0 e r) fun e r => opt2 (thenX (c44_j1 rec N) e r) fun e r => finX [.tmp t4] e r)
set_option maxHeartbeats 4000000 in
theorem d44 (rec : Rec) (N : Nat) (a0 : Value) (a1 : Value) (s : St) : callF rec N c44 [a0, a1] s = D44 rec N a0 a1 s := by
  rw [call_f _ _ _ _ _ rfl]
  simp (maxSteps := 4000000) only [c44, lenN, x_seq, x_ops, x_skip, x_ret, x_exit, x_cond, x_block, x_loop, ops_c, ops_n, op1_u, op1_gj, rq_c, rq_n, opQ_u, opQ_g, op2_op2, op2_op, op2_s, op2_cond, thenX_n, thenX_e, thenX_r, blkX_n, blkX_r, blkX_e, finX_r, finX_n, res_n, res_t, op_s, Nat.beq_refl, cond_true]
  first | done | kernel_rfl
def J44_j1 (rec : Rec) (N : Nat) (k : Unit) (s : St) : Out := some (oneOf [(.int .i64 1)], s)
set_option maxHeartbeats 4000000 in
theorem j44_j1 (rec : Rec) (N : Nat) (fs : Frm) (s : St) : opt2 (c44_j1 rec N fs s) (fun e r => finX [.tmp t4] e r) = J44_j1 rec N () s := by
  rw [d44_j1]
  unfold D44_j1 J44_j1
  simp (maxSteps := 4000000) only [thenX_n, thenX_e, thenX_r, x_exit, x_skip, x_ret, blkX_n, blkX_r, blkX_e, finX_r, finX_n, res_n, res_t, op2_op2, op2_op, op2_s, op2_cond, op2_bf, mov_v]
  first | done | kernel_rfl
def J44_j0 (rec : Rec) (N : Nat) (k : Value) (s : St) : Out := condV k
 (some (oneOf [(.int .i64 (-1))], s))
 (J44_j1 rec N () s)
set_option maxHeartbeats 4000000 in
theorem j44_j0 (rec : Rec) (N : Nat) (fs : Frm) (s : St) : opt2 (c44_j0 rec N fs s) (fun e r => opt2 (blkX 0 e r) fun e r => opt2 (thenX (c44_j1 rec N) e r) fun e r => finX [.tmp t4] e r) = J44_j0 rec N (orU (fs.get t9)) s := by
  rw [d44_j0]
  unfold D44_j0 J44_j0
  simp (maxSteps := 4000000) only [thenX_n, thenX_e, thenX_r, x_exit, x_skip, x_ret, blkX_n, blkX_r, blkX_e, finX_r, finX_n, res_n, res_t, op2_op2, op2_op, op2_s, op2_cond, op2_bf, mov_v, j44_j1 rec N]
  first | done | kernel_rfl
def Q44_q0 (rec : Rec) (N : Nat) (k : Value × Value × Value × Value) (s : St) : Out := opt (gval true k.2.2.1) fun x1 => opt2 (orUndef x1 (oFieldAddr 1 (.v k.1) rec PT.nil s) s) fun x2 s =>
 opt (gval true k.2.2.1) fun x3 => opt2 (orUndef x3 (oLoad1 (.v x2) rec PT.nil s) s) fun x4 s =>
 opt (gval true k.2.2.1) fun x5 => opt2 (orUndef x5 (oBin (int2 (cmpO ltI)) (.v k.2.2.2) (.v x4) rec PT.nil s) s) fun x6 s =>
 opt (gval false k.2.1) fun x7 => opt2 (orUndef x7 (oPick (.v k.2.2.1) (.v x6) (.v (.bool false)) rec PT.nil s) s) fun x8 s =>
 opt2 (oPick (.v k.2.1) (.v (.bool true)) (.v x8) rec PT.nil s) fun x9 s =>
 J44_j0 rec N x9 s
set_option maxHeartbeats 4000000 in
theorem j44_q0 (rec : Rec) (N : Nat) (fs : Frm) (s : St) : opt2 (runOps rec c44_q0 fs s) (fun fs s => opt2 (c44_j0 rec N fs s) fun e r => opt2 (blkX 0 e r) fun e r => opt2 (thenX (c44_j1 rec N) e r) fun e r => finX [.tmp t4] e r) = Q44_q0 rec N (orU (fs.get t3), orU (fs.get t15), orU (fs.get t21), orU (fs.get t23)) s := by
  rw [d44_q0]
  unfold D44_q0 Q44_q0
  simp (maxSteps := 4000000) only [thenX_n, thenX_e, thenX_r, x_exit, x_skip, x_ret, blkX_n, blkX_r, blkX_e, finX_r, finX_n, res_n, res_t, op2_op2, op2_op, op2_s, op2_cond, op2_bf, mov_v, j44_j0 rec N]
  first | done | kernel_rfl
def F44 (rec : Rec) (N : Nat) (a0 : Value) (a1 : Value) (s : St) : Out := opt2 (oBox (.v a0) rec PT.nil s) fun x1 s =>
 opt2 (oBox (.v a1) rec PT.nil s) fun x2 s =>
 opt2 (oLoadN 2 (.v x1) rec PT.nil s) fun x3 s =>
 opt2 (oLoadN 2 (.v x2) rec PT.nil s) fun x4 s =>
 opt2 (oEqs false [(0, eqN), (1, eqN)] (.v x3) (.v x4) rec PT.nil s) fun x5 s =>
 condV x5
 (some (oneOf [(.int .i64 0)], s))
 (opt2 (oFieldAddr 0 (.v x1) rec PT.nil s) fun x6 s =>
 opt2 (oLoad1 (.v x6) rec PT.nil s) fun x7 s =>
 opt2 (oFieldAddr 0 (.v x2) rec PT.nil s) fun x8 s =>
 opt2 (oLoad1 (.v x8) rec PT.nil s) fun x9 s =>
 opt2 (oBin (int2 (cmpO ltI)) (.v x7) (.v x9) rec PT.nil s) fun x10 s =>
 opt (gval false x10) fun x11 => opt2 (orUndef x11 (oFieldAddr 0 (.v x1) rec PT.nil s) s) fun x12 s =>
 opt (gval false x10) fun x13 => opt2 (orUndef x13 (oLoad1 (.v x12) rec PT.nil s) s) fun x14 s =>
 opt (gval false x10) fun x15 => opt2 (orUndef x15 (oFieldAddr 0 (.v x2) rec PT.nil s) s) fun x16 s =>
 opt (gval false x10) fun x17 => opt2 (orUndef x17 (oLoad1 (.v x16) rec PT.nil s) s) fun x18 s =>
 opt (gval false x10) fun x19 => opt2 (orUndef x19 (oBin (int2 (cmpO eqI)) (.v x14) (.v x18) rec PT.nil s) s) fun x20 s =>
 opt (gval false x10) fun x21 => opt2 (orUndef x21 (some (x20, s)) s) fun x22 s =>
 opt (gval true x22) fun x23 => opt2 (orUndef x23 (oFieldAddr 1 (.v x1) rec PT.nil s) s) fun x24 s =>
 opt (gval true x22) fun x25 => opt2 (orUndef x25 (oLoad1 (.v x24) rec PT.nil s) s) fun x26 s =>
 Q44_q0 rec N (x2, x10, x22, x26) s)
theorem f44 (rec : Rec) (N : Nat) (a0 : Value) (a1 : Value) (s : St) : callF rec N c44 [a0, a1] s = F44 rec N a0 a1 s := by
  rw [d44]
  unfold D44 F44
  simp (maxSteps := 4000000) only [mov_v, op2_s, j44_q0 rec N]
  first | done | kernel_rfl
end
end Go.Proofs.Ytdnedangfnincaa.AbsAccR
