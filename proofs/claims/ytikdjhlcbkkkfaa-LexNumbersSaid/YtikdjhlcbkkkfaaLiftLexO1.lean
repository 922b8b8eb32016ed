import Derived.Test.YtikdjhlcbkkkfaaAbsLexOE
import Derived.Test.YtikdjhlcbkkkfaaAbsZL
namespace Go.Proofs.Ytikdjhlcbkkkfaa.AbsLexO
open Go Go.Abs Go.Proofs
set_option maxRecDepth 100000
set_option linter.unusedVariables false
set_option linter.unusedSimpArgs false
noncomputable section
-- c22
def D22 (rec : Rec) (N : Nat) (a0 : Value) (s : St) : Out := opt2 (oMov (.v (.string ⟨⟨[]⟩⟩)) rec PT.nil s) fun x1 s =>
 opt2 (oMov (.v a0) rec PT.nil s) fun x2 s =>
 opt2 (oBin (int2 (cmpO ltI)) (.v x2) (.v (.int .i64 0)) rec PT.nil s) fun x3 s =>
 condV x3
 (opt2 (oMov (.v a0) rec PT.nil s) fun x4 s =>
 opt2 (oBin (int2 (cmpO eqI)) (.v x4) (.v (.int .i64 (-9223372036854775808))) rec PT.nil s) fun x5 s =>
 condV x5
 (opt2 (oMov (.v (.string ⟨⟨[45, 57, 50, 50, 51, 51, 55, 50, 48, 51, 54, 56, 53, 52, 55, 55, 53, 56, 48, 56]⟩⟩)) rec PT.nil s) fun x6 s =>
 some (oneOf [x6], s))
 (opt2 (oMov (.v a0) rec PT.nil s) fun x7 s =>
 opt2 (oNeg (.v x7) rec PT.nil s) fun x8 s =>
 opt2 (rec 22 [x8] s) fun x9 s =>
 opt2 (oBin (str2 catO) (.v (.string ⟨⟨[45]⟩⟩)) (.v x9) rec PT.nil s) fun x10 s =>
 opt2 (oMov (.v x10) rec PT.nil s) fun x11 s =>
 some (oneOf [x11], s)))
 (opt2 (oMov (.v a0) rec PT.nil s) fun x12 s =>
 opt2 (oBin (int2 (cmpO ltI)) (.v x12) (.v (.int .i64 10)) rec PT.nil s) fun x13 s =>
 condV x13
 (opt2 (oMov (.v a0) rec PT.nil s) fun x14 s =>
 opt2 (oBin (int2 addO) (.v (.int .i64 48)) (.v x14) rec PT.nil s) fun x15 s =>
 opt2 (oConv .u8 (.v x15) rec PT.nil s) fun x16 s =>
 opt2 (oBuildSlice 1 [(.int .u8 0)] [(0, 1, (.v x16))] rec PT.nil s) fun x17 s =>
 opt2 (oBytesStr (.v x17) rec PT.nil s) fun x18 s =>
 opt2 (oMov (.v x18) rec PT.nil s) fun x19 s =>
 some (oneOf [x19], s))
 (opt2 (rU (oMov (.v a0) rec PT.nil ⟨s.heap, s.next, 0, 0⟩) PT.nil s none) fun x20 m20 =>
 (fun s => opt2 (rU (oBin (int2 quoO) (.v x20) (.v (.int .i64 10)) rec PT.nil ⟨s.heap, s.next, 0, 0⟩) PT.nil s none) fun x21 m21 =>
 (fun s => opt2 (rU (rec 22 [x21] ⟨s.heap, s.next, 0, 0⟩) PT.nil s none) fun x22 m22 =>
 (fun s => opt2 (rU (oMov (.v a0) rec PT.nil ⟨s.heap, s.next, 0, 0⟩) PT.nil s none) fun x23 m23 =>
 (fun s => opt2 (rU (oBin (int2 remO) (.v x23) (.v (.int .i64 10)) rec PT.nil ⟨s.heap, s.next, 0, 0⟩) PT.nil s none) fun x24 m24 =>
 (fun s => opt2 (rU (oBin (int2 addO) (.v (.int .i64 48)) (.v x24) rec PT.nil ⟨s.heap, s.next, 0, 0⟩) PT.nil s none) fun x25 m25 =>
 (fun s => opt2 (rU (oConv .u8 (.v x25) rec PT.nil ⟨s.heap, s.next, 0, 0⟩) PT.nil s none) fun x26 m26 =>
 (fun s => opt2 (rU (oBuildSlice 1 [(.int .u8 0)] [(0, 1, (.v x26))] rec PT.nil ⟨s.heap, s.next, 0, 0⟩) PT.nil s none) fun x27 m27 =>
 (fun s => opt2 (rU (oBytesStr (.v x27) rec PT.nil ⟨s.heap, s.next, 0, 0⟩) PT.nil s none) fun x28 m28 =>
 (fun s => opt2 (rU (oBin (str2 catO) (.v x22) (.v x28) rec PT.nil ⟨s.heap, s.next, 0, 0⟩) PT.nil s none) fun x29 m29 =>
 (fun s => opt2 (rU (oMov (.v x29) rec PT.nil ⟨s.heap, s.next, 0, 0⟩) PT.nil s none) fun x30 m30 =>
 (fun s => bif apartAll [m20.1, m21.1, m22.1, m23.1, m24.1, m25.1, m26.1, m27.1, m28.1, m29.1, m30.1] [(0, 3), (1, 3), (2, 3), (0, 4), (1, 4), (2, 4), (0, 5), (1, 5), (2, 5), (0, 6), (1, 6), (2, 6), (0, 7), (1, 7), (2, 7), (0, 8), (1, 8), (2, 8)] then some (oneOf [x30], s) else none) m30.2) m29.2) m28.2) m27.2) m26.2) m25.2) m24.2) m23.2) m22.2) m21.2) m20.2))
set_option maxHeartbeats 4000000 in
theorem d22 (rec : Rec) (N : Nat) (a0 : Value) (s : St) : callF rec N c22 [a0] s = D22 rec N a0 s := by
  rw [call_f _ _ _ _ _ rfl]
  simp (maxSteps := 4000000) only [c22, lenN, x_reg, reg_n, reg_c, reg1_u, reg1_g, op2_cons, op2_bif, x_seq, x_ops, x_skip, x_ret, x_exit, x_cond, x_block, x_loop, ops_c, ops_n, op1_u, op1_gj, rq_c, rq_n, opQ_u, opQ_g, op2_op2, op2_op, op2_s, op2_cond, thenX_n, thenX_e, thenX_r, blkX_n, blkX_r, blkX_e, finX_r, finX_n, res_n, res_t, op_s, Nat.beq_refl, cond_true]
  first | done | kernel_rfl
def F22 (rec : Rec) (N : Nat) (a0 : Value) (s : St) : Out := opt2 (oMov (.v (.string ⟨⟨[]⟩⟩)) rec PT.nil s) fun x1 s =>
 opt2 (oMov (.v a0) rec PT.nil s) fun x2 s =>
 opt2 (oBin (int2 (cmpO ltI)) (.v x2) (.v (.int .i64 0)) rec PT.nil s) fun x3 s =>
 condV x3
 (opt2 (oMov (.v a0) rec PT.nil s) fun x4 s =>
 opt2 (oBin (int2 (cmpO eqI)) (.v x4) (.v (.int .i64 (-9223372036854775808))) rec PT.nil s) fun x5 s =>
 condV x5
 (opt2 (oMov (.v (.string ⟨⟨[45, 57, 50, 50, 51, 51, 55, 50, 48, 51, 54, 56, 53, 52, 55, 55, 53, 56, 48, 56]⟩⟩)) rec PT.nil s) fun x6 s =>
 some (oneOf [x6], s))
 (opt2 (oMov (.v a0) rec PT.nil s) fun x7 s =>
 opt2 (oNeg (.v x7) rec PT.nil s) fun x8 s =>
 opt2 (rec 22 [x8] s) fun x9 s =>
 opt2 (oBin (str2 catO) (.v (.string ⟨⟨[45]⟩⟩)) (.v x9) rec PT.nil s) fun x10 s =>
 opt2 (oMov (.v x10) rec PT.nil s) fun x11 s =>
 some (oneOf [x11], s)))
 (opt2 (oMov (.v a0) rec PT.nil s) fun x12 s =>
 opt2 (oBin (int2 (cmpO ltI)) (.v x12) (.v (.int .i64 10)) rec PT.nil s) fun x13 s =>
 condV x13
 (opt2 (oMov (.v a0) rec PT.nil s) fun x14 s =>
 opt2 (oBin (int2 addO) (.v (.int .i64 48)) (.v x14) rec PT.nil s) fun x15 s =>
 opt2 (oConv .u8 (.v x15) rec PT.nil s) fun x16 s =>
 opt2 (oBuildSlice 1 [(.int .u8 0)] [(0, 1, (.v x16))] rec PT.nil s) fun x17 s =>
 opt2 (oBytesStr (.v x17) rec PT.nil s) fun x18 s =>
 opt2 (oMov (.v x18) rec PT.nil s) fun x19 s =>
 some (oneOf [x19], s))
 (opt2 (rU (oMov (.v a0) rec PT.nil ⟨s.heap, s.next, 0, 0⟩) PT.nil s none) fun x20 m20 =>
 (fun s => opt2 (rU (oBin (int2 quoO) (.v x20) (.v (.int .i64 10)) rec PT.nil ⟨s.heap, s.next, 0, 0⟩) PT.nil s none) fun x21 m21 =>
 (fun s => opt2 (rU (rec 22 [x21] ⟨s.heap, s.next, 0, 0⟩) PT.nil s none) fun x22 m22 =>
 (fun s => opt2 (rU (oMov (.v a0) rec PT.nil ⟨s.heap, s.next, 0, 0⟩) PT.nil s none) fun x23 m23 =>
 (fun s => opt2 (rU (oBin (int2 remO) (.v x23) (.v (.int .i64 10)) rec PT.nil ⟨s.heap, s.next, 0, 0⟩) PT.nil s none) fun x24 m24 =>
 (fun s => opt2 (rU (oBin (int2 addO) (.v (.int .i64 48)) (.v x24) rec PT.nil ⟨s.heap, s.next, 0, 0⟩) PT.nil s none) fun x25 m25 =>
 (fun s => opt2 (rU (oConv .u8 (.v x25) rec PT.nil ⟨s.heap, s.next, 0, 0⟩) PT.nil s none) fun x26 m26 =>
 (fun s => opt2 (rU (oBuildSlice 1 [(.int .u8 0)] [(0, 1, (.v x26))] rec PT.nil ⟨s.heap, s.next, 0, 0⟩) PT.nil s none) fun x27 m27 =>
 (fun s => opt2 (rU (oBytesStr (.v x27) rec PT.nil ⟨s.heap, s.next, 0, 0⟩) PT.nil s none) fun x28 m28 =>
 (fun s => opt2 (rU (oBin (str2 catO) (.v x22) (.v x28) rec PT.nil ⟨s.heap, s.next, 0, 0⟩) PT.nil s none) fun x29 m29 =>
 (fun s => opt2 (rU (oMov (.v x29) rec PT.nil ⟨s.heap, s.next, 0, 0⟩) PT.nil s none) fun x30 m30 =>
 (fun s => bif apartAll [m20.1, m21.1, m22.1, m23.1, m24.1, m25.1, m26.1, m27.1, m28.1, m29.1, m30.1] [(0, 3), (1, 3), (2, 3), (0, 4), (1, 4), (2, 4), (0, 5), (1, 5), (2, 5), (0, 6), (1, 6), (2, 6), (0, 7), (1, 7), (2, 7), (0, 8), (1, 8), (2, 8)] then some (oneOf [x30], s) else none) m30.2) m29.2) m28.2) m27.2) m26.2) m25.2) m24.2) m23.2) m22.2) m21.2) m20.2))
set_option maxHeartbeats 4000000 in
theorem f22 (rec : Rec) (N : Nat) (a0 : Value) (s : St) : callF rec N c22 [a0] s = F22 rec N a0 s := by
  rw [d22]
  unfold D22 F22
  first
    | done
    | rfl
    | (simp (maxSteps := 4000000) only [mov_v, op2_s]; first | done | kernel_rfl)
    | kernel_rfl
-- c23
def D23_l0 (rec : Rec) (N : Nat) (fs : Frm) (s : St) : OutX := opt2 (oMov (.v (orU (fs.get t5))) rec PT.nil s) fun x1 s =>
 opt2 (oLenS (.v x1) rec PT.nil s) fun x2 s =>
 opt2 (oMov (.v (orU (fs.get t1))) rec PT.nil s) fun x3 s =>
 opt2 (oBin (int2 (cmpO ltI)) (.v x2) (.v x3) rec PT.nil s) fun x4 s =>
 condV x4
 (opt2 (oMov (.v (orU (fs.get t5))) rec PT.nil s) fun x5 s =>
 opt2 (oBin (str2 catO) (.v (.string ⟨⟨[48]⟩⟩)) (.v x5) rec PT.nil s) fun x6 s =>
 opt2 (oMov (.v x6) rec PT.nil s) fun x7 s =>
 some (.norm, (PT.put x7 t5 (PT.put x6 t13 (PT.put x5 t12 (PT.put x4 t11 (PT.put x3 t10 (PT.put x2 t9 (PT.put x1 t8 fs))))))), s))
 (some ((.exit 0), (PT.put x4 t11 (PT.put x3 t10 (PT.put x2 t9 (PT.put x1 t8 fs)))), s))
set_option maxHeartbeats 4000000 in
theorem d23_l0 (rec : Rec) (N : Nat) (fs : Frm) (s : St) : c23_l0 rec N fs s = D23_l0 rec N fs s := by
  simp (maxSteps := 4000000) only [c23_l0, lenN, x_seq, x_ops, x_skip, x_ret, x_exit, x_cond, x_block, x_loop, ops_c, ops_n, op1_u, op1_gj, rq_c, rq_n, opQ_u, opQ_g, op2_op2, op2_op, op2_s, op2_cond, thenX_n, thenX_e, thenX_r, blkX_n, blkX_r, blkX_e, finX_r, finX_n, res_n, res_t, op_s, Nat.beq_refl, cond_true]
  first | done | kernel_rfl
def D23_r0 (rec : Rec) (N : Nat) (fs : Frm) (s : St) : OutX := opt2 (oMov (.v (orU (fs.get t5))) rec PT.nil s) fun x1 s =>
 opt2 (oMov (.v x1) rec PT.nil s) fun x2 s =>
 some (.ret, (PT.put x2 t4 (PT.put x1 t14 fs)), s)
set_option maxHeartbeats 4000000 in
theorem d23_r0 (rec : Rec) (N : Nat) (fs : Frm) (s : St) : c23_r0 rec N fs s = D23_r0 rec N fs s := by
  simp (maxSteps := 4000000) only [c23_r0, lenN, x_seq, x_ops, x_skip, x_ret, x_exit, x_cond, x_block, x_loop, ops_c, ops_n, op1_u, op1_gj, rq_c, rq_n, opQ_u, opQ_g, op2_op2, op2_op, op2_s, op2_cond, thenX_n, thenX_e, thenX_r, blkX_n, blkX_r, blkX_e, finX_r, finX_n, res_n, res_t, op_s, Nat.beq_refl, cond_true]
  first | done | kernel_rfl
def D23 (rec : Rec) (N : Nat) (a0 : Value) (a1 : Value) (s : St) : Out := opt2 (oMov (.v (.string ⟨⟨[]⟩⟩)) rec PT.nil s) fun x1 s =>
 opt2 (oMov (.v a0) rec PT.nil s) fun x2 s =>
 opt2 (rec 22 [x2] s) fun x3 s =>
 opt2 (oMov (.v x3) rec PT.nil s) fun x4 s =>
 opt2 (loopF (c23_l0 rec N) N (PT.put x4 t5 (PT.put x3 t7 (PT.put x2 t6 (PT.put x1 t4 (PT.put a1 t1 (PT.put a0 t0 PT.nil)))))) s) fun e r => opt2 (blkX 0 e r) fun e r => opt2 (thenX (c23_r0 rec N) e r) fun e r => finX [.tmp t4] e r
set_option maxHeartbeats 4000000 in
theorem d23 (rec : Rec) (N : Nat) (a0 : Value) (a1 : Value) (s : St) : callF rec N c23 [a0, a1] s = D23 rec N a0 a1 s := by
  rw [call_f _ _ _ _ _ rfl]
  simp (maxSteps := 4000000) only [c23, lenN, x_seq, x_ops, x_skip, x_ret, x_exit, x_cond, x_block, x_loop, ops_c, ops_n, op1_u, op1_gj, rq_c, rq_n, opQ_u, opQ_g, op2_op2, op2_op, op2_s, op2_cond, thenX_n, thenX_e, thenX_r, blkX_n, blkX_r, blkX_e, finX_r, finX_n, res_n, res_t, op_s, Nat.beq_refl, cond_true]
  first | done | kernel_rfl
def J23_r0 (rec : Rec) (N : Nat) (k : Value) (s : St) : Out := some (oneOf [k], s)
set_option maxHeartbeats 4000000 in
theorem j23_r0 (rec : Rec) (N : Nat) (fs : Frm) (s : St) : opt2 (c23_r0 rec N fs s) (fun e r => finX [.tmp t4] e r) = J23_r0 rec N (orU (fs.get t5)) s := by
  rw [d23_r0]
  unfold D23_r0 J23_r0
  simp (maxSteps := 4000000) only [thenX_n, thenX_e, thenX_r, x_exit, x_skip, x_ret, blkX_n, blkX_r, blkX_e, finX_r, finX_n, res_n, res_t, op2_op2, op2_op, op2_s, op2_cond, op2_bf, mov_v]
  first | done | kernel_rfl
def B23_l0 (rec : Rec) (N : Nat) (k : Value × Value) (v : Value) (s : St) : OutV (Value) := opt2 (oLenS (.v v) rec PT.nil s) fun x1 s =>
 opt2 (oBin (int2 (cmpO ltI)) (.v x1) (.v k.1) rec PT.nil s) fun x2 s =>
 condV x2
 (opt2 (oBin (str2 catO) (.v (.string ⟨⟨[48]⟩⟩)) (.v v) rec PT.nil s) fun x3 s =>
 some (.norm, (x3, s)))
 (some ((.exit 0), (v, s)))
set_option maxHeartbeats 4000000 in
theorem s23_l0 (rec : Rec) (N : Nat) (fs : Frm) (s : St) : opt2 (c23_l0 rec N fs s) (fun e r => some (e, (((orU (r.1.get t5)), (orU (r.1.get t1), orU (r.1.get t4))), r.2))) = opt2 (B23_l0 rec N (orU (fs.get t1), orU (fs.get t4)) (orU (fs.get t5)) s) fun e r => some (e, ((r.1, (orU (fs.get t1), orU (fs.get t4))), r.2)) := by
  rw [d23_l0]
  unfold D23_l0 B23_l0
  simp (maxSteps := 4000000) only [op2_op2, op2_op, op2_s, op2_cond, op2_bf, mov_v]
  first | done | kernel_rfl
def C23_l0 (rec : Rec) (N : Nat) (k : Value × Value) (e : AExit) (r : (Value) × St) : Out := (fun s => exV (fun i => bif Nat.beq i 0 then (J23_r0 rec N r.1 s)
 else (none))
 (some (oneOf [k.2], s)) e) r.2
theorem j23_l0 (rec : Rec) (N : Nat) (fs : Frm) (s : St) : opt2 (loopF (c23_l0 rec N) N fs s) (fun e r => opt2 (blkX 0 e r) fun e r => opt2 (thenX (c23_r0 rec N) e r) fun e r => finX [.tmp t4] e r) = opt2 (loopV (B23_l0 rec N (orU (fs.get t1), orU (fs.get t4))) N (orU (fs.get t5)) s) (C23_l0 rec N (orU (fs.get t1), orU (fs.get t4))) := by
  refine loop_j (fun fs => (orU (fs.get t5))) (fun fs => (orU (fs.get t1), orU (fs.get t4))) (B23_l0 rec N) (c23_l0 rec N) (s23_l0 rec N) (fun e r => opt2 (blkX 0 e r) fun e r => opt2 (thenX (c23_r0 rec N) e r) fun e r => finX [.tmp t4] e r) (C23_l0 rec N) ?_ ?_ N fs s
  · intro i fs s
    unfold C23_l0
    simp (maxSteps := 4000000) only [thenX_n, thenX_e, thenX_r, x_exit, x_skip, x_ret, blkX_n, blkX_r, blkX_e, finX_r, finX_n, res_n, res_t, exV_e, exV_r, op2_op2, op2_op, op2_s, op2_cond, op2_bf, mov_v, j23_r0 rec N]
    first | done | kernel_rfl
  · intro fs s
    unfold C23_l0
    simp (maxSteps := 4000000) only [thenX_n, thenX_e, thenX_r, x_exit, x_skip, x_ret, blkX_n, blkX_r, blkX_e, finX_r, finX_n, res_n, res_t, exV_e, exV_r, op2_op2, op2_op, op2_s, op2_cond, op2_bf, mov_v, j23_r0 rec N]
    first | done | kernel_rfl
def F23 (rec : Rec) (N : Nat) (a0 : Value) (a1 : Value) (s : St) : Out := opt2 (rec 22 [a0] s) fun x1 s =>
 opt2 (loopV (B23_l0 rec N (a1, (.string ⟨⟨[]⟩⟩))) N x1 s) (C23_l0 rec N (a1, (.string ⟨⟨[]⟩⟩)))
theorem f23 (rec : Rec) (N : Nat) (a0 : Value) (a1 : Value) (s : St) : callF rec N c23 [a0, a1] s = F23 rec N a0 a1 s := by
  rw [d23]
  unfold D23 F23
  simp (maxSteps := 4000000) only [mov_v, op2_s, j23_l0 rec N]
  first | done | kernel_rfl
-- c24
def D24 (rec : Rec) (N : Nat) (a0 : Value) (s : St) : Out := opt2 (oMov (.v (.string ⟨⟨[]⟩⟩)) rec PT.nil s) fun x1 s =>
 opt2 (oMov (.v a0) rec PT.nil s) fun x2 s =>
 opt2 (rec 37 [x2] s) fun x3 s =>
 opt2 (oMov (.v x3) rec PT.nil s) fun x4 s =>
 opt2 (oExtract (.v x4) 0 rec PT.nil s) fun x5 s =>
 opt2 (oExtract (.v x4) 1 rec PT.nil s) fun x6 s =>
 opt2 (oExtract (.v x4) 2 rec PT.nil s) fun x7 s =>
 opt2 (oExtract (.v x4) 3 rec PT.nil s) fun x8 s =>
 opt2 (oMov (.v x5) rec PT.nil s) fun x9 s =>
 opt2 (oMov (.v x6) rec PT.nil s) fun x10 s =>
 opt2 (oMov (.v x7) rec PT.nil s) fun x11 s =>
 opt2 (oMov (.v x8) rec PT.nil s) fun x12 s =>
 opt2 (oMov (.v x12) rec PT.nil s) fun x13 s =>
 opt2 (oNot (.v x13) rec PT.nil s) fun x14 s =>
 condV x14
 (opt2 (oMov (.v (.string ⟨⟨[]⟩⟩)) rec PT.nil s) fun x15 s =>
 some (oneOf [x15], s))
 (opt2 (oMov (.v x9) rec PT.nil s) fun x16 s =>
 opt2 (oBin (int2 quoO) (.v x16) (.v (.int .i64 100)) rec PT.nil s) fun x17 s =>
 opt2 (rec 38 [x17] s) fun x18 s =>
 opt2 (oMov (.v x9) rec PT.nil s) fun x19 s =>
 opt2 (rec 38 [x19] s) fun x20 s =>
 opt2 (oBin (str2 catO) (.v x18) (.v x20) rec PT.nil s) fun x21 s =>
 opt2 (oBin (str2 catO) (.v x21) (.v (.string ⟨⟨[45]⟩⟩)) rec PT.nil s) fun x22 s =>
 opt2 (oMov (.v x10) rec PT.nil s) fun x23 s =>
 opt2 (rec 38 [x23] s) fun x24 s =>
 opt2 (oBin (str2 catO) (.v x22) (.v x24) rec PT.nil s) fun x25 s =>
 opt2 (oBin (str2 catO) (.v x25) (.v (.string ⟨⟨[45]⟩⟩)) rec PT.nil s) fun x26 s =>
 opt2 (oMov (.v x11) rec PT.nil s) fun x27 s =>
 opt2 (rec 38 [x27] s) fun x28 s =>
 opt2 (oBin (str2 catO) (.v x26) (.v x28) rec PT.nil s) fun x29 s =>
 opt2 (oMov (.v x29) rec PT.nil s) fun x30 s =>
 some (oneOf [x30], s))
set_option maxHeartbeats 4000000 in
theorem d24 (rec : Rec) (N : Nat) (a0 : Value) (s : St) : callF rec N c24 [a0] s = D24 rec N a0 s := by
  rw [call_f _ _ _ _ _ rfl]
  simp (maxSteps := 4000000) only [c24, lenN, x_seq, x_ops, x_skip, x_ret, x_exit, x_cond, x_block, x_loop, ops_c, ops_n, op1_u, op1_gj, rq_c, rq_n, opQ_u, opQ_g, op2_op2, op2_op, op2_s, op2_cond, thenX_n, thenX_e, thenX_r, blkX_n, blkX_r, blkX_e, finX_r, finX_n, res_n, res_t, op_s, Nat.beq_refl, cond_true]
  first | done | kernel_rfl
def F24 (rec : Rec) (N : Nat) (a0 : Value) (s : St) : Out := opt2 (rec 37 [a0] s) fun x1 s =>
 opt2 (oExtract (.v x1) 0 rec PT.nil s) fun x2 s =>
 opt2 (oExtract (.v x1) 1 rec PT.nil s) fun x3 s =>
 opt2 (oExtract (.v x1) 2 rec PT.nil s) fun x4 s =>
 opt2 (oExtract (.v x1) 3 rec PT.nil s) fun x5 s =>
 opt2 (oNot (.v x5) rec PT.nil s) fun x6 s =>
 condV x6
 (some (oneOf [(.string ⟨⟨[]⟩⟩)], s))
 (opt2 (oBin (int2 quoO) (.v x2) (.v (.int .i64 100)) rec PT.nil s) fun x7 s =>
 opt2 (rec 38 [x7] s) fun x8 s =>
 opt2 (rec 38 [x2] s) fun x9 s =>
 opt2 (oBin (str2 catO) (.v x8) (.v x9) rec PT.nil s) fun x10 s =>
 opt2 (oBin (str2 catO) (.v x10) (.v (.string ⟨⟨[45]⟩⟩)) rec PT.nil s) fun x11 s =>
 opt2 (rec 38 [x3] s) fun x12 s =>
 opt2 (oBin (str2 catO) (.v x11) (.v x12) rec PT.nil s) fun x13 s =>
 opt2 (oBin (str2 catO) (.v x13) (.v (.string ⟨⟨[45]⟩⟩)) rec PT.nil s) fun x14 s =>
 opt2 (rec 38 [x4] s) fun x15 s =>
 opt2 (oBin (str2 catO) (.v x14) (.v x15) rec PT.nil s) fun x16 s =>
 some (oneOf [x16], s))
set_option maxHeartbeats 4000000 in
theorem f24 (rec : Rec) (N : Nat) (a0 : Value) (s : St) : callF rec N c24 [a0] s = F24 rec N a0 s := by
  rw [d24]
  unfold D24 F24
  first
    | done
    | rfl
    | (simp (maxSteps := 4000000) only [mov_v, op2_s]; first | done | kernel_rfl)
    | kernel_rfl
-- c25
def D25_l0 (rec : Rec) (N : Nat) (fs : Frm) (s : St) : OutX := opt2 (oMov (.v (orU (fs.get t5))) rec PT.nil s) fun x1 s =>
 opt2 (oMov (.v (orU (fs.get t0))) rec PT.nil s) fun x2 s =>
 opt2 (oLenS (.v x2) rec PT.nil s) fun x3 s =>
 opt2 (oBin (int2 (cmpO ltI)) (.v x1) (.v x3) rec PT.nil s) fun x4 s =>
 opt2 (oMov (.v x4) rec PT.nil s) fun x5 s =>
 opt (gval true x5) fun x6 => opt2 (orUndef x6 (oMov (.v (orU (fs.get t1))) rec PT.nil s) s) fun x7 s =>
 opt (gval true x5) fun x8 => opt2 (orUndef x8 (oMov (.v (orU (fs.get t0))) rec PT.nil s) s) fun x9 s =>
 opt (gval true x5) fun x10 => opt2 (orUndef x10 (oMov (.v (orU (fs.get t5))) rec PT.nil s) s) fun x11 s =>
 opt (gval true x5) fun x12 => opt2 (orUndef x12 (oIdxS (.v x9) (.v x11) rec PT.nil s) s) fun x13 s =>
 opt (gval true x5) fun x14 => opt2 (orUndef x14 (oCallV (.v x7) [(.v x13)] rec PT.nil s) s) fun x15 s =>
 opt2 (oPick (.v x5) (.v x15) (.v (.bool false)) rec PT.nil s) fun x16 s =>
 condV x16
 (opt2 (oMov (.v (orU (fs.get t5))) rec PT.nil s) fun x17 s =>
 opt2 (oBin (int2 addO) (.v x17) (.v (.int .i64 1)) rec PT.nil s) fun x18 s =>
 opt2 (oMov (.v x18) rec PT.nil s) fun x19 s =>
 some (.norm, (PT.put x19 t5 (PT.put x18 t18 (PT.put x17 t17 (PT.put x16 t16 (PT.put x15 t15 (PT.put x13 t14 (PT.put x11 t13 (PT.put x9 t12 (PT.put x7 t11 (PT.put x5 t10 (PT.put x4 t9 (PT.put x3 t8 (PT.put x2 t7 (PT.put x1 t6 fs)))))))))))))), s))
 (some ((.exit 0), (PT.put x16 t16 (PT.put x15 t15 (PT.put x13 t14 (PT.put x11 t13 (PT.put x9 t12 (PT.put x7 t11 (PT.put x5 t10 (PT.put x4 t9 (PT.put x3 t8 (PT.put x2 t7 (PT.put x1 t6 fs))))))))))), s))
set_option maxHeartbeats 4000000 in
theorem d25_l0 (rec : Rec) (N : Nat) (fs : Frm) (s : St) : c25_l0 rec N fs s = D25_l0 rec N fs s := by
  simp (maxSteps := 4000000) only [c25_l0, lenN, x_seq, x_ops, x_skip, x_ret, x_exit, x_cond, x_block, x_loop, ops_c, ops_n, op1_u, op1_gj, rq_c, rq_n, opQ_u, opQ_g, op2_op2, op2_op, op2_s, op2_cond, thenX_n, thenX_e, thenX_r, blkX_n, blkX_r, blkX_e, finX_r, finX_n, res_n, res_t, op_s, Nat.beq_refl, cond_true]
  first | done | kernel_rfl
def D25_r0 (rec : Rec) (N : Nat) (fs : Frm) (s : St) : OutX := opt2 (oMov (.v (orU (fs.get t5))) rec PT.nil s) fun x1 s =>
 opt2 (oMov (.v x1) rec PT.nil s) fun x2 s =>
 some (.ret, (PT.put x2 t4 (PT.put x1 t19 fs)), s)
set_option maxHeartbeats 4000000 in
theorem d25_r0 (rec : Rec) (N : Nat) (fs : Frm) (s : St) : c25_r0 rec N fs s = D25_r0 rec N fs s := by
  simp (maxSteps := 4000000) only [c25_r0, lenN, x_seq, x_ops, x_skip, x_ret, x_exit, x_cond, x_block, x_loop, ops_c, ops_n, op1_u, op1_gj, rq_c, rq_n, opQ_u, opQ_g, op2_op2, op2_op, op2_s, op2_cond, thenX_n, thenX_e, thenX_r, blkX_n, blkX_r, blkX_e, finX_r, finX_n, res_n, res_t, op_s, Nat.beq_refl, cond_true]
  first | done | kernel_rfl
def D25 (rec : Rec) (N : Nat) (a0 : Value) (a1 : Value) (s : St) : Out := opt2 (oMov (.v (.int .i64 0)) rec PT.nil s) fun x1 s =>
 opt2 (oMov (.v (.int .i64 0)) rec PT.nil s) fun x2 s =>
 opt2 (loopF (c25_l0 rec N) N (PT.put x2 t5 (PT.put x1 t4 (PT.put a1 t1 (PT.put a0 t0 PT.nil)))) s) fun e r => opt2 (blkX 0 e r) fun e r => opt2 (thenX (c25_r0 rec N) e r) fun e r => finX [.tmp t4] e r
set_option maxHeartbeats 4000000 in
theorem d25 (rec : Rec) (N : Nat) (a0 : Value) (a1 : Value) (s : St) : callF rec N c25 [a0, a1] s = D25 rec N a0 a1 s := by
  rw [call_f _ _ _ _ _ rfl]
  simp (maxSteps := 4000000) only [c25, lenN, x_seq, x_ops, x_skip, x_ret, x_exit, x_cond, x_block, x_loop, ops_c, ops_n, op1_u, op1_gj, rq_c, rq_n, opQ_u, opQ_g, op2_op2, op2_op, op2_s, op2_cond, thenX_n, thenX_e, thenX_r, blkX_n, blkX_r, blkX_e, finX_r, finX_n, res_n, res_t, op_s, Nat.beq_refl, cond_true]
  first | done | kernel_rfl
def J25_r0 (rec : Rec) (N : Nat) (k : Value) (s : St) : Out := some (oneOf [k], s)
set_option maxHeartbeats 4000000 in
theorem j25_r0 (rec : Rec) (N : Nat) (fs : Frm) (s : St) : opt2 (c25_r0 rec N fs s) (fun e r => finX [.tmp t4] e r) = J25_r0 rec N (orU (fs.get t5)) s := by
  rw [d25_r0]
  unfold D25_r0 J25_r0
  simp (maxSteps := 4000000) only [thenX_n, thenX_e, thenX_r, x_exit, x_skip, x_ret, blkX_n, blkX_r, blkX_e, finX_r, finX_n, res_n, res_t, op2_op2, op2_op, op2_s, op2_cond, op2_bf, mov_v]
  first | done | kernel_rfl
def B25_l0 (rec : Rec) (N : Nat) (k : Value × Value × Value) (v : Value) (s : St) : OutV (Value) := opt2 (oLenS (.v k.1) rec PT.nil s) fun x1 s =>
 opt2 (oBin (int2 (cmpO ltI)) (.v v) (.v x1) rec PT.nil s) fun x2 s =>
 opt (gval true x2) fun x3 => opt2 (orUndef x3 (some (k.2.1, s)) s) fun x4 s =>
 opt (gval true x2) fun x5 => opt2 (orUndef x5 (some (k.1, s)) s) fun x6 s =>
 opt (gval true x2) fun x7 => opt2 (orUndef x7 (some (v, s)) s) fun x8 s =>
 opt (gval true x2) fun x9 => opt2 (orUndef x9 (oIdxS (.v x6) (.v x8) rec PT.nil s) s) fun x10 s =>
 opt (gval true x2) fun x11 => opt2 (orUndef x11 (oCallV (.v x4) [(.v x10)] rec PT.nil s) s) fun x12 s =>
 opt2 (oPick (.v x2) (.v x12) (.v (.bool false)) rec PT.nil s) fun x13 s =>
 condV x13
 (opt2 (oBin (int2 addO) (.v v) (.v (.int .i64 1)) rec PT.nil s) fun x14 s =>
 some (.norm, (x14, s)))
 (some ((.exit 0), (v, s)))
set_option maxHeartbeats 4000000 in
theorem s25_l0 (rec : Rec) (N : Nat) (fs : Frm) (s : St) : opt2 (c25_l0 rec N fs s) (fun e r => some (e, (((orU (r.1.get t5)), (orU (r.1.get t0), orU (r.1.get t1), orU (r.1.get t4))), r.2))) = opt2 (B25_l0 rec N (orU (fs.get t0), orU (fs.get t1), orU (fs.get t4)) (orU (fs.get t5)) s) fun e r => some (e, ((r.1, (orU (fs.get t0), orU (fs.get t1), orU (fs.get t4))), r.2)) := by
  rw [d25_l0]
  unfold D25_l0 B25_l0
  simp (maxSteps := 4000000) only [op2_op2, op2_op, op2_s, op2_cond, op2_bf, mov_v]
  first | done | kernel_rfl
def C25_l0 (rec : Rec) (N : Nat) (k : Value × Value × Value) (e : AExit) (r : (Value) × St) : Out := (fun s => exV (fun i => bif Nat.beq i 0 then (J25_r0 rec N r.1 s)
 else (none))
 (some (oneOf [k.2.2], s)) e) r.2
theorem j25_l0 (rec : Rec) (N : Nat) (fs : Frm) (s : St) : opt2 (loopF (c25_l0 rec N) N fs s) (fun e r => opt2 (blkX 0 e r) fun e r => opt2 (thenX (c25_r0 rec N) e r) fun e r => finX [.tmp t4] e r) = opt2 (loopV (B25_l0 rec N (orU (fs.get t0), orU (fs.get t1), orU (fs.get t4))) N (orU (fs.get t5)) s) (C25_l0 rec N (orU (fs.get t0), orU (fs.get t1), orU (fs.get t4))) := by
  refine loop_j (fun fs => (orU (fs.get t5))) (fun fs => (orU (fs.get t0), orU (fs.get t1), orU (fs.get t4))) (B25_l0 rec N) (c25_l0 rec N) (s25_l0 rec N) (fun e r => opt2 (blkX 0 e r) fun e r => opt2 (thenX (c25_r0 rec N) e r) fun e r => finX [.tmp t4] e r) (C25_l0 rec N) ?_ ?_ N fs s
  · intro i fs s
    unfold C25_l0
    simp (maxSteps := 4000000) only [thenX_n, thenX_e, thenX_r, x_exit, x_skip, x_ret, blkX_n, blkX_r, blkX_e, finX_r, finX_n, res_n, res_t, exV_e, exV_r, op2_op2, op2_op, op2_s, op2_cond, op2_bf, mov_v, j25_r0 rec N]
    first | done | kernel_rfl
  · intro fs s
    unfold C25_l0
    simp (maxSteps := 4000000) only [thenX_n, thenX_e, thenX_r, x_exit, x_skip, x_ret, blkX_n, blkX_r, blkX_e, finX_r, finX_n, res_n, res_t, exV_e, exV_r, op2_op2, op2_op, op2_s, op2_cond, op2_bf, mov_v, j25_r0 rec N]
    first | done | kernel_rfl
def F25 (rec : Rec) (N : Nat) (a0 : Value) (a1 : Value) (s : St) : Out := opt2 (loopV (B25_l0 rec N (a0, a1, (.int .i64 0))) N (.int .i64 0) s) (C25_l0 rec N (a0, a1, (.int .i64 0)))
theorem f25 (rec : Rec) (N : Nat) (a0 : Value) (a1 : Value) (s : St) : callF rec N c25 [a0, a1] s = F25 rec N a0 a1 s := by
  rw [d25]
  unfold D25 F25
  simp (maxSteps := 4000000) only [mov_v, op2_s, j25_l0 rec N]
  first | done | kernel_rfl
-- c26
def D26 (rec : Rec) (N : Nat) (a0 : Value) (s : St) : Out := opt2 (oMov (.v (.bool false)) rec PT.nil s) fun x1 s =>
 opt2 (oMov (.v a0) rec PT.nil s) fun x2 s =>
 opt2 (oBin (int2 (cmpO neI)) (.v x2) (.v (.int .u8 10)) rec PT.nil s) fun x3 s =>
 opt2 (oMov (.v x3) rec PT.nil s) fun x4 s =>
 some (oneOf [x4], s)
set_option maxHeartbeats 4000000 in
theorem d26 (rec : Rec) (N : Nat) (a0 : Value) (s : St) : callF rec N c26 [a0] s = D26 rec N a0 s := by
  rw [call_f _ _ _ _ _ rfl]
  simp (maxSteps := 4000000) only [c26, lenN, x_seq, x_ops, x_skip, x_ret, x_exit, x_cond, x_block, x_loop, ops_c, ops_n, op1_u, op1_gj, rq_c, rq_n, opQ_u, opQ_g, op2_op2, op2_op, op2_s, op2_cond, thenX_n, thenX_e, thenX_r, blkX_n, blkX_r, blkX_e, finX_r, finX_n, res_n, res_t, op_s, Nat.beq_refl, cond_true]
  first | done | kernel_rfl
def F26 (rec : Rec) (N : Nat) (a0 : Value) (s : St) : Out := opt2 (oBin (int2 (cmpO neI)) (.v a0) (.v (.int .u8 10)) rec PT.nil s) fun x1 s =>
 some (oneOf [x1], s)
set_option maxHeartbeats 4000000 in
theorem f26 (rec : Rec) (N : Nat) (a0 : Value) (s : St) : callF rec N c26 [a0] s = F26 rec N a0 s := by
  rw [d26]
  unfold D26 F26
  first
    | done
    | rfl
    | (simp (maxSteps := 4000000) only [mov_v, op2_s]; first | done | kernel_rfl)
    | kernel_rfl
-- c27
def D27 (rec : Rec) (N : Nat) (a0 : Value) (s : St) : Out := opt2 (oMov (.v (.bool false)) rec PT.nil s) fun x1 s =>
 opt2 (oMov (.v a0) rec PT.nil s) fun x2 s =>
 opt2 (oBin (int2 (cmpO geI)) (.v x2) (.v (.int .u8 97)) rec PT.nil s) fun x3 s =>
 opt2 (oMov (.v x3) rec PT.nil s) fun x4 s =>
 opt (gval true x4) fun x5 => opt2 (orUndef x5 (oMov (.v a0) rec PT.nil s) s) fun x6 s =>
 opt (gval true x4) fun x7 => opt2 (orUndef x7 (oBin (int2 (cmpO leI)) (.v x6) (.v (.int .u8 122)) rec PT.nil s) s) fun x8 s =>
 opt2 (oPick (.v x4) (.v x8) (.v (.bool false)) rec PT.nil s) fun x9 s =>
 opt2 (oMov (.v x9) rec PT.nil s) fun x10 s =>
 some (oneOf [x10], s)
set_option maxHeartbeats 4000000 in
theorem d27 (rec : Rec) (N : Nat) (a0 : Value) (s : St) : callF rec N c27 [a0] s = D27 rec N a0 s := by
  rw [call_f _ _ _ _ _ rfl]
  simp (maxSteps := 4000000) only [c27, lenN, x_seq, x_ops, x_skip, x_ret, x_exit, x_cond, x_block, x_loop, ops_c, ops_n, op1_u, op1_gj, rq_c, rq_n, opQ_u, opQ_g, op2_op2, op2_op, op2_s, op2_cond, thenX_n, thenX_e, thenX_r, blkX_n, blkX_r, blkX_e, finX_r, finX_n, res_n, res_t, op_s, Nat.beq_refl, cond_true]
  first | done | kernel_rfl
def F27 (rec : Rec) (N : Nat) (a0 : Value) (s : St) : Out := opt2 (oBin (int2 (cmpO geI)) (.v a0) (.v (.int .u8 97)) rec PT.nil s) fun x1 s =>
 opt (gval true x1) fun x2 => opt2 (orUndef x2 (some (a0, s)) s) fun x3 s =>
 opt (gval true x1) fun x4 => opt2 (orUndef x4 (oBin (int2 (cmpO leI)) (.v x3) (.v (.int .u8 122)) rec PT.nil s) s) fun x5 s =>
 opt2 (oPick (.v x1) (.v x5) (.v (.bool false)) rec PT.nil s) fun x6 s =>
 some (oneOf [x6], s)
set_option maxHeartbeats 4000000 in
theorem f27 (rec : Rec) (N : Nat) (a0 : Value) (s : St) : callF rec N c27 [a0] s = F27 rec N a0 s := by
  rw [d27]
  unfold D27 F27
  first
    | done
    | rfl
    | (simp (maxSteps := 4000000) only [mov_v, op2_s]; first | done | kernel_rfl)
    | kernel_rfl
-- c28
def D28 (rec : Rec) (N : Nat) (a0 : Value) (s : St) : Out := opt2 (oMov (.v (.bool false)) rec PT.nil s) fun x1 s =>
 opt2 (oMov (.v a0) rec PT.nil s) fun x2 s =>
 opt2 (rec 27 [x2] s) fun x3 s =>
 opt2 (oMov (.v x3) rec PT.nil s) fun x4 s =>
 opt (gval false x4) fun x5 => opt2 (orUndef x5 (oMov (.v a0) rec PT.nil s) s) fun x6 s =>
 opt (gval false x4) fun x7 => opt2 (orUndef x7 (rec 30 [x6] s) s) fun x8 s =>
 opt2 (oPick (.v x4) (.v (.bool true)) (.v x8) rec PT.nil s) fun x9 s =>
 opt2 (oMov (.v x9) rec PT.nil s) fun x10 s =>
 opt (gval false x10) fun x11 => opt2 (orUndef x11 (oMov (.v a0) rec PT.nil s) s) fun x12 s =>
 opt (gval false x10) fun x13 => opt2 (orUndef x13 (oBin (int2 (cmpO eqI)) (.v x12) (.v (.int .u8 95)) rec PT.nil s) s) fun x14 s =>
 opt2 (oPick (.v x10) (.v (.bool true)) (.v x14) rec PT.nil s) fun x15 s =>
 opt2 (oMov (.v x15) rec PT.nil s) fun x16 s =>
 some (oneOf [x16], s)
set_option maxHeartbeats 4000000 in
theorem d28 (rec : Rec) (N : Nat) (a0 : Value) (s : St) : callF rec N c28 [a0] s = D28 rec N a0 s := by
  rw [call_f _ _ _ _ _ rfl]
  simp (maxSteps := 4000000) only [c28, lenN, x_seq, x_ops, x_skip, x_ret, x_exit, x_cond, x_block, x_loop, ops_c, ops_n, op1_u, op1_gj, rq_c, rq_n, opQ_u, opQ_g, op2_op2, op2_op, op2_s, op2_cond, thenX_n, thenX_e, thenX_r, blkX_n, blkX_r, blkX_e, finX_r, finX_n, res_n, res_t, op_s, Nat.beq_refl, cond_true]
  first | done | kernel_rfl
def F28 (rec : Rec) (N : Nat) (a0 : Value) (s : St) : Out := opt2 (rec 27 [a0] s) fun x1 s =>
 opt (gval false x1) fun x2 => opt2 (orUndef x2 (some (a0, s)) s) fun x3 s =>
 opt (gval false x1) fun x4 => opt2 (orUndef x4 (rec 30 [x3] s) s) fun x5 s =>
 opt2 (oPick (.v x1) (.v (.bool true)) (.v x5) rec PT.nil s) fun x6 s =>
 opt (gval false x6) fun x7 => opt2 (orUndef x7 (some (a0, s)) s) fun x8 s =>
 opt (gval false x6) fun x9 => opt2 (orUndef x9 (oBin (int2 (cmpO eqI)) (.v x8) (.v (.int .u8 95)) rec PT.nil s) s) fun x10 s =>
 opt2 (oPick (.v x6) (.v (.bool true)) (.v x10) rec PT.nil s) fun x11 s =>
 some (oneOf [x11], s)
set_option maxHeartbeats 4000000 in
theorem f28 (rec : Rec) (N : Nat) (a0 : Value) (s : St) : callF rec N c28 [a0] s = F28 rec N a0 s := by
  rw [d28]
  unfold D28 F28
  first
    | done
    | rfl
    | (simp (maxSteps := 4000000) only [mov_v, op2_s]; first | done | kernel_rfl)
    | kernel_rfl
-- c29
def D29 (rec : Rec) (N : Nat) (a0 : Value) (a1 : Value) (s : St) : Out := opt2 (oNew [(.int .i64 0), (.string ⟨⟨[]⟩⟩), (.int .i64 0), (.int .i64 0)] rec PT.nil s) fun x1 s =>
 opt2 (oMov (.v a0) rec PT.nil s) fun x2 s =>
 opt2 (oMov (.v a1) rec PT.nil s) fun x3 s =>
 opt2 (rec 31 [x2, x3] s) fun x4 s =>
 opt2 (oMov (.v x4) rec PT.nil s) fun x5 s =>
 opt2 (oExtract (.v x5) 0 rec PT.nil s) fun x6 s =>
 opt2 (oExtract (.v x5) 1 rec PT.nil s) fun x7 s =>
 opt2 (oMov (.v x6) rec PT.nil s) fun x8 s =>
 opt2 (oMov (.v x7) rec PT.nil s) fun x9 s =>
 opt2 (oMov (.v x8) rec PT.nil s) fun x10 s =>
 opt2 (oBin (int2 (cmpO eqI)) (.v x10) (.v (.int .i64 0)) rec PT.nil s) fun x11 s =>
 opt2 (oMov (.v x11) rec PT.nil s) fun x12 s =>
 opt (gval false x12) fun x13 => opt2 (orUndef x13 (oMov (.v x9) rec PT.nil s) s) fun x14 s =>
 opt (gval false x12) fun x15 => opt2 (orUndef x15 (oBin (int2 (cmpO ltI)) (.v x14) (.v (.int .i64 0)) rec PT.nil s) s) fun x16 s =>
 opt2 (oPick (.v x12) (.v (.bool true)) (.v x16) rec PT.nil s) fun x17 s =>
 condV x17
 (opt2 (oBuild [(.int .i64 0), (.string ⟨⟨[]⟩⟩), (.int .i64 0), (.int .i64 0)] [] rec PT.nil s) fun x18 s =>
 opt2 (oStore 4 (.v x1) (.v x18) rec PT.nil s) fun x19 s =>
 finX [.cell t4 (some 4)] .ret ((PT.put x18 t19 (PT.put x17 t18 (PT.put x16 t17 (PT.put x14 t16 (PT.put x12 t15 (PT.put x11 t14 (PT.put x10 t13 (PT.put x9 t6 (PT.put x8 t5 (PT.put x7 t12 (PT.put x6 t11 (PT.put x5 t7 (PT.put x4 t10 (PT.put x3 t9 (PT.put x2 t8 (PT.put x1 t4 (PT.put a1 t1 (PT.put a0 t0 PT.nil)))))))))))))))))), s))
 (opt2 (oMov (.v a1) rec PT.nil s) fun x20 s =>
 opt2 (oMov (.v a0) rec PT.nil s) fun x21 s =>
 opt2 (oMov (.v x8) rec PT.nil s) fun x22 s =>
 opt2 (oSliceS (.v x21) none (some (.v x22)) rec PT.nil s) fun x23 s =>
 opt2 (oMov (.v x9) rec PT.nil s) fun x24 s =>
 opt2 (oBuild [(.int .i64 0), (.string ⟨⟨[]⟩⟩), (.int .i64 0), (.int .i64 0)] [(0, 1, (.v x20)), (1, 1, (.v x23)), (2, 1, (.v x24))] rec PT.nil s) fun x25 s =>
 opt2 (oStore 4 (.v x1) (.v x25) rec PT.nil s) fun x26 s =>
 finX [.cell t4 (some 4)] .ret ((PT.put x25 t25 (PT.put x24 t24 (PT.put x23 t23 (PT.put x22 t22 (PT.put x21 t21 (PT.put x20 t20 (PT.put x17 t18 (PT.put x16 t17 (PT.put x14 t16 (PT.put x12 t15 (PT.put x11 t14 (PT.put x10 t13 (PT.put x9 t6 (PT.put x8 t5 (PT.put x7 t12 (PT.put x6 t11 (PT.put x5 t7 (PT.put x4 t10 (PT.put x3 t9 (PT.put x2 t8 (PT.put x1 t4 (PT.put a1 t1 (PT.put a0 t0 PT.nil))))))))))))))))))))))), s))
set_option maxHeartbeats 4000000 in
theorem d29 (rec : Rec) (N : Nat) (a0 : Value) (a1 : Value) (s : St) : callF rec N c29 [a0, a1] s = D29 rec N a0 a1 s := by
  rw [call_f _ _ _ _ _ rfl]
  simp (maxSteps := 4000000) only [c29, lenN, x_seq, x_ops, x_skip, x_ret, x_exit, x_cond, x_block, x_loop, ops_c, ops_n, op1_u, op1_gj, rq_c, rq_n, opQ_u, opQ_g, op2_op2, op2_op, op2_s, op2_cond, thenX_n, thenX_e, thenX_r, blkX_n, blkX_r, blkX_e, finX_r, finX_n, res_n, res_t, op_s, Nat.beq_refl, cond_true]
  first | done | kernel_rfl
def F29 (rec : Rec) (N : Nat) (a0 : Value) (a1 : Value) (s : St) : Out := opt2 (oNew [(.int .i64 0), (.string ⟨⟨[]⟩⟩), (.int .i64 0), (.int .i64 0)] rec PT.nil s) fun x1 s =>
 opt2 (rec 31 [a0, a1] s) fun x2 s =>
 opt2 (oExtract (.v x2) 0 rec PT.nil s) fun x3 s =>
 opt2 (oExtract (.v x2) 1 rec PT.nil s) fun x4 s =>
 opt2 (oBin (int2 (cmpO eqI)) (.v x3) (.v (.int .i64 0)) rec PT.nil s) fun x5 s =>
 opt (gval false x5) fun x6 => opt2 (orUndef x6 (some (x4, s)) s) fun x7 s =>
 opt (gval false x5) fun x8 => opt2 (orUndef x8 (oBin (int2 (cmpO ltI)) (.v x7) (.v (.int .i64 0)) rec PT.nil s) s) fun x9 s =>
 opt2 (oPick (.v x5) (.v (.bool true)) (.v x9) rec PT.nil s) fun x10 s =>
 condV x10
 (opt2 (oBuild [(.int .i64 0), (.string ⟨⟨[]⟩⟩), (.int .i64 0), (.int .i64 0)] [] rec PT.nil s) fun x11 s =>
 opt2 (oStore 4 (.v x1) (.v x11) rec PT.nil s) fun x12 s =>
 finX [.cell t4 (some 4)] .ret ((PT.put x1 t4 PT.nil), s))
 (opt2 (oSliceS (.v a0) none (some (.v x3)) rec PT.nil s) fun x13 s =>
 opt2 (oBuild [(.int .i64 0), (.string ⟨⟨[]⟩⟩), (.int .i64 0), (.int .i64 0)] [(0, 1, (.v a1)), (1, 1, (.v x13)), (2, 1, (.v x4))] rec PT.nil s) fun x14 s =>
 opt2 (oStore 4 (.v x1) (.v x14) rec PT.nil s) fun x15 s =>
 finX [.cell t4 (some 4)] .ret ((PT.put x1 t4 PT.nil), s))
set_option maxHeartbeats 4000000 in
theorem f29 (rec : Rec) (N : Nat) (a0 : Value) (a1 : Value) (s : St) : callF rec N c29 [a0, a1] s = F29 rec N a0 a1 s := by
  rw [d29]
  unfold D29 F29
  first
    | done
    | rfl
    | (simp (maxSteps := 4000000) only [mov_v, op2_s]; first | done | kernel_rfl)
    | kernel_rfl
-- c30
def D30 (rec : Rec) (N : Nat) (a0 : Value) (s : St) : Out := opt2 (oMov (.v (.bool false)) rec PT.nil s) fun x1 s =>
 opt2 (oMov (.v a0) rec PT.nil s) fun x2 s =>
 opt2 (oBin (int2 (cmpO geI)) (.v x2) (.v (.int .u8 48)) rec PT.nil s) fun x3 s =>
 opt2 (oMov (.v x3) rec PT.nil s) fun x4 s =>
 opt (gval true x4) fun x5 => opt2 (orUndef x5 (oMov (.v a0) rec PT.nil s) s) fun x6 s =>
 opt (gval true x4) fun x7 => opt2 (orUndef x7 (oBin (int2 (cmpO leI)) (.v x6) (.v (.int .u8 57)) rec PT.nil s) s) fun x8 s =>
 opt2 (oPick (.v x4) (.v x8) (.v (.bool false)) rec PT.nil s) fun x9 s =>
 opt2 (oMov (.v x9) rec PT.nil s) fun x10 s =>
 some (oneOf [x10], s)
set_option maxHeartbeats 4000000 in
theorem d30 (rec : Rec) (N : Nat) (a0 : Value) (s : St) : callF rec N c30 [a0] s = D30 rec N a0 s := by
  rw [call_f _ _ _ _ _ rfl]
  simp (maxSteps := 4000000) only [c30, lenN, x_seq, x_ops, x_skip, x_ret, x_exit, x_cond, x_block, x_loop, ops_c, ops_n, op1_u, op1_gj, rq_c, rq_n, opQ_u, opQ_g, op2_op2, op2_op, op2_s, op2_cond, thenX_n, thenX_e, thenX_r, blkX_n, blkX_r, blkX_e, finX_r, finX_n, res_n, res_t, op_s, Nat.beq_refl, cond_true]
  first | done | kernel_rfl
def F30 (rec : Rec) (N : Nat) (a0 : Value) (s : St) : Out := opt2 (oBin (int2 (cmpO geI)) (.v a0) (.v (.int .u8 48)) rec PT.nil s) fun x1 s =>
 opt (gval true x1) fun x2 => opt2 (orUndef x2 (some (a0, s)) s) fun x3 s =>
 opt (gval true x1) fun x4 => opt2 (orUndef x4 (oBin (int2 (cmpO leI)) (.v x3) (.v (.int .u8 57)) rec PT.nil s) s) fun x5 s =>
 opt2 (oPick (.v x1) (.v x5) (.v (.bool false)) rec PT.nil s) fun x6 s =>
 some (oneOf [x6], s)
set_option maxHeartbeats 4000000 in
theorem f30 (rec : Rec) (N : Nat) (a0 : Value) (s : St) : callF rec N c30 [a0] s = F30 rec N a0 s := by
  rw [d30]
  unfold D30 F30
  first
    | done
    | rfl
    | (simp (maxSteps := 4000000) only [mov_v, op2_s]; first | done | kernel_rfl)
    | kernel_rfl
-- c31
def D31 (rec : Rec) (N : Nat) (a0 : Value) (a1 : Value) (s : St) : Out := opt2 (oMov (.v (.int .i64 0)) rec PT.nil s) fun x1 s =>
 opt2 (oMov (.v (.int .i64 0)) rec PT.nil s) fun x2 s =>
 opt2 (oMov (.v a1) rec PT.nil s) fun x3 s =>
 opt2 (oBin (int2 (cmpO eqI)) (.v x3) (.v (.int .i64 4)) rec PT.nil s) fun x4 s =>
 opt2 (oMov (.v x4) rec PT.nil s) fun x5 s =>
 condV x5
 (opt2 (oMov (.v a0) rec PT.nil s) fun x6 s =>
 opt2 (rec 39 [x6] s) fun x7 s =>
 opt2 (oExtract (.v x7) 0 rec PT.nil s) fun x8 s =>
 opt2 (oExtract (.v x7) 1 rec PT.nil s) fun x9 s =>
 opt2 (oMov (.v x8) rec PT.nil s) fun x10 s =>
 opt2 (oMov (.v x9) rec PT.nil s) fun x11 s =>
 some (oneOf [x10, x11], s))
 (opt2 (oBin (int2 (cmpO eqI)) (.v x3) (.v (.int .i64 5)) rec PT.nil s) fun x12 s =>
 opt2 (oMov (.v x12) rec PT.nil s) fun x13 s =>
 condV x13
 (opt2 (oMov (.v a0) rec PT.nil s) fun x14 s =>
 opt2 (rec 40 [x14] s) fun x15 s =>
 opt2 (oExtract (.v x15) 0 rec PT.nil s) fun x16 s =>
 opt2 (oExtract (.v x15) 1 rec PT.nil s) fun x17 s =>
 opt2 (oMov (.v x16) rec PT.nil s) fun x18 s =>
 opt2 (oMov (.v x17) rec PT.nil s) fun x19 s =>
 some (oneOf [x18, x19], s))
 (opt2 (oBin (int2 (cmpO eqI)) (.v x3) (.v (.int .i64 6)) rec PT.nil s) fun x20 s =>
 opt2 (oMov (.v x20) rec PT.nil s) fun x21 s =>
 condV x21
 (opt2 (oMov (.v a0) rec PT.nil s) fun x22 s =>
 opt2 (rec 41 [x22] s) fun x23 s =>
 opt2 (oExtract (.v x23) 0 rec PT.nil s) fun x24 s =>
 opt2 (oExtract (.v x23) 1 rec PT.nil s) fun x25 s =>
 opt2 (oMov (.v x24) rec PT.nil s) fun x26 s =>
 opt2 (oMov (.v x25) rec PT.nil s) fun x27 s =>
 some (oneOf [x26, x27], s))
 (opt2 (oMov (.v a0) rec PT.nil s) fun x28 s =>
 opt2 (rec 25 [x28, (.func (.func 30) #[] #[])] s) fun x29 s =>
 opt2 (oMov (.v x29) rec PT.nil s) fun x30 s =>
 opt2 (oMov (.v x30) rec PT.nil s) fun x31 s =>
 opt2 (oMov (.v a0) rec PT.nil s) fun x32 s =>
 opt2 (oMov (.v x30) rec PT.nil s) fun x33 s =>
 opt2 (oSliceS (.v x32) none (some (.v x33)) rec PT.nil s) fun x34 s =>
 opt2 (rec 42 [x34, (.int .i64 4503599627370496)] s) fun x35 s =>
 opt2 (oMov (.v x31) rec PT.nil s) fun x36 s =>
 opt2 (oMov (.v x35) rec PT.nil s) fun x37 s =>
 some (oneOf [x36, x37], s))))
set_option maxHeartbeats 4000000 in
theorem d31 (rec : Rec) (N : Nat) (a0 : Value) (a1 : Value) (s : St) : callF rec N c31 [a0, a1] s = D31 rec N a0 a1 s := by
  rw [call_f _ _ _ _ _ rfl]
  simp (maxSteps := 4000000) only [c31, lenN, x_seq, x_ops, x_skip, x_ret, x_exit, x_cond, x_block, x_loop, ops_c, ops_n, op1_u, op1_gj, rq_c, rq_n, opQ_u, opQ_g, op2_op2, op2_op, op2_s, op2_cond, thenX_n, thenX_e, thenX_r, blkX_n, blkX_r, blkX_e, finX_r, finX_n, res_n, res_t, op_s, Nat.beq_refl, cond_true]
  first | done | kernel_rfl
def F31 (rec : Rec) (N : Nat) (a0 : Value) (a1 : Value) (s : St) : Out := opt2 (oBin (int2 (cmpO eqI)) (.v a1) (.v (.int .i64 4)) rec PT.nil s) fun x1 s =>
 condV x1
 (opt2 (rec 39 [a0] s) fun x2 s =>
 opt2 (oExtract (.v x2) 0 rec PT.nil s) fun x3 s =>
 opt2 (oExtract (.v x2) 1 rec PT.nil s) fun x4 s =>
 some (oneOf [x3, x4], s))
 (opt2 (oBin (int2 (cmpO eqI)) (.v a1) (.v (.int .i64 5)) rec PT.nil s) fun x5 s =>
 condV x5
 (opt2 (rec 40 [a0] s) fun x6 s =>
 opt2 (oExtract (.v x6) 0 rec PT.nil s) fun x7 s =>
 opt2 (oExtract (.v x6) 1 rec PT.nil s) fun x8 s =>
 some (oneOf [x7, x8], s))
 (opt2 (oBin (int2 (cmpO eqI)) (.v a1) (.v (.int .i64 6)) rec PT.nil s) fun x9 s =>
 condV x9
 (opt2 (rec 41 [a0] s) fun x10 s =>
 opt2 (oExtract (.v x10) 0 rec PT.nil s) fun x11 s =>
 opt2 (oExtract (.v x10) 1 rec PT.nil s) fun x12 s =>
 some (oneOf [x11, x12], s))
 (opt2 (rec 25 [a0, (.func (.func 30) #[] #[])] s) fun x13 s =>
 opt2 (oSliceS (.v a0) none (some (.v x13)) rec PT.nil s) fun x14 s =>
 opt2 (rec 42 [x14, (.int .i64 4503599627370496)] s) fun x15 s =>
 some (oneOf [x13, x15], s))))
set_option maxHeartbeats 4000000 in
theorem f31 (rec : Rec) (N : Nat) (a0 : Value) (a1 : Value) (s : St) : callF rec N c31 [a0, a1] s = F31 rec N a0 a1 s := by
  rw [d31]
  unfold D31 F31
  first
    | done
    | rfl
    | (simp (maxSteps := 4000000) only [mov_v, op2_s]; first | done | kernel_rfl)
    | kernel_rfl
-- c32
def D32 (rec : Rec) (N : Nat) (s : St) : Out := opt2 (oMov (.v (.slice none 0 0)) rec PT.nil s) fun x1 s =>
 opt2 (oBuildSlice 20 (rep 20 [(.string ⟨⟨[]⟩⟩)]) [(0, 1, (.v (.string ⟨⟨[60, 61]⟩⟩))), (1, 1, (.v (.string ⟨⟨[62, 61]⟩⟩))), (2, 1, (.v (.string ⟨⟨[61, 61]⟩⟩))), (3, 1, (.v (.string ⟨⟨[33, 61]⟩⟩))), (4, 1, (.v (.string ⟨⟨[40]⟩⟩))), (5, 1, (.v (.string ⟨⟨[41]⟩⟩))), (6, 1, (.v (.string ⟨⟨[123]⟩⟩))), (7, 1, (.v (.string ⟨⟨[125]⟩⟩))), (8, 1, (.v (.string ⟨⟨[91]⟩⟩))), (9, 1, (.v (.string ⟨⟨[93]⟩⟩))), (10, 1, (.v (.string ⟨⟨[44]⟩⟩))), (11, 1, (.v (.string ⟨⟨[59]⟩⟩))), (12, 1, (.v (.string ⟨⟨[58]⟩⟩))), (13, 1, (.v (.string ⟨⟨[61]⟩⟩))), (14, 1, (.v (.string ⟨⟨[43]⟩⟩))), (15, 1, (.v (.string ⟨⟨[45]⟩⟩))), (16, 1, (.v (.string ⟨⟨[42]⟩⟩))), (17, 1, (.v (.string ⟨⟨[47]⟩⟩))), (18, 1, (.v (.string ⟨⟨[60]⟩⟩))), (19, 1, (.v (.string ⟨⟨[62]⟩⟩)))] rec PT.nil s) fun x2 s =>
 opt2 (oMov (.v x2) rec PT.nil s) fun x3 s =>
 some (oneOf [x3], s)
set_option maxHeartbeats 4000000 in
theorem d32 (rec : Rec) (N : Nat) (s : St) : callF rec N c32 [] s = D32 rec N s := by
  rw [call_f _ _ _ _ _ rfl]
  simp (maxSteps := 4000000) only [c32, lenN, x_seq, x_ops, x_skip, x_ret, x_exit, x_cond, x_block, x_loop, ops_c, ops_n, op1_u, op1_gj, rq_c, rq_n, opQ_u, opQ_g, op2_op2, op2_op, op2_s, op2_cond, thenX_n, thenX_e, thenX_r, blkX_n, blkX_r, blkX_e, finX_r, finX_n, res_n, res_t, op_s, Nat.beq_refl, cond_true]
  first | done | kernel_rfl
def F32 (rec : Rec) (N : Nat) (s : St) : Out := opt2 (oBuildSlice 20 (rep 20 [(.string ⟨⟨[]⟩⟩)]) [(0, 1, (.v (.string ⟨⟨[60, 61]⟩⟩))), (1, 1, (.v (.string ⟨⟨[62, 61]⟩⟩))), (2, 1, (.v (.string ⟨⟨[61, 61]⟩⟩))), (3, 1, (.v (.string ⟨⟨[33, 61]⟩⟩))), (4, 1, (.v (.string ⟨⟨[40]⟩⟩))), (5, 1, (.v (.string ⟨⟨[41]⟩⟩))), (6, 1, (.v (.string ⟨⟨[123]⟩⟩))), (7, 1, (.v (.string ⟨⟨[125]⟩⟩))), (8, 1, (.v (.string ⟨⟨[91]⟩⟩))), (9, 1, (.v (.string ⟨⟨[93]⟩⟩))), (10, 1, (.v (.string ⟨⟨[44]⟩⟩))), (11, 1, (.v (.string ⟨⟨[59]⟩⟩))), (12, 1, (.v (.string ⟨⟨[58]⟩⟩))), (13, 1, (.v (.string ⟨⟨[61]⟩⟩))), (14, 1, (.v (.string ⟨⟨[43]⟩⟩))), (15, 1, (.v (.string ⟨⟨[45]⟩⟩))), (16, 1, (.v (.string ⟨⟨[42]⟩⟩))), (17, 1, (.v (.string ⟨⟨[47]⟩⟩))), (18, 1, (.v (.string ⟨⟨[60]⟩⟩))), (19, 1, (.v (.string ⟨⟨[62]⟩⟩)))] rec PT.nil s) fun x1 s =>
 some (oneOf [x1], s)
set_option maxHeartbeats 4000000 in
theorem f32 (rec : Rec) (N : Nat) (s : St) : callF rec N c32 [] s = F32 rec N s := by
  rw [d32]
  unfold D32 F32
  first
    | done
    | rfl
    | (simp (maxSteps := 4000000) only [mov_v, op2_s]; first | done | kernel_rfl)
    | kernel_rfl
-- c33
def D33 (rec : Rec) (N : Nat) (a0 : Value) (a1 : Value) (s : St) : Out := opt2 (oMov (.v (.bool false)) rec PT.nil s) fun x1 s =>
 opt2 (oMov (.v a0) rec PT.nil s) fun x2 s =>
 opt2 (oMov (.v a1) rec PT.nil s) fun x3 s =>
 opt2 (rec 43 [x2, x3] s) fun x4 s =>
 opt2 (oMov (.v x4) rec PT.nil s) fun x5 s =>
 some (oneOf [x5], s)
set_option maxHeartbeats 4000000 in
theorem d33 (rec : Rec) (N : Nat) (a0 : Value) (a1 : Value) (s : St) : callF rec N c33 [a0, a1] s = D33 rec N a0 a1 s := by
  rw [call_f _ _ _ _ _ rfl]
  simp (maxSteps := 4000000) only [c33, lenN, x_seq, x_ops, x_skip, x_ret, x_exit, x_cond, x_block, x_loop, ops_c, ops_n, op1_u, op1_gj, rq_c, rq_n, opQ_u, opQ_g, op2_op2, op2_op, op2_s, op2_cond, thenX_n, thenX_e, thenX_r, blkX_n, blkX_r, blkX_e, finX_r, finX_n, res_n, res_t, op_s, Nat.beq_refl, cond_true]
  first | done | kernel_rfl
def F33 (rec : Rec) (N : Nat) (a0 : Value) (a1 : Value) (s : St) : Out := opt2 (rec 43 [a0, a1] s) fun x1 s =>
 some (oneOf [x1], s)
set_option maxHeartbeats 4000000 in
theorem f33 (rec : Rec) (N : Nat) (a0 : Value) (a1 : Value) (s : St) : callF rec N c33 [a0, a1] s = F33 rec N a0 a1 s := by
  rw [d33]
  unfold D33 F33
  first
    | done
    | rfl
    | (simp (maxSteps := 4000000) only [mov_v, op2_s]; first | done | kernel_rfl)
    | kernel_rfl
-- c37
def D37_l0 (rec : Rec) (N : Nat) (fs : Frm) (s : St) : OutX := opt2 (oMov (.v (.int .i64 365)) rec PT.nil s) fun x1 s =>
 opt2 (oMov (.v (orU (fs.get t6))) rec PT.nil s) fun x2 s =>
 opt2 (rec 45 [x2] s) fun x3 s =>
 condV x3
 (opt2 (oMov (.v (.int .i64 366)) rec PT.nil s) fun x4 s =>
 opt2 (oMov (.v (orU (fs.get t0))) rec PT.nil s) fun x5 s =>
 opt2 (oMov (.v x4) rec PT.nil s) fun x6 s =>
 opt2 (oBin (int2 (cmpO ltI)) (.v x5) (.v x6) rec PT.nil s) fun x7 s =>
 condV x7
 (some ((.exit 0), (PT.put x7 t19 (PT.put x6 t18 (PT.put x5 t17 (PT.put x4 t7 (PT.put x3 t16 (PT.put x2 t15 (PT.put x1 t7 fs))))))), s))
 (opt2 (oMov (.v (orU (fs.get t0))) rec PT.nil s) fun x8 s =>
 opt2 (oMov (.v x4) rec PT.nil s) fun x9 s =>
 opt2 (oBin (int2 subO) (.v x8) (.v x9) rec PT.nil s) fun x10 s =>
 opt2 (oMov (.v x10) rec PT.nil s) fun x11 s =>
 opt2 (oMov (.v (orU (fs.get t6))) rec PT.nil s) fun x12 s =>
 opt2 (oBin (int2 addO) (.v x12) (.v (.int .i64 1)) rec PT.nil s) fun x13 s =>
 opt2 (oMov (.v x13) rec PT.nil s) fun x14 s =>
 some (.norm, (PT.put x14 t6 (PT.put x13 t24 (PT.put x12 t23 (PT.put x11 t0 (PT.put x10 t22 (PT.put x9 t21 (PT.put x8 t20 (PT.put x7 t19 (PT.put x6 t18 (PT.put x5 t17 (PT.put x4 t7 (PT.put x3 t16 (PT.put x2 t15 (PT.put x1 t7 fs)))))))))))))), s)))
 (opt2 (oMov (.v (orU (fs.get t0))) rec PT.nil s) fun x15 s =>
 opt2 (oMov (.v x1) rec PT.nil s) fun x16 s =>
 opt2 (oBin (int2 (cmpO ltI)) (.v x15) (.v x16) rec PT.nil s) fun x17 s =>
 condV x17
 (some ((.exit 0), (PT.put x17 t19 (PT.put x16 t18 (PT.put x15 t17 (PT.put x3 t16 (PT.put x2 t15 (PT.put x1 t7 fs)))))), s))
 (opt2 (oMov (.v (orU (fs.get t0))) rec PT.nil s) fun x18 s =>
 opt2 (oMov (.v x1) rec PT.nil s) fun x19 s =>
 opt2 (oBin (int2 subO) (.v x18) (.v x19) rec PT.nil s) fun x20 s =>
 opt2 (oMov (.v x20) rec PT.nil s) fun x21 s =>
 opt2 (oMov (.v (orU (fs.get t6))) rec PT.nil s) fun x22 s =>
 opt2 (oBin (int2 addO) (.v x22) (.v (.int .i64 1)) rec PT.nil s) fun x23 s =>
 opt2 (oMov (.v x23) rec PT.nil s) fun x24 s =>
 some (.norm, (PT.put x24 t6 (PT.put x23 t24 (PT.put x22 t23 (PT.put x21 t0 (PT.put x20 t22 (PT.put x19 t21 (PT.put x18 t20 (PT.put x17 t19 (PT.put x16 t18 (PT.put x15 t17 (PT.put x3 t16 (PT.put x2 t15 (PT.put x1 t7 fs))))))))))))), s)))
set_option maxHeartbeats 4000000 in
theorem d37_l0 (rec : Rec) (N : Nat) (fs : Frm) (s : St) : c37_l0 rec N fs s = D37_l0 rec N fs s := by
  simp (maxSteps := 4000000) only [c37_l0, lenN, x_seq, x_ops, x_skip, x_ret, x_exit, x_cond, x_block, x_loop, ops_c, ops_n, op1_u, op1_gj, rq_c, rq_n, opQ_u, opQ_g, op2_op2, op2_op, op2_s, op2_cond, thenX_n, thenX_e, thenX_r, blkX_n, blkX_r, blkX_e, finX_r, finX_n, res_n, res_t, op_s, Nat.beq_refl, cond_true]
  first | done | kernel_rfl
def D37_l1 (rec : Rec) (N : Nat) (fs : Frm) (s : St) : OutX := opt2 (oMov (.v (orU (fs.get t0))) rec PT.nil s) fun x1 s =>
 opt2 (oMov (.v (orU (fs.get t6))) rec PT.nil s) fun x2 s =>
 opt2 (oMov (.v (orU (fs.get t8))) rec PT.nil s) fun x3 s =>
 opt2 (rec 46 [x2, x3] s) fun x4 s =>
 opt2 (oBin (int2 (cmpO geI)) (.v x1) (.v x4) rec PT.nil s) fun x5 s =>
 condV x5
 (opt2 (oMov (.v (orU (fs.get t0))) rec PT.nil s) fun x6 s =>
 opt2 (oMov (.v (orU (fs.get t6))) rec PT.nil s) fun x7 s =>
 opt2 (oMov (.v (orU (fs.get t8))) rec PT.nil s) fun x8 s =>
 opt2 (rec 46 [x7, x8] s) fun x9 s =>
 opt2 (oBin (int2 subO) (.v x6) (.v x9) rec PT.nil s) fun x10 s =>
 opt2 (oMov (.v x10) rec PT.nil s) fun x11 s =>
 opt2 (oMov (.v (orU (fs.get t8))) rec PT.nil s) fun x12 s =>
 opt2 (oBin (int2 addO) (.v x12) (.v (.int .i64 1)) rec PT.nil s) fun x13 s =>
 opt2 (oMov (.v x13) rec PT.nil s) fun x14 s =>
 some (.norm, (PT.put x14 t8 (PT.put x13 t36 (PT.put x12 t35 (PT.put x11 t0 (PT.put x10 t34 (PT.put x9 t33 (PT.put x8 t32 (PT.put x7 t31 (PT.put x6 t30 (PT.put x5 t29 (PT.put x4 t28 (PT.put x3 t27 (PT.put x2 t26 (PT.put x1 t25 fs)))))))))))))), s))
 (some ((.exit 2), (PT.put x5 t29 (PT.put x4 t28 (PT.put x3 t27 (PT.put x2 t26 (PT.put x1 t25 fs))))), s))
set_option maxHeartbeats 4000000 in
theorem d37_l1 (rec : Rec) (N : Nat) (fs : Frm) (s : St) : c37_l1 rec N fs s = D37_l1 rec N fs s := by
  simp (maxSteps := 4000000) only [c37_l1, lenN, x_seq, x_ops, x_skip, x_ret, x_exit, x_cond, x_block, x_loop, ops_c, ops_n, op1_u, op1_gj, rq_c, rq_n, opQ_u, opQ_g, op2_op2, op2_op, op2_s, op2_cond, thenX_n, thenX_e, thenX_r, blkX_n, blkX_r, blkX_e, finX_r, finX_n, res_n, res_t, op_s, Nat.beq_refl, cond_true]
  first | done | kernel_rfl
def D37_r0 (rec : Rec) (N : Nat) (fs : Frm) (s : St) : OutX := opt2 (oMov (.v (orU (fs.get t6))) rec PT.nil s) fun x1 s =>
 opt2 (oMov (.v (orU (fs.get t8))) rec PT.nil s) fun x2 s =>
 opt2 (oMov (.v (orU (fs.get t0))) rec PT.nil s) fun x3 s =>
 opt2 (oBin (int2 addO) (.v x3) (.v (.int .i64 1)) rec PT.nil s) fun x4 s =>
 opt2 (oMov (.v x1) rec PT.nil s) fun x5 s =>
 opt2 (oMov (.v x2) rec PT.nil s) fun x6 s =>
 opt2 (oMov (.v x4) rec PT.nil s) fun x7 s =>
 opt2 (oMov (.v (.bool true)) rec PT.nil s) fun x8 s =>
 some (.ret, (PT.put x8 t5 (PT.put x7 t4 (PT.put x6 t3 (PT.put x5 t2 (PT.put x4 t40 (PT.put x3 t39 (PT.put x2 t38 (PT.put x1 t37 fs)))))))), s)
set_option maxHeartbeats 4000000 in
theorem d37_r0 (rec : Rec) (N : Nat) (fs : Frm) (s : St) : c37_r0 rec N fs s = D37_r0 rec N fs s := by
  simp (maxSteps := 4000000) only [c37_r0, lenN, x_seq, x_ops, x_skip, x_ret, x_exit, x_cond, x_block, x_loop, ops_c, ops_n, op1_u, op1_gj, rq_c, rq_n, opQ_u, opQ_g, op2_op2, op2_op, op2_s, op2_cond, thenX_n, thenX_e, thenX_r, blkX_n, blkX_r, blkX_e, finX_r, finX_n, res_n, res_t, op_s, Nat.beq_refl, cond_true]
  first | done | kernel_rfl
def D37_r1 (rec : Rec) (N : Nat) (fs : Frm) (s : St) : OutX := opt2 (oMov (.v (.int .i64 1)) rec PT.nil s) fun x1 s =>
 opt2 (loopF (c37_l1 rec N) N (PT.put x1 t8 fs) s) fun e r => opt2 (blkX 2 e r) fun e r => thenX (c37_r0 rec N) e r
set_option maxHeartbeats 4000000 in
theorem d37_r1 (rec : Rec) (N : Nat) (fs : Frm) (s : St) : c37_r1 rec N fs s = D37_r1 rec N fs s := by
  simp (maxSteps := 4000000) only [c37_r1, lenN, x_seq, x_ops, x_skip, x_ret, x_exit, x_cond, x_block, x_loop, ops_c, ops_n, op1_u, op1_gj, rq_c, rq_n, opQ_u, opQ_g, op2_op2, op2_op, op2_s, op2_cond, thenX_n, thenX_e, thenX_r, blkX_n, blkX_r, blkX_e, finX_r, finX_n, res_n, res_t, op_s, Nat.beq_refl, cond_true]
  first | done | kernel_rfl
def D37 (rec : Rec) (N : Nat) (a0 : Value) (s : St) : Out := opt2 (oMov (.v (.int .i64 0)) rec PT.nil s) fun x1 s =>
 opt2 (oMov (.v (.int .i64 0)) rec PT.nil s) fun x2 s =>
 opt2 (oMov (.v (.int .i64 0)) rec PT.nil s) fun x3 s =>
 opt2 (oMov (.v (.bool false)) rec PT.nil s) fun x4 s =>
 opt2 (oMov (.v a0) rec PT.nil s) fun x5 s =>
 opt2 (oBin (int2 (cmpO ltI)) (.v x5) (.v (.int .i64 0)) rec PT.nil s) fun x6 s =>
 opt2 (oMov (.v x6) rec PT.nil s) fun x7 s =>
 opt (gval false x7) fun x8 => opt2 (orUndef x8 (oMov (.v a0) rec PT.nil s) s) fun x9 s =>
 opt (gval false x7) fun x10 => opt2 (orUndef x10 (oBin (int2 (cmpO gtI)) (.v x9) (.v (.int .i64 109572)) rec PT.nil s) s) fun x11 s =>
 opt2 (oPick (.v x7) (.v (.bool true)) (.v x11) rec PT.nil s) fun x12 s =>
 condV x12
 (opt2 (oMov (.v (.int .i64 0)) rec PT.nil s) fun x13 s =>
 opt2 (oMov (.v (.int .i64 0)) rec PT.nil s) fun x14 s =>
 opt2 (oMov (.v (.int .i64 0)) rec PT.nil s) fun x15 s =>
 opt2 (oMov (.v (.bool false)) rec PT.nil s) fun x16 s =>
 some (oneOf [x13, x14, x15, x16], s))
 (opt2 (oMov (.v (.int .i64 1900)) rec PT.nil s) fun x17 s =>
 opt2 (loopF (c37_l0 rec N) N (PT.put x17 t6 (PT.put x12 t14 (PT.put x11 t13 (PT.put x9 t12 (PT.put x7 t11 (PT.put x6 t10 (PT.put x5 t9 (PT.put x4 t5 (PT.put x3 t4 (PT.put x2 t3 (PT.put x1 t2 (PT.put a0 t0 PT.nil)))))))))))) s) fun e r => opt2 (blkX 0 e r) fun e r => opt2 (thenX (c37_r1 rec N) e r) fun e r => finX [.tmp t2, .tmp t3, .tmp t4, .tmp t5] e r)
set_option maxHeartbeats 4000000 in
theorem d37 (rec : Rec) (N : Nat) (a0 : Value) (s : St) : callF rec N c37 [a0] s = D37 rec N a0 s := by
  rw [call_f _ _ _ _ _ rfl]
  simp (maxSteps := 4000000) only [c37, lenN, x_seq, x_ops, x_skip, x_ret, x_exit, x_cond, x_block, x_loop, ops_c, ops_n, op1_u, op1_gj, rq_c, rq_n, opQ_u, opQ_g, op2_op2, op2_op, op2_s, op2_cond, thenX_n, thenX_e, thenX_r, blkX_n, blkX_r, blkX_e, finX_r, finX_n, res_n, res_t, op_s, Nat.beq_refl, cond_true]
  first | done | kernel_rfl
def J37_r0 (rec : Rec) (N : Nat) (k : Value × Value × Value) (s : St) : Out := opt2 (oBin (int2 addO) (.v k.1) (.v (.int .i64 1)) rec PT.nil s) fun x1 s =>
 some (oneOf [k.2.1, k.2.2, x1, (.bool true)], s)
set_option maxHeartbeats 4000000 in
theorem j37_r0 (rec : Rec) (N : Nat) (fs : Frm) (s : St) : opt2 (c37_r0 rec N fs s) (fun e r => finX [.tmp t2, .tmp t3, .tmp t4, .tmp t5] e r) = J37_r0 rec N (orU (fs.get t0), orU (fs.get t6), orU (fs.get t8)) s := by
  rw [d37_r0]
  unfold D37_r0 J37_r0
  simp (maxSteps := 4000000) only [thenX_n, thenX_e, thenX_r, x_exit, x_skip, x_ret, blkX_n, blkX_r, blkX_e, finX_r, finX_n, res_n, res_t, op2_op2, op2_op, op2_s, op2_cond, op2_bf, mov_v]
  first | done | kernel_rfl
def B37_l1 (rec : Rec) (N : Nat) (k : Value × Value × Value × Value × Value) (v : Value × Value) (s : St) : OutV (Value × Value) := opt2 (rec 46 [k.2.2.2.2, v.2] s) fun x1 s =>
 opt2 (oBin (int2 (cmpO geI)) (.v v.1) (.v x1) rec PT.nil s) fun x2 s =>
 condV x2
 (opt2 (rec 46 [k.2.2.2.2, v.2] s) fun x3 s =>
 opt2 (oBin (int2 subO) (.v v.1) (.v x3) rec PT.nil s) fun x4 s =>
 opt2 (oBin (int2 addO) (.v v.2) (.v (.int .i64 1)) rec PT.nil s) fun x5 s =>
 some (.norm, ((x4, x5), s)))
 (some ((.exit 2), ((v.1, v.2), s)))
set_option maxHeartbeats 4000000 in
theorem s37_l1 (rec : Rec) (N : Nat) (fs : Frm) (s : St) : opt2 (c37_l1 rec N fs s) (fun e r => some (e, (((orU (r.1.get t0), orU (r.1.get t8)), (orU (r.1.get t2), orU (r.1.get t3), orU (r.1.get t4), orU (r.1.get t5), orU (r.1.get t6))), r.2))) = opt2 (B37_l1 rec N (orU (fs.get t2), orU (fs.get t3), orU (fs.get t4), orU (fs.get t5), orU (fs.get t6)) (orU (fs.get t0), orU (fs.get t8)) s) fun e r => some (e, ((r.1, (orU (fs.get t2), orU (fs.get t3), orU (fs.get t4), orU (fs.get t5), orU (fs.get t6))), r.2)) := by
  rw [d37_l1]
  unfold D37_l1 B37_l1
  simp (maxSteps := 4000000) only [op2_op2, op2_op, op2_s, op2_cond, op2_bf, mov_v]
  first | done | kernel_rfl
def C37_l1 (rec : Rec) (N : Nat) (k : Value × Value × Value × Value × Value) (e : AExit) (r : (Value × Value) × St) : Out := (fun s => exV (fun i => bif Nat.beq i 2 then (J37_r0 rec N (r.1.1, k.2.2.2.2, r.1.2) s)
 else (none))
 (some (oneOf [k.1, k.2.1, k.2.2.1, k.2.2.2.1], s)) e) r.2
theorem j37_l1 (rec : Rec) (N : Nat) (fs : Frm) (s : St) : opt2 (loopF (c37_l1 rec N) N fs s) (fun e r => opt2 (blkX 2 e r) fun e r => opt2 (thenX (c37_r0 rec N) e r) fun e r => finX [.tmp t2, .tmp t3, .tmp t4, .tmp t5] e r) = opt2 (loopV (B37_l1 rec N (orU (fs.get t2), orU (fs.get t3), orU (fs.get t4), orU (fs.get t5), orU (fs.get t6))) N (orU (fs.get t0), orU (fs.get t8)) s) (C37_l1 rec N (orU (fs.get t2), orU (fs.get t3), orU (fs.get t4), orU (fs.get t5), orU (fs.get t6))) := by
  refine loop_j (fun fs => (orU (fs.get t0), orU (fs.get t8))) (fun fs => (orU (fs.get t2), orU (fs.get t3), orU (fs.get t4), orU (fs.get t5), orU (fs.get t6))) (B37_l1 rec N) (c37_l1 rec N) (s37_l1 rec N) (fun e r => opt2 (blkX 2 e r) fun e r => opt2 (thenX (c37_r0 rec N) e r) fun e r => finX [.tmp t2, .tmp t3, .tmp t4, .tmp t5] e r) (C37_l1 rec N) ?_ ?_ N fs s
  · intro i fs s
    unfold C37_l1
    simp (maxSteps := 4000000) only [thenX_n, thenX_e, thenX_r, x_exit, x_skip, x_ret, blkX_n, blkX_r, blkX_e, finX_r, finX_n, res_n, res_t, exV_e, exV_r, op2_op2, op2_op, op2_s, op2_cond, op2_bf, mov_v, j37_r0 rec N]
    first | done | kernel_rfl
  · intro fs s
    unfold C37_l1
    simp (maxSteps := 4000000) only [thenX_n, thenX_e, thenX_r, x_exit, x_skip, x_ret, blkX_n, blkX_r, blkX_e, finX_r, finX_n, res_n, res_t, exV_e, exV_r, op2_op2, op2_op, op2_s, op2_cond, op2_bf, mov_v, j37_r0 rec N]
    first | done | kernel_rfl
def J37_r1 (rec : Rec) (N : Nat) (k : Value × Value × Value × Value × Value × Value) (s : St) : Out := opt2 (loopV (B37_l1 rec N (k.2.1, k.2.2.1, k.2.2.2.1, k.2.2.2.2.1, k.2.2.2.2.2)) N (k.1, (.int .i64 1)) s) (C37_l1 rec N (k.2.1, k.2.2.1, k.2.2.2.1, k.2.2.2.2.1, k.2.2.2.2.2))
set_option maxHeartbeats 4000000 in
theorem j37_r1 (rec : Rec) (N : Nat) (fs : Frm) (s : St) : opt2 (c37_r1 rec N fs s) (fun e r => finX [.tmp t2, .tmp t3, .tmp t4, .tmp t5] e r) = J37_r1 rec N (orU (fs.get t0), orU (fs.get t2), orU (fs.get t3), orU (fs.get t4), orU (fs.get t5), orU (fs.get t6)) s := by
  rw [d37_r1]
  unfold D37_r1 J37_r1
  simp (maxSteps := 4000000) only [thenX_n, thenX_e, thenX_r, x_exit, x_skip, x_ret, blkX_n, blkX_r, blkX_e, finX_r, finX_n, res_n, res_t, op2_op2, op2_op, op2_s, op2_cond, op2_bf, mov_v, j37_l1 rec N]
  first | done | kernel_rfl
def B37_l0 (rec : Rec) (N : Nat) (k : Value × Value × Value × Value) (v : Value × Value) (s : St) : OutV (Value × Value) := opt2 (rec 45 [v.2] s) fun x1 s =>
 condV x1
 (opt2 (oBin (int2 (cmpO ltI)) (.v v.1) (.v (.int .i64 366)) rec PT.nil s) fun x2 s =>
 condV x2
 (some ((.exit 0), ((v.1, v.2), s)))
 (opt2 (oBin (int2 subO) (.v v.1) (.v (.int .i64 366)) rec PT.nil s) fun x3 s =>
 opt2 (oBin (int2 addO) (.v v.2) (.v (.int .i64 1)) rec PT.nil s) fun x4 s =>
 some (.norm, ((x3, x4), s))))
 (opt2 (oBin (int2 (cmpO ltI)) (.v v.1) (.v (.int .i64 365)) rec PT.nil s) fun x5 s =>
 condV x5
 (some ((.exit 0), ((v.1, v.2), s)))
 (opt2 (oBin (int2 subO) (.v v.1) (.v (.int .i64 365)) rec PT.nil s) fun x6 s =>
 opt2 (oBin (int2 addO) (.v v.2) (.v (.int .i64 1)) rec PT.nil s) fun x7 s =>
 some (.norm, ((x6, x7), s))))
set_option maxHeartbeats 4000000 in
theorem s37_l0 (rec : Rec) (N : Nat) (fs : Frm) (s : St) : opt2 (c37_l0 rec N fs s) (fun e r => some (e, (((orU (r.1.get t0), orU (r.1.get t6)), (orU (r.1.get t2), orU (r.1.get t3), orU (r.1.get t4), orU (r.1.get t5))), r.2))) = opt2 (B37_l0 rec N (orU (fs.get t2), orU (fs.get t3), orU (fs.get t4), orU (fs.get t5)) (orU (fs.get t0), orU (fs.get t6)) s) fun e r => some (e, ((r.1, (orU (fs.get t2), orU (fs.get t3), orU (fs.get t4), orU (fs.get t5))), r.2)) := by
  rw [d37_l0]
  unfold D37_l0 B37_l0
  simp (maxSteps := 4000000) only [op2_op2, op2_op, op2_s, op2_cond, op2_bf, mov_v]
  first | done | kernel_rfl
def C37_l0 (rec : Rec) (N : Nat) (k : Value × Value × Value × Value) (e : AExit) (r : (Value × Value) × St) : Out := (fun s => exV (fun i => bif Nat.beq i 0 then (J37_r1 rec N (r.1.1, k.1, k.2.1, k.2.2.1, k.2.2.2, r.1.2) s)
 else (none))
 (some (oneOf [k.1, k.2.1, k.2.2.1, k.2.2.2], s)) e) r.2
theorem j37_l0 (rec : Rec) (N : Nat) (fs : Frm) (s : St) : opt2 (loopF (c37_l0 rec N) N fs s) (fun e r => opt2 (blkX 0 e r) fun e r => opt2 (thenX (c37_r1 rec N) e r) fun e r => finX [.tmp t2, .tmp t3, .tmp t4, .tmp t5] e r) = opt2 (loopV (B37_l0 rec N (orU (fs.get t2), orU (fs.get t3), orU (fs.get t4), orU (fs.get t5))) N (orU (fs.get t0), orU (fs.get t6)) s) (C37_l0 rec N (orU (fs.get t2), orU (fs.get t3), orU (fs.get t4), orU (fs.get t5))) := by
  refine loop_j (fun fs => (orU (fs.get t0), orU (fs.get t6))) (fun fs => (orU (fs.get t2), orU (fs.get t3), orU (fs.get t4), orU (fs.get t5))) (B37_l0 rec N) (c37_l0 rec N) (s37_l0 rec N) (fun e r => opt2 (blkX 0 e r) fun e r => opt2 (thenX (c37_r1 rec N) e r) fun e r => finX [.tmp t2, .tmp t3, .tmp t4, .tmp t5] e r) (C37_l0 rec N) ?_ ?_ N fs s
  · intro i fs s
    unfold C37_l0
    simp (maxSteps := 4000000) only [thenX_n, thenX_e, thenX_r, x_exit, x_skip, x_ret, blkX_n, blkX_r, blkX_e, finX_r, finX_n, res_n, res_t, exV_e, exV_r, op2_op2, op2_op, op2_s, op2_cond, op2_bf, mov_v, j37_r1 rec N]
    first | done | kernel_rfl
  · intro fs s
    unfold C37_l0
    simp (maxSteps := 4000000) only [thenX_n, thenX_e, thenX_r, x_exit, x_skip, x_ret, blkX_n, blkX_r, blkX_e, finX_r, finX_n, res_n, res_t, exV_e, exV_r, op2_op2, op2_op, op2_s, op2_cond, op2_bf, mov_v, j37_r1 rec N]
    first | done | kernel_rfl
def F37 (rec : Rec) (N : Nat) (a0 : Value) (s : St) : Out := opt2 (oBin (int2 (cmpO ltI)) (.v a0) (.v (.int .i64 0)) rec PT.nil s) fun x1 s =>
 opt (gval false x1) fun x2 => opt2 (orUndef x2 (some (a0, s)) s) fun x3 s =>
 opt (gval false x1) fun x4 => opt2 (orUndef x4 (oBin (int2 (cmpO gtI)) (.v x3) (.v (.int .i64 109572)) rec PT.nil s) s) fun x5 s =>
 opt2 (oPick (.v x1) (.v (.bool true)) (.v x5) rec PT.nil s) fun x6 s =>
 condV x6
 (some (oneOf [(.int .i64 0), (.int .i64 0), (.int .i64 0), (.bool false)], s))
 (opt2 (loopV (B37_l0 rec N ((.int .i64 0), (.int .i64 0), (.int .i64 0), (.bool false))) N (a0, (.int .i64 1900)) s) (C37_l0 rec N ((.int .i64 0), (.int .i64 0), (.int .i64 0), (.bool false))))
theorem f37 (rec : Rec) (N : Nat) (a0 : Value) (s : St) : callF rec N c37 [a0] s = F37 rec N a0 s := by
  rw [d37]
  unfold D37 F37
  simp (maxSteps := 4000000) only [mov_v, op2_s, j37_l0 rec N]
  first | done | kernel_rfl
-- c38
def D38 (rec : Rec) (N : Nat) (a0 : Value) (s : St) : Out := opt2 (oMov (.v (.string ⟨⟨[]⟩⟩)) rec PT.nil s) fun x1 s =>
 opt2 (oMov (.v a0) rec PT.nil s) fun x2 s =>
 opt2 (oBin (int2 quoO) (.v x2) (.v (.int .i64 10)) rec PT.nil s) fun x3 s =>
 opt2 (oBin (int2 remO) (.v x3) (.v (.int .i64 10)) rec PT.nil s) fun x4 s =>
 opt2 (oBin (int2 addO) (.v (.int .i64 48)) (.v x4) rec PT.nil s) fun x5 s =>
 opt2 (oConv .u8 (.v x5) rec PT.nil s) fun x6 s =>
 opt2 (oMov (.v a0) rec PT.nil s) fun x7 s =>
 opt2 (oBin (int2 remO) (.v x7) (.v (.int .i64 10)) rec PT.nil s) fun x8 s =>
 opt2 (oBin (int2 addO) (.v (.int .i64 48)) (.v x8) rec PT.nil s) fun x9 s =>
 opt2 (oConv .u8 (.v x9) rec PT.nil s) fun x10 s =>
 opt2 (oBuildSlice 2 [(.int .u8 0), (.int .u8 0)] [(0, 1, (.v x6)), (1, 1, (.v x10))] rec PT.nil s) fun x11 s =>
 opt2 (oBytesStr (.v x11) rec PT.nil s) fun x12 s =>
 opt2 (oMov (.v x12) rec PT.nil s) fun x13 s =>
 some (oneOf [x13], s)
set_option maxHeartbeats 4000000 in
theorem d38 (rec : Rec) (N : Nat) (a0 : Value) (s : St) : callF rec N c38 [a0] s = D38 rec N a0 s := by
  rw [call_f _ _ _ _ _ rfl]
  simp (maxSteps := 4000000) only [c38, lenN, x_seq, x_ops, x_skip, x_ret, x_exit, x_cond, x_block, x_loop, ops_c, ops_n, op1_u, op1_gj, rq_c, rq_n, opQ_u, opQ_g, op2_op2, op2_op, op2_s, op2_cond, thenX_n, thenX_e, thenX_r, blkX_n, blkX_r, blkX_e, finX_r, finX_n, res_n, res_t, op_s, Nat.beq_refl, cond_true]
  first | done | kernel_rfl
def F38 (rec : Rec) (N : Nat) (a0 : Value) (s : St) : Out := opt2 (oBin (int2 quoO) (.v a0) (.v (.int .i64 10)) rec PT.nil s) fun x1 s =>
 opt2 (oBin (int2 remO) (.v x1) (.v (.int .i64 10)) rec PT.nil s) fun x2 s =>
 opt2 (oBin (int2 addO) (.v (.int .i64 48)) (.v x2) rec PT.nil s) fun x3 s =>
 opt2 (oConv .u8 (.v x3) rec PT.nil s) fun x4 s =>
 opt2 (oBin (int2 remO) (.v a0) (.v (.int .i64 10)) rec PT.nil s) fun x5 s =>
 opt2 (oBin (int2 addO) (.v (.int .i64 48)) (.v x5) rec PT.nil s) fun x6 s =>
 opt2 (oConv .u8 (.v x6) rec PT.nil s) fun x7 s =>
 opt2 (oBuildSlice 2 [(.int .u8 0), (.int .u8 0)] [(0, 1, (.v x4)), (1, 1, (.v x7))] rec PT.nil s) fun x8 s =>
 opt2 (oBytesStr (.v x8) rec PT.nil s) fun x9 s =>
 some (oneOf [x9], s)
set_option maxHeartbeats 4000000 in
theorem f38 (rec : Rec) (N : Nat) (a0 : Value) (s : St) : callF rec N c38 [a0] s = F38 rec N a0 s := by
  rw [d38]
  unfold D38 F38
  first
    | done
    | rfl
    | (simp (maxSteps := 4000000) only [mov_v, op2_s]; first | done | kernel_rfl)
    | kernel_rfl
-- c39
def D39_j0 (rec : Rec) (N : Nat) (fs : Frm) (s : St) : OutX := opt2 (oMov (.v (orU (fs.get t5))) rec PT.nil s) fun x1 s =>
 opt2 (oBin (int2 (cmpO gtI)) (.v x1) (.v (.int .i64 4503599627370496)) rec PT.nil s) fun x2 s =>
 condV x2
 (opt2 (oMov (.v (.int .i64 (-1))) rec PT.nil s) fun x3 s =>
 opt2 (oMov (.v (orU (fs.get t4))) rec PT.nil s) fun x4 s =>
 opt2 (oMov (.v x3) rec PT.nil s) fun x5 s =>
 opt2 (oMov (.v x4) rec PT.nil s) fun x6 s =>
 opt2 (oMov (.v x5) rec PT.nil s) fun x7 s =>
 some (.ret, (PT.put x7 t3 (PT.put x6 t2 (PT.put x5 t48 (PT.put x4 t47 (PT.put x3 t5 (PT.put x2 t46 (PT.put x1 t45 fs))))))), s))
 (opt2 (oMov (.v (orU (fs.get t4))) rec PT.nil s) fun x8 s =>
 opt2 (oMov (.v (orU (fs.get t5))) rec PT.nil s) fun x9 s =>
 opt2 (oMov (.v x8) rec PT.nil s) fun x10 s =>
 opt2 (oMov (.v x9) rec PT.nil s) fun x11 s =>
 some (.ret, (PT.put x11 t3 (PT.put x10 t2 (PT.put x9 t48 (PT.put x8 t47 (PT.put x2 t46 (PT.put x1 t45 fs)))))), s))
set_option maxHeartbeats 4000000 in
theorem d39_j0 (rec : Rec) (N : Nat) (fs : Frm) (s : St) : c39_j0 rec N fs s = D39_j0 rec N fs s := by
  simp (maxSteps := 4000000) only [c39_j0, lenN, x_seq, x_ops, x_skip, x_ret, x_exit, x_cond, x_block, x_loop, ops_c, ops_n, op1_u, op1_gj, rq_c, rq_n, opQ_u, opQ_g, op2_op2, op2_op, op2_s, op2_cond, thenX_n, thenX_e, thenX_r, blkX_n, blkX_r, blkX_e, finX_r, finX_n, res_n, res_t, op_s, Nat.beq_refl, cond_true]
  first | done | kernel_rfl
def D39 (rec : Rec) (N : Nat) (a0 : Value) (s : St) : Out := opt2 (oMov (.v (.int .i64 0)) rec PT.nil s) fun x1 s =>
 opt2 (oMov (.v (.int .i64 0)) rec PT.nil s) fun x2 s =>
 opt2 (oMov (.v a0) rec PT.nil s) fun x3 s =>
 opt2 (oSliceS (.v x3) (some (.v (.int .i64 1))) none rec PT.nil s) fun x4 s =>
 opt2 (rec 25 [x4, (.func (.func 30) #[] #[])] s) fun x5 s =>
 opt2 (oBin (int2 addO) (.v (.int .i64 1)) (.v x5) rec PT.nil s) fun x6 s =>
 opt2 (oMov (.v x6) rec PT.nil s) fun x7 s =>
 opt2 (oMov (.v a0) rec PT.nil s) fun x8 s =>
 opt2 (oIdxS (.v x8) (.v (.int .i64 0)) rec PT.nil s) fun x9 s =>
 opt2 (oBin (int2 (cmpO neI)) (.v x9) (.v (.int .u8 36)) rec PT.nil s) fun x10 s =>
 opt2 (oMov (.v x10) rec PT.nil s) fun x11 s =>
 opt (gval false x11) fun x12 => opt2 (orUndef x12 (oMov (.v x7) rec PT.nil s) s) fun x13 s =>
 opt (gval false x11) fun x14 => opt2 (orUndef x14 (oBin (int2 (cmpO eqI)) (.v x13) (.v (.int .i64 1)) rec PT.nil s) s) fun x15 s =>
 opt2 (oPick (.v x11) (.v (.bool true)) (.v x15) rec PT.nil s) fun x16 s =>
 condV x16
 (opt2 (oMov (.v (.int .i64 0)) rec PT.nil s) fun x17 s =>
 opt2 (oMov (.v (.int .i64 0)) rec PT.nil s) fun x18 s =>
 some (oneOf [x17, x18], s))
 (opt2 (oMov (.v a0) rec PT.nil s) fun x19 s =>
 opt2 (oMov (.v x7) rec PT.nil s) fun x20 s =>
 opt2 (oSliceS (.v x19) (some (.v (.int .i64 1))) (some (.v x20)) rec PT.nil s) fun x21 s =>
 opt2 (rec 42 [x21, (.int .i64 4503599627370496)] s) fun x22 s =>
 opt2 (oMov (.v x22) rec PT.nil s) fun x23 s =>
 opt2 (oMov (.v a0) rec PT.nil s) fun x24 s =>
 opt2 (oMov (.v x7) rec PT.nil s) fun x25 s =>
 opt2 (oSliceS (.v x24) (some (.v x25)) none rec PT.nil s) fun x26 s =>
 opt2 (rec 47 [x26, (.int .i64 2)] s) fun x27 s =>
 opt2 (oBin (int2 (cmpO eqI)) (.v x27) (.v (.int .i64 2)) rec PT.nil s) fun x28 s =>
 condV x28
 (opt2 (oMov (.v x23) rec PT.nil s) fun x29 s =>
 opt2 (oBin (int2 (cmpO geI)) (.v x29) (.v (.int .i64 0)) rec PT.nil s) fun x30 s =>
 condV x30
 (opt2 (oMov (.v x23) rec PT.nil s) fun x31 s =>
 opt2 (oBin (int2 mulO) (.v x31) (.v (.int .i64 100)) rec PT.nil s) fun x32 s =>
 opt2 (oMov (.v a0) rec PT.nil s) fun x33 s =>
 opt2 (oMov (.v x7) rec PT.nil s) fun x34 s =>
 opt2 (oBin (int2 addO) (.v x34) (.v (.int .i64 1)) rec PT.nil s) fun x35 s =>
 opt2 (oMov (.v x7) rec PT.nil s) fun x36 s =>
 opt2 (oBin (int2 addO) (.v x36) (.v (.int .i64 3)) rec PT.nil s) fun x37 s =>
 opt2 (oSliceS (.v x33) (some (.v x35)) (some (.v x37)) rec PT.nil s) fun x38 s =>
 opt2 (rec 42 [x38, (.int .i64 100)] s) fun x39 s =>
 opt2 (oBin (int2 addO) (.v x32) (.v x39) rec PT.nil s) fun x40 s =>
 opt2 (oMov (.v x40) rec PT.nil s) fun x41 s =>
 opt2 (oMov (.v x7) rec PT.nil s) fun x42 s =>
 opt2 (oBin (int2 addO) (.v x42) (.v (.int .i64 3)) rec PT.nil s) fun x43 s =>
 opt2 (oMov (.v x43) rec PT.nil s) fun x44 s =>
 opt2 (c39_j0 rec N (PT.put x44 t4 (PT.put x43 t39 (PT.put x42 t38 (PT.put x41 t5 (PT.put x40 t37 (PT.put x39 t36 (PT.put x38 t35 (PT.put x37 t34 (PT.put x36 t33 (PT.put x35 t32 (PT.put x34 t31 (PT.put x33 t30 (PT.put x32 t29 (PT.put x31 t28 (PT.put x30 t27 (PT.put x29 t26 (PT.put x28 t25 (PT.put x27 t24 (PT.put x26 t23 (PT.put x25 t22 (PT.put x24 t21 (PT.put x23 t5 (PT.put x22 t20 (PT.put x21 t19 (PT.put x20 t18 (PT.put x19 t17 (PT.put x16 t16 (PT.put x15 t15 (PT.put x13 t14 (PT.put x11 t13 (PT.put x10 t12 (PT.put x9 t11 (PT.put x8 t10 (PT.put x7 t4 (PT.put x6 t9 (PT.put x5 t8 (PT.put x4 t7 (PT.put x3 t6 (PT.put x2 t3 (PT.put x1 t2 (PT.put a0 t0 PT.nil))))))))))))))))))))))))))))))))))))))))) s) fun e r => finX [.tmp t2, .tmp t3] e r)
 (opt2 (oMov (.v x7) rec PT.nil s) fun x45 s =>
 opt2 (oBin (int2 addO) (.v x45) (.v (.int .i64 3)) rec PT.nil s) fun x46 s =>
 opt2 (oMov (.v x46) rec PT.nil s) fun x47 s =>
 opt2 (c39_j0 rec N (PT.put x47 t4 (PT.put x46 t39 (PT.put x45 t38 (PT.put x30 t27 (PT.put x29 t26 (PT.put x28 t25 (PT.put x27 t24 (PT.put x26 t23 (PT.put x25 t22 (PT.put x24 t21 (PT.put x23 t5 (PT.put x22 t20 (PT.put x21 t19 (PT.put x20 t18 (PT.put x19 t17 (PT.put x16 t16 (PT.put x15 t15 (PT.put x13 t14 (PT.put x11 t13 (PT.put x10 t12 (PT.put x9 t11 (PT.put x8 t10 (PT.put x7 t4 (PT.put x6 t9 (PT.put x5 t8 (PT.put x4 t7 (PT.put x3 t6 (PT.put x2 t3 (PT.put x1 t2 (PT.put a0 t0 PT.nil)))))))))))))))))))))))))))))) s) fun e r => finX [.tmp t2, .tmp t3] e r))
 (opt2 (oMov (.v x23) rec PT.nil s) fun x48 s =>
 opt2 (oBin (int2 (cmpO geI)) (.v x48) (.v (.int .i64 0)) rec PT.nil s) fun x49 s =>
 condV x49
 (opt2 (oMov (.v x23) rec PT.nil s) fun x50 s =>
 opt2 (oMM false (.v x50) [(.v (.int .i64 4503599627370496))] rec PT.nil s) fun x51 s =>
 opt2 (oBin (int2 mulO) (.v x51) (.v (.int .i64 100)) rec PT.nil s) fun x52 s =>
 opt2 (oMov (.v x52) rec PT.nil s) fun x53 s =>
 opt2 (c39_j0 rec N (PT.put x53 t5 (PT.put x52 t44 (PT.put x51 t43 (PT.put x50 t42 (PT.put x49 t41 (PT.put x48 t40 (PT.put x28 t25 (PT.put x27 t24 (PT.put x26 t23 (PT.put x25 t22 (PT.put x24 t21 (PT.put x23 t5 (PT.put x22 t20 (PT.put x21 t19 (PT.put x20 t18 (PT.put x19 t17 (PT.put x16 t16 (PT.put x15 t15 (PT.put x13 t14 (PT.put x11 t13 (PT.put x10 t12 (PT.put x9 t11 (PT.put x8 t10 (PT.put x7 t4 (PT.put x6 t9 (PT.put x5 t8 (PT.put x4 t7 (PT.put x3 t6 (PT.put x2 t3 (PT.put x1 t2 (PT.put a0 t0 PT.nil))))))))))))))))))))))))))))))) s) fun e r => finX [.tmp t2, .tmp t3] e r)
 (opt2 (c39_j0 rec N (PT.put x49 t41 (PT.put x48 t40 (PT.put x28 t25 (PT.put x27 t24 (PT.put x26 t23 (PT.put x25 t22 (PT.put x24 t21 (PT.put x23 t5 (PT.put x22 t20 (PT.put x21 t19 (PT.put x20 t18 (PT.put x19 t17 (PT.put x16 t16 (PT.put x15 t15 (PT.put x13 t14 (PT.put x11 t13 (PT.put x10 t12 (PT.put x9 t11 (PT.put x8 t10 (PT.put x7 t4 (PT.put x6 t9 (PT.put x5 t8 (PT.put x4 t7 (PT.put x3 t6 (PT.put x2 t3 (PT.put x1 t2 (PT.put a0 t0 PT.nil))))))))))))))))))))))))))) s) fun e r => finX [.tmp t2, .tmp t3] e r)))
set_option maxHeartbeats 4000000 in
theorem d39 (rec : Rec) (N : Nat) (a0 : Value) (s : St) : callF rec N c39 [a0] s = D39 rec N a0 s := by
  rw [call_f _ _ _ _ _ rfl]
  simp (maxSteps := 4000000) only [c39, lenN, x_seq, x_ops, x_skip, x_ret, x_exit, x_cond, x_block, x_loop, ops_c, ops_n, op1_u, op1_gj, rq_c, rq_n, opQ_u, opQ_g, op2_op2, op2_op, op2_s, op2_cond, thenX_n, thenX_e, thenX_r, blkX_n, blkX_r, blkX_e, finX_r, finX_n, res_n, res_t, op_s, Nat.beq_refl, cond_true]
  first | done | kernel_rfl
def J39_j0 (rec : Rec) (N : Nat) (k : Value × Value) (s : St) : Out := opt2 (oBin (int2 (cmpO gtI)) (.v k.2) (.v (.int .i64 4503599627370496)) rec PT.nil s) fun x1 s =>
 condV x1
 (some (oneOf [k.1, (.int .i64 (-1))], s))
 (some (oneOf [k.1, k.2], s))
set_option maxHeartbeats 4000000 in
theorem j39_j0 (rec : Rec) (N : Nat) (fs : Frm) (s : St) : opt2 (c39_j0 rec N fs s) (fun e r => finX [.tmp t2, .tmp t3] e r) = J39_j0 rec N (orU (fs.get t4), orU (fs.get t5)) s := by
  rw [d39_j0]
  unfold D39_j0 J39_j0
  simp (maxSteps := 4000000) only [thenX_n, thenX_e, thenX_r, x_exit, x_skip, x_ret, blkX_n, blkX_r, blkX_e, finX_r, finX_n, res_n, res_t, op2_op2, op2_op, op2_s, op2_cond, op2_bf, mov_v]
  first | done | kernel_rfl
def F39 (rec : Rec) (N : Nat) (a0 : Value) (s : St) : Out := opt2 (oSliceS (.v a0) (some (.v (.int .i64 1))) none rec PT.nil s) fun x1 s =>
 opt2 (rec 25 [x1, (.func (.func 30) #[] #[])] s) fun x2 s =>
 opt2 (oBin (int2 addO) (.v (.int .i64 1)) (.v x2) rec PT.nil s) fun x3 s =>
 opt2 (oIdxS (.v a0) (.v (.int .i64 0)) rec PT.nil s) fun x4 s =>
 opt2 (oBin (int2 (cmpO neI)) (.v x4) (.v (.int .u8 36)) rec PT.nil s) fun x5 s =>
 opt (gval false x5) fun x6 => opt2 (orUndef x6 (some (x3, s)) s) fun x7 s =>
 opt (gval false x5) fun x8 => opt2 (orUndef x8 (oBin (int2 (cmpO eqI)) (.v x7) (.v (.int .i64 1)) rec PT.nil s) s) fun x9 s =>
 opt2 (oPick (.v x5) (.v (.bool true)) (.v x9) rec PT.nil s) fun x10 s =>
 condV x10
 (some (oneOf [(.int .i64 0), (.int .i64 0)], s))
 (opt2 (oSliceS (.v a0) (some (.v (.int .i64 1))) (some (.v x3)) rec PT.nil s) fun x11 s =>
 opt2 (rec 42 [x11, (.int .i64 4503599627370496)] s) fun x12 s =>
 opt2 (oSliceS (.v a0) (some (.v x3)) none rec PT.nil s) fun x13 s =>
 opt2 (rec 47 [x13, (.int .i64 2)] s) fun x14 s =>
 opt2 (oBin (int2 (cmpO eqI)) (.v x14) (.v (.int .i64 2)) rec PT.nil s) fun x15 s =>
 condV x15
 (opt2 (oBin (int2 (cmpO geI)) (.v x12) (.v (.int .i64 0)) rec PT.nil s) fun x16 s =>
 condV x16
 (opt2 (oBin (int2 mulO) (.v x12) (.v (.int .i64 100)) rec PT.nil s) fun x17 s =>
 opt2 (oBin (int2 addO) (.v x3) (.v (.int .i64 1)) rec PT.nil s) fun x18 s =>
 opt2 (oBin (int2 addO) (.v x3) (.v (.int .i64 3)) rec PT.nil s) fun x19 s =>
 opt2 (oSliceS (.v a0) (some (.v x18)) (some (.v x19)) rec PT.nil s) fun x20 s =>
 opt2 (rec 42 [x20, (.int .i64 100)] s) fun x21 s =>
 opt2 (oBin (int2 addO) (.v x17) (.v x21) rec PT.nil s) fun x22 s =>
 opt2 (oBin (int2 addO) (.v x3) (.v (.int .i64 3)) rec PT.nil s) fun x23 s =>
 J39_j0 rec N (x23, x22) s)
 (opt2 (oBin (int2 addO) (.v x3) (.v (.int .i64 3)) rec PT.nil s) fun x24 s =>
 J39_j0 rec N (x24, x12) s))
 (opt2 (oBin (int2 (cmpO geI)) (.v x12) (.v (.int .i64 0)) rec PT.nil s) fun x25 s =>
 condV x25
 (opt2 (oMM false (.v x12) [(.v (.int .i64 4503599627370496))] rec PT.nil s) fun x26 s =>
 opt2 (oBin (int2 mulO) (.v x26) (.v (.int .i64 100)) rec PT.nil s) fun x27 s =>
 J39_j0 rec N (x3, x27) s)
 (J39_j0 rec N (x3, x12) s)))
theorem f39 (rec : Rec) (N : Nat) (a0 : Value) (s : St) : callF rec N c39 [a0] s = F39 rec N a0 s := by
  rw [d39]
  unfold D39 F39
  simp (maxSteps := 4000000) only [mov_v, op2_s, j39_j0 rec N]
  first | done | kernel_rfl
-- c40
theorem q40_g0 (rec : Rec) (n : Nat) (fs : Frm) (s : St) : xReg c40_g0 [(0, 1), (0, 2), (1, 2), (0, 3), (1, 3), (0, 4), (1, 4), (2, 4), (3, 4), (0, 5), (0, 6), (1, 6), (2, 6), (3, 6), (4, 6), (5, 6), (0, 7), (1, 7), (2, 7), (3, 7), (4, 7), (5, 7), (0, 8), (1, 8), (2, 8), (3, 8), (4, 8), (5, 8), (0, 9), (0, 10)] rec n fs s = opt2 (runQ rec [⟨(some t49), oMov (.t t7), none, none⟩,
   ⟨(some t50), oMov (.t t0), none, none⟩,
   ⟨(some t51), oMov (.t t4), none, none⟩,
   ⟨(some t52), oBin (int2 addO) (.t t51) (.v (.int .i64 1)), none, none⟩,
   ⟨(some t53), oMov (.t t6), none, none⟩,
   ⟨(some t54), oSliceS (.t t50) (some (.t t52)) (some (.t t53)), none, none⟩,
   ⟨(some t55), oMov (.t t5), none, none⟩,
   ⟨(some t56), oBin (int2 subO) (.v (.int .i64 4)) (.t t55), none, none⟩,
   ⟨(some t57), oCall 48 [(.v (.string ⟨⟨[48]⟩⟩)), (.t t56)], none, none⟩,
   ⟨(some t58), oBin (str2 catO) (.t t54) (.t t57), none, none⟩,
   ⟨(some t59), oCall 42 [(.t t58), (.v (.int .i64 10000))], none, none⟩,
   ⟨(some t60), oBin (int2 addO) (.t t49) (.t t59), none, none⟩,
   ⟨(some t7), oMov (.t t60), none, none⟩] fs s) fun fs s => some (.norm, fs, s) :=
 reg_q (ks := [0, 0, 0, 0, 0, 0, 0, 0, 2, 0, 2, 0, 0]) (okc (ok0 (qv_mov (.t t7)) rfl)
 (okc (ok0 (qv_mov (.t t0)) rfl)
 (okc (ok0 (qv_mov (.t t4)) rfl)
 (okc (ok0 (qv_bin (int2 addO) (.t t51) (.v (.int .i64 1))) rfl)
 (okc (ok0 (qv_mov (.t t6)) rfl)
 (okc (ok0 (qv_slices (.t t50) (some (.t t52)) (some (.t t53))) rfl)
 (okc (ok0 (qv_mov (.t t5)) rfl)
 (okc (ok0 (qv_bin (int2 subO) (.v (.int .i64 4)) (.t t55)) rfl)
 (okc (ok2 rfl)
 (okc (ok0 (qv_bin (str2 catO) (.t t54) (.t t57)) rfl)
 (okc (ok2 rfl)
 (okc (ok0 (qv_bin (int2 addO) (.t t49) (.t t59)) rfl)
 (okc (ok0 (qv_mov (.t t60)) rfl)
 okn))))))))))))) (by kernel_rfl) rec n fs s
def D40_j0 (rec : Rec) (N : Nat) (fs : Frm) (s : St) : OutX := opt2 (oMov (.v (orU (fs.get t4))) rec PT.nil s) fun x1 s =>
 opt2 (oBin (int2 (cmpO eqI)) (.v x1) (.v (.int .i64 0)) rec PT.nil s) fun x2 s =>
 opt2 (oMov (.v x2) rec PT.nil s) fun x3 s =>
 opt (gval false x3) fun x4 => opt2 (orUndef x4 (oMov (.v (orU (fs.get t6))) rec PT.nil s) s) fun x5 s =>
 opt (gval false x3) fun x6 => opt2 (orUndef x6 (oMov (.v (orU (fs.get t0))) rec PT.nil s) s) fun x7 s =>
 opt (gval false x3) fun x8 => opt2 (orUndef x8 (oLenS (.v x7) rec PT.nil s) s) fun x9 s =>
 opt (gval false x3) fun x10 => opt2 (orUndef x10 (oBin (int2 (cmpO geI)) (.v x5) (.v x9) rec PT.nil s) s) fun x11 s =>
 opt2 (oPick (.v x3) (.v (.bool true)) (.v x11) rec PT.nil s) fun x12 s =>
 opt2 (oMov (.v x12) rec PT.nil s) fun x13 s =>
 opt (gval false x13) fun x14 => opt2 (orUndef x14 (oMov (.v (orU (fs.get t0))) rec PT.nil s) s) fun x15 s =>
 opt (gval false x13) fun x16 => opt2 (orUndef x16 (oMov (.v (orU (fs.get t6))) rec PT.nil s) s) fun x17 s =>
 opt (gval false x13) fun x18 => opt2 (orUndef x18 (oIdxS (.v x15) (.v x17) rec PT.nil s) s) fun x19 s =>
 opt (gval false x13) fun x20 => opt2 (orUndef x20 (oBin (int2 (cmpO neI)) (.v x19) (.v (.int .u8 37)) rec PT.nil s) s) fun x21 s =>
 opt2 (oPick (.v x13) (.v (.bool true)) (.v x21) rec PT.nil s) fun x22 s =>
 condV x22
 (opt2 (oMov (.v (.int .i64 0)) rec PT.nil s) fun x23 s =>
 opt2 (oMov (.v (.int .i64 0)) rec PT.nil s) fun x24 s =>
 some (.ret, (PT.put x24 t3 (PT.put x23 t2 (PT.put x22 t34 (PT.put x21 t33 (PT.put x19 t32 (PT.put x17 t31 (PT.put x15 t30 (PT.put x13 t29 (PT.put x12 t28 (PT.put x11 t27 (PT.put x9 t26 (PT.put x7 t25 (PT.put x5 t24 (PT.put x3 t23 (PT.put x2 t22 (PT.put x1 t21 fs)))))))))))))))), s))
 (opt2 (oMov (.v (orU (fs.get t0))) rec PT.nil s) fun x25 s =>
 opt2 (oMov (.v (orU (fs.get t4))) rec PT.nil s) fun x26 s =>
 opt2 (oSliceS (.v x25) none (some (.v x26)) rec PT.nil s) fun x27 s =>
 opt2 (rec 42 [x27, (.int .i64 1000000000000)] s) fun x28 s =>
 opt2 (oMov (.v x28) rec PT.nil s) fun x29 s =>
 opt2 (oMov (.v x29) rec PT.nil s) fun x30 s =>
 opt2 (oBin (int2 (cmpO geI)) (.v x30) (.v (.int .i64 0)) rec PT.nil s) fun x31 s =>
 condV x31
 (opt2 (oMov (.v x29) rec PT.nil s) fun x32 s =>
 opt2 (oBin (int2 mulO) (.v x32) (.v (.int .i64 10000)) rec PT.nil s) fun x33 s =>
 opt2 (oMov (.v x33) rec PT.nil s) fun x34 s =>
 opt2 (oMov (.v x34) rec PT.nil s) fun x35 s =>
 opt2 (oBin (int2 (cmpO leI)) (.v x35) (.v (.int .i64 1000000000000)) rec PT.nil s) fun x36 s =>
 opt2 (oMov (.v x36) rec PT.nil s) fun x37 s =>
 opt (gval true x37) fun x38 => opt2 (orUndef x38 (oMov (.v (orU (fs.get t5))) rec PT.nil s) s) fun x39 s =>
 opt (gval true x37) fun x40 => opt2 (orUndef x40 (oBin (int2 (cmpO gtI)) (.v x39) (.v (.int .i64 0)) rec PT.nil s) s) fun x41 s =>
 opt2 (oPick (.v x37) (.v x41) (.v (.bool false)) rec PT.nil s) fun x42 s =>
 condV x42
 (opt2 (oMov (.v x34) rec PT.nil s) fun x43 s =>
 opt2 (oMov (.v (orU (fs.get t0))) rec PT.nil s) fun x44 s =>
 opt2 (oMov (.v (orU (fs.get t4))) rec PT.nil s) fun x45 s =>
 opt2 (oBin (int2 addO) (.v x45) (.v (.int .i64 1)) rec PT.nil s) fun x46 s =>
 opt2 (oMov (.v (orU (fs.get t6))) rec PT.nil s) fun x47 s =>
 opt2 (oSliceS (.v x44) (some (.v x46)) (some (.v x47)) rec PT.nil s) fun x48 s =>
 opt2 (oMov (.v (orU (fs.get t5))) rec PT.nil s) fun x49 s =>
 opt2 (oBin (int2 subO) (.v (.int .i64 4)) (.v x49) rec PT.nil s) fun x50 s =>
 opt2 (rV (rec 48 [(.string ⟨⟨[48]⟩⟩), x50] (z0 s)) s) fun x51 s =>
 opt2 (oBin (str2 catO) (.v x48) (.v x51) rec PT.nil s) fun x52 s =>
 opt2 (rV (rec 42 [x52, (.int .i64 10000)] (z0 s)) s) fun x53 s =>
 opt2 (oBin (int2 addO) (.v x43) (.v x53) rec PT.nil s) fun x54 s =>
 opt2 (oMov (.v x54) rec PT.nil s) fun x55 s =>
 opt2 (oMov (.v x55) rec PT.nil s) fun x56 s =>
 opt2 (oBin (int2 (cmpO gtI)) (.v x56) (.v (.int .i64 1000000000000)) rec PT.nil s) fun x57 s =>
 condV x57
 (opt2 (oMov (.v (.int .i64 (-1))) rec PT.nil s) fun x58 s =>
 opt2 (oMov (.v (orU (fs.get t6))) rec PT.nil s) fun x59 s =>
 opt2 (oBin (int2 addO) (.v x59) (.v (.int .i64 1)) rec PT.nil s) fun x60 s =>
 opt2 (oMov (.v x58) rec PT.nil s) fun x61 s =>
 opt2 (oMov (.v x60) rec PT.nil s) fun x62 s =>
 opt2 (oMov (.v x61) rec PT.nil s) fun x63 s =>
 some (.ret, (PT.put x63 t3 (PT.put x62 t2 (PT.put x61 t65 (PT.put x60 t64 (PT.put x59 t63 (PT.put x58 t7 (PT.put x57 t62 (PT.put x56 t61 (PT.put x55 t7 (PT.put x54 t60 (PT.put x53 t59 (PT.put x52 t58 (PT.put x51 t57 (PT.put x50 t56 (PT.put x49 t55 (PT.put x48 t54 (PT.put x47 t53 (PT.put x46 t52 (PT.put x45 t51 (PT.put x44 t50 (PT.put x43 t49 (PT.put x42 t48 (PT.put x41 t47 (PT.put x39 t46 (PT.put x37 t45 (PT.put x36 t44 (PT.put x35 t43 (PT.put x34 t7 (PT.put x33 t42 (PT.put x32 t41 (PT.put x31 t40 (PT.put x30 t39 (PT.put x29 t7 (PT.put x28 t38 (PT.put x27 t37 (PT.put x26 t36 (PT.put x25 t35 (PT.put x22 t34 (PT.put x21 t33 (PT.put x19 t32 (PT.put x17 t31 (PT.put x15 t30 (PT.put x13 t29 (PT.put x12 t28 (PT.put x11 t27 (PT.put x9 t26 (PT.put x7 t25 (PT.put x5 t24 (PT.put x3 t23 (PT.put x2 t22 (PT.put x1 t21 fs))))))))))))))))))))))))))))))))))))))))))))))))))), s))
 (opt2 (oMov (.v (orU (fs.get t6))) rec PT.nil s) fun x64 s =>
 opt2 (oBin (int2 addO) (.v x64) (.v (.int .i64 1)) rec PT.nil s) fun x65 s =>
 opt2 (oMov (.v x55) rec PT.nil s) fun x66 s =>
 opt2 (oMov (.v x65) rec PT.nil s) fun x67 s =>
 opt2 (oMov (.v x66) rec PT.nil s) fun x68 s =>
 some (.ret, (PT.put x68 t3 (PT.put x67 t2 (PT.put x66 t65 (PT.put x65 t64 (PT.put x64 t63 (PT.put x57 t62 (PT.put x56 t61 (PT.put x55 t7 (PT.put x54 t60 (PT.put x53 t59 (PT.put x52 t58 (PT.put x51 t57 (PT.put x50 t56 (PT.put x49 t55 (PT.put x48 t54 (PT.put x47 t53 (PT.put x46 t52 (PT.put x45 t51 (PT.put x44 t50 (PT.put x43 t49 (PT.put x42 t48 (PT.put x41 t47 (PT.put x39 t46 (PT.put x37 t45 (PT.put x36 t44 (PT.put x35 t43 (PT.put x34 t7 (PT.put x33 t42 (PT.put x32 t41 (PT.put x31 t40 (PT.put x30 t39 (PT.put x29 t7 (PT.put x28 t38 (PT.put x27 t37 (PT.put x26 t36 (PT.put x25 t35 (PT.put x22 t34 (PT.put x21 t33 (PT.put x19 t32 (PT.put x17 t31 (PT.put x15 t30 (PT.put x13 t29 (PT.put x12 t28 (PT.put x11 t27 (PT.put x9 t26 (PT.put x7 t25 (PT.put x5 t24 (PT.put x3 t23 (PT.put x2 t22 (PT.put x1 t21 fs)))))))))))))))))))))))))))))))))))))))))))))))))), s)))
 (opt2 (oMov (.v x34) rec PT.nil s) fun x69 s =>
 opt2 (oBin (int2 (cmpO gtI)) (.v x69) (.v (.int .i64 1000000000000)) rec PT.nil s) fun x70 s =>
 condV x70
 (opt2 (oMov (.v (.int .i64 (-1))) rec PT.nil s) fun x71 s =>
 opt2 (oMov (.v (orU (fs.get t6))) rec PT.nil s) fun x72 s =>
 opt2 (oBin (int2 addO) (.v x72) (.v (.int .i64 1)) rec PT.nil s) fun x73 s =>
 opt2 (oMov (.v x71) rec PT.nil s) fun x74 s =>
 opt2 (oMov (.v x73) rec PT.nil s) fun x75 s =>
 opt2 (oMov (.v x74) rec PT.nil s) fun x76 s =>
 some (.ret, (PT.put x76 t3 (PT.put x75 t2 (PT.put x74 t65 (PT.put x73 t64 (PT.put x72 t63 (PT.put x71 t7 (PT.put x70 t62 (PT.put x69 t61 (PT.put x42 t48 (PT.put x41 t47 (PT.put x39 t46 (PT.put x37 t45 (PT.put x36 t44 (PT.put x35 t43 (PT.put x34 t7 (PT.put x33 t42 (PT.put x32 t41 (PT.put x31 t40 (PT.put x30 t39 (PT.put x29 t7 (PT.put x28 t38 (PT.put x27 t37 (PT.put x26 t36 (PT.put x25 t35 (PT.put x22 t34 (PT.put x21 t33 (PT.put x19 t32 (PT.put x17 t31 (PT.put x15 t30 (PT.put x13 t29 (PT.put x12 t28 (PT.put x11 t27 (PT.put x9 t26 (PT.put x7 t25 (PT.put x5 t24 (PT.put x3 t23 (PT.put x2 t22 (PT.put x1 t21 fs)))))))))))))))))))))))))))))))))))))), s))
 (opt2 (oMov (.v (orU (fs.get t6))) rec PT.nil s) fun x77 s =>
 opt2 (oBin (int2 addO) (.v x77) (.v (.int .i64 1)) rec PT.nil s) fun x78 s =>
 opt2 (oMov (.v x34) rec PT.nil s) fun x79 s =>
 opt2 (oMov (.v x78) rec PT.nil s) fun x80 s =>
 opt2 (oMov (.v x79) rec PT.nil s) fun x81 s =>
 some (.ret, (PT.put x81 t3 (PT.put x80 t2 (PT.put x79 t65 (PT.put x78 t64 (PT.put x77 t63 (PT.put x70 t62 (PT.put x69 t61 (PT.put x42 t48 (PT.put x41 t47 (PT.put x39 t46 (PT.put x37 t45 (PT.put x36 t44 (PT.put x35 t43 (PT.put x34 t7 (PT.put x33 t42 (PT.put x32 t41 (PT.put x31 t40 (PT.put x30 t39 (PT.put x29 t7 (PT.put x28 t38 (PT.put x27 t37 (PT.put x26 t36 (PT.put x25 t35 (PT.put x22 t34 (PT.put x21 t33 (PT.put x19 t32 (PT.put x17 t31 (PT.put x15 t30 (PT.put x13 t29 (PT.put x12 t28 (PT.put x11 t27 (PT.put x9 t26 (PT.put x7 t25 (PT.put x5 t24 (PT.put x3 t23 (PT.put x2 t22 (PT.put x1 t21 fs))))))))))))))))))))))))))))))))))))), s))))
 (opt2 (oMov (.v x29) rec PT.nil s) fun x82 s =>
 opt2 (oBin (int2 (cmpO gtI)) (.v x82) (.v (.int .i64 1000000000000)) rec PT.nil s) fun x83 s =>
 condV x83
 (opt2 (oMov (.v (.int .i64 (-1))) rec PT.nil s) fun x84 s =>
 opt2 (oMov (.v (orU (fs.get t6))) rec PT.nil s) fun x85 s =>
 opt2 (oBin (int2 addO) (.v x85) (.v (.int .i64 1)) rec PT.nil s) fun x86 s =>
 opt2 (oMov (.v x84) rec PT.nil s) fun x87 s =>
 opt2 (oMov (.v x86) rec PT.nil s) fun x88 s =>
 opt2 (oMov (.v x87) rec PT.nil s) fun x89 s =>
 some (.ret, (PT.put x89 t3 (PT.put x88 t2 (PT.put x87 t65 (PT.put x86 t64 (PT.put x85 t63 (PT.put x84 t7 (PT.put x83 t62 (PT.put x82 t61 (PT.put x31 t40 (PT.put x30 t39 (PT.put x29 t7 (PT.put x28 t38 (PT.put x27 t37 (PT.put x26 t36 (PT.put x25 t35 (PT.put x22 t34 (PT.put x21 t33 (PT.put x19 t32 (PT.put x17 t31 (PT.put x15 t30 (PT.put x13 t29 (PT.put x12 t28 (PT.put x11 t27 (PT.put x9 t26 (PT.put x7 t25 (PT.put x5 t24 (PT.put x3 t23 (PT.put x2 t22 (PT.put x1 t21 fs))))))))))))))))))))))))))))), s))
 (opt2 (oMov (.v (orU (fs.get t6))) rec PT.nil s) fun x90 s =>
 opt2 (oBin (int2 addO) (.v x90) (.v (.int .i64 1)) rec PT.nil s) fun x91 s =>
 opt2 (oMov (.v x29) rec PT.nil s) fun x92 s =>
 opt2 (oMov (.v x91) rec PT.nil s) fun x93 s =>
 opt2 (oMov (.v x92) rec PT.nil s) fun x94 s =>
 some (.ret, (PT.put x94 t3 (PT.put x93 t2 (PT.put x92 t65 (PT.put x91 t64 (PT.put x90 t63 (PT.put x83 t62 (PT.put x82 t61 (PT.put x31 t40 (PT.put x30 t39 (PT.put x29 t7 (PT.put x28 t38 (PT.put x27 t37 (PT.put x26 t36 (PT.put x25 t35 (PT.put x22 t34 (PT.put x21 t33 (PT.put x19 t32 (PT.put x17 t31 (PT.put x15 t30 (PT.put x13 t29 (PT.put x12 t28 (PT.put x11 t27 (PT.put x9 t26 (PT.put x7 t25 (PT.put x5 t24 (PT.put x3 t23 (PT.put x2 t22 (PT.put x1 t21 fs)))))))))))))))))))))))))))), s))))
set_option maxHeartbeats 4000000 in
theorem d40_j0 (rec : Rec) (N : Nat) (fs : Frm) (s : St) : c40_j0 rec N fs s = D40_j0 rec N fs s := by
  simp (maxSteps := 4000000) only [c40_j0, lenN, x_seq, x_ops, x_skip, x_ret, x_exit, x_cond, x_block, x_loop, ops_c, ops_n, op1_u, op1_gj, rq_c, rq_n, opQ_u, opQ_g, op2_op2, op2_op, op2_s, op2_cond, thenX_n, thenX_e, thenX_r, blkX_n, blkX_r, blkX_e, finX_r, finX_n, res_n, res_t, op_s, Nat.beq_refl, cond_true, q40_g0, sm_bin, sm_box, sm_build, sm_buildslice, sm_bytesstr, sm_compl, sm_conv, sm_eqs, sm_eqv, sm_ext, sm_extract, sm_field, sm_fieldaddr, sm_func, sm_idxaa, sm_idxl, sm_idxs, sm_iface, sm_lenc, sm_lenl, sm_lens, sm_load1, sm_loadn, sm_mm, sm_mov, sm_neg, sm_new, sm_nil, sm_not, sm_pick, sm_same, sm_slices, sm_store]
  first | done | kernel_rfl
def D40 (rec : Rec) (N : Nat) (a0 : Value) (s : St) : Out := opt2 (oMov (.v (.int .i64 0)) rec PT.nil s) fun x1 s =>
 opt2 (oMov (.v (.int .i64 0)) rec PT.nil s) fun x2 s =>
 opt2 (oMov (.v a0) rec PT.nil s) fun x3 s =>
 opt2 (rec 25 [x3, (.func (.func 30) #[] #[])] s) fun x4 s =>
 opt2 (oMov (.v x4) rec PT.nil s) fun x5 s =>
 opt2 (oMov (.v a0) rec PT.nil s) fun x6 s =>
 opt2 (oMov (.v x5) rec PT.nil s) fun x7 s =>
 opt2 (oSliceS (.v x6) (some (.v x7)) none rec PT.nil s) fun x8 s =>
 opt2 (rec 47 [x8, (.int .i64 4)] s) fun x9 s =>
 opt2 (oMov (.v x9) rec PT.nil s) fun x10 s =>
 opt2 (oMov (.v x5) rec PT.nil s) fun x11 s =>
 opt2 (oMov (.v x11) rec PT.nil s) fun x12 s =>
 opt2 (oMov (.v x10) rec PT.nil s) fun x13 s =>
 opt2 (oBin (int2 (cmpO gtI)) (.v x13) (.v (.int .i64 0)) rec PT.nil s) fun x14 s =>
 condV x14
 (opt2 (oMov (.v x12) rec PT.nil s) fun x15 s =>
 opt2 (oMov (.v x10) rec PT.nil s) fun x16 s =>
 opt2 (oBin (int2 addO) (.v (.int .i64 1)) (.v x16) rec PT.nil s) fun x17 s =>
 opt2 (oBin (int2 addO) (.v x15) (.v x17) rec PT.nil s) fun x18 s =>
 opt2 (oMov (.v x18) rec PT.nil s) fun x19 s =>
 opt2 (c40_j0 rec N (PT.put x19 t6 (PT.put x18 t20 (PT.put x17 t19 (PT.put x16 t18 (PT.put x15 t17 (PT.put x14 t16 (PT.put x13 t15 (PT.put x12 t6 (PT.put x11 t14 (PT.put x10 t5 (PT.put x9 t13 (PT.put x8 t12 (PT.put x7 t11 (PT.put x6 t10 (PT.put x5 t4 (PT.put x4 t9 (PT.put x3 t8 (PT.put x2 t3 (PT.put x1 t2 (PT.put a0 t0 PT.nil)))))))))))))))))))) s) fun e r => finX [.tmp t2, .tmp t3] e r)
 (opt2 (c40_j0 rec N (PT.put x14 t16 (PT.put x13 t15 (PT.put x12 t6 (PT.put x11 t14 (PT.put x10 t5 (PT.put x9 t13 (PT.put x8 t12 (PT.put x7 t11 (PT.put x6 t10 (PT.put x5 t4 (PT.put x4 t9 (PT.put x3 t8 (PT.put x2 t3 (PT.put x1 t2 (PT.put a0 t0 PT.nil))))))))))))))) s) fun e r => finX [.tmp t2, .tmp t3] e r)
set_option maxHeartbeats 4000000 in
theorem d40 (rec : Rec) (N : Nat) (a0 : Value) (s : St) : callF rec N c40 [a0] s = D40 rec N a0 s := by
  rw [call_f _ _ _ _ _ rfl]
  simp (maxSteps := 4000000) only [c40, lenN, x_seq, x_ops, x_skip, x_ret, x_exit, x_cond, x_block, x_loop, ops_c, ops_n, op1_u, op1_gj, rq_c, rq_n, opQ_u, opQ_g, op2_op2, op2_op, op2_s, op2_cond, thenX_n, thenX_e, thenX_r, blkX_n, blkX_r, blkX_e, finX_r, finX_n, res_n, res_t, op_s, Nat.beq_refl, cond_true, q40_g0, sm_bin, sm_box, sm_build, sm_buildslice, sm_bytesstr, sm_compl, sm_conv, sm_eqs, sm_eqv, sm_ext, sm_extract, sm_field, sm_fieldaddr, sm_func, sm_idxaa, sm_idxl, sm_idxs, sm_iface, sm_lenc, sm_lenl, sm_lens, sm_load1, sm_loadn, sm_mm, sm_mov, sm_neg, sm_new, sm_nil, sm_not, sm_pick, sm_same, sm_slices, sm_store]
  first | done | kernel_rfl
def J40_j0 (rec : Rec) (N : Nat) (k : Value × Value × Value × Value) (s : St) : Out := opt2 (oBin (int2 (cmpO eqI)) (.v k.2.1) (.v (.int .i64 0)) rec PT.nil s) fun x1 s =>
 opt (gval false x1) fun x2 => opt2 (orUndef x2 (some (k.2.2.2, s)) s) fun x3 s =>
 opt (gval false x1) fun x4 => opt2 (orUndef x4 (some (k.1, s)) s) fun x5 s =>
 opt (gval false x1) fun x6 => opt2 (orUndef x6 (oLenS (.v x5) rec PT.nil s) s) fun x7 s =>
 opt (gval false x1) fun x8 => opt2 (orUndef x8 (oBin (int2 (cmpO geI)) (.v x3) (.v x7) rec PT.nil s) s) fun x9 s =>
 opt2 (oPick (.v x1) (.v (.bool true)) (.v x9) rec PT.nil s) fun x10 s =>
 opt (gval false x10) fun x11 => opt2 (orUndef x11 (some (k.1, s)) s) fun x12 s =>
 opt (gval false x10) fun x13 => opt2 (orUndef x13 (some (k.2.2.2, s)) s) fun x14 s =>
 opt (gval false x10) fun x15 => opt2 (orUndef x15 (oIdxS (.v x12) (.v x14) rec PT.nil s) s) fun x16 s =>
 opt (gval false x10) fun x17 => opt2 (orUndef x17 (oBin (int2 (cmpO neI)) (.v x16) (.v (.int .u8 37)) rec PT.nil s) s) fun x18 s =>
 opt2 (oPick (.v x10) (.v (.bool true)) (.v x18) rec PT.nil s) fun x19 s =>
 condV x19
 (some (oneOf [(.int .i64 0), (.int .i64 0)], s))
 (opt2 (oSliceS (.v k.1) none (some (.v k.2.1)) rec PT.nil s) fun x20 s =>
 opt2 (rec 42 [x20, (.int .i64 1000000000000)] s) fun x21 s =>
 opt2 (oBin (int2 (cmpO geI)) (.v x21) (.v (.int .i64 0)) rec PT.nil s) fun x22 s =>
 condV x22
 (opt2 (oBin (int2 mulO) (.v x21) (.v (.int .i64 10000)) rec PT.nil s) fun x23 s =>
 opt2 (oBin (int2 (cmpO leI)) (.v x23) (.v (.int .i64 1000000000000)) rec PT.nil s) fun x24 s =>
 opt (gval true x24) fun x25 => opt2 (orUndef x25 (some (k.2.2.1, s)) s) fun x26 s =>
 opt (gval true x24) fun x27 => opt2 (orUndef x27 (oBin (int2 (cmpO gtI)) (.v x26) (.v (.int .i64 0)) rec PT.nil s) s) fun x28 s =>
 opt2 (oPick (.v x24) (.v x28) (.v (.bool false)) rec PT.nil s) fun x29 s =>
 condV x29
 (opt2 (oBin (int2 addO) (.v k.2.1) (.v (.int .i64 1)) rec PT.nil s) fun x30 s =>
 opt2 (oSliceS (.v k.1) (some (.v x30)) (some (.v k.2.2.2)) rec PT.nil s) fun x31 s =>
 opt2 (oBin (int2 subO) (.v (.int .i64 4)) (.v k.2.2.1) rec PT.nil s) fun x32 s =>
 opt2 (rV (rec 48 [(.string ⟨⟨[48]⟩⟩), x32] (z0 s)) s) fun x33 s =>
 opt2 (oBin (str2 catO) (.v x31) (.v x33) rec PT.nil s) fun x34 s =>
 opt2 (rV (rec 42 [x34, (.int .i64 10000)] (z0 s)) s) fun x35 s =>
 opt2 (oBin (int2 addO) (.v x23) (.v x35) rec PT.nil s) fun x36 s =>
 opt2 (oBin (int2 (cmpO gtI)) (.v x36) (.v (.int .i64 1000000000000)) rec PT.nil s) fun x37 s =>
 condV x37
 (opt2 (oBin (int2 addO) (.v k.2.2.2) (.v (.int .i64 1)) rec PT.nil s) fun x38 s =>
 some (oneOf [x38, (.int .i64 (-1))], s))
 (opt2 (oBin (int2 addO) (.v k.2.2.2) (.v (.int .i64 1)) rec PT.nil s) fun x39 s =>
 some (oneOf [x39, x36], s)))
 (opt2 (oBin (int2 (cmpO gtI)) (.v x23) (.v (.int .i64 1000000000000)) rec PT.nil s) fun x40 s =>
 condV x40
 (opt2 (oBin (int2 addO) (.v k.2.2.2) (.v (.int .i64 1)) rec PT.nil s) fun x41 s =>
 some (oneOf [x41, (.int .i64 (-1))], s))
 (opt2 (oBin (int2 addO) (.v k.2.2.2) (.v (.int .i64 1)) rec PT.nil s) fun x42 s =>
 some (oneOf [x42, x23], s))))
 (opt2 (oBin (int2 (cmpO gtI)) (.v x21) (.v (.int .i64 1000000000000)) rec PT.nil s) fun x43 s =>
 condV x43
 (opt2 (oBin (int2 addO) (.v k.2.2.2) (.v (.int .i64 1)) rec PT.nil s) fun x44 s =>
 some (oneOf [x44, (.int .i64 (-1))], s))
 (opt2 (oBin (int2 addO) (.v k.2.2.2) (.v (.int .i64 1)) rec PT.nil s) fun x45 s =>
 some (oneOf [x45, x21], s))))
set_option maxHeartbeats 4000000 in
theorem j40_j0 (rec : Rec) (N : Nat) (fs : Frm) (s : St) : opt2 (c40_j0 rec N fs s) (fun e r => finX [.tmp t2, .tmp t3] e r) = J40_j0 rec N (orU (fs.get t0), orU (fs.get t4), orU (fs.get t5), orU (fs.get t6)) s := by
  rw [d40_j0]
  unfold D40_j0 J40_j0
  simp (maxSteps := 4000000) only [thenX_n, thenX_e, thenX_r, x_exit, x_skip, x_ret, blkX_n, blkX_r, blkX_e, finX_r, finX_n, res_n, res_t, op2_op2, op2_op, op2_s, op2_cond, op2_bf, mov_v]
  first | done | kernel_rfl
def F40 (rec : Rec) (N : Nat) (a0 : Value) (s : St) : Out := opt2 (rec 25 [a0, (.func (.func 30) #[] #[])] s) fun x1 s =>
 opt2 (oSliceS (.v a0) (some (.v x1)) none rec PT.nil s) fun x2 s =>
 opt2 (rec 47 [x2, (.int .i64 4)] s) fun x3 s =>
 opt2 (oBin (int2 (cmpO gtI)) (.v x3) (.v (.int .i64 0)) rec PT.nil s) fun x4 s =>
 condV x4
 (opt2 (oBin (int2 addO) (.v (.int .i64 1)) (.v x3) rec PT.nil s) fun x5 s =>
 opt2 (oBin (int2 addO) (.v x1) (.v x5) rec PT.nil s) fun x6 s =>
 J40_j0 rec N (a0, x1, x3, x6) s)
 (J40_j0 rec N (a0, x1, x3, x1) s)
theorem f40 (rec : Rec) (N : Nat) (a0 : Value) (s : St) : callF rec N c40 [a0] s = F40 rec N a0 s := by
  rw [d40]
  unfold D40 F40
  simp (maxSteps := 4000000) only [mov_v, op2_s, j40_j0 rec N]
  first | done | kernel_rfl
-- c41
def D41 (rec : Rec) (N : Nat) (a0 : Value) (s : St) : Out := opt2 (oMov (.v (.int .i64 0)) rec PT.nil s) fun x1 s =>
 opt2 (oMov (.v (.int .i64 0)) rec PT.nil s) fun x2 s =>
 opt2 (oMov (.v a0) rec PT.nil s) fun x3 s =>
 opt2 (oLenS (.v x3) rec PT.nil s) fun x4 s =>
 opt2 (oBin (int2 (cmpO ltI)) (.v x4) (.v (.int .i64 10)) rec PT.nil s) fun x5 s =>
 opt2 (oMov (.v x5) rec PT.nil s) fun x6 s =>
 opt (gval false x6) fun x7 => opt2 (orUndef x7 (oMov (.v a0) rec PT.nil s) s) fun x8 s =>
 opt (gval false x6) fun x9 => opt2 (orUndef x9 (oLenS (.v x8) rec PT.nil s) s) fun x10 s =>
 opt (gval false x6) fun x11 => opt2 (orUndef x11 (oBin (int2 (cmpO gtI)) (.v x10) (.v (.int .i64 10)) rec PT.nil s) s) fun x12 s =>
 opt (gval false x6) fun x13 => opt2 (orUndef x13 (oMov (.v x12) rec PT.nil s) s) fun x14 s =>
 opt (gval true x14) fun x15 => opt2 (orUndef x15 (oMov (.v a0) rec PT.nil s) s) fun x16 s =>
 opt (gval true x14) fun x17 => opt2 (orUndef x17 (oIdxS (.v x16) (.v (.int .i64 10)) rec PT.nil s) s) fun x18 s =>
 opt (gval true x14) fun x19 => opt2 (orUndef x19 (rec 30 [x18] s) s) fun x20 s =>
 opt (gval false x6) fun x21 => opt2 (orUndef x21 (oPick (.v x14) (.v x20) (.v (.bool false)) rec PT.nil s) s) fun x22 s =>
 opt2 (oPick (.v x6) (.v (.bool true)) (.v x22) rec PT.nil s) fun x23 s =>
 condV x23
 (opt2 (oMov (.v (.int .i64 0)) rec PT.nil s) fun x24 s =>
 opt2 (oMov (.v (.int .i64 0)) rec PT.nil s) fun x25 s =>
 some (oneOf [x24, x25], s))
 (opt2 (oMov (.v a0) rec PT.nil s) fun x26 s =>
 opt2 (oSliceS (.v x26) none (some (.v (.int .i64 10))) rec PT.nil s) fun x27 s =>
 opt2 (rec 49 [x27] s) fun x28 s =>
 opt2 (oMov (.v x28) rec PT.nil s) fun x29 s =>
 opt2 (oExtract (.v x29) 0 rec PT.nil s) fun x30 s =>
 opt2 (oExtract (.v x29) 1 rec PT.nil s) fun x31 s =>
 opt2 (oMov (.v x30) rec PT.nil s) fun x32 s =>
 opt2 (oMov (.v x31) rec PT.nil s) fun x33 s =>
 opt2 (oMov (.v x33) rec PT.nil s) fun x34 s =>
 opt2 (oNot (.v x34) rec PT.nil s) fun x35 s =>
 condV x35
 (opt2 (oMov (.v (.int .i64 0)) rec PT.nil s) fun x36 s =>
 opt2 (oMov (.v (.int .i64 0)) rec PT.nil s) fun x37 s =>
 some (oneOf [x36, x37], s))
 (opt2 (oMov (.v x32) rec PT.nil s) fun x38 s =>
 opt2 (oMov (.v (.int .i64 10)) rec PT.nil s) fun x39 s =>
 opt2 (oMov (.v x38) rec PT.nil s) fun x40 s =>
 some (oneOf [x39, x40], s)))
set_option maxHeartbeats 4000000 in
theorem d41 (rec : Rec) (N : Nat) (a0 : Value) (s : St) : callF rec N c41 [a0] s = D41 rec N a0 s := by
  rw [call_f _ _ _ _ _ rfl]
  simp (maxSteps := 4000000) only [c41, lenN, x_seq, x_ops, x_skip, x_ret, x_exit, x_cond, x_block, x_loop, ops_c, ops_n, op1_u, op1_gj, rq_c, rq_n, opQ_u, opQ_g, op2_op2, op2_op, op2_s, op2_cond, thenX_n, thenX_e, thenX_r, blkX_n, blkX_r, blkX_e, finX_r, finX_n, res_n, res_t, op_s, Nat.beq_refl, cond_true]
  first | done | kernel_rfl
def F41 (rec : Rec) (N : Nat) (a0 : Value) (s : St) : Out := opt2 (oLenS (.v a0) rec PT.nil s) fun x1 s =>
 opt2 (oBin (int2 (cmpO ltI)) (.v x1) (.v (.int .i64 10)) rec PT.nil s) fun x2 s =>
 opt (gval false x2) fun x3 => opt2 (orUndef x3 (some (a0, s)) s) fun x4 s =>
 opt (gval false x2) fun x5 => opt2 (orUndef x5 (oLenS (.v x4) rec PT.nil s) s) fun x6 s =>
 opt (gval false x2) fun x7 => opt2 (orUndef x7 (oBin (int2 (cmpO gtI)) (.v x6) (.v (.int .i64 10)) rec PT.nil s) s) fun x8 s =>
 opt (gval false x2) fun x9 => opt2 (orUndef x9 (some (x8, s)) s) fun x10 s =>
 opt (gval true x10) fun x11 => opt2 (orUndef x11 (some (a0, s)) s) fun x12 s =>
 opt (gval true x10) fun x13 => opt2 (orUndef x13 (oIdxS (.v x12) (.v (.int .i64 10)) rec PT.nil s) s) fun x14 s =>
 opt (gval true x10) fun x15 => opt2 (orUndef x15 (rec 30 [x14] s) s) fun x16 s =>
 opt (gval false x2) fun x17 => opt2 (orUndef x17 (oPick (.v x10) (.v x16) (.v (.bool false)) rec PT.nil s) s) fun x18 s =>
 opt2 (oPick (.v x2) (.v (.bool true)) (.v x18) rec PT.nil s) fun x19 s =>
 condV x19
 (some (oneOf [(.int .i64 0), (.int .i64 0)], s))
 (opt2 (oSliceS (.v a0) none (some (.v (.int .i64 10))) rec PT.nil s) fun x20 s =>
 opt2 (rec 49 [x20] s) fun x21 s =>
 opt2 (oExtract (.v x21) 0 rec PT.nil s) fun x22 s =>
 opt2 (oExtract (.v x21) 1 rec PT.nil s) fun x23 s =>
 opt2 (oNot (.v x23) rec PT.nil s) fun x24 s =>
 condV x24
 (some (oneOf [(.int .i64 0), (.int .i64 0)], s))
 (some (oneOf [(.int .i64 10), x22], s)))
set_option maxHeartbeats 4000000 in
theorem f41 (rec : Rec) (N : Nat) (a0 : Value) (s : St) : callF rec N c41 [a0] s = F41 rec N a0 s := by
  rw [d41]
  unfold D41 F41
  first
    | done
    | rfl
    | (simp (maxSteps := 4000000) only [mov_v, op2_s]; first | done | kernel_rfl)
    | kernel_rfl
-- c42
def D42_l0 (rec : Rec) (N : Nat) (fs : Frm) (s : St) : OutX := opt2 (oBin (int2 (cmpO ltI)) (.v (orU (fs.get t11))) (.v (orU (fs.get t10))) rec PT.nil s) fun x1 s =>
 condV x1
 (opt2 (oIdxAddrL 1 (.v (orU (fs.get t9))) (.v (orU (fs.get t11))) rec PT.nil s) fun x2 s =>
 opt2 (oLoad1 (.v x2) rec PT.nil s) fun x3 s =>
 opt2 (oMov (.v x3) rec PT.nil s) fun x4 s =>
 opt2 (oMov (.v (orU (fs.get t5))) rec PT.nil s) fun x5 s =>
 opt2 (oBin (int2 mulO) (.v x5) (.v (.int .i64 10)) rec PT.nil s) fun x6 s =>
 opt2 (oMov (.v x4) rec PT.nil s) fun x7 s =>
 opt2 (oBin (int2 subO) (.v x7) (.v (.int .u8 48)) rec PT.nil s) fun x8 s =>
 opt2 (oConv .i64 (.v x8) rec PT.nil s) fun x9 s =>
 opt2 (oBin (int2 addO) (.v x6) (.v x9) rec PT.nil s) fun x10 s =>
 opt2 (oMov (.v x10) rec PT.nil s) fun x11 s =>
 opt2 (oMov (.v x11) rec PT.nil s) fun x12 s =>
 opt2 (oMov (.v (orU (fs.get t1))) rec PT.nil s) fun x13 s =>
 opt2 (oBin (int2 (cmpO gtI)) (.v x12) (.v x13) rec PT.nil s) fun x14 s =>
 condV x14
 (opt2 (oMov (.v (.int .i64 (-1))) rec PT.nil s) fun x15 s =>
 some (.ret, (PT.put x15 t4 (PT.put x14 t23 (PT.put x13 t22 (PT.put x12 t21 (PT.put x11 t5 (PT.put x10 t20 (PT.put x9 t19 (PT.put x8 t18 (PT.put x7 t17 (PT.put x6 t16 (PT.put x5 t15 (PT.put x4 t7 (PT.put x3 t14 (PT.put x2 t13 (PT.put x1 t12 fs))))))))))))))), s))
 (opt2 (oBin (int2 addO) (.v (orU (fs.get t11))) (.v (.int .i64 1)) rec PT.nil s) fun x16 s =>
 opt2 (oMov (.v x16) rec PT.nil s) fun x17 s =>
 some (.norm, (PT.put x17 t11 (PT.put x16 t24 (PT.put x14 t23 (PT.put x13 t22 (PT.put x12 t21 (PT.put x11 t5 (PT.put x10 t20 (PT.put x9 t19 (PT.put x8 t18 (PT.put x7 t17 (PT.put x6 t16 (PT.put x5 t15 (PT.put x4 t7 (PT.put x3 t14 (PT.put x2 t13 (PT.put x1 t12 fs)))))))))))))))), s)))
 (some ((.exit 0), (PT.put x1 t12 fs), s))
set_option maxHeartbeats 4000000 in
theorem d42_l0 (rec : Rec) (N : Nat) (fs : Frm) (s : St) : c42_l0 rec N fs s = D42_l0 rec N fs s := by
  simp (maxSteps := 4000000) only [c42_l0, lenN, x_seq, x_ops, x_skip, x_ret, x_exit, x_cond, x_block, x_loop, ops_c, ops_n, op1_u, op1_gj, rq_c, rq_n, opQ_u, opQ_g, op2_op2, op2_op, op2_s, op2_cond, thenX_n, thenX_e, thenX_r, blkX_n, blkX_r, blkX_e, finX_r, finX_n, res_n, res_t, op_s, Nat.beq_refl, cond_true]
  first | done | kernel_rfl
def D42_r0 (rec : Rec) (N : Nat) (fs : Frm) (s : St) : OutX := opt2 (oMov (.v (orU (fs.get t5))) rec PT.nil s) fun x1 s =>
 opt2 (oMov (.v x1) rec PT.nil s) fun x2 s =>
 some (.ret, (PT.put x2 t4 (PT.put x1 t25 fs)), s)
set_option maxHeartbeats 4000000 in
theorem d42_r0 (rec : Rec) (N : Nat) (fs : Frm) (s : St) : c42_r0 rec N fs s = D42_r0 rec N fs s := by
  simp (maxSteps := 4000000) only [c42_r0, lenN, x_seq, x_ops, x_skip, x_ret, x_exit, x_cond, x_block, x_loop, ops_c, ops_n, op1_u, op1_gj, rq_c, rq_n, opQ_u, opQ_g, op2_op2, op2_op, op2_s, op2_cond, thenX_n, thenX_e, thenX_r, blkX_n, blkX_r, blkX_e, finX_r, finX_n, res_n, res_t, op_s, Nat.beq_refl, cond_true]
  first | done | kernel_rfl
def D42 (rec : Rec) (N : Nat) (a0 : Value) (a1 : Value) (s : St) : Out := opt2 (oMov (.v (.int .i64 0)) rec PT.nil s) fun x1 s =>
 opt2 (oMov (.v (.int .i64 0)) rec PT.nil s) fun x2 s =>
 opt2 (oMov (.v a0) rec PT.nil s) fun x3 s =>
 opt2 (oStrBytes (.v x3) rec PT.nil s) fun x4 s =>
 opt2 (oLenL (.v x4) rec PT.nil s) fun x5 s =>
 opt2 (oMov (.v (.int .i64 0)) rec PT.nil s) fun x6 s =>
 opt2 (loopF (c42_l0 rec N) N (PT.put x6 t11 (PT.put x5 t10 (PT.put x4 t9 (PT.put x3 t8 (PT.put x2 t5 (PT.put x1 t4 (PT.put a1 t1 (PT.put a0 t0 PT.nil)))))))) s) fun e r => opt2 (blkX 0 e r) fun e r => opt2 (thenX (c42_r0 rec N) e r) fun e r => finX [.tmp t4] e r
set_option maxHeartbeats 4000000 in
theorem d42 (rec : Rec) (N : Nat) (a0 : Value) (a1 : Value) (s : St) : callF rec N c42 [a0, a1] s = D42 rec N a0 a1 s := by
  rw [call_f _ _ _ _ _ rfl]
  simp (maxSteps := 4000000) only [c42, lenN, x_seq, x_ops, x_skip, x_ret, x_exit, x_cond, x_block, x_loop, ops_c, ops_n, op1_u, op1_gj, rq_c, rq_n, opQ_u, opQ_g, op2_op2, op2_op, op2_s, op2_cond, thenX_n, thenX_e, thenX_r, blkX_n, blkX_r, blkX_e, finX_r, finX_n, res_n, res_t, op_s, Nat.beq_refl, cond_true]
  first | done | kernel_rfl
def J42_r0 (rec : Rec) (N : Nat) (k : Value) (s : St) : Out := some (oneOf [k], s)
set_option maxHeartbeats 4000000 in
theorem j42_r0 (rec : Rec) (N : Nat) (fs : Frm) (s : St) : opt2 (c42_r0 rec N fs s) (fun e r => finX [.tmp t4] e r) = J42_r0 rec N (orU (fs.get t5)) s := by
  rw [d42_r0]
  unfold D42_r0 J42_r0
  simp (maxSteps := 4000000) only [thenX_n, thenX_e, thenX_r, x_exit, x_skip, x_ret, blkX_n, blkX_r, blkX_e, finX_r, finX_n, res_n, res_t, op2_op2, op2_op, op2_s, op2_cond, op2_bf, mov_v]
  first | done | kernel_rfl
def B42_l0 (rec : Rec) (N : Nat) (k : Value × Value × Value) (v : Value × Value × Value) (s : St) : OutV (Value × Value × Value) := opt2 (oBin (int2 (cmpO ltI)) (.v v.2.2) (.v k.2.2) rec PT.nil s) fun x1 s =>
 condV x1
 (opt2 (oIdxAddrL 1 (.v k.2.1) (.v v.2.2) rec PT.nil s) fun x2 s =>
 opt2 (oLoad1 (.v x2) rec PT.nil s) fun x3 s =>
 opt2 (oBin (int2 mulO) (.v v.2.1) (.v (.int .i64 10)) rec PT.nil s) fun x4 s =>
 opt2 (oBin (int2 subO) (.v x3) (.v (.int .u8 48)) rec PT.nil s) fun x5 s =>
 opt2 (oConv .i64 (.v x5) rec PT.nil s) fun x6 s =>
 opt2 (oBin (int2 addO) (.v x4) (.v x6) rec PT.nil s) fun x7 s =>
 opt2 (oBin (int2 (cmpO gtI)) (.v x7) (.v k.1) rec PT.nil s) fun x8 s =>
 condV x8
 (some (.ret, (((.int .i64 (-1)), x7, v.2.2), s)))
 (opt2 (oBin (int2 addO) (.v v.2.2) (.v (.int .i64 1)) rec PT.nil s) fun x9 s =>
 some (.norm, ((v.1, x7, x9), s))))
 (some ((.exit 0), ((v.1, v.2.1, v.2.2), s)))
set_option maxHeartbeats 4000000 in
theorem s42_l0 (rec : Rec) (N : Nat) (fs : Frm) (s : St) : opt2 (c42_l0 rec N fs s) (fun e r => some (e, (((orU (r.1.get t4), orU (r.1.get t5), orU (r.1.get t11)), (orU (r.1.get t1), orU (r.1.get t9), orU (r.1.get t10))), r.2))) = opt2 (B42_l0 rec N (orU (fs.get t1), orU (fs.get t9), orU (fs.get t10)) (orU (fs.get t4), orU (fs.get t5), orU (fs.get t11)) s) fun e r => some (e, ((r.1, (orU (fs.get t1), orU (fs.get t9), orU (fs.get t10))), r.2)) := by
  rw [d42_l0]
  unfold D42_l0 B42_l0
  simp (maxSteps := 4000000) only [op2_op2, op2_op, op2_s, op2_cond, op2_bf, mov_v]
  first | done | kernel_rfl
def C42_l0 (rec : Rec) (N : Nat) (k : Value × Value × Value) (e : AExit) (r : (Value × Value × Value) × St) : Out := (fun s => exV (fun i => bif Nat.beq i 0 then (J42_r0 rec N r.1.2.1 s)
 else (none))
 (some (oneOf [r.1.1], s)) e) r.2
theorem j42_l0 (rec : Rec) (N : Nat) (fs : Frm) (s : St) : opt2 (loopF (c42_l0 rec N) N fs s) (fun e r => opt2 (blkX 0 e r) fun e r => opt2 (thenX (c42_r0 rec N) e r) fun e r => finX [.tmp t4] e r) = opt2 (loopV (B42_l0 rec N (orU (fs.get t1), orU (fs.get t9), orU (fs.get t10))) N (orU (fs.get t4), orU (fs.get t5), orU (fs.get t11)) s) (C42_l0 rec N (orU (fs.get t1), orU (fs.get t9), orU (fs.get t10))) := by
  refine loop_j (fun fs => (orU (fs.get t4), orU (fs.get t5), orU (fs.get t11))) (fun fs => (orU (fs.get t1), orU (fs.get t9), orU (fs.get t10))) (B42_l0 rec N) (c42_l0 rec N) (s42_l0 rec N) (fun e r => opt2 (blkX 0 e r) fun e r => opt2 (thenX (c42_r0 rec N) e r) fun e r => finX [.tmp t4] e r) (C42_l0 rec N) ?_ ?_ N fs s
  · intro i fs s
    unfold C42_l0
    simp (maxSteps := 4000000) only [thenX_n, thenX_e, thenX_r, x_exit, x_skip, x_ret, blkX_n, blkX_r, blkX_e, finX_r, finX_n, res_n, res_t, exV_e, exV_r, op2_op2, op2_op, op2_s, op2_cond, op2_bf, mov_v, j42_r0 rec N]
    first | done | kernel_rfl
  · intro fs s
    unfold C42_l0
    simp (maxSteps := 4000000) only [thenX_n, thenX_e, thenX_r, x_exit, x_skip, x_ret, blkX_n, blkX_r, blkX_e, finX_r, finX_n, res_n, res_t, exV_e, exV_r, op2_op2, op2_op, op2_s, op2_cond, op2_bf, mov_v, j42_r0 rec N]
    first | done | kernel_rfl
def F42 (rec : Rec) (N : Nat) (a0 : Value) (a1 : Value) (s : St) : Out := opt2 (oStrBytes (.v a0) rec PT.nil s) fun x1 s =>
 opt2 (oLenL (.v x1) rec PT.nil s) fun x2 s =>
 opt2 (loopV (B42_l0 rec N (a1, x1, x2)) N ((.int .i64 0), (.int .i64 0), (.int .i64 0)) s) (C42_l0 rec N (a1, x1, x2))
theorem f42 (rec : Rec) (N : Nat) (a0 : Value) (a1 : Value) (s : St) : callF rec N c42 [a0, a1] s = F42 rec N a0 a1 s := by
  rw [d42]
  unfold D42 F42
  simp (maxSteps := 4000000) only [mov_v, op2_s, j42_l0 rec N]
  first | done | kernel_rfl
end
end Go.Proofs.Ytikdjhlcbkkkfaa.AbsLexO
