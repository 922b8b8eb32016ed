import Derived.Test.YtdnedangfnincaaAbsAccRE
import Derived.Test.YtdnedangfnincaaAbsZL
import Derived.Test.YtdnedangfnincaaAbsZW
namespace Go.Proofs.Ytdnedangfnincaa.AbsAccR
open Go Go.Abs Go.Proofs
set_option maxRecDepth 100000
set_option linter.unusedVariables false
set_option linter.unusedSimpArgs false
noncomputable section
-- c51
def D51 (rec : Rec) (N : Nat) (a0 : Value) (a1 : Value) (s : St) : Out := opt2 (oMov (.v (.slice none 0 0)) rec PT.nil s) fun x1 s =>
 opt2 (oMov (.v a0) rec PT.nil s) fun x2 s =>
 opt2 (oMov (.v a1) rec PT.nil s) fun x3 s =>
 opt2 (oBin (sh2 shlO) (.v x3) (.v (.int .u64 1)) rec PT.nil s) fun x4 s =>
 opt2 (oConv .u64 (.v x4) rec PT.nil s) fun x5 s =>
 opt2 (oMov (.v a1) rec PT.nil s) fun x6 s =>
 opt2 (oBin (sh2 shrO) (.v x6) (.v (.int .u64 63)) rec PT.nil s) fun x7 s =>
 opt2 (oConv .u64 (.v x7) rec PT.nil s) fun x8 s =>
 opt2 (oBin (int2 xorO) (.v x5) (.v x8) rec PT.nil s) fun x9 s =>
 opt2 (rec 52 [x2, x9] s) fun x10 s =>
 opt2 (oMov (.v x10) rec PT.nil s) fun x11 s =>
 some (oneOf [x11], s)
set_option maxHeartbeats 4000000 in
theorem d51 (rec : Rec) (N : Nat) (a0 : Value) (a1 : Value) (s : St) : callF rec N c51 [a0, a1] s = D51 rec N a0 a1 s := by
  rw [call_f _ _ _ _ _ rfl]
  simp (maxSteps := 4000000) only [c51, lenN, x_seq, x_ops, x_skip, x_ret, x_exit, x_cond, x_block, x_loop, ops_c, ops_n, op1_u, op1_gj, rq_c, rq_n, opQ_u, opQ_g, op2_op2, op2_op, op2_s, op2_cond, thenX_n, thenX_e, thenX_r, blkX_n, blkX_r, blkX_e, finX_r, finX_n, res_n, res_t, op_s, Nat.beq_refl, cond_true]
  first | done | kernel_rfl
def F51 (rec : Rec) (N : Nat) (a0 : Value) (a1 : Value) (s : St) : Out := opt2 (oBin (sh2 shlO) (.v a1) (.v (.int .u64 1)) rec PT.nil s) fun x1 s =>
 opt2 (oConv .u64 (.v x1) rec PT.nil s) fun x2 s =>
 opt2 (oBin (sh2 shrO) (.v a1) (.v (.int .u64 63)) rec PT.nil s) fun x3 s =>
 opt2 (oConv .u64 (.v x3) rec PT.nil s) fun x4 s =>
 opt2 (oBin (int2 xorO) (.v x2) (.v x4) rec PT.nil s) fun x5 s =>
 opt2 (rec 52 [a0, x5] s) fun x6 s =>
 some (oneOf [x6], s)
set_option maxHeartbeats 4000000 in
theorem f51 (rec : Rec) (N : Nat) (a0 : Value) (a1 : Value) (s : St) : callF rec N c51 [a0, a1] s = F51 rec N a0 a1 s := by
  rw [d51]
  unfold D51 F51
  first
    | done
    | rfl
    | (simp (maxSteps := 4000000) only [mov_v, op2_s]; first | done | kernel_rfl)
    | kernel_rfl
-- c52
def D52_l0 (rec : Rec) (N : Nat) (fs : Frm) (s : St) : OutX := opt2 (oMov (.v (orU (fs.get t1))) rec PT.nil s) fun x1 s =>
 opt2 (oBin (int2 (cmpO gtI)) (.v x1) (.v (.int .u64 127)) rec PT.nil s) fun x2 s =>
 condV x2
 (opt2 (oMov (.v (orU (fs.get t0))) rec PT.nil s) fun x3 s =>
 opt2 (oMov (.v (orU (fs.get t1))) rec PT.nil s) fun x4 s =>
 opt2 (oBin (int2 andO) (.v x4) (.v (.int .u64 127)) rec PT.nil s) fun x5 s =>
 opt2 (oBin (int2 orO) (.v x5) (.v (.int .u64 128)) rec PT.nil s) fun x6 s =>
 opt2 (oConv .u8 (.v x6) rec PT.nil s) fun x7 s =>
 opt2 (oBuildSlice 1 [(.int .u8 0)] [(0, 1, (.v x7))] rec PT.nil s) fun x8 s =>
 opt2 (oAppend 1 1 (.v x3) (.v x8) rec PT.nil s) fun x9 s =>
 opt2 (oMov (.v x9) rec PT.nil s) fun x10 s =>
 opt2 (oMov (.v (orU (fs.get t1))) rec PT.nil s) fun x11 s =>
 opt2 (oBin (sh2 shrO) (.v x11) (.v (.int .u64 7)) rec PT.nil s) fun x12 s =>
 opt2 (oMov (.v x12) rec PT.nil s) fun x13 s =>
 some (.norm, (PT.put x13 t1 (PT.put x12 t10 (PT.put x11 t9 (PT.put x10 t0 (PT.put x9 t17 (PT.put x8 t16 (PT.put x7 t15 (PT.put x6 t14 (PT.put x5 t13 (PT.put x4 t12 (PT.put x3 t11 (PT.put x2 t8 (PT.put x1 t7 fs))))))))))))), s))
 (some ((.exit 0), (PT.put x2 t8 (PT.put x1 t7 fs)), s))
set_option maxHeartbeats 4000000 in
theorem d52_l0 (rec : Rec) (N : Nat) (fs : Frm) (s : St) : c52_l0 rec N fs s = D52_l0 rec N fs s := by
  simp (maxSteps := 4000000) only [c52_l0, lenN, x_seq, x_ops, x_skip, x_ret, x_exit, x_cond, x_block, x_loop, ops_c, ops_n, op1_u, op1_gj, rq_c, rq_n, opQ_u, opQ_g, op2_op2, op2_op, op2_s, op2_cond, thenX_n, thenX_e, thenX_r, blkX_n, blkX_r, blkX_e, finX_r, finX_n, res_n, res_t, op_s, Nat.beq_refl, cond_true]
  first | done | kernel_rfl
def D52_r0 (rec : Rec) (N : Nat) (fs : Frm) (s : St) : OutX := opt2 (oMov (.v (orU (fs.get t0))) rec PT.nil s) fun x1 s =>
 opt2 (oMov (.v (orU (fs.get t1))) rec PT.nil s) fun x2 s =>
 opt2 (oConv .u8 (.v x2) rec PT.nil s) fun x3 s =>
 opt2 (oBuildSlice 1 [(.int .u8 0)] [(0, 1, (.v x3))] rec PT.nil s) fun x4 s =>
 opt2 (oAppend 1 1 (.v x1) (.v x4) rec PT.nil s) fun x5 s =>
 opt2 (oMov (.v x5) rec PT.nil s) fun x6 s =>
 some (.ret, (PT.put x6 t4 (PT.put x5 t22 (PT.put x4 t21 (PT.put x3 t20 (PT.put x2 t19 (PT.put x1 t18 fs)))))), s)
set_option maxHeartbeats 4000000 in
theorem d52_r0 (rec : Rec) (N : Nat) (fs : Frm) (s : St) : c52_r0 rec N fs s = D52_r0 rec N fs s := by
  simp (maxSteps := 4000000) only [c52_r0, lenN, x_seq, x_ops, x_skip, x_ret, x_exit, x_cond, x_block, x_loop, ops_c, ops_n, op1_u, op1_gj, rq_c, rq_n, opQ_u, opQ_g, op2_op2, op2_op, op2_s, op2_cond, thenX_n, thenX_e, thenX_r, blkX_n, blkX_r, blkX_e, finX_r, finX_n, res_n, res_t, op_s, Nat.beq_refl, cond_true]
  first | done | kernel_rfl
def D52 (rec : Rec) (N : Nat) (a0 : Value) (a1 : Value) (s : St) : Out := opt2 (oMov (.v (.slice none 0 0)) rec PT.nil s) fun x1 s =>
 opt2 (oMov (.v a0) rec PT.nil s) fun x2 s =>
 opt2 (rec 60 [x2] s) fun x3 s =>
 opt2 (oMov (.v x3) rec PT.nil s) fun x4 s =>
 opt2 (loopF (c52_l0 rec N) N (PT.put x4 t0 (PT.put x3 t6 (PT.put x2 t5 (PT.put x1 t4 (PT.put a1 t1 (PT.put a0 t0 PT.nil)))))) s) fun e r => opt2 (blkX 0 e r) fun e r => opt2 (thenX (c52_r0 rec N) e r) fun e r => finX [.tmp t4] e r
set_option maxHeartbeats 4000000 in
theorem d52 (rec : Rec) (N : Nat) (a0 : Value) (a1 : Value) (s : St) : callF rec N c52 [a0, a1] s = D52 rec N a0 a1 s := by
  rw [call_f _ _ _ _ _ rfl]
  simp (maxSteps := 4000000) only [c52, lenN, x_seq, x_ops, x_skip, x_ret, x_exit, x_cond, x_block, x_loop, ops_c, ops_n, op1_u, op1_gj, rq_c, rq_n, opQ_u, opQ_g, op2_op2, op2_op, op2_s, op2_cond, thenX_n, thenX_e, thenX_r, blkX_n, blkX_r, blkX_e, finX_r, finX_n, res_n, res_t, op_s, Nat.beq_refl, cond_true]
  first | done | kernel_rfl
def J52_r0 (rec : Rec) (N : Nat) (k : Value × Value) (s : St) : Out := opt2 (oConv .u8 (.v k.2) rec PT.nil s) fun x1 s =>
 opt2 (oBuildSlice 1 [(.int .u8 0)] [(0, 1, (.v x1))] rec PT.nil s) fun x2 s =>
 opt2 (oAppend 1 1 (.v k.1) (.v x2) rec PT.nil s) fun x3 s =>
 some (oneOf [x3], s)
set_option maxHeartbeats 4000000 in
theorem j52_r0 (rec : Rec) (N : Nat) (fs : Frm) (s : St) : opt2 (c52_r0 rec N fs s) (fun e r => finX [.tmp t4] e r) = J52_r0 rec N (orU (fs.get t0), orU (fs.get t1)) s := by
  rw [d52_r0]
  unfold D52_r0 J52_r0
  simp (maxSteps := 4000000) only [thenX_n, thenX_e, thenX_r, x_exit, x_skip, x_ret, blkX_n, blkX_r, blkX_e, finX_r, finX_n, res_n, res_t, op2_op2, op2_op, op2_s, op2_cond, op2_bf, mov_v]
  first | done | kernel_rfl
def B52_l0 (rec : Rec) (N : Nat) (k : Value) (v : Value × Value) (s : St) : OutV (Value × Value) := opt2 (oBin (int2 (cmpO gtI)) (.v v.2) (.v (.int .u64 127)) rec PT.nil s) fun x1 s =>
 condV x1
 (opt2 (oBin (int2 andO) (.v v.2) (.v (.int .u64 127)) rec PT.nil s) fun x2 s =>
 opt2 (oBin (int2 orO) (.v x2) (.v (.int .u64 128)) rec PT.nil s) fun x3 s =>
 opt2 (oConv .u8 (.v x3) rec PT.nil s) fun x4 s =>
 opt2 (oBuildSlice 1 [(.int .u8 0)] [(0, 1, (.v x4))] rec PT.nil s) fun x5 s =>
 opt2 (oAppend 1 1 (.v v.1) (.v x5) rec PT.nil s) fun x6 s =>
 opt2 (oBin (sh2 shrO) (.v v.2) (.v (.int .u64 7)) rec PT.nil s) fun x7 s =>
 some (.norm, ((x6, x7), s)))
 (some ((.exit 0), ((v.1, v.2), s)))
set_option maxHeartbeats 4000000 in
theorem s52_l0 (rec : Rec) (N : Nat) (fs : Frm) (s : St) : opt2 (c52_l0 rec N fs s) (fun e r => some (e, (((orU (r.1.get t0), orU (r.1.get t1)), (orU (r.1.get t4))), r.2))) = opt2 (B52_l0 rec N (orU (fs.get t4)) (orU (fs.get t0), orU (fs.get t1)) s) fun e r => some (e, ((r.1, (orU (fs.get t4))), r.2)) := by
  rw [d52_l0]
  unfold D52_l0 B52_l0
  simp (maxSteps := 4000000) only [op2_op2, op2_op, op2_s, op2_cond, op2_bf, mov_v]
  first | done | kernel_rfl
def C52_l0 (rec : Rec) (N : Nat) (k : Value) (e : AExit) (r : (Value × Value) × St) : Out := (fun s => exV (fun i => bif Nat.beq i 0 then (J52_r0 rec N (r.1.1, r.1.2) s)
 else (none))
 (some (oneOf [k], s)) e) r.2
theorem j52_l0 (rec : Rec) (N : Nat) (fs : Frm) (s : St) : opt2 (loopF (c52_l0 rec N) N fs s) (fun e r => opt2 (blkX 0 e r) fun e r => opt2 (thenX (c52_r0 rec N) e r) fun e r => finX [.tmp t4] e r) = opt2 (loopV (B52_l0 rec N (orU (fs.get t4))) N (orU (fs.get t0), orU (fs.get t1)) s) (C52_l0 rec N (orU (fs.get t4))) := by
  refine loop_j (fun fs => (orU (fs.get t0), orU (fs.get t1))) (fun fs => (orU (fs.get t4))) (B52_l0 rec N) (c52_l0 rec N) (s52_l0 rec N) (fun e r => opt2 (blkX 0 e r) fun e r => opt2 (thenX (c52_r0 rec N) e r) fun e r => finX [.tmp t4] e r) (C52_l0 rec N) ?_ ?_ N fs s
  · intro i fs s
    unfold C52_l0
    simp (maxSteps := 4000000) only [thenX_n, thenX_e, thenX_r, x_exit, x_skip, x_ret, blkX_n, blkX_r, blkX_e, finX_r, finX_n, res_n, res_t, exV_e, exV_r, op2_op2, op2_op, op2_s, op2_cond, op2_bf, mov_v, j52_r0 rec N]
    first | done | kernel_rfl
  · intro fs s
    unfold C52_l0
    simp (maxSteps := 4000000) only [thenX_n, thenX_e, thenX_r, x_exit, x_skip, x_ret, blkX_n, blkX_r, blkX_e, finX_r, finX_n, res_n, res_t, exV_e, exV_r, op2_op2, op2_op, op2_s, op2_cond, op2_bf, mov_v, j52_r0 rec N]
    first | done | kernel_rfl
def F52 (rec : Rec) (N : Nat) (a0 : Value) (a1 : Value) (s : St) : Out := opt2 (rec 60 [a0] s) fun x1 s =>
 opt2 (loopV (B52_l0 rec N (.slice none 0 0)) N (x1, a1) s) (C52_l0 rec N (.slice none 0 0))
theorem f52 (rec : Rec) (N : Nat) (a0 : Value) (a1 : Value) (s : St) : callF rec N c52 [a0, a1] s = F52 rec N a0 a1 s := by
  rw [d52]
  unfold D52 F52
  simp (maxSteps := 4000000) only [mov_v, op2_s, j52_l0 rec N]
  first | done | kernel_rfl
-- c53
def D53_l0 (rec : Rec) (N : Nat) (fs : Frm) (s : St) : OutX := opt2 (oMov (.v (orU (fs.get t7))) rec PT.nil s) fun x1 s =>
 opt2 (oFieldAddr 1 (.v (orU (fs.get t2))) rec PT.nil s) fun x2 s =>
 opt2 (oLoad1 (.v x2) rec PT.nil s) fun x3 s =>
 opt2 (oLenL (.v x3) rec PT.nil s) fun x4 s =>
 opt2 (oBin (int2 (cmpO ltI)) (.v x1) (.v x4) rec PT.nil s) fun x5 s =>
 condV x5
 (opt2 (rU (oFieldAddr 1 (.v (orU (fs.get t2))) rec PT.nil ⟨s.heap, s.next, 0, 0⟩) PT.nil s none) fun x6 m6 =>
 (fun s => opt2 (rU (oLoad1 (.v x6) rec PT.nil ⟨s.heap, s.next, 0, 0⟩) PT.nil s (some (.v x6))) fun x7 m7 =>
 (fun s => opt2 (rU (oMov (.v (orU (fs.get t7))) rec PT.nil ⟨s.heap, s.next, 0, 0⟩) PT.nil s none) fun x8 m8 =>
 (fun s => opt2 (rU (oIdxAddrL 1 (.v x7) (.v x8) rec PT.nil ⟨s.heap, s.next, 0, 0⟩) PT.nil s none) fun x9 m9 =>
 (fun s => opt2 (rU (oLoad1 (.v x9) rec PT.nil ⟨s.heap, s.next, 0, 0⟩) PT.nil s (some (.v x9))) fun x10 m10 =>
 (fun s => opt2 (rU (oBin (int2 addO) (.v x10) (.v (.int .u64 65536)) rec PT.nil ⟨s.heap, s.next, 0, 0⟩) PT.nil s none) fun x11 m11 =>
 (fun s => opt2 (rU (oFieldAddr 1 (.v (orU (fs.get t3))) rec PT.nil ⟨s.heap, s.next, 0, 0⟩) PT.nil s none) fun x12 m12 =>
 (fun s => opt2 (rU (oLoad1 (.v x12) rec PT.nil ⟨s.heap, s.next, 0, 0⟩) PT.nil s (some (.v x12))) fun x13 m13 =>
 (fun s => opt2 (rU (oMov (.v (orU (fs.get t7))) rec PT.nil ⟨s.heap, s.next, 0, 0⟩) PT.nil s none) fun x14 m14 =>
 (fun s => opt2 (rU (rec 72 [x13, x14] ⟨s.heap, s.next, 0, 0⟩) PT.nil s none) fun x15 m15 =>
 (fun s => opt2 (rU (oBin (int2 subO) (.v x11) (.v x15) rec PT.nil ⟨s.heap, s.next, 0, 0⟩) PT.nil s none) fun x16 m16 =>
 (fun s => opt2 (rU (oMov (.v (orU (fs.get t6))) rec PT.nil ⟨s.heap, s.next, 0, 0⟩) PT.nil s none) fun x17 m17 =>
 (fun s => opt2 (rU (oBin (int2 subO) (.v x16) (.v x17) rec PT.nil ⟨s.heap, s.next, 0, 0⟩) PT.nil s none) fun x18 m18 =>
 (fun s => opt2 (rU (oMov (.v x18) rec PT.nil ⟨s.heap, s.next, 0, 0⟩) PT.nil s none) fun x19 m19 =>
 (fun s => bif apartAll [m6.1, m7.1, m8.1, m9.1, m10.1, m11.1, m12.1, m13.1, m14.1, m15.1, m16.1, m17.1, m18.1, m19.1] [(0, 2), (1, 2), (0, 6), (1, 6), (2, 6), (3, 6), (4, 6), (5, 6), (0, 7), (1, 7), (2, 7), (3, 7), (4, 7), (5, 7), (0, 8), (1, 8), (2, 8), (3, 8), (4, 8), (5, 8), (6, 8), (7, 8), (0, 9), (1, 9), (2, 9), (3, 9), (4, 9), (5, 9), (0, 11), (1, 11), (2, 11), (3, 11), (4, 11), (5, 11), (6, 11), (7, 11), (8, 11), (9, 11), (10, 11)] then opt2 (oMov (.v (orU (fs.get t5))) rec PT.nil s) fun x20 s =>
 opt2 (oMov (.v x19) rec PT.nil s) fun x21 s =>
 opt2 (oBin (int2 andO) (.v x21) (.v (.int .u64 65535)) rec PT.nil s) fun x22 s =>
 opt2 (oBuildSlice 1 [(.int .u64 0)] [(0, 1, (.v x22))] rec PT.nil s) fun x23 s =>
 opt2 (oAppend 1 8 (.v x20) (.v x23) rec PT.nil s) fun x24 s =>
 opt2 (oMov (.v x24) rec PT.nil s) fun x25 s =>
 opt2 (oMov (.v x19) rec PT.nil s) fun x26 s =>
 opt2 (oBin (sh2 shrO) (.v x26) (.v (.int .u64 16)) rec PT.nil s) fun x27 s =>
 opt2 (oBin (int2 subO) (.v (.int .u64 1)) (.v x27) rec PT.nil s) fun x28 s =>
 opt2 (oMov (.v x28) rec PT.nil s) fun x29 s =>
 opt2 (oMov (.v (orU (fs.get t7))) rec PT.nil s) fun x30 s =>
 opt2 (oBin (int2 addO) (.v x30) (.v (.int .i64 1)) rec PT.nil s) fun x31 s =>
 opt2 (oMov (.v x31) rec PT.nil s) fun x32 s =>
 some (.norm, (PT.put x32 t7 (PT.put x31 t31 (PT.put x30 t30 (PT.put x29 t6 (PT.put x28 t52 (PT.put x27 t51 (PT.put x26 t50 (PT.put x25 t5 (PT.put x24 t49 (PT.put x23 t48 (PT.put x22 t47 (PT.put x21 t46 (PT.put x20 t45 (PT.put x19 t8 (PT.put x18 t44 (PT.put x17 t43 (PT.put x16 t42 (PT.put x15 t41 (PT.put x14 t40 (PT.put x13 t39 (PT.put x12 t38 (PT.put x11 t37 (PT.put x10 t36 (PT.put x9 t35 (PT.put x8 t34 (PT.put x7 t33 (PT.put x6 t32 (PT.put x5 t29 (PT.put x4 t28 (PT.put x3 t27 (PT.put x2 t26 (PT.put x1 t25 fs)))))))))))))))))))))))))))))))), s) else none) m19.2) m18.2) m17.2) m16.2) m15.2) m14.2) m13.2) m12.2) m11.2) m10.2) m9.2) m8.2) m7.2) m6.2)
 (some ((.exit 0), (PT.put x5 t29 (PT.put x4 t28 (PT.put x3 t27 (PT.put x2 t26 (PT.put x1 t25 fs))))), s))
set_option maxHeartbeats 4000000 in
theorem d53_l0 (rec : Rec) (N : Nat) (fs : Frm) (s : St) : c53_l0 rec N fs s = D53_l0 rec N fs s := by
  simp (maxSteps := 4000000) only [c53_l0, lenN, x_regc, reg_n, reg_c, reg1_u, reg1_g, op2_cons, op2_bif, x_seq, x_ops, x_skip, x_ret, x_exit, x_cond, x_block, x_loop, ops_c, ops_n, op1_u, op1_gj, rq_c, rq_n, opQ_u, opQ_g, op2_op2, op2_op, op2_s, op2_cond, thenX_n, thenX_e, thenX_r, blkX_n, blkX_r, blkX_e, finX_r, finX_n, res_n, res_t, op_s, Nat.beq_refl, cond_true]
  first | done | kernel_rfl
def D53_r0 (rec : Rec) (N : Nat) (fs : Frm) (s : St) : OutX := opt2 (oFieldAddr 0 (.v (orU (fs.get t2))) rec PT.nil s) fun x1 s =>
 opt2 (oLoad1 (.v x1) rec PT.nil s) fun x2 s =>
 opt2 (oMov (.v (orU (fs.get t5))) rec PT.nil s) fun x3 s =>
 opt2 (oBuild [(.bool false), (.slice none 0 0)] [(0, 1, (.v x2)), (1, 1, (.v x3))] rec PT.nil s) fun x4 s =>
 opt2 (rec 71 [x4] s) fun x5 s =>
 opt2 (oStore 2 (.v (orU (fs.get t4))) (.v x5) rec PT.nil s) fun x6 s =>
 some (.ret, (PT.put x5 t57 (PT.put x4 t56 (PT.put x3 t55 (PT.put x2 t54 (PT.put x1 t53 fs))))), s)
set_option maxHeartbeats 4000000 in
theorem d53_r0 (rec : Rec) (N : Nat) (fs : Frm) (s : St) : c53_r0 rec N fs s = D53_r0 rec N fs s := by
  simp (maxSteps := 4000000) only [c53_r0, lenN, x_regc, reg_n, reg_c, reg1_u, reg1_g, op2_cons, op2_bif, x_seq, x_ops, x_skip, x_ret, x_exit, x_cond, x_block, x_loop, ops_c, ops_n, op1_u, op1_gj, rq_c, rq_n, opQ_u, opQ_g, op2_op2, op2_op, op2_s, op2_cond, thenX_n, thenX_e, thenX_r, blkX_n, blkX_r, blkX_e, finX_r, finX_n, res_n, res_t, op_s, Nat.beq_refl, cond_true]
  first | done | kernel_rfl
def D53_l1 (rec : Rec) (N : Nat) (fs : Frm) (s : St) : OutX := opt2 (oMov (.v (orU (fs.get t11))) rec PT.nil s) fun x1 s =>
 opt2 (oFieldAddr 1 (.v (orU (fs.get t2))) rec PT.nil s) fun x2 s =>
 opt2 (oLoad1 (.v x2) rec PT.nil s) fun x3 s =>
 opt2 (oLenL (.v x3) rec PT.nil s) fun x4 s =>
 opt2 (oBin (int2 (cmpO ltI)) (.v x1) (.v x4) rec PT.nil s) fun x5 s =>
 opt2 (oMov (.v x5) rec PT.nil s) fun x6 s =>
 opt (gval false x6) fun x7 => opt2 (orUndef x7 (oMov (.v (orU (fs.get t11))) rec PT.nil s) s) fun x8 s =>
 opt (gval false x6) fun x9 => opt2 (orUndef x9 (oFieldAddr 1 (.v (orU (fs.get t3))) rec PT.nil s) s) fun x10 s =>
 opt (gval false x6) fun x11 => opt2 (orUndef x11 (oLoad1 (.v x10) rec PT.nil s) s) fun x12 s =>
 opt (gval false x6) fun x13 => opt2 (orUndef x13 (oLenL (.v x12) rec PT.nil s) s) fun x14 s =>
 opt (gval false x6) fun x15 => opt2 (orUndef x15 (oBin (int2 (cmpO ltI)) (.v x8) (.v x14) rec PT.nil s) s) fun x16 s =>
 opt2 (oPick (.v x6) (.v (.bool true)) (.v x16) rec PT.nil s) fun x17 s =>
 opt2 (oMov (.v x17) rec PT.nil s) fun x18 s =>
 opt (gval false x18) fun x19 => opt2 (orUndef x19 (oMov (.v (orU (fs.get t10))) rec PT.nil s) s) fun x20 s =>
 opt (gval false x18) fun x21 => opt2 (orUndef x21 (oBin (int2 (cmpO gtI)) (.v x20) (.v (.int .u64 0)) rec PT.nil s) s) fun x22 s =>
 opt2 (oPick (.v x18) (.v (.bool true)) (.v x22) rec PT.nil s) fun x23 s =>
 condV x23
 (opt2 (rU (oFieldAddr 1 (.v (orU (fs.get t2))) rec PT.nil ⟨s.heap, s.next, 0, 0⟩) PT.nil s none) fun x24 m24 =>
 (fun s => opt2 (rU (oLoad1 (.v x24) rec PT.nil ⟨s.heap, s.next, 0, 0⟩) PT.nil s (some (.v x24))) fun x25 m25 =>
 (fun s => opt2 (rU (oMov (.v (orU (fs.get t11))) rec PT.nil ⟨s.heap, s.next, 0, 0⟩) PT.nil s none) fun x26 m26 =>
 (fun s => opt2 (rU (rec 72 [x25, x26] ⟨s.heap, s.next, 0, 0⟩) PT.nil s none) fun x27 m27 =>
 (fun s => opt2 (rU (oFieldAddr 1 (.v (orU (fs.get t3))) rec PT.nil ⟨s.heap, s.next, 0, 0⟩) PT.nil s none) fun x28 m28 =>
 (fun s => opt2 (rU (oLoad1 (.v x28) rec PT.nil ⟨s.heap, s.next, 0, 0⟩) PT.nil s (some (.v x28))) fun x29 m29 =>
 (fun s => opt2 (rU (oMov (.v (orU (fs.get t11))) rec PT.nil ⟨s.heap, s.next, 0, 0⟩) PT.nil s none) fun x30 m30 =>
 (fun s => opt2 (rU (rec 72 [x29, x30] ⟨s.heap, s.next, 0, 0⟩) PT.nil s none) fun x31 m31 =>
 (fun s => opt2 (rU (oBin (int2 addO) (.v x27) (.v x31) rec PT.nil ⟨s.heap, s.next, 0, 0⟩) PT.nil s none) fun x32 m32 =>
 (fun s => opt2 (rU (oMov (.v (orU (fs.get t10))) rec PT.nil ⟨s.heap, s.next, 0, 0⟩) PT.nil s none) fun x33 m33 =>
 (fun s => opt2 (rU (oBin (int2 addO) (.v x32) (.v x33) rec PT.nil ⟨s.heap, s.next, 0, 0⟩) PT.nil s none) fun x34 m34 =>
 (fun s => opt2 (rU (oMov (.v x34) rec PT.nil ⟨s.heap, s.next, 0, 0⟩) PT.nil s none) fun x35 m35 =>
 (fun s => bif apartAll [m24.1, m25.1, m26.1, m27.1, m28.1, m29.1, m30.1, m31.1, m32.1, m33.1, m34.1, m35.1] [(0, 2), (1, 2), (0, 4), (1, 4), (2, 4), (3, 4), (0, 5), (1, 5), (2, 5), (3, 5), (0, 6), (1, 6), (2, 6), (3, 6), (4, 6), (5, 6), (0, 9), (1, 9), (2, 9), (3, 9), (4, 9), (5, 9), (6, 9), (7, 9), (8, 9)] then opt2 (oMov (.v (orU (fs.get t9))) rec PT.nil s) fun x36 s =>
 opt2 (oMov (.v x35) rec PT.nil s) fun x37 s =>
 opt2 (oBin (int2 andO) (.v x37) (.v (.int .u64 65535)) rec PT.nil s) fun x38 s =>
 opt2 (oBuildSlice 1 [(.int .u64 0)] [(0, 1, (.v x38))] rec PT.nil s) fun x39 s =>
 opt2 (oAppend 1 8 (.v x36) (.v x39) rec PT.nil s) fun x40 s =>
 opt2 (oMov (.v x40) rec PT.nil s) fun x41 s =>
 opt2 (oMov (.v x35) rec PT.nil s) fun x42 s =>
 opt2 (oBin (sh2 shrO) (.v x42) (.v (.int .u64 16)) rec PT.nil s) fun x43 s =>
 opt2 (oMov (.v x43) rec PT.nil s) fun x44 s =>
 opt2 (oMov (.v (orU (fs.get t11))) rec PT.nil s) fun x45 s =>
 opt2 (oBin (int2 addO) (.v x45) (.v (.int .i64 1)) rec PT.nil s) fun x46 s =>
 opt2 (oMov (.v x46) rec PT.nil s) fun x47 s =>
 some (.norm, (PT.put x47 t11 (PT.put x46 t75 (PT.put x45 t74 (PT.put x44 t10 (PT.put x43 t93 (PT.put x42 t92 (PT.put x41 t9 (PT.put x40 t91 (PT.put x39 t90 (PT.put x38 t89 (PT.put x37 t88 (PT.put x36 t87 (PT.put x35 t12 (PT.put x34 t86 (PT.put x33 t85 (PT.put x32 t84 (PT.put x31 t83 (PT.put x30 t82 (PT.put x29 t81 (PT.put x28 t80 (PT.put x27 t79 (PT.put x26 t78 (PT.put x25 t77 (PT.put x24 t76 (PT.put x23 t73 (PT.put x22 t72 (PT.put x20 t71 (PT.put x18 t70 (PT.put x17 t69 (PT.put x16 t68 (PT.put x14 t67 (PT.put x12 t66 (PT.put x10 t65 (PT.put x8 t64 (PT.put x6 t63 (PT.put x5 t62 (PT.put x4 t61 (PT.put x3 t60 (PT.put x2 t59 (PT.put x1 t58 fs)))))))))))))))))))))))))))))))))))))))), s) else none) m35.2) m34.2) m33.2) m32.2) m31.2) m30.2) m29.2) m28.2) m27.2) m26.2) m25.2) m24.2)
 (some ((.exit 2), (PT.put x23 t73 (PT.put x22 t72 (PT.put x20 t71 (PT.put x18 t70 (PT.put x17 t69 (PT.put x16 t68 (PT.put x14 t67 (PT.put x12 t66 (PT.put x10 t65 (PT.put x8 t64 (PT.put x6 t63 (PT.put x5 t62 (PT.put x4 t61 (PT.put x3 t60 (PT.put x2 t59 (PT.put x1 t58 fs)))))))))))))))), s))
set_option maxHeartbeats 4000000 in
theorem d53_l1 (rec : Rec) (N : Nat) (fs : Frm) (s : St) : c53_l1 rec N fs s = D53_l1 rec N fs s := by
  simp (maxSteps := 4000000) only [c53_l1, lenN, x_regc, reg_n, reg_c, reg1_u, reg1_g, op2_cons, op2_bif, x_seq, x_ops, x_skip, x_ret, x_exit, x_cond, x_block, x_loop, ops_c, ops_n, op1_u, op1_gj, rq_c, rq_n, opQ_u, opQ_g, op2_op2, op2_op, op2_s, op2_cond, thenX_n, thenX_e, thenX_r, blkX_n, blkX_r, blkX_e, finX_r, finX_n, res_n, res_t, op_s, Nat.beq_refl, cond_true]
  first | done | kernel_rfl
def D53_r1 (rec : Rec) (N : Nat) (fs : Frm) (s : St) : OutX := opt2 (oFieldAddr 0 (.v (orU (fs.get t2))) rec PT.nil s) fun x1 s =>
 opt2 (oLoad1 (.v x1) rec PT.nil s) fun x2 s =>
 opt2 (oMov (.v (orU (fs.get t9))) rec PT.nil s) fun x3 s =>
 opt2 (oBuild [(.bool false), (.slice none 0 0)] [(0, 1, (.v x2)), (1, 1, (.v x3))] rec PT.nil s) fun x4 s =>
 opt2 (rec 71 [x4] s) fun x5 s =>
 opt2 (oStore 2 (.v (orU (fs.get t4))) (.v x5) rec PT.nil s) fun x6 s =>
 some (.ret, (PT.put x5 t98 (PT.put x4 t97 (PT.put x3 t96 (PT.put x2 t95 (PT.put x1 t94 fs))))), s)
set_option maxHeartbeats 4000000 in
theorem d53_r1 (rec : Rec) (N : Nat) (fs : Frm) (s : St) : c53_r1 rec N fs s = D53_r1 rec N fs s := by
  simp (maxSteps := 4000000) only [c53_r1, lenN, x_regc, reg_n, reg_c, reg1_u, reg1_g, op2_cons, op2_bif, x_seq, x_ops, x_skip, x_ret, x_exit, x_cond, x_block, x_loop, ops_c, ops_n, op1_u, op1_gj, rq_c, rq_n, opQ_u, opQ_g, op2_op2, op2_op, op2_s, op2_cond, thenX_n, thenX_e, thenX_r, blkX_n, blkX_r, blkX_e, finX_r, finX_n, res_n, res_t, op_s, Nat.beq_refl, cond_true]
  first | done | kernel_rfl
def D53_r2 (rec : Rec) (N : Nat) (fs : Frm) (s : St) : OutX := opt2 (oMov (.v (.slice none 0 0)) rec PT.nil s) fun x1 s =>
 opt2 (oMov (.v (.int .u64 0)) rec PT.nil s) fun x2 s =>
 opt2 (oMov (.v (.int .i64 0)) rec PT.nil s) fun x3 s =>
 opt2 (loopF (c53_l1 rec N) N (PT.put x3 t11 (PT.put x2 t10 (PT.put x1 t9 fs))) s) fun e r => opt2 (blkX 2 e r) fun e r => thenX (c53_r1 rec N) e r
set_option maxHeartbeats 4000000 in
theorem d53_r2 (rec : Rec) (N : Nat) (fs : Frm) (s : St) : c53_r2 rec N fs s = D53_r2 rec N fs s := by
  simp (maxSteps := 4000000) only [c53_r2, lenN, x_regc, reg_n, reg_c, reg1_u, reg1_g, op2_cons, op2_bif, x_seq, x_ops, x_skip, x_ret, x_exit, x_cond, x_block, x_loop, ops_c, ops_n, op1_u, op1_gj, rq_c, rq_n, opQ_u, opQ_g, op2_op2, op2_op, op2_s, op2_cond, thenX_n, thenX_e, thenX_r, blkX_n, blkX_r, blkX_e, finX_r, finX_n, res_n, res_t, op_s, Nat.beq_refl, cond_true]
  first | done | kernel_rfl
def D53 (rec : Rec) (N : Nat) (a0 : Value) (a1 : Value) (s : St) : Out := opt2 (oBox (.v a0) rec PT.nil s) fun x1 s =>
 opt2 (oBox (.v a1) rec PT.nil s) fun x2 s =>
 opt2 (oNew [(.bool false), (.slice none 0 0)] rec PT.nil s) fun x3 s =>
 opt2 (oFieldAddr 0 (.v x1) rec PT.nil s) fun x4 s =>
 opt2 (oLoad1 (.v x4) rec PT.nil s) fun x5 s =>
 opt2 (oFieldAddr 0 (.v x2) rec PT.nil s) fun x6 s =>
 opt2 (oLoad1 (.v x6) rec PT.nil s) fun x7 s =>
 opt2 (oEqv eqB true (.v x5) (.v x7) rec PT.nil s) fun x8 s =>
 condV x8
 (opt2 (oFieldAddr 1 (.v x1) rec PT.nil s) fun x9 s =>
 opt2 (oLoad1 (.v x9) rec PT.nil s) fun x10 s =>
 opt2 (oFieldAddr 1 (.v x2) rec PT.nil s) fun x11 s =>
 opt2 (oLoad1 (.v x11) rec PT.nil s) fun x12 s =>
 opt2 (rec 70 [x10, x12] s) fun x13 s =>
 condV x13
 (opt2 (oLoadN 2 (.v x2) rec PT.nil s) fun x14 s =>
 opt2 (oLoadN 2 (.v x1) rec PT.nil s) fun x15 s =>
 opt2 (oStore 2 (.v x1) (.v x14) rec PT.nil s) fun x16 s =>
 opt2 (oStore 2 (.v x2) (.v x15) rec PT.nil s) fun x17 s =>
 opt2 (oMov (.v (.slice none 0 0)) rec PT.nil s) fun x18 s =>
 opt2 (oMov (.v (.int .u64 0)) rec PT.nil s) fun x19 s =>
 opt2 (oMov (.v (.int .i64 0)) rec PT.nil s) fun x20 s =>
 opt2 (loopF (c53_l0 rec N) N (PT.put x20 t7 (PT.put x19 t6 (PT.put x18 t5 (PT.put x15 t24 (PT.put x14 t23 (PT.put x13 t22 (PT.put x12 t21 (PT.put x11 t20 (PT.put x10 t19 (PT.put x9 t18 (PT.put x8 t17 (PT.put x7 t16 (PT.put x6 t15 (PT.put x5 t14 (PT.put x4 t13 (PT.put x3 t4 (PT.put x2 t3 (PT.put x1 t2 (PT.put a1 t1 (PT.put a0 t0 PT.nil)))))))))))))))))))) s) fun e r => opt2 (blkX 0 e r) fun e r => opt2 (thenX (c53_r0 rec N) e r) fun e r => opt2 (thenX (c53_r2 rec N) e r) fun e r => finX [.cell t4 (some 2)] e r)
 (opt2 (oMov (.v (.slice none 0 0)) rec PT.nil s) fun x21 s =>
 opt2 (oMov (.v (.int .u64 0)) rec PT.nil s) fun x22 s =>
 opt2 (oMov (.v (.int .i64 0)) rec PT.nil s) fun x23 s =>
 opt2 (loopF (c53_l0 rec N) N (PT.put x23 t7 (PT.put x22 t6 (PT.put x21 t5 (PT.put x13 t22 (PT.put x12 t21 (PT.put x11 t20 (PT.put x10 t19 (PT.put x9 t18 (PT.put x8 t17 (PT.put x7 t16 (PT.put x6 t15 (PT.put x5 t14 (PT.put x4 t13 (PT.put x3 t4 (PT.put x2 t3 (PT.put x1 t2 (PT.put a1 t1 (PT.put a0 t0 PT.nil)))))))))))))))))) s) fun e r => opt2 (blkX 0 e r) fun e r => opt2 (thenX (c53_r0 rec N) e r) fun e r => opt2 (thenX (c53_r2 rec N) e r) fun e r => finX [.cell t4 (some 2)] e r))
 (opt2 (c53_r2 rec N (PT.put x8 t17 (PT.put x7 t16 (PT.put x6 t15 (PT.put x5 t14 (PT.put x4 t13 (PT.put x3 t4 (PT.put x2 t3 (PT.put x1 t2 (PT.put a1 t1 (PT.put a0 t0 PT.nil)))))))))) s) fun e r => finX [.cell t4 (some 2)] e r)
set_option maxHeartbeats 4000000 in
theorem d53 (rec : Rec) (N : Nat) (a0 : Value) (a1 : Value) (s : St) : callF rec N c53 [a0, a1] s = D53 rec N a0 a1 s := by
  rw [call_f _ _ _ _ _ rfl]
  simp (maxSteps := 4000000) only [c53, lenN, x_regc, reg_n, reg_c, reg1_u, reg1_g, op2_cons, op2_bif, x_seq, x_ops, x_skip, x_ret, x_exit, x_cond, x_block, x_loop, ops_c, ops_n, op1_u, op1_gj, rq_c, rq_n, opQ_u, opQ_g, op2_op2, op2_op, op2_s, op2_cond, thenX_n, thenX_e, thenX_r, blkX_n, blkX_r, blkX_e, finX_r, finX_n, res_n, res_t, op_s, Nat.beq_refl, cond_true]
  first | done | kernel_rfl
def J53_r0 (rec : Rec) (N : Nat) (k : Value × Value × Value) (s : St) : Out := opt2 (oFieldAddr 0 (.v k.1) rec PT.nil s) fun x1 s =>
 opt2 (oLoad1 (.v x1) rec PT.nil s) fun x2 s =>
 opt2 (oBuild [(.bool false), (.slice none 0 0)] [(0, 1, (.v x2)), (1, 1, (.v k.2.2))] rec PT.nil s) fun x3 s =>
 opt2 (rec 71 [x3] s) fun x4 s =>
 opt2 (oStore 2 (.v k.2.1) (.v x4) rec PT.nil s) fun x5 s =>
 finX [.cell t4 (some 2)] .ret ((PT.put k.2.1 t4 PT.nil), s)
set_option maxHeartbeats 4000000 in
theorem j53_r0 (rec : Rec) (N : Nat) (fs : Frm) (s : St) : opt2 (c53_r0 rec N fs s) (fun e r => opt2 (thenX (c53_r2 rec N) e r) fun e r => finX [.cell t4 (some 2)] e r) = J53_r0 rec N (orU (fs.get t2), orU (fs.get t4), orU (fs.get t5)) s := by
  rw [d53_r0]
  unfold D53_r0 J53_r0
  simp (maxSteps := 4000000) only [thenX_n, thenX_e, thenX_r, x_exit, x_skip, x_ret, blkX_n, blkX_r, blkX_e, finX_r, finX_n, res_n, res_t, op2_op2, op2_op, op2_s, op2_cond, op2_bf, mov_v]
  first | done | kernel_rfl
def B53_l0 (rec : Rec) (N : Nat) (k : Value × Value × Value) (v : Value × Value × Value) (s : St) : OutV (Value × Value × Value) := opt2 (oFieldAddr 1 (.v k.1) rec PT.nil s) fun x1 s =>
 opt2 (oLoad1 (.v x1) rec PT.nil s) fun x2 s =>
 opt2 (oLenL (.v x2) rec PT.nil s) fun x3 s =>
 opt2 (oBin (int2 (cmpO ltI)) (.v v.2.2) (.v x3) rec PT.nil s) fun x4 s =>
 condV x4
 (opt2 (rU (oFieldAddr 1 (.v k.1) rec PT.nil ⟨s.heap, s.next, 0, 0⟩) PT.nil s none) fun x5 m5 =>
 (fun s => opt2 (rU (oLoad1 (.v x5) rec PT.nil ⟨s.heap, s.next, 0, 0⟩) PT.nil s (some (.v x5))) fun x6 m6 =>
 (fun s => opt2 (rU (oMov (.v v.2.2) rec PT.nil ⟨s.heap, s.next, 0, 0⟩) PT.nil s none) fun x7 m7 =>
 (fun s => opt2 (rU (oIdxAddrL 1 (.v x6) (.v x7) rec PT.nil ⟨s.heap, s.next, 0, 0⟩) PT.nil s none) fun x8 m8 =>
 (fun s => opt2 (rU (oLoad1 (.v x8) rec PT.nil ⟨s.heap, s.next, 0, 0⟩) PT.nil s (some (.v x8))) fun x9 m9 =>
 (fun s => opt2 (rU (oBin (int2 addO) (.v x9) (.v (.int .u64 65536)) rec PT.nil ⟨s.heap, s.next, 0, 0⟩) PT.nil s none) fun x10 m10 =>
 (fun s => opt2 (rU (oFieldAddr 1 (.v k.2.1) rec PT.nil ⟨s.heap, s.next, 0, 0⟩) PT.nil s none) fun x11 m11 =>
 (fun s => opt2 (rU (oLoad1 (.v x11) rec PT.nil ⟨s.heap, s.next, 0, 0⟩) PT.nil s (some (.v x11))) fun x12 m12 =>
 (fun s => opt2 (rU (oMov (.v v.2.2) rec PT.nil ⟨s.heap, s.next, 0, 0⟩) PT.nil s none) fun x13 m13 =>
 (fun s => opt2 (rU (rec 72 [x12, x13] ⟨s.heap, s.next, 0, 0⟩) PT.nil s none) fun x14 m14 =>
 (fun s => opt2 (rU (oBin (int2 subO) (.v x10) (.v x14) rec PT.nil ⟨s.heap, s.next, 0, 0⟩) PT.nil s none) fun x15 m15 =>
 (fun s => opt2 (rU (oMov (.v v.2.1) rec PT.nil ⟨s.heap, s.next, 0, 0⟩) PT.nil s none) fun x16 m16 =>
 (fun s => opt2 (rU (oBin (int2 subO) (.v x15) (.v x16) rec PT.nil ⟨s.heap, s.next, 0, 0⟩) PT.nil s none) fun x17 m17 =>
 (fun s => opt2 (rU (oMov (.v x17) rec PT.nil ⟨s.heap, s.next, 0, 0⟩) PT.nil s none) fun x18 m18 =>
 (fun s => bif apartAll [m5.1, m6.1, m7.1, m8.1, m9.1, m10.1, m11.1, m12.1, m13.1, m14.1, m15.1, m16.1, m17.1, m18.1] [(0, 2), (1, 2), (0, 6), (1, 6), (2, 6), (3, 6), (4, 6), (5, 6), (0, 7), (1, 7), (2, 7), (3, 7), (4, 7), (5, 7), (0, 8), (1, 8), (2, 8), (3, 8), (4, 8), (5, 8), (6, 8), (7, 8), (0, 9), (1, 9), (2, 9), (3, 9), (4, 9), (5, 9), (0, 11), (1, 11), (2, 11), (3, 11), (4, 11), (5, 11), (6, 11), (7, 11), (8, 11), (9, 11), (10, 11)] then opt2 (oBin (int2 andO) (.v x18) (.v (.int .u64 65535)) rec PT.nil s) fun x19 s =>
 opt2 (oBuildSlice 1 [(.int .u64 0)] [(0, 1, (.v x19))] rec PT.nil s) fun x20 s =>
 opt2 (oAppend 1 8 (.v v.1) (.v x20) rec PT.nil s) fun x21 s =>
 opt2 (oBin (sh2 shrO) (.v x18) (.v (.int .u64 16)) rec PT.nil s) fun x22 s =>
 opt2 (oBin (int2 subO) (.v (.int .u64 1)) (.v x22) rec PT.nil s) fun x23 s =>
 opt2 (oBin (int2 addO) (.v v.2.2) (.v (.int .i64 1)) rec PT.nil s) fun x24 s =>
 some (.norm, ((x21, x23, x24), s)) else none) m18.2) m17.2) m16.2) m15.2) m14.2) m13.2) m12.2) m11.2) m10.2) m9.2) m8.2) m7.2) m6.2) m5.2)
 (some ((.exit 0), ((v.1, v.2.1, v.2.2), s)))
set_option maxHeartbeats 4000000 in
theorem s53_l0 (rec : Rec) (N : Nat) (fs : Frm) (s : St) : opt2 (c53_l0 rec N fs s) (fun e r => some (e, (((orU (r.1.get t5), orU (r.1.get t6), orU (r.1.get t7)), (orU (r.1.get t2), orU (r.1.get t3), orU (r.1.get t4))), r.2))) = opt2 (B53_l0 rec N (orU (fs.get t2), orU (fs.get t3), orU (fs.get t4)) (orU (fs.get t5), orU (fs.get t6), orU (fs.get t7)) s) fun e r => some (e, ((r.1, (orU (fs.get t2), orU (fs.get t3), orU (fs.get t4))), r.2)) := by
  rw [d53_l0]
  unfold D53_l0 B53_l0
  simp (maxSteps := 4000000) only [op2_op2, op2_op, op2_s, op2_cond, op2_bf, mov_v]
  first | done | kernel_rfl
def C53_l0 (rec : Rec) (N : Nat) (k : Value × Value × Value) (e : AExit) (r : (Value × Value × Value) × St) : Out := (fun s => exV (fun i => bif Nat.beq i 0 then (J53_r0 rec N (k.1, k.2.2, r.1.1) s)
 else (none))
 (finX [.cell t4 (some 2)] .ret ((PT.put k.2.2 t4 PT.nil), s)) e) r.2
theorem j53_l0 (rec : Rec) (N : Nat) (fs : Frm) (s : St) : opt2 (loopF (c53_l0 rec N) N fs s) (fun e r => opt2 (blkX 0 e r) fun e r => opt2 (thenX (c53_r0 rec N) e r) fun e r => opt2 (thenX (c53_r2 rec N) e r) fun e r => finX [.cell t4 (some 2)] e r) = opt2 (loopV (B53_l0 rec N (orU (fs.get t2), orU (fs.get t3), orU (fs.get t4))) N (orU (fs.get t5), orU (fs.get t6), orU (fs.get t7)) s) (C53_l0 rec N (orU (fs.get t2), orU (fs.get t3), orU (fs.get t4))) := by
  refine loop_j (fun fs => (orU (fs.get t5), orU (fs.get t6), orU (fs.get t7))) (fun fs => (orU (fs.get t2), orU (fs.get t3), orU (fs.get t4))) (B53_l0 rec N) (c53_l0 rec N) (s53_l0 rec N) (fun e r => opt2 (blkX 0 e r) fun e r => opt2 (thenX (c53_r0 rec N) e r) fun e r => opt2 (thenX (c53_r2 rec N) e r) fun e r => finX [.cell t4 (some 2)] e r) (C53_l0 rec N) ?_ ?_ N fs s
  · intro i fs s
    unfold C53_l0
    simp (maxSteps := 4000000) only [thenX_n, thenX_e, thenX_r, x_exit, x_skip, x_ret, blkX_n, blkX_r, blkX_e, finX_r, finX_n, res_n, res_t, exV_e, exV_r, op2_op2, op2_op, op2_s, op2_cond, op2_bf, mov_v, j53_r0 rec N]
    first | done | kernel_rfl
  · intro fs s
    unfold C53_l0
    simp (maxSteps := 4000000) only [thenX_n, thenX_e, thenX_r, x_exit, x_skip, x_ret, blkX_n, blkX_r, blkX_e, finX_r, finX_n, res_n, res_t, exV_e, exV_r, op2_op2, op2_op, op2_s, op2_cond, op2_bf, mov_v, j53_r0 rec N]
    first | done | kernel_rfl
def J53_r1 (rec : Rec) (N : Nat) (k : Value × Value × Value) (s : St) : Out := opt2 (oFieldAddr 0 (.v k.1) rec PT.nil s) fun x1 s =>
 opt2 (oLoad1 (.v x1) rec PT.nil s) fun x2 s =>
 opt2 (oBuild [(.bool false), (.slice none 0 0)] [(0, 1, (.v x2)), (1, 1, (.v k.2.2))] rec PT.nil s) fun x3 s =>
 opt2 (rec 71 [x3] s) fun x4 s =>
 opt2 (oStore 2 (.v k.2.1) (.v x4) rec PT.nil s) fun x5 s =>
 finX [.cell t4 (some 2)] .ret ((PT.put k.2.1 t4 PT.nil), s)
set_option maxHeartbeats 4000000 in
theorem j53_r1 (rec : Rec) (N : Nat) (fs : Frm) (s : St) : opt2 (c53_r1 rec N fs s) (fun e r => finX [.cell t4 (some 2)] e r) = J53_r1 rec N (orU (fs.get t2), orU (fs.get t4), orU (fs.get t9)) s := by
  rw [d53_r1]
  unfold D53_r1 J53_r1
  simp (maxSteps := 4000000) only [thenX_n, thenX_e, thenX_r, x_exit, x_skip, x_ret, blkX_n, blkX_r, blkX_e, finX_r, finX_n, res_n, res_t, op2_op2, op2_op, op2_s, op2_cond, op2_bf, mov_v]
  first | done | kernel_rfl
def B53_l1 (rec : Rec) (N : Nat) (k : Value × Value × Value) (v : Value × Value × Value) (s : St) : OutV (Value × Value × Value) := opt2 (oFieldAddr 1 (.v k.1) rec PT.nil s) fun x1 s =>
 opt2 (oLoad1 (.v x1) rec PT.nil s) fun x2 s =>
 opt2 (oLenL (.v x2) rec PT.nil s) fun x3 s =>
 opt2 (oBin (int2 (cmpO ltI)) (.v v.2.2) (.v x3) rec PT.nil s) fun x4 s =>
 opt (gval false x4) fun x5 => opt2 (orUndef x5 (some (v.2.2, s)) s) fun x6 s =>
 opt (gval false x4) fun x7 => opt2 (orUndef x7 (oFieldAddr 1 (.v k.2.1) rec PT.nil s) s) fun x8 s =>
 opt (gval false x4) fun x9 => opt2 (orUndef x9 (oLoad1 (.v x8) rec PT.nil s) s) fun x10 s =>
 opt (gval false x4) fun x11 => opt2 (orUndef x11 (oLenL (.v x10) rec PT.nil s) s) fun x12 s =>
 opt (gval false x4) fun x13 => opt2 (orUndef x13 (oBin (int2 (cmpO ltI)) (.v x6) (.v x12) rec PT.nil s) s) fun x14 s =>
 opt2 (oPick (.v x4) (.v (.bool true)) (.v x14) rec PT.nil s) fun x15 s =>
 opt (gval false x15) fun x16 => opt2 (orUndef x16 (some (v.2.1, s)) s) fun x17 s =>
 opt (gval false x15) fun x18 => opt2 (orUndef x18 (oBin (int2 (cmpO gtI)) (.v x17) (.v (.int .u64 0)) rec PT.nil s) s) fun x19 s =>
 opt2 (oPick (.v x15) (.v (.bool true)) (.v x19) rec PT.nil s) fun x20 s =>
 condV x20
 (opt2 (rU (oFieldAddr 1 (.v k.1) rec PT.nil ⟨s.heap, s.next, 0, 0⟩) PT.nil s none) fun x21 m21 =>
 (fun s => opt2 (rU (oLoad1 (.v x21) rec PT.nil ⟨s.heap, s.next, 0, 0⟩) PT.nil s (some (.v x21))) fun x22 m22 =>
 (fun s => opt2 (rU (oMov (.v v.2.2) rec PT.nil ⟨s.heap, s.next, 0, 0⟩) PT.nil s none) fun x23 m23 =>
 (fun s => opt2 (rU (rec 72 [x22, x23] ⟨s.heap, s.next, 0, 0⟩) PT.nil s none) fun x24 m24 =>
 (fun s => opt2 (rU (oFieldAddr 1 (.v k.2.1) rec PT.nil ⟨s.heap, s.next, 0, 0⟩) PT.nil s none) fun x25 m25 =>
 (fun s => opt2 (rU (oLoad1 (.v x25) rec PT.nil ⟨s.heap, s.next, 0, 0⟩) PT.nil s (some (.v x25))) fun x26 m26 =>
 (fun s => opt2 (rU (oMov (.v v.2.2) rec PT.nil ⟨s.heap, s.next, 0, 0⟩) PT.nil s none) fun x27 m27 =>
 (fun s => opt2 (rU (rec 72 [x26, x27] ⟨s.heap, s.next, 0, 0⟩) PT.nil s none) fun x28 m28 =>
 (fun s => opt2 (rU (oBin (int2 addO) (.v x24) (.v x28) rec PT.nil ⟨s.heap, s.next, 0, 0⟩) PT.nil s none) fun x29 m29 =>
 (fun s => opt2 (rU (oMov (.v v.2.1) rec PT.nil ⟨s.heap, s.next, 0, 0⟩) PT.nil s none) fun x30 m30 =>
 (fun s => opt2 (rU (oBin (int2 addO) (.v x29) (.v x30) rec PT.nil ⟨s.heap, s.next, 0, 0⟩) PT.nil s none) fun x31 m31 =>
 (fun s => opt2 (rU (oMov (.v x31) rec PT.nil ⟨s.heap, s.next, 0, 0⟩) PT.nil s none) fun x32 m32 =>
 (fun s => bif apartAll [m21.1, m22.1, m23.1, m24.1, m25.1, m26.1, m27.1, m28.1, m29.1, m30.1, m31.1, m32.1] [(0, 2), (1, 2), (0, 4), (1, 4), (2, 4), (3, 4), (0, 5), (1, 5), (2, 5), (3, 5), (0, 6), (1, 6), (2, 6), (3, 6), (4, 6), (5, 6), (0, 9), (1, 9), (2, 9), (3, 9), (4, 9), (5, 9), (6, 9), (7, 9), (8, 9)] then opt2 (oBin (int2 andO) (.v x32) (.v (.int .u64 65535)) rec PT.nil s) fun x33 s =>
 opt2 (oBuildSlice 1 [(.int .u64 0)] [(0, 1, (.v x33))] rec PT.nil s) fun x34 s =>
 opt2 (oAppend 1 8 (.v v.1) (.v x34) rec PT.nil s) fun x35 s =>
 opt2 (oBin (sh2 shrO) (.v x32) (.v (.int .u64 16)) rec PT.nil s) fun x36 s =>
 opt2 (oBin (int2 addO) (.v v.2.2) (.v (.int .i64 1)) rec PT.nil s) fun x37 s =>
 some (.norm, ((x35, x36, x37), s)) else none) m32.2) m31.2) m30.2) m29.2) m28.2) m27.2) m26.2) m25.2) m24.2) m23.2) m22.2) m21.2)
 (some ((.exit 2), ((v.1, v.2.1, v.2.2), s)))
set_option maxHeartbeats 4000000 in
theorem s53_l1 (rec : Rec) (N : Nat) (fs : Frm) (s : St) : opt2 (c53_l1 rec N fs s) (fun e r => some (e, (((orU (r.1.get t9), orU (r.1.get t10), orU (r.1.get t11)), (orU (r.1.get t2), orU (r.1.get t3), orU (r.1.get t4))), r.2))) = opt2 (B53_l1 rec N (orU (fs.get t2), orU (fs.get t3), orU (fs.get t4)) (orU (fs.get t9), orU (fs.get t10), orU (fs.get t11)) s) fun e r => some (e, ((r.1, (orU (fs.get t2), orU (fs.get t3), orU (fs.get t4))), r.2)) := by
  rw [d53_l1]
  unfold D53_l1 B53_l1
  simp (maxSteps := 4000000) only [op2_op2, op2_op, op2_s, op2_cond, op2_bf, mov_v]
  first | done | kernel_rfl
def C53_l1 (rec : Rec) (N : Nat) (k : Value × Value × Value) (e : AExit) (r : (Value × Value × Value) × St) : Out := (fun s => exV (fun i => bif Nat.beq i 2 then (J53_r1 rec N (k.1, k.2.2, r.1.1) s)
 else (none))
 (finX [.cell t4 (some 2)] .ret ((PT.put k.2.2 t4 PT.nil), s)) e) r.2
theorem j53_l1 (rec : Rec) (N : Nat) (fs : Frm) (s : St) : opt2 (loopF (c53_l1 rec N) N fs s) (fun e r => opt2 (blkX 2 e r) fun e r => opt2 (thenX (c53_r1 rec N) e r) fun e r => finX [.cell t4 (some 2)] e r) = opt2 (loopV (B53_l1 rec N (orU (fs.get t2), orU (fs.get t3), orU (fs.get t4))) N (orU (fs.get t9), orU (fs.get t10), orU (fs.get t11)) s) (C53_l1 rec N (orU (fs.get t2), orU (fs.get t3), orU (fs.get t4))) := by
  refine loop_j (fun fs => (orU (fs.get t9), orU (fs.get t10), orU (fs.get t11))) (fun fs => (orU (fs.get t2), orU (fs.get t3), orU (fs.get t4))) (B53_l1 rec N) (c53_l1 rec N) (s53_l1 rec N) (fun e r => opt2 (blkX 2 e r) fun e r => opt2 (thenX (c53_r1 rec N) e r) fun e r => finX [.cell t4 (some 2)] e r) (C53_l1 rec N) ?_ ?_ N fs s
  · intro i fs s
    unfold C53_l1
    simp (maxSteps := 4000000) only [thenX_n, thenX_e, thenX_r, x_exit, x_skip, x_ret, blkX_n, blkX_r, blkX_e, finX_r, finX_n, res_n, res_t, exV_e, exV_r, op2_op2, op2_op, op2_s, op2_cond, op2_bf, mov_v, j53_r1 rec N]
    first | done | kernel_rfl
  · intro fs s
    unfold C53_l1
    simp (maxSteps := 4000000) only [thenX_n, thenX_e, thenX_r, x_exit, x_skip, x_ret, blkX_n, blkX_r, blkX_e, finX_r, finX_n, res_n, res_t, exV_e, exV_r, op2_op2, op2_op, op2_s, op2_cond, op2_bf, mov_v, j53_r1 rec N]
    first | done | kernel_rfl
def J53_r2 (rec : Rec) (N : Nat) (k : Value × Value × Value) (s : St) : Out := opt2 (loopV (B53_l1 rec N (k.1, k.2.1, k.2.2)) N ((.slice none 0 0), (.int .u64 0), (.int .i64 0)) s) (C53_l1 rec N (k.1, k.2.1, k.2.2))
set_option maxHeartbeats 4000000 in
theorem j53_r2 (rec : Rec) (N : Nat) (fs : Frm) (s : St) : opt2 (c53_r2 rec N fs s) (fun e r => finX [.cell t4 (some 2)] e r) = J53_r2 rec N (orU (fs.get t2), orU (fs.get t3), orU (fs.get t4)) s := by
  rw [d53_r2]
  unfold D53_r2 J53_r2
  simp (maxSteps := 4000000) only [thenX_n, thenX_e, thenX_r, x_exit, x_skip, x_ret, blkX_n, blkX_r, blkX_e, finX_r, finX_n, res_n, res_t, op2_op2, op2_op, op2_s, op2_cond, op2_bf, mov_v, j53_l1 rec N]
  first | done | kernel_rfl
def F53 (rec : Rec) (N : Nat) (a0 : Value) (a1 : Value) (s : St) : Out := opt2 (oBox (.v a0) rec PT.nil s) fun x1 s =>
 opt2 (oBox (.v a1) rec PT.nil s) fun x2 s =>
 opt2 (oNew [(.bool false), (.slice none 0 0)] rec PT.nil s) fun x3 s =>
 opt2 (oFieldAddr 0 (.v x1) rec PT.nil s) fun x4 s =>
 opt2 (oLoad1 (.v x4) rec PT.nil s) fun x5 s =>
 opt2 (oFieldAddr 0 (.v x2) rec PT.nil s) fun x6 s =>
 opt2 (oLoad1 (.v x6) rec PT.nil s) fun x7 s =>
 opt2 (oEqv eqB true (.v x5) (.v x7) rec PT.nil s) fun x8 s =>
 condV x8
 (opt2 (oFieldAddr 1 (.v x1) rec PT.nil s) fun x9 s =>
 opt2 (oLoad1 (.v x9) rec PT.nil s) fun x10 s =>
 opt2 (oFieldAddr 1 (.v x2) rec PT.nil s) fun x11 s =>
 opt2 (oLoad1 (.v x11) rec PT.nil s) fun x12 s =>
 opt2 (rec 70 [x10, x12] s) fun x13 s =>
 condV x13
 (opt2 (oLoadN 2 (.v x2) rec PT.nil s) fun x14 s =>
 opt2 (oLoadN 2 (.v x1) rec PT.nil s) fun x15 s =>
 opt2 (oStore 2 (.v x1) (.v x14) rec PT.nil s) fun x16 s =>
 opt2 (oStore 2 (.v x2) (.v x15) rec PT.nil s) fun x17 s =>
 opt2 (loopV (B53_l0 rec N (x1, x2, x3)) N ((.slice none 0 0), (.int .u64 0), (.int .i64 0)) s) (C53_l0 rec N (x1, x2, x3)))
 (opt2 (loopV (B53_l0 rec N (x1, x2, x3)) N ((.slice none 0 0), (.int .u64 0), (.int .i64 0)) s) (C53_l0 rec N (x1, x2, x3))))
 (J53_r2 rec N (x1, x2, x3) s)
theorem f53 (rec : Rec) (N : Nat) (a0 : Value) (a1 : Value) (s : St) : callF rec N c53 [a0, a1] s = F53 rec N a0 a1 s := by
  rw [d53]
  unfold D53 F53
  simp (maxSteps := 4000000) only [mov_v, op2_s, j53_l0 rec N, j53_r2 rec N]
  first | done | kernel_rfl
-- c54
def D54 (rec : Rec) (N : Nat) (a0 : Value) (s : St) : Out := opt2 (oBox (.v a0) rec PT.nil s) fun x1 s =>
 opt2 (oNew [(.bool false), (.slice none 0 0)] rec PT.nil s) fun x2 s =>
 opt2 (oFieldAddr 0 (.v x1) rec PT.nil s) fun x3 s =>
 opt2 (oLoad1 (.v x3) rec PT.nil s) fun x4 s =>
 opt2 (oNot (.v x4) rec PT.nil s) fun x5 s =>
 opt2 (oFieldAddr 1 (.v x1) rec PT.nil s) fun x6 s =>
 opt2 (oLoad1 (.v x6) rec PT.nil s) fun x7 s =>
 opt2 (oBuild [(.bool false), (.slice none 0 0)] [(0, 1, (.v x5)), (1, 1, (.v x7))] rec PT.nil s) fun x8 s =>
 opt2 (rec 71 [x8] s) fun x9 s =>
 opt2 (oStore 2 (.v x2) (.v x9) rec PT.nil s) fun x10 s =>
 finX [.cell t2 (some 2)] .ret ((PT.put x9 t9 (PT.put x8 t8 (PT.put x7 t7 (PT.put x6 t6 (PT.put x5 t5 (PT.put x4 t4 (PT.put x3 t3 (PT.put x2 t2 (PT.put x1 t1 (PT.put a0 t0 PT.nil)))))))))), s)
set_option maxHeartbeats 4000000 in
theorem d54 (rec : Rec) (N : Nat) (a0 : Value) (s : St) : callF rec N c54 [a0] s = D54 rec N a0 s := by
  rw [call_f _ _ _ _ _ rfl]
  simp (maxSteps := 4000000) only [c54, lenN, x_seq, x_ops, x_skip, x_ret, x_exit, x_cond, x_block, x_loop, ops_c, ops_n, op1_u, op1_gj, rq_c, rq_n, opQ_u, opQ_g, op2_op2, op2_op, op2_s, op2_cond, thenX_n, thenX_e, thenX_r, blkX_n, blkX_r, blkX_e, finX_r, finX_n, res_n, res_t, op_s, Nat.beq_refl, cond_true]
  first | done | kernel_rfl
def F54 (rec : Rec) (N : Nat) (a0 : Value) (s : St) : Out := opt2 (oBox (.v a0) rec PT.nil s) fun x1 s =>
 opt2 (oNew [(.bool false), (.slice none 0 0)] rec PT.nil s) fun x2 s =>
 opt2 (oFieldAddr 0 (.v x1) rec PT.nil s) fun x3 s =>
 opt2 (oLoad1 (.v x3) rec PT.nil s) fun x4 s =>
 opt2 (oNot (.v x4) rec PT.nil s) fun x5 s =>
 opt2 (oFieldAddr 1 (.v x1) rec PT.nil s) fun x6 s =>
 opt2 (oLoad1 (.v x6) rec PT.nil s) fun x7 s =>
 opt2 (oBuild [(.bool false), (.slice none 0 0)] [(0, 1, (.v x5)), (1, 1, (.v x7))] rec PT.nil s) fun x8 s =>
 opt2 (rec 71 [x8] s) fun x9 s =>
 opt2 (oStore 2 (.v x2) (.v x9) rec PT.nil s) fun x10 s =>
 finX [.cell t2 (some 2)] .ret ((PT.put x2 t2 PT.nil), s)
set_option maxHeartbeats 4000000 in
theorem f54 (rec : Rec) (N : Nat) (a0 : Value) (s : St) : callF rec N c54 [a0] s = F54 rec N a0 s := by
  rw [d54]
  unfold D54 F54
  first
    | done
    | rfl
    | (simp (maxSteps := 4000000) only [mov_v, op2_s]; first | done | kernel_rfl)
    | kernel_rfl
-- c55
def D55_j0 (rec : Rec) (N : Nat) (fs : Frm) (s : St) : OutX := opt2 (oMov (.v (orU (fs.get t5))) rec PT.nil s) fun x1 s =>
 opt2 (oMov (.v (orU (fs.get t6))) rec PT.nil s) fun x2 s =>
 opt2 (oMov (.v (orU (fs.get t8))) rec PT.nil s) fun x3 s =>
 opt2 (oBin (int2 addO) (.v x2) (.v x3) rec PT.nil s) fun x4 s =>
 opt2 (oMov (.v (orU (fs.get t9))) rec PT.nil s) fun x5 s =>
 opt2 (oBin (int2 andO) (.v x5) (.v (.int .u64 65535)) rec PT.nil s) fun x6 s =>
 opt2 (oIdxAddrL 1 (.v x1) (.v x4) rec PT.nil s) fun x7 s =>
 opt2 (oStore 1 (.v x7) (.v x6) rec PT.nil s) fun x8 s =>
 opt2 (oMov (.v (orU (fs.get t9))) rec PT.nil s) fun x9 s =>
 opt2 (oBin (sh2 shrO) (.v x9) (.v (.int .u64 16)) rec PT.nil s) fun x10 s =>
 opt2 (oMov (.v x10) rec PT.nil s) fun x11 s =>
 some (.norm, (PT.put x11 t7 (PT.put x10 t64 (PT.put x9 t63 (PT.put x7 t62 (PT.put x6 t61 (PT.put x5 t60 (PT.put x4 t59 (PT.put x3 t58 (PT.put x2 t57 (PT.put x1 t56 fs)))))))))), s)
set_option maxHeartbeats 4000000 in
theorem d55_j0 (rec : Rec) (N : Nat) (fs : Frm) (s : St) : c55_j0 rec N fs s = D55_j0 rec N fs s := by
  simp (maxSteps := 4000000) only [c55_j0, lenN, x_regc, reg_n, reg_c, reg1_u, reg1_g, op2_cons, op2_bif, x_seq, x_ops, x_skip, x_ret, x_exit, x_cond, x_block, x_loop, ops_c, ops_n, op1_u, op1_gj, rq_c, rq_n, opQ_u, opQ_g, op2_op2, op2_op, op2_s, op2_cond, thenX_n, thenX_e, thenX_r, blkX_n, blkX_r, blkX_e, finX_r, finX_n, res_n, res_t, op_s, Nat.beq_refl, cond_true]
  first | done | kernel_rfl
def D55_j1 (rec : Rec) (N : Nat) (fs : Frm) (s : St) : OutX := opt2 (oMov (.v (orU (fs.get t8))) rec PT.nil s) fun x1 s =>
 opt2 (oBin (int2 addO) (.v x1) (.v (.int .i64 1)) rec PT.nil s) fun x2 s =>
 opt2 (oMov (.v x2) rec PT.nil s) fun x3 s =>
 some (.norm, (PT.put x3 t8 (PT.put x2 t36 (PT.put x1 t35 fs))), s)
set_option maxHeartbeats 4000000 in
theorem d55_j1 (rec : Rec) (N : Nat) (fs : Frm) (s : St) : c55_j1 rec N fs s = D55_j1 rec N fs s := by
  simp (maxSteps := 4000000) only [c55_j1, lenN, x_regc, reg_n, reg_c, reg1_u, reg1_g, op2_cons, op2_bif, x_seq, x_ops, x_skip, x_ret, x_exit, x_cond, x_block, x_loop, ops_c, ops_n, op1_u, op1_gj, rq_c, rq_n, opQ_u, opQ_g, op2_op2, op2_op, op2_s, op2_cond, thenX_n, thenX_e, thenX_r, blkX_n, blkX_r, blkX_e, finX_r, finX_n, res_n, res_t, op_s, Nat.beq_refl, cond_true]
  first | done | kernel_rfl
def D55_l0 (rec : Rec) (N : Nat) (fs : Frm) (s : St) : OutX := opt2 (oMov (.v (orU (fs.get t8))) rec PT.nil s) fun x1 s =>
 opt2 (oFieldAddr 1 (.v (orU (fs.get t3))) rec PT.nil s) fun x2 s =>
 opt2 (oLoad1 (.v x2) rec PT.nil s) fun x3 s =>
 opt2 (oLenL (.v x3) rec PT.nil s) fun x4 s =>
 opt2 (oBin (int2 (cmpO ltI)) (.v x1) (.v x4) rec PT.nil s) fun x5 s =>
 opt2 (oMov (.v x5) rec PT.nil s) fun x6 s =>
 opt (gval false x6) fun x7 => opt2 (orUndef x7 (oMov (.v (orU (fs.get t7))) rec PT.nil s) s) fun x8 s =>
 opt (gval false x6) fun x9 => opt2 (orUndef x9 (oBin (int2 (cmpO gtI)) (.v x8) (.v (.int .u64 0)) rec PT.nil s) s) fun x10 s =>
 opt2 (oPick (.v x6) (.v (.bool true)) (.v x10) rec PT.nil s) fun x11 s =>
 condV x11
 (opt2 (rU (oMov (.v (orU (fs.get t5))) rec PT.nil ⟨s.heap, s.next, 0, 0⟩) PT.nil s none) fun x12 m12 =>
 (fun s => opt2 (rU (oMov (.v (orU (fs.get t6))) rec PT.nil ⟨s.heap, s.next, 0, 0⟩) PT.nil s none) fun x13 m13 =>
 (fun s => opt2 (rU (oMov (.v (orU (fs.get t8))) rec PT.nil ⟨s.heap, s.next, 0, 0⟩) PT.nil s none) fun x14 m14 =>
 (fun s => opt2 (rU (oBin (int2 addO) (.v x13) (.v x14) rec PT.nil ⟨s.heap, s.next, 0, 0⟩) PT.nil s none) fun x15 m15 =>
 (fun s => opt2 (rU (oIdxAddrL 1 (.v x12) (.v x15) rec PT.nil ⟨s.heap, s.next, 0, 0⟩) PT.nil s none) fun x16 m16 =>
 (fun s => opt2 (rU (oLoad1 (.v x16) rec PT.nil ⟨s.heap, s.next, 0, 0⟩) PT.nil s (some (.v x16))) fun x17 m17 =>
 (fun s => opt2 (rU (oFieldAddr 1 (.v (orU (fs.get t2))) rec PT.nil ⟨s.heap, s.next, 0, 0⟩) PT.nil s none) fun x18 m18 =>
 (fun s => opt2 (rU (oLoad1 (.v x18) rec PT.nil ⟨s.heap, s.next, 0, 0⟩) PT.nil s (some (.v x18))) fun x19 m19 =>
 (fun s => opt2 (rU (oMov (.v (orU (fs.get t6))) rec PT.nil ⟨s.heap, s.next, 0, 0⟩) PT.nil s none) fun x20 m20 =>
 (fun s => opt2 (rU (oIdxAddrL 1 (.v x19) (.v x20) rec PT.nil ⟨s.heap, s.next, 0, 0⟩) PT.nil s none) fun x21 m21 =>
 (fun s => opt2 (rU (oLoad1 (.v x21) rec PT.nil ⟨s.heap, s.next, 0, 0⟩) PT.nil s (some (.v x21))) fun x22 m22 =>
 (fun s => opt2 (rU (oFieldAddr 1 (.v (orU (fs.get t3))) rec PT.nil ⟨s.heap, s.next, 0, 0⟩) PT.nil s none) fun x23 m23 =>
 (fun s => opt2 (rU (oLoad1 (.v x23) rec PT.nil ⟨s.heap, s.next, 0, 0⟩) PT.nil s (some (.v x23))) fun x24 m24 =>
 (fun s => opt2 (rU (oMov (.v (orU (fs.get t8))) rec PT.nil ⟨s.heap, s.next, 0, 0⟩) PT.nil s none) fun x25 m25 =>
 (fun s => opt2 (rU (rec 72 [x24, x25] ⟨s.heap, s.next, 0, 0⟩) PT.nil s none) fun x26 m26 =>
 (fun s => opt2 (rU (oBin (int2 mulO) (.v x22) (.v x26) rec PT.nil ⟨s.heap, s.next, 0, 0⟩) PT.nil s none) fun x27 m27 =>
 (fun s => opt2 (rU (oBin (int2 addO) (.v x17) (.v x27) rec PT.nil ⟨s.heap, s.next, 0, 0⟩) PT.nil s none) fun x28 m28 =>
 (fun s => opt2 (rU (oMov (.v (orU (fs.get t7))) rec PT.nil ⟨s.heap, s.next, 0, 0⟩) PT.nil s none) fun x29 m29 =>
 (fun s => opt2 (rU (oBin (int2 addO) (.v x28) (.v x29) rec PT.nil ⟨s.heap, s.next, 0, 0⟩) PT.nil s none) fun x30 m30 =>
 (fun s => opt2 (rU (oMov (.v x30) rec PT.nil ⟨s.heap, s.next, 0, 0⟩) PT.nil s none) fun x31 m31 =>
 (fun s => bif apartAll [m12.1, m13.1, m14.1, m15.1, m16.1, m17.1, m18.1, m19.1, m20.1, m21.1, m22.1, m23.1, m24.1, m25.1, m26.1, m27.1, m28.1, m29.1, m30.1, m31.1] [(0, 1), (0, 2), (1, 2), (0, 3), (0, 6), (1, 6), (2, 6), (3, 6), (4, 6), (5, 6), (0, 7), (1, 7), (2, 7), (3, 7), (4, 7), (5, 7), (0, 8), (1, 8), (2, 8), (3, 8), (4, 8), (5, 8), (6, 8), (7, 8), (0, 9), (1, 9), (2, 9), (3, 9), (4, 9), (5, 9), (0, 10), (1, 10), (2, 10), (3, 10), (4, 10), (5, 10), (0, 11), (1, 11), (2, 11), (3, 11), (4, 11), (5, 11), (6, 11), (7, 11), (8, 11), (9, 11), (10, 11), (0, 12), (1, 12), (2, 12), (3, 12), (4, 12), (5, 12), (6, 12), (7, 12), (8, 12), (9, 12), (10, 12), (0, 13), (1, 13), (2, 13), (3, 13), (4, 13), (5, 13), (6, 13), (7, 13), (8, 13), (9, 13), (10, 13), (11, 13), (12, 13), (0, 14), (1, 14), (2, 14), (3, 14), (4, 14), (5, 14), (6, 14), (7, 14), (8, 14), (9, 14), (10, 14), (0, 15), (1, 15), (2, 15), (3, 15), (4, 15), (5, 15), (0, 17), (1, 17), (2, 17), (3, 17), (4, 17), (5, 17), (6, 17), (7, 17), (8, 17), (9, 17), (10, 17), (11, 17), (12, 17), (13, 17), (14, 17), (15, 17), (16, 17)] then opt2 (c55_j0 rec N (PT.put x31 t9 (PT.put x30 t55 (PT.put x29 t54 (PT.put x28 t53 (PT.put x27 t52 (PT.put x26 t51 (PT.put x25 t50 (PT.put x24 t49 (PT.put x23 t48 (PT.put x22 t47 (PT.put x21 t46 (PT.put x20 t45 (PT.put x19 t44 (PT.put x18 t43 (PT.put x17 t42 (PT.put x16 t41 (PT.put x15 t40 (PT.put x14 t39 (PT.put x13 t38 (PT.put x12 t37 (PT.put x11 t34 (PT.put x10 t33 (PT.put x8 t32 (PT.put x6 t31 (PT.put x5 t30 (PT.put x4 t29 (PT.put x3 t28 (PT.put x2 t27 (PT.put x1 t26 fs))))))))))))))))))))))))))))) s) fun e r => opt2 (blkX 3 e r) fun e r => thenX (c55_j1 rec N) e r else none) m31.2) m30.2) m29.2) m28.2) m27.2) m26.2) m25.2) m24.2) m23.2) m22.2) m21.2) m20.2) m19.2) m18.2) m17.2) m16.2) m15.2) m14.2) m13.2) m12.2)
 (some ((.exit 2), (PT.put x11 t34 (PT.put x10 t33 (PT.put x8 t32 (PT.put x6 t31 (PT.put x5 t30 (PT.put x4 t29 (PT.put x3 t28 (PT.put x2 t27 (PT.put x1 t26 fs))))))))), s))
set_option maxHeartbeats 4000000 in
theorem d55_l0 (rec : Rec) (N : Nat) (fs : Frm) (s : St) : c55_l0 rec N fs s = D55_l0 rec N fs s := by
  simp (maxSteps := 4000000) only [c55_l0, lenN, x_regc, reg_n, reg_c, reg1_u, reg1_g, op2_cons, op2_bif, x_seq, x_ops, x_skip, x_ret, x_exit, x_cond, x_block, x_loop, ops_c, ops_n, op1_u, op1_gj, rq_c, rq_n, opQ_u, opQ_g, op2_op2, op2_op, op2_s, op2_cond, thenX_n, thenX_e, thenX_r, blkX_n, blkX_r, blkX_e, finX_r, finX_n, res_n, res_t, op_s, Nat.beq_refl, cond_true]
  first | done | kernel_rfl
def D55_r0 (rec : Rec) (N : Nat) (fs : Frm) (s : St) : OutX := opt2 (oMov (.v (orU (fs.get t6))) rec PT.nil s) fun x1 s =>
 opt2 (oBin (int2 addO) (.v x1) (.v (.int .i64 1)) rec PT.nil s) fun x2 s =>
 opt2 (oMov (.v x2) rec PT.nil s) fun x3 s =>
 some (.norm, (PT.put x3 t6 (PT.put x2 t25 (PT.put x1 t24 fs))), s)
set_option maxHeartbeats 4000000 in
theorem d55_r0 (rec : Rec) (N : Nat) (fs : Frm) (s : St) : c55_r0 rec N fs s = D55_r0 rec N fs s := by
  simp (maxSteps := 4000000) only [c55_r0, lenN, x_regc, reg_n, reg_c, reg1_u, reg1_g, op2_cons, op2_bif, x_seq, x_ops, x_skip, x_ret, x_exit, x_cond, x_block, x_loop, ops_c, ops_n, op1_u, op1_gj, rq_c, rq_n, opQ_u, opQ_g, op2_op2, op2_op, op2_s, op2_cond, thenX_n, thenX_e, thenX_r, blkX_n, blkX_r, blkX_e, finX_r, finX_n, res_n, res_t, op_s, Nat.beq_refl, cond_true]
  first | done | kernel_rfl
def D55_l1 (rec : Rec) (N : Nat) (fs : Frm) (s : St) : OutX := opt2 (oMov (.v (orU (fs.get t6))) rec PT.nil s) fun x1 s =>
 opt2 (oFieldAddr 1 (.v (orU (fs.get t2))) rec PT.nil s) fun x2 s =>
 opt2 (oLoad1 (.v x2) rec PT.nil s) fun x3 s =>
 opt2 (oLenL (.v x3) rec PT.nil s) fun x4 s =>
 opt2 (oBin (int2 (cmpO ltI)) (.v x1) (.v x4) rec PT.nil s) fun x5 s =>
 condV x5
 (opt2 (oMov (.v (.int .u64 0)) rec PT.nil s) fun x6 s =>
 opt2 (oMov (.v (.int .i64 0)) rec PT.nil s) fun x7 s =>
 opt2 (loopF (c55_l0 rec N) N (PT.put x7 t8 (PT.put x6 t7 (PT.put x5 t23 (PT.put x4 t22 (PT.put x3 t21 (PT.put x2 t20 (PT.put x1 t19 fs))))))) s) fun e r => opt2 (blkX 2 e r) fun e r => opt2 (blkX 1 e r) fun e r => thenX (c55_r0 rec N) e r)
 (some ((.exit 0), (PT.put x5 t23 (PT.put x4 t22 (PT.put x3 t21 (PT.put x2 t20 (PT.put x1 t19 fs))))), s))
set_option maxHeartbeats 4000000 in
theorem d55_l1 (rec : Rec) (N : Nat) (fs : Frm) (s : St) : c55_l1 rec N fs s = D55_l1 rec N fs s := by
  simp (maxSteps := 4000000) only [c55_l1, lenN, x_regc, reg_n, reg_c, reg1_u, reg1_g, op2_cons, op2_bif, x_seq, x_ops, x_skip, x_ret, x_exit, x_cond, x_block, x_loop, ops_c, ops_n, op1_u, op1_gj, rq_c, rq_n, opQ_u, opQ_g, op2_op2, op2_op, op2_s, op2_cond, thenX_n, thenX_e, thenX_r, blkX_n, blkX_r, blkX_e, finX_r, finX_n, res_n, res_t, op_s, Nat.beq_refl, cond_true]
  first | done | kernel_rfl
def D55_r1 (rec : Rec) (N : Nat) (fs : Frm) (s : St) : OutX := opt2 (oFieldAddr 0 (.v (orU (fs.get t2))) rec PT.nil s) fun x1 s =>
 opt2 (oLoad1 (.v x1) rec PT.nil s) fun x2 s =>
 opt2 (oFieldAddr 0 (.v (orU (fs.get t3))) rec PT.nil s) fun x3 s =>
 opt2 (oLoad1 (.v x3) rec PT.nil s) fun x4 s =>
 opt2 (oEqv eqB true (.v x2) (.v x4) rec PT.nil s) fun x5 s =>
 opt2 (oMov (.v (orU (fs.get t5))) rec PT.nil s) fun x6 s =>
 opt2 (oBuild [(.bool false), (.slice none 0 0)] [(0, 1, (.v x5)), (1, 1, (.v x6))] rec PT.nil s) fun x7 s =>
 opt2 (rec 71 [x7] s) fun x8 s =>
 opt2 (oStore 2 (.v (orU (fs.get t4))) (.v x8) rec PT.nil s) fun x9 s =>
 some (.ret, (PT.put x8 t72 (PT.put x7 t71 (PT.put x6 t70 (PT.put x5 t69 (PT.put x4 t68 (PT.put x3 t67 (PT.put x2 t66 (PT.put x1 t65 fs)))))))), s)
set_option maxHeartbeats 4000000 in
theorem d55_r1 (rec : Rec) (N : Nat) (fs : Frm) (s : St) : c55_r1 rec N fs s = D55_r1 rec N fs s := by
  simp (maxSteps := 4000000) only [c55_r1, lenN, x_regc, reg_n, reg_c, reg1_u, reg1_g, op2_cons, op2_bif, x_seq, x_ops, x_skip, x_ret, x_exit, x_cond, x_block, x_loop, ops_c, ops_n, op1_u, op1_gj, rq_c, rq_n, opQ_u, opQ_g, op2_op2, op2_op, op2_s, op2_cond, thenX_n, thenX_e, thenX_r, blkX_n, blkX_r, blkX_e, finX_r, finX_n, res_n, res_t, op_s, Nat.beq_refl, cond_true]
  first | done | kernel_rfl
def D55 (rec : Rec) (N : Nat) (a0 : Value) (a1 : Value) (s : St) : Out := opt2 (oBox (.v a0) rec PT.nil s) fun x1 s =>
 opt2 (oBox (.v a1) rec PT.nil s) fun x2 s =>
 opt2 (oNew [(.bool false), (.slice none 0 0)] rec PT.nil s) fun x3 s =>
 opt2 (oFieldAddr 1 (.v x1) rec PT.nil s) fun x4 s =>
 opt2 (oLoad1 (.v x4) rec PT.nil s) fun x5 s =>
 opt2 (oLenL (.v x5) rec PT.nil s) fun x6 s =>
 opt2 (oFieldAddr 1 (.v x2) rec PT.nil s) fun x7 s =>
 opt2 (oLoad1 (.v x7) rec PT.nil s) fun x8 s =>
 opt2 (oLenL (.v x8) rec PT.nil s) fun x9 s =>
 opt2 (oBin (int2 addO) (.v x6) (.v x9) rec PT.nil s) fun x10 s =>
 opt2 (oBin (int2 addO) (.v x10) (.v (.int .i64 1)) rec PT.nil s) fun x11 s =>
 opt2 (oMakeSlice 1 8 [(.int .u64 0)] (.v x11) (.v x11) rec PT.nil s) fun x12 s =>
 opt2 (oMov (.v x12) rec PT.nil s) fun x13 s =>
 opt2 (oMov (.v (.int .i64 0)) rec PT.nil s) fun x14 s =>
 opt2 (loopF (c55_l1 rec N) N (PT.put x14 t6 (PT.put x13 t5 (PT.put x12 t18 (PT.put x11 t17 (PT.put x10 t16 (PT.put x9 t15 (PT.put x8 t14 (PT.put x7 t13 (PT.put x6 t12 (PT.put x5 t11 (PT.put x4 t10 (PT.put x3 t4 (PT.put x2 t3 (PT.put x1 t2 (PT.put a1 t1 (PT.put a0 t0 PT.nil)))))))))))))))) s) fun e r => opt2 (blkX 0 e r) fun e r => opt2 (thenX (c55_r1 rec N) e r) fun e r => finX [.cell t4 (some 2)] e r
set_option maxHeartbeats 4000000 in
theorem d55 (rec : Rec) (N : Nat) (a0 : Value) (a1 : Value) (s : St) : callF rec N c55 [a0, a1] s = D55 rec N a0 a1 s := by
  rw [call_f _ _ _ _ _ rfl]
  simp (maxSteps := 4000000) only [c55, lenN, x_regc, reg_n, reg_c, reg1_u, reg1_g, op2_cons, op2_bif, x_seq, x_ops, x_skip, x_ret, x_exit, x_cond, x_block, x_loop, ops_c, ops_n, op1_u, op1_gj, rq_c, rq_n, opQ_u, opQ_g, op2_op2, op2_op, op2_s, op2_cond, thenX_n, thenX_e, thenX_r, blkX_n, blkX_r, blkX_e, finX_r, finX_n, res_n, res_t, op_s, Nat.beq_refl, cond_true]
  first | done | kernel_rfl
def J55_j1 (rec : Rec) (N : Nat) (k : Value × Value × Value × Value × Value × Value × Value) (s : St) : OutV (Value × Value) := opt2 (oBin (int2 addO) (.v k.2.2.2.2.2.2) (.v (.int .i64 1)) rec PT.nil s) fun x1 s =>
 some (.norm, ((k.2.2.2.2.2.1, x1), s))
set_option maxHeartbeats 4000000 in
theorem j55_j1 (rec : Rec) (N : Nat) (fs : Frm) (s : St) : opt2 (c55_j1 rec N fs s) (fun e r => some (e, (((orU (r.1.get t7), orU (r.1.get t8)), (orU (r.1.get t2), orU (r.1.get t3), orU (r.1.get t4), orU (r.1.get t5), orU (r.1.get t6))), r.2))) = opt2 (J55_j1 rec N (orU (fs.get t2), orU (fs.get t3), orU (fs.get t4), orU (fs.get t5), orU (fs.get t6), orU (fs.get t7), orU (fs.get t8)) s) fun e r => some (e, ((r.1, (orU (fs.get t2), orU (fs.get t3), orU (fs.get t4), orU (fs.get t5), orU (fs.get t6))), r.2)) := by
  rw [d55_j1]
  unfold D55_j1 J55_j1
  simp (maxSteps := 4000000) only [thenX_n, thenX_e, thenX_r, x_exit, x_skip, x_ret, blkX_n, blkX_r, blkX_e, finX_r, finX_n, res_n, res_t, op2_op2, op2_op, op2_s, op2_cond, op2_bf, mov_v]
  first | done | kernel_rfl
def J55_j0 (rec : Rec) (N : Nat) (k : Value × Value × Value × Value × Value × Value × Value × Value) (s : St) : OutV (Value × Value) := opt2 (oBin (int2 addO) (.v k.2.2.2.2.1) (.v k.2.2.2.2.2.2.1) rec PT.nil s) fun x1 s =>
 opt2 (oBin (int2 andO) (.v k.2.2.2.2.2.2.2) (.v (.int .u64 65535)) rec PT.nil s) fun x2 s =>
 opt2 (oIdxAddrL 1 (.v k.2.2.2.1) (.v x1) rec PT.nil s) fun x3 s =>
 opt2 (oStore 1 (.v x3) (.v x2) rec PT.nil s) fun x4 s =>
 opt2 (oBin (sh2 shrO) (.v k.2.2.2.2.2.2.2) (.v (.int .u64 16)) rec PT.nil s) fun x5 s =>
 J55_j1 rec N (k.1, k.2.1, k.2.2.1, k.2.2.2.1, k.2.2.2.2.1, x5, k.2.2.2.2.2.2.1) s
set_option maxHeartbeats 4000000 in
theorem j55_j0 (rec : Rec) (N : Nat) (fs : Frm) (s : St) : opt2 (c55_j0 rec N fs s) (fun e r => opt2 (blkX 3 e r) fun e r => opt2 (thenX (c55_j1 rec N) e r) fun e r => some (e, (((orU (r.1.get t7), orU (r.1.get t8)), (orU (r.1.get t2), orU (r.1.get t3), orU (r.1.get t4), orU (r.1.get t5), orU (r.1.get t6))), r.2))) = opt2 (J55_j0 rec N (orU (fs.get t2), orU (fs.get t3), orU (fs.get t4), orU (fs.get t5), orU (fs.get t6), orU (fs.get t7), orU (fs.get t8), orU (fs.get t9)) s) fun e r => some (e, ((r.1, (orU (fs.get t2), orU (fs.get t3), orU (fs.get t4), orU (fs.get t5), orU (fs.get t6))), r.2)) := by
  rw [d55_j0]
  unfold D55_j0 J55_j0
  simp (maxSteps := 4000000) only [thenX_n, thenX_e, thenX_r, x_exit, x_skip, x_ret, blkX_n, blkX_r, blkX_e, finX_r, finX_n, res_n, res_t, op2_op2, op2_op, op2_s, op2_cond, op2_bf, mov_v, j55_j1 rec N]
  first | done | kernel_rfl
def J55_r0 (rec : Rec) (N : Nat) (k : Value × Value × Value × Value × Value) (s : St) : OutV (Value) := opt2 (oBin (int2 addO) (.v k.2.2.2.2) (.v (.int .i64 1)) rec PT.nil s) fun x1 s =>
 some (.norm, (x1, s))
set_option maxHeartbeats 4000000 in
theorem j55_r0 (rec : Rec) (N : Nat) (fs : Frm) (s : St) : opt2 (c55_r0 rec N fs s) (fun e r => some (e, (((orU (r.1.get t6)), (orU (r.1.get t2), orU (r.1.get t3), orU (r.1.get t4), orU (r.1.get t5))), r.2))) = opt2 (J55_r0 rec N (orU (fs.get t2), orU (fs.get t3), orU (fs.get t4), orU (fs.get t5), orU (fs.get t6)) s) fun e r => some (e, ((r.1, (orU (fs.get t2), orU (fs.get t3), orU (fs.get t4), orU (fs.get t5))), r.2)) := by
  rw [d55_r0]
  unfold D55_r0 J55_r0
  simp (maxSteps := 4000000) only [thenX_n, thenX_e, thenX_r, x_exit, x_skip, x_ret, blkX_n, blkX_r, blkX_e, finX_r, finX_n, res_n, res_t, op2_op2, op2_op, op2_s, op2_cond, op2_bf, mov_v]
  first | done | kernel_rfl
def B55_l0 (rec : Rec) (N : Nat) (k : Value × Value × Value × Value × Value) (v : Value × Value) (s : St) : OutV (Value × Value) := opt2 (oFieldAddr 1 (.v k.2.1) rec PT.nil s) fun x1 s =>
 opt2 (oLoad1 (.v x1) rec PT.nil s) fun x2 s =>
 opt2 (oLenL (.v x2) rec PT.nil s) fun x3 s =>
 opt2 (oBin (int2 (cmpO ltI)) (.v v.2) (.v x3) rec PT.nil s) fun x4 s =>
 opt (gval false x4) fun x5 => opt2 (orUndef x5 (some (v.1, s)) s) fun x6 s =>
 opt (gval false x4) fun x7 => opt2 (orUndef x7 (oBin (int2 (cmpO gtI)) (.v x6) (.v (.int .u64 0)) rec PT.nil s) s) fun x8 s =>
 opt2 (oPick (.v x4) (.v (.bool true)) (.v x8) rec PT.nil s) fun x9 s =>
 condV x9
 (opt2 (rU (oMov (.v k.2.2.2.1) rec PT.nil ⟨s.heap, s.next, 0, 0⟩) PT.nil s none) fun x10 m10 =>
 (fun s => opt2 (rU (oMov (.v k.2.2.2.2) rec PT.nil ⟨s.heap, s.next, 0, 0⟩) PT.nil s none) fun x11 m11 =>
 (fun s => opt2 (rU (oMov (.v v.2) rec PT.nil ⟨s.heap, s.next, 0, 0⟩) PT.nil s none) fun x12 m12 =>
 (fun s => opt2 (rU (oBin (int2 addO) (.v x11) (.v x12) rec PT.nil ⟨s.heap, s.next, 0, 0⟩) PT.nil s none) fun x13 m13 =>
 (fun s => opt2 (rU (oIdxAddrL 1 (.v x10) (.v x13) rec PT.nil ⟨s.heap, s.next, 0, 0⟩) PT.nil s none) fun x14 m14 =>
 (fun s => opt2 (rU (oLoad1 (.v x14) rec PT.nil ⟨s.heap, s.next, 0, 0⟩) PT.nil s (some (.v x14))) fun x15 m15 =>
 (fun s => opt2 (rU (oFieldAddr 1 (.v k.1) rec PT.nil ⟨s.heap, s.next, 0, 0⟩) PT.nil s none) fun x16 m16 =>
 (fun s => opt2 (rU (oLoad1 (.v x16) rec PT.nil ⟨s.heap, s.next, 0, 0⟩) PT.nil s (some (.v x16))) fun x17 m17 =>
 (fun s => opt2 (rU (oMov (.v k.2.2.2.2) rec PT.nil ⟨s.heap, s.next, 0, 0⟩) PT.nil s none) fun x18 m18 =>
 (fun s => opt2 (rU (oIdxAddrL 1 (.v x17) (.v x18) rec PT.nil ⟨s.heap, s.next, 0, 0⟩) PT.nil s none) fun x19 m19 =>
 (fun s => opt2 (rU (oLoad1 (.v x19) rec PT.nil ⟨s.heap, s.next, 0, 0⟩) PT.nil s (some (.v x19))) fun x20 m20 =>
 (fun s => opt2 (rU (oFieldAddr 1 (.v k.2.1) rec PT.nil ⟨s.heap, s.next, 0, 0⟩) PT.nil s none) fun x21 m21 =>
 (fun s => opt2 (rU (oLoad1 (.v x21) rec PT.nil ⟨s.heap, s.next, 0, 0⟩) PT.nil s (some (.v x21))) fun x22 m22 =>
 (fun s => opt2 (rU (oMov (.v v.2) rec PT.nil ⟨s.heap, s.next, 0, 0⟩) PT.nil s none) fun x23 m23 =>
 (fun s => opt2 (rU (rec 72 [x22, x23] ⟨s.heap, s.next, 0, 0⟩) PT.nil s none) fun x24 m24 =>
 (fun s => opt2 (rU (oBin (int2 mulO) (.v x20) (.v x24) rec PT.nil ⟨s.heap, s.next, 0, 0⟩) PT.nil s none) fun x25 m25 =>
 (fun s => opt2 (rU (oBin (int2 addO) (.v x15) (.v x25) rec PT.nil ⟨s.heap, s.next, 0, 0⟩) PT.nil s none) fun x26 m26 =>
 (fun s => opt2 (rU (oMov (.v v.1) rec PT.nil ⟨s.heap, s.next, 0, 0⟩) PT.nil s none) fun x27 m27 =>
 (fun s => opt2 (rU (oBin (int2 addO) (.v x26) (.v x27) rec PT.nil ⟨s.heap, s.next, 0, 0⟩) PT.nil s none) fun x28 m28 =>
 (fun s => opt2 (rU (oMov (.v x28) rec PT.nil ⟨s.heap, s.next, 0, 0⟩) PT.nil s none) fun x29 m29 =>
 (fun s => bif apartAll [m10.1, m11.1, m12.1, m13.1, m14.1, m15.1, m16.1, m17.1, m18.1, m19.1, m20.1, m21.1, m22.1, m23.1, m24.1, m25.1, m26.1, m27.1, m28.1, m29.1] [(0, 1), (0, 2), (1, 2), (0, 3), (0, 6), (1, 6), (2, 6), (3, 6), (4, 6), (5, 6), (0, 7), (1, 7), (2, 7), (3, 7), (4, 7), (5, 7), (0, 8), (1, 8), (2, 8), (3, 8), (4, 8), (5, 8), (6, 8), (7, 8), (0, 9), (1, 9), (2, 9), (3, 9), (4, 9), (5, 9), (0, 10), (1, 10), (2, 10), (3, 10), (4, 10), (5, 10), (0, 11), (1, 11), (2, 11), (3, 11), (4, 11), (5, 11), (6, 11), (7, 11), (8, 11), (9, 11), (10, 11), (0, 12), (1, 12), (2, 12), (3, 12), (4, 12), (5, 12), (6, 12), (7, 12), (8, 12), (9, 12), (10, 12), (0, 13), (1, 13), (2, 13), (3, 13), (4, 13), (5, 13), (6, 13), (7, 13), (8, 13), (9, 13), (10, 13), (11, 13), (12, 13), (0, 14), (1, 14), (2, 14), (3, 14), (4, 14), (5, 14), (6, 14), (7, 14), (8, 14), (9, 14), (10, 14), (0, 15), (1, 15), (2, 15), (3, 15), (4, 15), (5, 15), (0, 17), (1, 17), (2, 17), (3, 17), (4, 17), (5, 17), (6, 17), (7, 17), (8, 17), (9, 17), (10, 17), (11, 17), (12, 17), (13, 17), (14, 17), (15, 17), (16, 17)] then J55_j0 rec N (k.1, k.2.1, k.2.2.1, k.2.2.2.1, k.2.2.2.2, v.1, v.2, x29) s else none) m29.2) m28.2) m27.2) m26.2) m25.2) m24.2) m23.2) m22.2) m21.2) m20.2) m19.2) m18.2) m17.2) m16.2) m15.2) m14.2) m13.2) m12.2) m11.2) m10.2)
 (some ((.exit 2), ((v.1, v.2), s)))
set_option maxHeartbeats 4000000 in
theorem s55_l0 (rec : Rec) (N : Nat) (fs : Frm) (s : St) : opt2 (c55_l0 rec N fs s) (fun e r => some (e, (((orU (r.1.get t7), orU (r.1.get t8)), (orU (r.1.get t2), orU (r.1.get t3), orU (r.1.get t4), orU (r.1.get t5), orU (r.1.get t6))), r.2))) = opt2 (B55_l0 rec N (orU (fs.get t2), orU (fs.get t3), orU (fs.get t4), orU (fs.get t5), orU (fs.get t6)) (orU (fs.get t7), orU (fs.get t8)) s) fun e r => some (e, ((r.1, (orU (fs.get t2), orU (fs.get t3), orU (fs.get t4), orU (fs.get t5), orU (fs.get t6))), r.2)) := by
  rw [d55_l0]
  unfold D55_l0 B55_l0
  simp (maxSteps := 4000000) only [op2_op2, op2_op, op2_s, op2_cond, op2_bf, mov_v, j55_j0 rec N]
  first | done | kernel_rfl
def C55_l0 (rec : Rec) (N : Nat) (k : Value × Value × Value × Value × Value) (e : AExit) (r : (Value × Value) × St) : OutV (Value) := (fun s => exV (fun i => bif Nat.beq i 2 then (J55_r0 rec N (k.1, k.2.1, k.2.2.1, k.2.2.2.1, k.2.2.2.2) s)
 else (bif Nat.beq i 1 then (J55_r0 rec N (k.1, k.2.1, k.2.2.1, k.2.2.2.1, k.2.2.2.2) s)
 else (some ((.exit i), (k.2.2.2.2, s)))))
 (some (.ret, (k.2.2.2.2, s))) e) r.2
theorem j55_l0 (rec : Rec) (N : Nat) (fs : Frm) (s : St) : opt2 (loopF (c55_l0 rec N) N fs s) (fun e r => opt2 (blkX 2 e r) fun e r => opt2 (blkX 1 e r) fun e r => opt2 (thenX (c55_r0 rec N) e r) fun e r => some (e, (((orU (r.1.get t6)), (orU (r.1.get t2), orU (r.1.get t3), orU (r.1.get t4), orU (r.1.get t5))), r.2))) = opt2 (loopV (B55_l0 rec N (orU (fs.get t2), orU (fs.get t3), orU (fs.get t4), orU (fs.get t5), orU (fs.get t6))) N (orU (fs.get t7), orU (fs.get t8)) s) (fun e q => opt2 (C55_l0 rec N (orU (fs.get t2), orU (fs.get t3), orU (fs.get t4), orU (fs.get t5), orU (fs.get t6)) e q) fun e r => some (e, ((r.1, (orU (fs.get t2), orU (fs.get t3), orU (fs.get t4), orU (fs.get t5))), r.2))) := by
  refine loop_j (fun fs => (orU (fs.get t7), orU (fs.get t8))) (fun fs => (orU (fs.get t2), orU (fs.get t3), orU (fs.get t4), orU (fs.get t5), orU (fs.get t6))) (B55_l0 rec N) (c55_l0 rec N) (s55_l0 rec N) (fun e r => opt2 (blkX 2 e r) fun e r => opt2 (blkX 1 e r) fun e r => opt2 (thenX (c55_r0 rec N) e r) fun e r => some (e, (((orU (r.1.get t6)), (orU (r.1.get t2), orU (r.1.get t3), orU (r.1.get t4), orU (r.1.get t5))), r.2))) (fun k e q => opt2 (C55_l0 rec N k e q) fun e r => some (e, ((r.1, (k.1, k.2.1, k.2.2.1, k.2.2.2.1)), r.2))) ?_ ?_ N fs s
  · intro i fs s
    unfold C55_l0
    simp (maxSteps := 4000000) only [thenX_n, thenX_e, thenX_r, x_exit, x_skip, x_ret, blkX_n, blkX_r, blkX_e, finX_r, finX_n, res_n, res_t, exV_e, exV_r, op2_op2, op2_op, op2_s, op2_cond, op2_bf, mov_v, j55_r0 rec N]
    first | done | kernel_rfl
  · intro fs s
    unfold C55_l0
    simp (maxSteps := 4000000) only [thenX_n, thenX_e, thenX_r, x_exit, x_skip, x_ret, blkX_n, blkX_r, blkX_e, finX_r, finX_n, res_n, res_t, exV_e, exV_r, op2_op2, op2_op, op2_s, op2_cond, op2_bf, mov_v, j55_r0 rec N]
    first | done | kernel_rfl
def J55_r1 (rec : Rec) (N : Nat) (k : Value × Value × Value × Value) (s : St) : Out := opt2 (oFieldAddr 0 (.v k.1) rec PT.nil s) fun x1 s =>
 opt2 (oLoad1 (.v x1) rec PT.nil s) fun x2 s =>
 opt2 (oFieldAddr 0 (.v k.2.1) rec PT.nil s) fun x3 s =>
 opt2 (oLoad1 (.v x3) rec PT.nil s) fun x4 s =>
 opt2 (oEqv eqB true (.v x2) (.v x4) rec PT.nil s) fun x5 s =>
 opt2 (oBuild [(.bool false), (.slice none 0 0)] [(0, 1, (.v x5)), (1, 1, (.v k.2.2.2))] rec PT.nil s) fun x6 s =>
 opt2 (rec 71 [x6] s) fun x7 s =>
 opt2 (oStore 2 (.v k.2.2.1) (.v x7) rec PT.nil s) fun x8 s =>
 finX [.cell t4 (some 2)] .ret ((PT.put k.2.2.1 t4 PT.nil), s)
set_option maxHeartbeats 4000000 in
theorem j55_r1 (rec : Rec) (N : Nat) (fs : Frm) (s : St) : opt2 (c55_r1 rec N fs s) (fun e r => finX [.cell t4 (some 2)] e r) = J55_r1 rec N (orU (fs.get t2), orU (fs.get t3), orU (fs.get t4), orU (fs.get t5)) s := by
  rw [d55_r1]
  unfold D55_r1 J55_r1
  simp (maxSteps := 4000000) only [thenX_n, thenX_e, thenX_r, x_exit, x_skip, x_ret, blkX_n, blkX_r, blkX_e, finX_r, finX_n, res_n, res_t, op2_op2, op2_op, op2_s, op2_cond, op2_bf, mov_v]
  first | done | kernel_rfl
def B55_l1 (rec : Rec) (N : Nat) (k : Value × Value × Value × Value) (v : Value) (s : St) : OutV (Value) := opt2 (oFieldAddr 1 (.v k.1) rec PT.nil s) fun x1 s =>
 opt2 (oLoad1 (.v x1) rec PT.nil s) fun x2 s =>
 opt2 (oLenL (.v x2) rec PT.nil s) fun x3 s =>
 opt2 (oBin (int2 (cmpO ltI)) (.v v) (.v x3) rec PT.nil s) fun x4 s =>
 condV x4
 (opt2 (loopV (B55_l0 rec N (k.1, k.2.1, k.2.2.1, k.2.2.2, v)) N ((.int .u64 0), (.int .i64 0)) s) (C55_l0 rec N (k.1, k.2.1, k.2.2.1, k.2.2.2, v)))
 (some ((.exit 0), (v, s)))
set_option maxHeartbeats 4000000 in
theorem s55_l1 (rec : Rec) (N : Nat) (fs : Frm) (s : St) : opt2 (c55_l1 rec N fs s) (fun e r => some (e, (((orU (r.1.get t6)), (orU (r.1.get t2), orU (r.1.get t3), orU (r.1.get t4), orU (r.1.get t5))), r.2))) = opt2 (B55_l1 rec N (orU (fs.get t2), orU (fs.get t3), orU (fs.get t4), orU (fs.get t5)) (orU (fs.get t6)) s) fun e r => some (e, ((r.1, (orU (fs.get t2), orU (fs.get t3), orU (fs.get t4), orU (fs.get t5))), r.2)) := by
  rw [d55_l1]
  unfold D55_l1 B55_l1
  simp (maxSteps := 4000000) only [op2_op2, op2_op, op2_s, op2_cond, op2_bf, mov_v, j55_l0 rec N]
  first | done | kernel_rfl
def C55_l1 (rec : Rec) (N : Nat) (k : Value × Value × Value × Value) (e : AExit) (r : (Value) × St) : Out := (fun s => exV (fun i => bif Nat.beq i 0 then (J55_r1 rec N (k.1, k.2.1, k.2.2.1, k.2.2.2) s)
 else (none))
 (finX [.cell t4 (some 2)] .ret ((PT.put k.2.2.1 t4 PT.nil), s)) e) r.2
theorem j55_l1 (rec : Rec) (N : Nat) (fs : Frm) (s : St) : opt2 (loopF (c55_l1 rec N) N fs s) (fun e r => opt2 (blkX 0 e r) fun e r => opt2 (thenX (c55_r1 rec N) e r) fun e r => finX [.cell t4 (some 2)] e r) = opt2 (loopV (B55_l1 rec N (orU (fs.get t2), orU (fs.get t3), orU (fs.get t4), orU (fs.get t5))) N (orU (fs.get t6)) s) (C55_l1 rec N (orU (fs.get t2), orU (fs.get t3), orU (fs.get t4), orU (fs.get t5))) := by
  refine loop_j (fun fs => (orU (fs.get t6))) (fun fs => (orU (fs.get t2), orU (fs.get t3), orU (fs.get t4), orU (fs.get t5))) (B55_l1 rec N) (c55_l1 rec N) (s55_l1 rec N) (fun e r => opt2 (blkX 0 e r) fun e r => opt2 (thenX (c55_r1 rec N) e r) fun e r => finX [.cell t4 (some 2)] e r) (C55_l1 rec N) ?_ ?_ N fs s
  · intro i fs s
    unfold C55_l1
    simp (maxSteps := 4000000) only [thenX_n, thenX_e, thenX_r, x_exit, x_skip, x_ret, blkX_n, blkX_r, blkX_e, finX_r, finX_n, res_n, res_t, exV_e, exV_r, op2_op2, op2_op, op2_s, op2_cond, op2_bf, mov_v, j55_r1 rec N]
    first | done | kernel_rfl
  · intro fs s
    unfold C55_l1
    simp (maxSteps := 4000000) only [thenX_n, thenX_e, thenX_r, x_exit, x_skip, x_ret, blkX_n, blkX_r, blkX_e, finX_r, finX_n, res_n, res_t, exV_e, exV_r, op2_op2, op2_op, op2_s, op2_cond, op2_bf, mov_v, j55_r1 rec N]
    first | done | kernel_rfl
def F55 (rec : Rec) (N : Nat) (a0 : Value) (a1 : Value) (s : St) : Out := opt2 (oBox (.v a0) rec PT.nil s) fun x1 s =>
 opt2 (oBox (.v a1) rec PT.nil s) fun x2 s =>
 opt2 (oNew [(.bool false), (.slice none 0 0)] rec PT.nil s) fun x3 s =>
 opt2 (oFieldAddr 1 (.v x1) rec PT.nil s) fun x4 s =>
 opt2 (oLoad1 (.v x4) rec PT.nil s) fun x5 s =>
 opt2 (oLenL (.v x5) rec PT.nil s) fun x6 s =>
 opt2 (oFieldAddr 1 (.v x2) rec PT.nil s) fun x7 s =>
 opt2 (oLoad1 (.v x7) rec PT.nil s) fun x8 s =>
 opt2 (oLenL (.v x8) rec PT.nil s) fun x9 s =>
 opt2 (oBin (int2 addO) (.v x6) (.v x9) rec PT.nil s) fun x10 s =>
 opt2 (oBin (int2 addO) (.v x10) (.v (.int .i64 1)) rec PT.nil s) fun x11 s =>
 opt2 (oMakeSlice 1 8 [(.int .u64 0)] (.v x11) (.v x11) rec PT.nil s) fun x12 s =>
 opt2 (loopV (B55_l1 rec N (x1, x2, x3, x12)) N (.int .i64 0) s) (C55_l1 rec N (x1, x2, x3, x12))
theorem f55 (rec : Rec) (N : Nat) (a0 : Value) (a1 : Value) (s : St) : callF rec N c55 [a0, a1] s = F55 rec N a0 a1 s := by
  rw [d55]
  unfold D55 F55
  simp (maxSteps := 4000000) only [mov_v, op2_s, j55_l1 rec N]
  first | done | kernel_rfl
end
end Go.Proofs.Ytdnedangfnincaa.AbsAccR
