import Derived.Test.YtdnedangfnincaaAbsAccRE
import Derived.Test.YtdnedangfnincaaAbsZL
import Derived.Test.YtdnedangfnincaaAbsZW
namespace Go.Proofs.Ytdnedangfnincaa.AbsAccR
open Go Go.Abs Go.Proofs
set_option maxRecDepth 100000
set_option linter.unusedVariables false
set_option linter.unusedSimpArgs false
noncomputable section
-- c58
def D58_l0 (rec : Rec) (N : Nat) (fs : Frm) (s : St) : OutX := opt2 (oMov (.v (orU (fs.get t0))) rec PT.nil s) fun x1 s =>
 opt2 (oBin (int2 (cmpO gtI)) (.v x1) (.v (.int .u64 0)) rec PT.nil s) fun x2 s =>
 condV x2
 (opt2 (oMov (.v (orU (fs.get t5))) rec PT.nil s) fun x3 s =>
 opt2 (oMov (.v (orU (fs.get t0))) rec PT.nil s) fun x4 s =>
 opt2 (oBin (int2 andO) (.v x4) (.v (.int .u64 65535)) rec PT.nil s) fun x5 s =>
 opt2 (oBuildSlice 1 [(.int .u64 0)] [(0, 1, (.v x5))] rec PT.nil s) fun x6 s =>
 opt2 (oAppend 1 8 (.v x3) (.v x6) rec PT.nil s) fun x7 s =>
 opt2 (oMov (.v x7) rec PT.nil s) fun x8 s =>
 opt2 (oMov (.v (orU (fs.get t0))) rec PT.nil s) fun x9 s =>
 opt2 (oBin (sh2 shrO) (.v x9) (.v (.int .u64 16)) rec PT.nil s) fun x10 s =>
 opt2 (oMov (.v x10) rec PT.nil s) fun x11 s =>
 some (.norm, (PT.put x11 t0 (PT.put x10 t14 (PT.put x9 t13 (PT.put x8 t5 (PT.put x7 t12 (PT.put x6 t11 (PT.put x5 t10 (PT.put x4 t9 (PT.put x3 t8 (PT.put x2 t7 (PT.put x1 t6 fs))))))))))), s))
 (some ((.exit 0), (PT.put x2 t7 (PT.put x1 t6 fs)), s))
set_option maxHeartbeats 4000000 in
theorem d58_l0 (rec : Rec) (N : Nat) (fs : Frm) (s : St) : c58_l0 rec N fs s = D58_l0 rec N fs s := by
  simp (maxSteps := 4000000) only [c58_l0, lenN, x_seq, x_ops, x_skip, x_ret, x_exit, x_cond, x_block, x_loop, ops_c, ops_n, op1_u, op1_gj, rq_c, rq_n, opQ_u, opQ_g, op2_op2, op2_op, op2_s, op2_cond, thenX_n, thenX_e, thenX_r, blkX_n, blkX_r, blkX_e, finX_r, finX_n, res_n, res_t, op_s, Nat.beq_refl, cond_true]
  first | done | kernel_rfl
def D58_r0 (rec : Rec) (N : Nat) (fs : Frm) (s : St) : OutX := opt2 (oMov (.v (orU (fs.get t1))) rec PT.nil s) fun x1 s =>
 opt2 (oMov (.v (orU (fs.get t5))) rec PT.nil s) fun x2 s =>
 opt2 (oBuild [(.bool false), (.slice none 0 0)] [(0, 1, (.v x1)), (1, 1, (.v x2))] rec PT.nil s) fun x3 s =>
 opt2 (rec 71 [x3] s) fun x4 s =>
 opt2 (oStore 2 (.v (orU (fs.get t4))) (.v x4) rec PT.nil s) fun x5 s =>
 some (.ret, (PT.put x4 t18 (PT.put x3 t17 (PT.put x2 t16 (PT.put x1 t15 fs)))), s)
set_option maxHeartbeats 4000000 in
theorem d58_r0 (rec : Rec) (N : Nat) (fs : Frm) (s : St) : c58_r0 rec N fs s = D58_r0 rec N fs s := by
  simp (maxSteps := 4000000) only [c58_r0, lenN, x_seq, x_ops, x_skip, x_ret, x_exit, x_cond, x_block, x_loop, ops_c, ops_n, op1_u, op1_gj, rq_c, rq_n, opQ_u, opQ_g, op2_op2, op2_op, op2_s, op2_cond, thenX_n, thenX_e, thenX_r, blkX_n, blkX_r, blkX_e, finX_r, finX_n, res_n, res_t, op_s, Nat.beq_refl, cond_true]
  first | done | kernel_rfl
def D58 (rec : Rec) (N : Nat) (a0 : Value) (a1 : Value) (s : St) : Out := opt2 (oNew [(.bool false), (.slice none 0 0)] rec PT.nil s) fun x1 s =>
 opt2 (oMov (.v (.slice none 0 0)) rec PT.nil s) fun x2 s =>
 opt2 (loopF (c58_l0 rec N) N (PT.put x2 t5 (PT.put x1 t4 (PT.put a1 t1 (PT.put a0 t0 PT.nil)))) s) fun e r => opt2 (blkX 0 e r) fun e r => opt2 (thenX (c58_r0 rec N) e r) fun e r => finX [.cell t4 (some 2)] e r
set_option maxHeartbeats 4000000 in
theorem d58 (rec : Rec) (N : Nat) (a0 : Value) (a1 : Value) (s : St) : callF rec N c58 [a0, a1] s = D58 rec N a0 a1 s := by
  rw [call_f _ _ _ _ _ rfl]
  simp (maxSteps := 4000000) only [c58, lenN, x_seq, x_ops, x_skip, x_ret, x_exit, x_cond, x_block, x_loop, ops_c, ops_n, op1_u, op1_gj, rq_c, rq_n, opQ_u, opQ_g, op2_op2, op2_op, op2_s, op2_cond, thenX_n, thenX_e, thenX_r, blkX_n, blkX_r, blkX_e, finX_r, finX_n, res_n, res_t, op_s, Nat.beq_refl, cond_true]
  first | done | kernel_rfl
def J58_r0 (rec : Rec) (N : Nat) (k : Value × Value × Value) (s : St) : Out := opt2 (oBuild [(.bool false), (.slice none 0 0)] [(0, 1, (.v k.1)), (1, 1, (.v k.2.2))] rec PT.nil s) fun x1 s =>
 opt2 (rec 71 [x1] s) fun x2 s =>
 opt2 (oStore 2 (.v k.2.1) (.v x2) rec PT.nil s) fun x3 s =>
 finX [.cell t4 (some 2)] .ret ((PT.put k.2.1 t4 PT.nil), s)
set_option maxHeartbeats 4000000 in
theorem j58_r0 (rec : Rec) (N : Nat) (fs : Frm) (s : St) : opt2 (c58_r0 rec N fs s) (fun e r => finX [.cell t4 (some 2)] e r) = J58_r0 rec N (orU (fs.get t1), orU (fs.get t4), orU (fs.get t5)) s := by
  rw [d58_r0]
  unfold D58_r0 J58_r0
  simp (maxSteps := 4000000) only [thenX_n, thenX_e, thenX_r, x_exit, x_skip, x_ret, blkX_n, blkX_r, blkX_e, finX_r, finX_n, res_n, res_t, op2_op2, op2_op, op2_s, op2_cond, op2_bf, mov_v]
  first | done | kernel_rfl
def B58_l0 (rec : Rec) (N : Nat) (k : Value × Value) (v : Value × Value) (s : St) : OutV (Value × Value) := opt2 (oBin (int2 (cmpO gtI)) (.v v.1) (.v (.int .u64 0)) rec PT.nil s) fun x1 s =>
 condV x1
 (opt2 (oBin (int2 andO) (.v v.1) (.v (.int .u64 65535)) rec PT.nil s) fun x2 s =>
 opt2 (oBuildSlice 1 [(.int .u64 0)] [(0, 1, (.v x2))] rec PT.nil s) fun x3 s =>
 opt2 (oAppend 1 8 (.v v.2) (.v x3) rec PT.nil s) fun x4 s =>
 opt2 (oBin (sh2 shrO) (.v v.1) (.v (.int .u64 16)) rec PT.nil s) fun x5 s =>
 some (.norm, ((x5, x4), s)))
 (some ((.exit 0), ((v.1, v.2), s)))
set_option maxHeartbeats 4000000 in
theorem s58_l0 (rec : Rec) (N : Nat) (fs : Frm) (s : St) : opt2 (c58_l0 rec N fs s) (fun e r => some (e, (((orU (r.1.get t0), orU (r.1.get t5)), (orU (r.1.get t1), orU (r.1.get t4))), r.2))) = opt2 (B58_l0 rec N (orU (fs.get t1), orU (fs.get t4)) (orU (fs.get t0), orU (fs.get t5)) s) fun e r => some (e, ((r.1, (orU (fs.get t1), orU (fs.get t4))), r.2)) := by
  rw [d58_l0]
  unfold D58_l0 B58_l0
  simp (maxSteps := 4000000) only [op2_op2, op2_op, op2_s, op2_cond, op2_bf, mov_v]
  first | done | kernel_rfl
def C58_l0 (rec : Rec) (N : Nat) (k : Value × Value) (e : AExit) (r : (Value × Value) × St) : Out := (fun s => exV (fun i => bif Nat.beq i 0 then (J58_r0 rec N (k.1, k.2, r.1.2) s)
 else (none))
 (finX [.cell t4 (some 2)] .ret ((PT.put k.2 t4 PT.nil), s)) e) r.2
theorem j58_l0 (rec : Rec) (N : Nat) (fs : Frm) (s : St) : opt2 (loopF (c58_l0 rec N) N fs s) (fun e r => opt2 (blkX 0 e r) fun e r => opt2 (thenX (c58_r0 rec N) e r) fun e r => finX [.cell t4 (some 2)] e r) = opt2 (loopV (B58_l0 rec N (orU (fs.get t1), orU (fs.get t4))) N (orU (fs.get t0), orU (fs.get t5)) s) (C58_l0 rec N (orU (fs.get t1), orU (fs.get t4))) := by
  refine loop_j (fun fs => (orU (fs.get t0), orU (fs.get t5))) (fun fs => (orU (fs.get t1), orU (fs.get t4))) (B58_l0 rec N) (c58_l0 rec N) (s58_l0 rec N) (fun e r => opt2 (blkX 0 e r) fun e r => opt2 (thenX (c58_r0 rec N) e r) fun e r => finX [.cell t4 (some 2)] e r) (C58_l0 rec N) ?_ ?_ N fs s
  · intro i fs s
    unfold C58_l0
    simp (maxSteps := 4000000) only [thenX_n, thenX_e, thenX_r, x_exit, x_skip, x_ret, blkX_n, blkX_r, blkX_e, finX_r, finX_n, res_n, res_t, exV_e, exV_r, op2_op2, op2_op, op2_s, op2_cond, op2_bf, mov_v, j58_r0 rec N]
    first | done | kernel_rfl
  · intro fs s
    unfold C58_l0
    simp (maxSteps := 4000000) only [thenX_n, thenX_e, thenX_r, x_exit, x_skip, x_ret, blkX_n, blkX_r, blkX_e, finX_r, finX_n, res_n, res_t, exV_e, exV_r, op2_op2, op2_op, op2_s, op2_cond, op2_bf, mov_v, j58_r0 rec N]
    first | done | kernel_rfl
def F58 (rec : Rec) (N : Nat) (a0 : Value) (a1 : Value) (s : St) : Out := opt2 (oNew [(.bool false), (.slice none 0 0)] rec PT.nil s) fun x1 s =>
 opt2 (loopV (B58_l0 rec N (a1, x1)) N (a0, (.slice none 0 0)) s) (C58_l0 rec N (a1, x1))
theorem f58 (rec : Rec) (N : Nat) (a0 : Value) (a1 : Value) (s : St) : callF rec N c58 [a0, a1] s = F58 rec N a0 a1 s := by
  rw [d58]
  unfold D58 F58
  simp (maxSteps := 4000000) only [mov_v, op2_s, j58_l0 rec N]
  first | done | kernel_rfl
-- c59
def D59 (rec : Rec) (N : Nat) (a0 : Value) (s : St) : Out := opt2 (oMov (.v (.int .u64 0)) rec PT.nil s) fun x1 s =>
 opt2 (oMov (.v a0) rec PT.nil s) fun x2 s =>
 opt2 (oNilCheck (.v x2) rec PT.nil s) fun x3 s =>
 opt2 (oFieldAddr 1 (.v x3) rec PT.nil s) fun x4 s =>
 opt2 (oStore 1 (.v x4) (.v (.bool true)) rec PT.nil s) fun x5 s =>
 opt2 (oMov (.v a0) rec PT.nil s) fun x6 s =>
 opt2 (oNilCheck (.v x6) rec PT.nil s) fun x7 s =>
 opt2 (oFieldAddr 0 (.v x7) rec PT.nil s) fun x8 s =>
 opt2 (oStore 1 (.v x8) (.v (.slice none 0 0)) rec PT.nil s) fun x9 s =>
 opt2 (oMov (.v (.int .u64 0)) rec PT.nil s) fun x10 s =>
 some (oneOf [x10], s)
set_option maxHeartbeats 4000000 in
theorem d59 (rec : Rec) (N : Nat) (a0 : Value) (s : St) : callF rec N c59 [a0] s = D59 rec N a0 s := by
  rw [call_f _ _ _ _ _ rfl]
  simp (maxSteps := 4000000) only [c59, lenN, x_seq, x_ops, x_skip, x_ret, x_exit, x_cond, x_block, x_loop, ops_c, ops_n, op1_u, op1_gj, rq_c, rq_n, opQ_u, opQ_g, op2_op2, op2_op, op2_s, op2_cond, thenX_n, thenX_e, thenX_r, blkX_n, blkX_r, blkX_e, finX_r, finX_n, res_n, res_t, op_s, Nat.beq_refl, cond_true]
  first | done | kernel_rfl
def F59 (rec : Rec) (N : Nat) (a0 : Value) (s : St) : Out := opt2 (oNilCheck (.v a0) rec PT.nil s) fun x1 s =>
 opt2 (oFieldAddr 1 (.v x1) rec PT.nil s) fun x2 s =>
 opt2 (oStore 1 (.v x2) (.v (.bool true)) rec PT.nil s) fun x3 s =>
 opt2 (oNilCheck (.v a0) rec PT.nil s) fun x4 s =>
 opt2 (oFieldAddr 0 (.v x4) rec PT.nil s) fun x5 s =>
 opt2 (oStore 1 (.v x5) (.v (.slice none 0 0)) rec PT.nil s) fun x6 s =>
 some (oneOf [(.int .u64 0)], s)
set_option maxHeartbeats 4000000 in
theorem f59 (rec : Rec) (N : Nat) (a0 : Value) (s : St) : callF rec N c59 [a0] s = F59 rec N a0 s := by
  rw [d59]
  unfold D59 F59
  first
    | done
    | rfl
    | (simp (maxSteps := 4000000) only [mov_v, op2_s]; first | done | kernel_rfl)
    | kernel_rfl
-- c60
def D60 (rec : Rec) (N : Nat) (a0 : Value) (s : St) : Out := opt2 (oMov (.v (.slice none 0 0)) rec PT.nil s) fun x1 s =>
 opt2 (oMov (.v a0) rec PT.nil s) fun x2 s =>
 opt2 (oEqv eqL false (.v x2) (.v (.slice none 0 0)) rec PT.nil s) fun x3 s =>
 condV x3
 (opt2 (oMov (.v (.slice none 0 0)) rec PT.nil s) fun x4 s =>
 some (oneOf [x4], s))
 (opt2 (oBuildSlice 0 [] [] rec PT.nil s) fun x5 s =>
 opt2 (oMov (.v a0) rec PT.nil s) fun x6 s =>
 opt2 (oAppend 1 1 (.v x5) (.v x6) rec PT.nil s) fun x7 s =>
 opt2 (oMov (.v x7) rec PT.nil s) fun x8 s =>
 some (oneOf [x8], s))
set_option maxHeartbeats 4000000 in
theorem d60 (rec : Rec) (N : Nat) (a0 : Value) (s : St) : callF rec N c60 [a0] s = D60 rec N a0 s := by
  rw [call_f _ _ _ _ _ rfl]
  simp (maxSteps := 4000000) only [c60, lenN, x_seq, x_ops, x_skip, x_ret, x_exit, x_cond, x_block, x_loop, ops_c, ops_n, op1_u, op1_gj, rq_c, rq_n, opQ_u, opQ_g, op2_op2, op2_op, op2_s, op2_cond, thenX_n, thenX_e, thenX_r, blkX_n, blkX_r, blkX_e, finX_r, finX_n, res_n, res_t, op_s, Nat.beq_refl, cond_true]
  first | done | kernel_rfl
def F60 (rec : Rec) (N : Nat) (a0 : Value) (s : St) : Out := opt2 (oEqv eqL false (.v a0) (.v (.slice none 0 0)) rec PT.nil s) fun x1 s =>
 condV x1
 (some (oneOf [(.slice none 0 0)], s))
 (opt2 (oBuildSlice 0 [] [] rec PT.nil s) fun x2 s =>
 opt2 (oAppend 1 1 (.v x2) (.v a0) rec PT.nil s) fun x3 s =>
 some (oneOf [x3], s))
set_option maxHeartbeats 4000000 in
theorem f60 (rec : Rec) (N : Nat) (a0 : Value) (s : St) : callF rec N c60 [a0] s = F60 rec N a0 s := by
  rw [d60]
  unfold D60 F60
  first
    | done
    | rfl
    | (simp (maxSteps := 4000000) only [mov_v, op2_s]; first | done | kernel_rfl)
    | kernel_rfl
-- c61
def D61 (rec : Rec) (N : Nat) (a0 : Value) (s : St) : Out := opt2 (oMov (.v a0) rec PT.nil s) fun x1 s =>
 opt2 (oMov (.v a0) rec PT.nil s) fun x2 s =>
 opt2 (oNilCheck (.v x1) rec PT.nil s) fun x3 s =>
 opt2 (oFieldAddr 0 (.v x3) rec PT.nil s) fun x4 s =>
 opt2 (oStore 1 (.v x4) (.v (.slice none 0 0)) rec PT.nil s) fun x5 s =>
 opt2 (oNilCheck (.v x2) rec PT.nil s) fun x6 s =>
 opt2 (oFieldAddr 1 (.v x6) rec PT.nil s) fun x7 s =>
 opt2 (oStore 1 (.v x7) (.v (.bool true)) rec PT.nil s) fun x8 s =>
 some (oneOf [], s)
set_option maxHeartbeats 4000000 in
theorem d61 (rec : Rec) (N : Nat) (a0 : Value) (s : St) : callF rec N c61 [a0] s = D61 rec N a0 s := by
  rw [call_f _ _ _ _ _ rfl]
  simp (maxSteps := 4000000) only [c61, lenN, x_seq, x_ops, x_skip, x_ret, x_exit, x_cond, x_block, x_loop, ops_c, ops_n, op1_u, op1_gj, rq_c, rq_n, opQ_u, opQ_g, op2_op2, op2_op, op2_s, op2_cond, thenX_n, thenX_e, thenX_r, blkX_n, blkX_r, blkX_e, finX_r, finX_n, res_n, res_t, op_s, Nat.beq_refl, cond_true]
  first | done | kernel_rfl
def F61 (rec : Rec) (N : Nat) (a0 : Value) (s : St) : Out := opt2 (oNilCheck (.v a0) rec PT.nil s) fun x1 s =>
 opt2 (oFieldAddr 0 (.v x1) rec PT.nil s) fun x2 s =>
 opt2 (oStore 1 (.v x2) (.v (.slice none 0 0)) rec PT.nil s) fun x3 s =>
 opt2 (oNilCheck (.v a0) rec PT.nil s) fun x4 s =>
 opt2 (oFieldAddr 1 (.v x4) rec PT.nil s) fun x5 s =>
 opt2 (oStore 1 (.v x5) (.v (.bool true)) rec PT.nil s) fun x6 s =>
 some (oneOf [], s)
set_option maxHeartbeats 4000000 in
theorem f61 (rec : Rec) (N : Nat) (a0 : Value) (s : St) : callF rec N c61 [a0] s = F61 rec N a0 s := by
  rw [d61]
  unfold D61 F61
  first
    | done
    | rfl
    | (simp (maxSteps := 4000000) only [mov_v, op2_s]; first | done | kernel_rfl)
    | kernel_rfl
-- c70
theorem q70_g0 (rec : Rec) (n : Nat) (fs : Frm) (s : St) : xReg c70_g0 [(0, 1), (0, 4), (1, 4), (2, 4), (3, 4), (0, 5), (1, 5), (2, 5), (3, 5), (4, 5), (0, 6), (1, 6), (2, 6), (3, 6), (0, 7), (1, 7), (2, 7), (3, 7)] rec n fs s = opt2 (runQ rec [⟨(some t23), oMov (.t t0), none, none⟩,
   ⟨(some t24), oMov (.t t5), none, none⟩,
   ⟨(some t25), oIdxAddrL 1 (.t t23) (.t t24), none, none⟩,
   ⟨(some t26), oLoad1 (.t t25), none, (some (.t t25))⟩,
   ⟨(some t27), oMov (.t t1), none, none⟩,
   ⟨(some t28), oMov (.t t5), none, none⟩,
   ⟨(some t29), oIdxAddrL 1 (.t t27) (.t t28), none, none⟩,
   ⟨(some t30), oLoad1 (.t t29), none, (some (.t t29))⟩,
   ⟨(some t31), oBin (int2 (cmpO neI)) (.t t26) (.t t30), none, none⟩] fs s) fun fs s => some (.norm, fs, s) :=
 reg_q (ks := [0, 0, 0, 1, 0, 0, 0, 1, 0]) (okc (ok0 (qv_mov (.t t0)) rfl)
 (okc (ok0 (qv_mov (.t t5)) rfl)
 (okc (ok0 (qv_idxl 1 (.t t23) (.t t24)) rfl)
 (okc (ok1 rfl)
 (okc (ok0 (qv_mov (.t t1)) rfl)
 (okc (ok0 (qv_mov (.t t5)) rfl)
 (okc (ok0 (qv_idxl 1 (.t t27) (.t t28)) rfl)
 (okc (ok1 rfl)
 (okc (ok0 (qv_bin (int2 (cmpO neI)) (.t t26) (.t t30)) rfl)
 okn))))))))) (by kernel_rfl) rec n fs s
theorem q70_g1 (rec : Rec) (n : Nat) (fs : Frm) (s : St) : xReg c70_g1 [(0, 1), (0, 4), (1, 4), (2, 4), (3, 4), (0, 5), (1, 5), (2, 5), (3, 5), (4, 5), (0, 6), (1, 6), (2, 6), (3, 6), (0, 7), (1, 7), (2, 7), (3, 7)] rec n fs s = opt2 (runQ rec [⟨(some t32), oMov (.t t0), none, none⟩,
   ⟨(some t33), oMov (.t t5), none, none⟩,
   ⟨(some t34), oIdxAddrL 1 (.t t32) (.t t33), none, none⟩,
   ⟨(some t35), oLoad1 (.t t34), none, (some (.t t34))⟩,
   ⟨(some t36), oMov (.t t1), none, none⟩,
   ⟨(some t37), oMov (.t t5), none, none⟩,
   ⟨(some t38), oIdxAddrL 1 (.t t36) (.t t37), none, none⟩,
   ⟨(some t39), oLoad1 (.t t38), none, (some (.t t38))⟩,
   ⟨(some t40), oBin (int2 (cmpO ltI)) (.t t35) (.t t39), none, none⟩,
   ⟨(some t4), oMov (.t t40), none, none⟩] fs s) fun fs s => some (.norm, fs, s) :=
 reg_q (ks := [0, 0, 0, 1, 0, 0, 0, 1, 0, 0]) (okc (ok0 (qv_mov (.t t0)) rfl)
 (okc (ok0 (qv_mov (.t t5)) rfl)
 (okc (ok0 (qv_idxl 1 (.t t32) (.t t33)) rfl)
 (okc (ok1 rfl)
 (okc (ok0 (qv_mov (.t t1)) rfl)
 (okc (ok0 (qv_mov (.t t5)) rfl)
 (okc (ok0 (qv_idxl 1 (.t t36) (.t t37)) rfl)
 (okc (ok1 rfl)
 (okc (ok0 (qv_bin (int2 (cmpO ltI)) (.t t35) (.t t39)) rfl)
 (okc (ok0 (qv_mov (.t t40)) rfl)
 okn)))))))))) (by kernel_rfl) rec n fs s
def D70_l0 (rec : Rec) (N : Nat) (fs : Frm) (s : St) : OutX := opt2 (oMov (.v (orU (fs.get t5))) rec PT.nil s) fun x1 s =>
 opt2 (oBin (int2 (cmpO geI)) (.v x1) (.v (.int .i64 0)) rec PT.nil s) fun x2 s =>
 condV x2
 (opt2 (oMov (.v (orU (fs.get t0))) rec PT.nil s) fun x3 s =>
 opt2 (oMov (.v (orU (fs.get t5))) rec PT.nil s) fun x4 s =>
 opt2 (oIdxAddrL 1 (.v x3) (.v x4) rec PT.nil s) fun x5 s =>
 opt2 (oLoad1 (.v x5) rec PT.nil s) fun x6 s =>
 opt2 (oMov (.v (orU (fs.get t1))) rec PT.nil s) fun x7 s =>
 opt2 (oMov (.v (orU (fs.get t5))) rec PT.nil s) fun x8 s =>
 opt2 (oIdxAddrL 1 (.v x7) (.v x8) rec PT.nil s) fun x9 s =>
 opt2 (oLoad1 (.v x9) rec PT.nil s) fun x10 s =>
 opt2 (oBin (int2 (cmpO neI)) (.v x6) (.v x10) rec PT.nil s) fun x11 s =>
 condV x11
 (opt2 (oMov (.v (orU (fs.get t0))) rec PT.nil s) fun x12 s =>
 opt2 (oMov (.v (orU (fs.get t5))) rec PT.nil s) fun x13 s =>
 opt2 (oIdxAddrL 1 (.v x12) (.v x13) rec PT.nil s) fun x14 s =>
 opt2 (oLoad1 (.v x14) rec PT.nil s) fun x15 s =>
 opt2 (oMov (.v (orU (fs.get t1))) rec PT.nil s) fun x16 s =>
 opt2 (oMov (.v (orU (fs.get t5))) rec PT.nil s) fun x17 s =>
 opt2 (oIdxAddrL 1 (.v x16) (.v x17) rec PT.nil s) fun x18 s =>
 opt2 (oLoad1 (.v x18) rec PT.nil s) fun x19 s =>
 opt2 (oBin (int2 (cmpO ltI)) (.v x15) (.v x19) rec PT.nil s) fun x20 s =>
 opt2 (oMov (.v x20) rec PT.nil s) fun x21 s =>
 some (.ret, (PT.put x21 t4 (PT.put x20 t40 (PT.put x19 t39 (PT.put x18 t38 (PT.put x17 t37 (PT.put x16 t36 (PT.put x15 t35 (PT.put x14 t34 (PT.put x13 t33 (PT.put x12 t32 (PT.put x11 t31 (PT.put x10 t30 (PT.put x9 t29 (PT.put x8 t28 (PT.put x7 t27 (PT.put x6 t26 (PT.put x5 t25 (PT.put x4 t24 (PT.put x3 t23 (PT.put x2 t20 (PT.put x1 t19 fs))))))))))))))))))))), s))
 (opt2 (oMov (.v (orU (fs.get t5))) rec PT.nil s) fun x22 s =>
 opt2 (oBin (int2 subO) (.v x22) (.v (.int .i64 1)) rec PT.nil s) fun x23 s =>
 opt2 (oMov (.v x23) rec PT.nil s) fun x24 s =>
 some (.norm, (PT.put x24 t5 (PT.put x23 t22 (PT.put x22 t21 (PT.put x11 t31 (PT.put x10 t30 (PT.put x9 t29 (PT.put x8 t28 (PT.put x7 t27 (PT.put x6 t26 (PT.put x5 t25 (PT.put x4 t24 (PT.put x3 t23 (PT.put x2 t20 (PT.put x1 t19 fs)))))))))))))), s)))
 (some ((.exit 0), (PT.put x2 t20 (PT.put x1 t19 fs)), s))
set_option maxHeartbeats 4000000 in
theorem d70_l0 (rec : Rec) (N : Nat) (fs : Frm) (s : St) : c70_l0 rec N fs s = D70_l0 rec N fs s := by
  simp (maxSteps := 4000000) only [c70_l0, lenN, x_seq, x_ops, x_skip, x_ret, x_exit, x_cond, x_block, x_loop, ops_c, ops_n, op1_u, op1_gj, rq_c, rq_n, opQ_u, opQ_g, op2_op2, op2_op, op2_s, op2_cond, thenX_n, thenX_e, thenX_r, blkX_n, blkX_r, blkX_e, finX_r, finX_n, res_n, res_t, op_s, Nat.beq_refl, cond_true, q70_g0, q70_g1, sm_bin, sm_box, sm_build, sm_buildslice, sm_bytesstr, sm_compl, sm_conv, sm_eqs, sm_eqv, sm_ext, sm_extract, sm_field, sm_fieldaddr, sm_func, sm_idxaa, sm_idxl, sm_idxs, sm_iface, sm_lenc, sm_lenl, sm_lens, sm_load1, sm_loadn, sm_mm, sm_mov, sm_neg, sm_new, sm_nil, sm_not, sm_pick, sm_same, sm_slices, sm_store]
  first | done | kernel_rfl
def D70_r0 (rec : Rec) (N : Nat) (fs : Frm) (s : St) : OutX := opt2 (oMov (.v (.bool false)) rec PT.nil s) fun x1 s =>
 some (.ret, (PT.put x1 t4 fs), s)
set_option maxHeartbeats 4000000 in
theorem d70_r0 (rec : Rec) (N : Nat) (fs : Frm) (s : St) : c70_r0 rec N fs s = D70_r0 rec N fs s := by
  simp (maxSteps := 4000000) only [c70_r0, lenN, x_seq, x_ops, x_skip, x_ret, x_exit, x_cond, x_block, x_loop, ops_c, ops_n, op1_u, op1_gj, rq_c, rq_n, opQ_u, opQ_g, op2_op2, op2_op, op2_s, op2_cond, thenX_n, thenX_e, thenX_r, blkX_n, blkX_r, blkX_e, finX_r, finX_n, res_n, res_t, op_s, Nat.beq_refl, cond_true, q70_g0, q70_g1, sm_bin, sm_box, sm_build, sm_buildslice, sm_bytesstr, sm_compl, sm_conv, sm_eqs, sm_eqv, sm_ext, sm_extract, sm_field, sm_fieldaddr, sm_func, sm_idxaa, sm_idxl, sm_idxs, sm_iface, sm_lenc, sm_lenl, sm_lens, sm_load1, sm_loadn, sm_mm, sm_mov, sm_neg, sm_new, sm_nil, sm_not, sm_pick, sm_same, sm_slices, sm_store]
  first | done | kernel_rfl
def D70 (rec : Rec) (N : Nat) (a0 : Value) (a1 : Value) (s : St) : Out := opt2 (oMov (.v (.bool false)) rec PT.nil s) fun x1 s =>
 opt2 (oMov (.v a0) rec PT.nil s) fun x2 s =>
 opt2 (oLenL (.v x2) rec PT.nil s) fun x3 s =>
 opt2 (oMov (.v a1) rec PT.nil s) fun x4 s =>
 opt2 (oLenL (.v x4) rec PT.nil s) fun x5 s =>
 opt2 (oBin (int2 (cmpO neI)) (.v x3) (.v x5) rec PT.nil s) fun x6 s =>
 condV x6
 (opt2 (oMov (.v a0) rec PT.nil s) fun x7 s =>
 opt2 (oLenL (.v x7) rec PT.nil s) fun x8 s =>
 opt2 (oMov (.v a1) rec PT.nil s) fun x9 s =>
 opt2 (oLenL (.v x9) rec PT.nil s) fun x10 s =>
 opt2 (oBin (int2 (cmpO ltI)) (.v x8) (.v x10) rec PT.nil s) fun x11 s =>
 opt2 (oMov (.v x11) rec PT.nil s) fun x12 s =>
 some (oneOf [x12], s))
 (opt2 (oMov (.v a0) rec PT.nil s) fun x13 s =>
 opt2 (oLenL (.v x13) rec PT.nil s) fun x14 s =>
 opt2 (oBin (int2 subO) (.v x14) (.v (.int .i64 1)) rec PT.nil s) fun x15 s =>
 opt2 (oMov (.v x15) rec PT.nil s) fun x16 s =>
 opt2 (loopF (c70_l0 rec N) N (PT.put x16 t5 (PT.put x15 t18 (PT.put x14 t17 (PT.put x13 t16 (PT.put x6 t10 (PT.put x5 t9 (PT.put x4 t8 (PT.put x3 t7 (PT.put x2 t6 (PT.put x1 t4 (PT.put a1 t1 (PT.put a0 t0 PT.nil)))))))))))) s) fun e r => opt2 (blkX 0 e r) fun e r => opt2 (thenX (c70_r0 rec N) e r) fun e r => finX [.tmp t4] e r)
set_option maxHeartbeats 4000000 in
theorem d70 (rec : Rec) (N : Nat) (a0 : Value) (a1 : Value) (s : St) : callF rec N c70 [a0, a1] s = D70 rec N a0 a1 s := by
  rw [call_f _ _ _ _ _ rfl]
  simp (maxSteps := 4000000) only [c70, lenN, x_seq, x_ops, x_skip, x_ret, x_exit, x_cond, x_block, x_loop, ops_c, ops_n, op1_u, op1_gj, rq_c, rq_n, opQ_u, opQ_g, op2_op2, op2_op, op2_s, op2_cond, thenX_n, thenX_e, thenX_r, blkX_n, blkX_r, blkX_e, finX_r, finX_n, res_n, res_t, op_s, Nat.beq_refl, cond_true, q70_g0, q70_g1, sm_bin, sm_box, sm_build, sm_buildslice, sm_bytesstr, sm_compl, sm_conv, sm_eqs, sm_eqv, sm_ext, sm_extract, sm_field, sm_fieldaddr, sm_func, sm_idxaa, sm_idxl, sm_idxs, sm_iface, sm_lenc, sm_lenl, sm_lens, sm_load1, sm_loadn, sm_mm, sm_mov, sm_neg, sm_new, sm_nil, sm_not, sm_pick, sm_same, sm_slices, sm_store]
  first | done | kernel_rfl
def J70_r0 (rec : Rec) (N : Nat) (k : Unit) (s : St) : Out := some (oneOf [(.bool false)], s)
set_option maxHeartbeats 4000000 in
theorem j70_r0 (rec : Rec) (N : Nat) (fs : Frm) (s : St) : opt2 (c70_r0 rec N fs s) (fun e r => finX [.tmp t4] e r) = J70_r0 rec N () s := by
  rw [d70_r0]
  unfold D70_r0 J70_r0
  simp (maxSteps := 4000000) only [thenX_n, thenX_e, thenX_r, x_exit, x_skip, x_ret, blkX_n, blkX_r, blkX_e, finX_r, finX_n, res_n, res_t, op2_op2, op2_op, op2_s, op2_cond, op2_bf, mov_v]
  first | done | kernel_rfl
def B70_l0 (rec : Rec) (N : Nat) (k : Value × Value) (v : Value × Value) (s : St) : OutV (Value × Value) := opt2 (oBin (int2 (cmpO geI)) (.v v.2) (.v (.int .i64 0)) rec PT.nil s) fun x1 s =>
 condV x1
 (opt2 (oIdxAddrL 1 (.v k.1) (.v v.2) rec PT.nil s) fun x2 s =>
 opt2 (oLoad1 (.v x2) rec PT.nil s) fun x3 s =>
 opt2 (oIdxAddrL 1 (.v k.2) (.v v.2) rec PT.nil s) fun x4 s =>
 opt2 (oLoad1 (.v x4) rec PT.nil s) fun x5 s =>
 opt2 (oBin (int2 (cmpO neI)) (.v x3) (.v x5) rec PT.nil s) fun x6 s =>
 condV x6
 (opt2 (oIdxAddrL 1 (.v k.1) (.v v.2) rec PT.nil s) fun x7 s =>
 opt2 (oLoad1 (.v x7) rec PT.nil s) fun x8 s =>
 opt2 (oIdxAddrL 1 (.v k.2) (.v v.2) rec PT.nil s) fun x9 s =>
 opt2 (oLoad1 (.v x9) rec PT.nil s) fun x10 s =>
 opt2 (oBin (int2 (cmpO ltI)) (.v x8) (.v x10) rec PT.nil s) fun x11 s =>
 some (.ret, ((x11, v.2), s)))
 (opt2 (oBin (int2 subO) (.v v.2) (.v (.int .i64 1)) rec PT.nil s) fun x12 s =>
 some (.norm, ((v.1, x12), s))))
 (some ((.exit 0), ((v.1, v.2), s)))
set_option maxHeartbeats 4000000 in
theorem s70_l0 (rec : Rec) (N : Nat) (fs : Frm) (s : St) : opt2 (c70_l0 rec N fs s) (fun e r => some (e, (((orU (r.1.get t4), orU (r.1.get t5)), (orU (r.1.get t0), orU (r.1.get t1))), r.2))) = opt2 (B70_l0 rec N (orU (fs.get t0), orU (fs.get t1)) (orU (fs.get t4), orU (fs.get t5)) s) fun e r => some (e, ((r.1, (orU (fs.get t0), orU (fs.get t1))), r.2)) := by
  rw [d70_l0]
  unfold D70_l0 B70_l0
  simp (maxSteps := 4000000) only [op2_op2, op2_op, op2_s, op2_cond, op2_bf, mov_v]
  first | done | kernel_rfl
def C70_l0 (rec : Rec) (N : Nat) (k : Value × Value) (e : AExit) (r : (Value × Value) × St) : Out := (fun s => exV (fun i => bif Nat.beq i 0 then (J70_r0 rec N () s)
 else (none))
 (some (oneOf [r.1.1], s)) e) r.2
theorem j70_l0 (rec : Rec) (N : Nat) (fs : Frm) (s : St) : opt2 (loopF (c70_l0 rec N) N fs s) (fun e r => opt2 (blkX 0 e r) fun e r => opt2 (thenX (c70_r0 rec N) e r) fun e r => finX [.tmp t4] e r) = opt2 (loopV (B70_l0 rec N (orU (fs.get t0), orU (fs.get t1))) N (orU (fs.get t4), orU (fs.get t5)) s) (C70_l0 rec N (orU (fs.get t0), orU (fs.get t1))) := by
  refine loop_j (fun fs => (orU (fs.get t4), orU (fs.get t5))) (fun fs => (orU (fs.get t0), orU (fs.get t1))) (B70_l0 rec N) (c70_l0 rec N) (s70_l0 rec N) (fun e r => opt2 (blkX 0 e r) fun e r => opt2 (thenX (c70_r0 rec N) e r) fun e r => finX [.tmp t4] e r) (C70_l0 rec N) ?_ ?_ N fs s
  · intro i fs s
    unfold C70_l0
    simp (maxSteps := 4000000) only [thenX_n, thenX_e, thenX_r, x_exit, x_skip, x_ret, blkX_n, blkX_r, blkX_e, finX_r, finX_n, res_n, res_t, exV_e, exV_r, op2_op2, op2_op, op2_s, op2_cond, op2_bf, mov_v, j70_r0 rec N]
    first | done | kernel_rfl
  · intro fs s
    unfold C70_l0
    simp (maxSteps := 4000000) only [thenX_n, thenX_e, thenX_r, x_exit, x_skip, x_ret, blkX_n, blkX_r, blkX_e, finX_r, finX_n, res_n, res_t, exV_e, exV_r, op2_op2, op2_op, op2_s, op2_cond, op2_bf, mov_v, j70_r0 rec N]
    first | done | kernel_rfl
def F70 (rec : Rec) (N : Nat) (a0 : Value) (a1 : Value) (s : St) : Out := opt2 (oLenL (.v a0) rec PT.nil s) fun x1 s =>
 opt2 (oLenL (.v a1) rec PT.nil s) fun x2 s =>
 opt2 (oBin (int2 (cmpO neI)) (.v x1) (.v x2) rec PT.nil s) fun x3 s =>
 condV x3
 (opt2 (oLenL (.v a0) rec PT.nil s) fun x4 s =>
 opt2 (oLenL (.v a1) rec PT.nil s) fun x5 s =>
 opt2 (oBin (int2 (cmpO ltI)) (.v x4) (.v x5) rec PT.nil s) fun x6 s =>
 some (oneOf [x6], s))
 (opt2 (oLenL (.v a0) rec PT.nil s) fun x7 s =>
 opt2 (oBin (int2 subO) (.v x7) (.v (.int .i64 1)) rec PT.nil s) fun x8 s =>
 opt2 (loopV (B70_l0 rec N (a0, a1)) N ((.bool false), x8) s) (C70_l0 rec N (a0, a1)))
theorem f70 (rec : Rec) (N : Nat) (a0 : Value) (a1 : Value) (s : St) : callF rec N c70 [a0, a1] s = F70 rec N a0 a1 s := by
  rw [d70]
  unfold D70 F70
  simp (maxSteps := 4000000) only [mov_v, op2_s, j70_l0 rec N]
  first | done | kernel_rfl
-- c71
def D71_l0 (rec : Rec) (N : Nat) (fs : Frm) (s : St) : OutX := opt2 (oMov (.v (orU (fs.get t3))) rec PT.nil s) fun x1 s =>
 opt2 (oLenL (.v x1) rec PT.nil s) fun x2 s =>
 opt2 (oBin (int2 (cmpO gtI)) (.v x2) (.v (.int .i64 0)) rec PT.nil s) fun x3 s =>
 opt2 (oMov (.v x3) rec PT.nil s) fun x4 s =>
 opt (gval true x4) fun x5 => opt2 (orUndef x5 (oMov (.v (orU (fs.get t3))) rec PT.nil s) s) fun x6 s =>
 opt (gval true x4) fun x7 => opt2 (orUndef x7 (oMov (.v (orU (fs.get t3))) rec PT.nil s) s) fun x8 s =>
 opt (gval true x4) fun x9 => opt2 (orUndef x9 (oLenL (.v x8) rec PT.nil s) s) fun x10 s =>
 opt (gval true x4) fun x11 => opt2 (orUndef x11 (oBin (int2 subO) (.v x10) (.v (.int .i64 1)) rec PT.nil s) s) fun x12 s =>
 opt (gval true x4) fun x13 => opt2 (orUndef x13 (oIdxAddrL 1 (.v x6) (.v x12) rec PT.nil s) s) fun x14 s =>
 opt (gval true x4) fun x15 => opt2 (orUndef x15 (oLoad1 (.v x14) rec PT.nil s) s) fun x16 s =>
 opt (gval true x4) fun x17 => opt2 (orUndef x17 (oBin (int2 (cmpO eqI)) (.v x16) (.v (.int .u64 0)) rec PT.nil s) s) fun x18 s =>
 opt2 (oPick (.v x4) (.v x18) (.v (.bool false)) rec PT.nil s) fun x19 s =>
 condV x19
 (opt2 (oMov (.v (orU (fs.get t3))) rec PT.nil s) fun x20 s =>
 opt2 (oMov (.v (orU (fs.get t3))) rec PT.nil s) fun x21 s =>
 opt2 (oLenL (.v x21) rec PT.nil s) fun x22 s =>
 opt2 (oBin (int2 subO) (.v x22) (.v (.int .i64 1)) rec PT.nil s) fun x23 s =>
 opt2 (oSliceL 1 (.v x20) none (some (.v x23)) none rec PT.nil s) fun x24 s =>
 opt2 (oMov (.v x24) rec PT.nil s) fun x25 s =>
 some (.norm, (PT.put x25 t3 (PT.put x24 t22 (PT.put x23 t21 (PT.put x22 t20 (PT.put x21 t19 (PT.put x20 t18 (PT.put x19 t17 (PT.put x18 t16 (PT.put x16 t15 (PT.put x14 t14 (PT.put x12 t13 (PT.put x10 t12 (PT.put x8 t11 (PT.put x6 t10 (PT.put x4 t9 (PT.put x3 t8 (PT.put x2 t7 (PT.put x1 t6 fs)))))))))))))))))), s))
 (some ((.exit 0), (PT.put x19 t17 (PT.put x18 t16 (PT.put x16 t15 (PT.put x14 t14 (PT.put x12 t13 (PT.put x10 t12 (PT.put x8 t11 (PT.put x6 t10 (PT.put x4 t9 (PT.put x3 t8 (PT.put x2 t7 (PT.put x1 t6 fs)))))))))))), s))
set_option maxHeartbeats 4000000 in
theorem d71_l0 (rec : Rec) (N : Nat) (fs : Frm) (s : St) : c71_l0 rec N fs s = D71_l0 rec N fs s := by
  simp (maxSteps := 4000000) only [c71_l0, lenN, x_seq, x_ops, x_skip, x_ret, x_exit, x_cond, x_block, x_loop, ops_c, ops_n, op1_u, op1_gj, rq_c, rq_n, opQ_u, opQ_g, op2_op2, op2_op, op2_s, op2_cond, thenX_n, thenX_e, thenX_r, blkX_n, blkX_r, blkX_e, finX_r, finX_n, res_n, res_t, op_s, Nat.beq_refl, cond_true]
  first | done | kernel_rfl
def D71_r0 (rec : Rec) (N : Nat) (fs : Frm) (s : St) : OutX := opt2 (oFieldAddr 0 (.v (orU (fs.get t1))) rec PT.nil s) fun x1 s =>
 opt2 (oLoad1 (.v x1) rec PT.nil s) fun x2 s =>
 opt2 (oMov (.v x2) rec PT.nil s) fun x3 s =>
 opt (gval true x3) fun x4 => opt2 (orUndef x4 (oMov (.v (orU (fs.get t3))) rec PT.nil s) s) fun x5 s =>
 opt (gval true x3) fun x6 => opt2 (orUndef x6 (oLenL (.v x5) rec PT.nil s) s) fun x7 s =>
 opt (gval true x3) fun x8 => opt2 (orUndef x8 (oBin (int2 (cmpO gtI)) (.v x7) (.v (.int .i64 0)) rec PT.nil s) s) fun x9 s =>
 opt2 (oPick (.v x3) (.v x9) (.v (.bool false)) rec PT.nil s) fun x10 s =>
 opt2 (oMov (.v (orU (fs.get t3))) rec PT.nil s) fun x11 s =>
 opt2 (oBuild [(.bool false), (.slice none 0 0)] [(0, 1, (.v x10)), (1, 1, (.v x11))] rec PT.nil s) fun x12 s =>
 opt2 (oStore 2 (.v (orU (fs.get t2))) (.v x12) rec PT.nil s) fun x13 s =>
 some (.ret, (PT.put x12 t31 (PT.put x11 t30 (PT.put x10 t29 (PT.put x9 t28 (PT.put x7 t27 (PT.put x5 t26 (PT.put x3 t25 (PT.put x2 t24 (PT.put x1 t23 fs))))))))), s)
set_option maxHeartbeats 4000000 in
theorem d71_r0 (rec : Rec) (N : Nat) (fs : Frm) (s : St) : c71_r0 rec N fs s = D71_r0 rec N fs s := by
  simp (maxSteps := 4000000) only [c71_r0, lenN, x_seq, x_ops, x_skip, x_ret, x_exit, x_cond, x_block, x_loop, ops_c, ops_n, op1_u, op1_gj, rq_c, rq_n, opQ_u, opQ_g, op2_op2, op2_op, op2_s, op2_cond, thenX_n, thenX_e, thenX_r, blkX_n, blkX_r, blkX_e, finX_r, finX_n, res_n, res_t, op_s, Nat.beq_refl, cond_true]
  first | done | kernel_rfl
def D71 (rec : Rec) (N : Nat) (a0 : Value) (s : St) : Out := opt2 (oBox (.v a0) rec PT.nil s) fun x1 s =>
 opt2 (oNew [(.bool false), (.slice none 0 0)] rec PT.nil s) fun x2 s =>
 opt2 (oFieldAddr 1 (.v x1) rec PT.nil s) fun x3 s =>
 opt2 (oLoad1 (.v x3) rec PT.nil s) fun x4 s =>
 opt2 (oMov (.v x4) rec PT.nil s) fun x5 s =>
 opt2 (loopF (c71_l0 rec N) N (PT.put x5 t3 (PT.put x4 t5 (PT.put x3 t4 (PT.put x2 t2 (PT.put x1 t1 (PT.put a0 t0 PT.nil)))))) s) fun e r => opt2 (blkX 0 e r) fun e r => opt2 (thenX (c71_r0 rec N) e r) fun e r => finX [.cell t2 (some 2)] e r
set_option maxHeartbeats 4000000 in
theorem d71 (rec : Rec) (N : Nat) (a0 : Value) (s : St) : callF rec N c71 [a0] s = D71 rec N a0 s := by
  rw [call_f _ _ _ _ _ rfl]
  simp (maxSteps := 4000000) only [c71, lenN, x_seq, x_ops, x_skip, x_ret, x_exit, x_cond, x_block, x_loop, ops_c, ops_n, op1_u, op1_gj, rq_c, rq_n, opQ_u, opQ_g, op2_op2, op2_op, op2_s, op2_cond, thenX_n, thenX_e, thenX_r, blkX_n, blkX_r, blkX_e, finX_r, finX_n, res_n, res_t, op_s, Nat.beq_refl, cond_true]
  first | done | kernel_rfl
def J71_r0 (rec : Rec) (N : Nat) (k : Value × Value × Value) (s : St) : Out := opt2 (oFieldAddr 0 (.v k.1) rec PT.nil s) fun x1 s =>
 opt2 (oLoad1 (.v x1) rec PT.nil s) fun x2 s =>
 opt (gval true x2) fun x3 => opt2 (orUndef x3 (some (k.2.2, s)) s) fun x4 s =>
 opt (gval true x2) fun x5 => opt2 (orUndef x5 (oLenL (.v x4) rec PT.nil s) s) fun x6 s =>
 opt (gval true x2) fun x7 => opt2 (orUndef x7 (oBin (int2 (cmpO gtI)) (.v x6) (.v (.int .i64 0)) rec PT.nil s) s) fun x8 s =>
 opt2 (oPick (.v x2) (.v x8) (.v (.bool false)) rec PT.nil s) fun x9 s =>
 opt2 (oBuild [(.bool false), (.slice none 0 0)] [(0, 1, (.v x9)), (1, 1, (.v k.2.2))] rec PT.nil s) fun x10 s =>
 opt2 (oStore 2 (.v k.2.1) (.v x10) rec PT.nil s) fun x11 s =>
 finX [.cell t2 (some 2)] .ret ((PT.put k.2.1 t2 PT.nil), s)
set_option maxHeartbeats 4000000 in
theorem j71_r0 (rec : Rec) (N : Nat) (fs : Frm) (s : St) : opt2 (c71_r0 rec N fs s) (fun e r => finX [.cell t2 (some 2)] e r) = J71_r0 rec N (orU (fs.get t1), orU (fs.get t2), orU (fs.get t3)) s := by
  rw [d71_r0]
  unfold D71_r0 J71_r0
  simp (maxSteps := 4000000) only [thenX_n, thenX_e, thenX_r, x_exit, x_skip, x_ret, blkX_n, blkX_r, blkX_e, finX_r, finX_n, res_n, res_t, op2_op2, op2_op, op2_s, op2_cond, op2_bf, mov_v]
  first | done | kernel_rfl
def B71_l0 (rec : Rec) (N : Nat) (k : Value × Value) (v : Value) (s : St) : OutV (Value) := opt2 (oLenL (.v v) rec PT.nil s) fun x1 s =>
 opt2 (oBin (int2 (cmpO gtI)) (.v x1) (.v (.int .i64 0)) rec PT.nil s) fun x2 s =>
 opt (gval true x2) fun x3 => opt2 (orUndef x3 (some (v, s)) s) fun x4 s =>
 opt (gval true x2) fun x5 => opt2 (orUndef x5 (some (v, s)) s) fun x6 s =>
 opt (gval true x2) fun x7 => opt2 (orUndef x7 (oLenL (.v x6) rec PT.nil s) s) fun x8 s =>
 opt (gval true x2) fun x9 => opt2 (orUndef x9 (oBin (int2 subO) (.v x8) (.v (.int .i64 1)) rec PT.nil s) s) fun x10 s =>
 opt (gval true x2) fun x11 => opt2 (orUndef x11 (oIdxAddrL 1 (.v x4) (.v x10) rec PT.nil s) s) fun x12 s =>
 opt (gval true x2) fun x13 => opt2 (orUndef x13 (oLoad1 (.v x12) rec PT.nil s) s) fun x14 s =>
 opt (gval true x2) fun x15 => opt2 (orUndef x15 (oBin (int2 (cmpO eqI)) (.v x14) (.v (.int .u64 0)) rec PT.nil s) s) fun x16 s =>
 opt2 (oPick (.v x2) (.v x16) (.v (.bool false)) rec PT.nil s) fun x17 s =>
 condV x17
 (opt2 (oLenL (.v v) rec PT.nil s) fun x18 s =>
 opt2 (oBin (int2 subO) (.v x18) (.v (.int .i64 1)) rec PT.nil s) fun x19 s =>
 opt2 (oSliceL 1 (.v v) none (some (.v x19)) none rec PT.nil s) fun x20 s =>
 some (.norm, (x20, s)))
 (some ((.exit 0), (v, s)))
set_option maxHeartbeats 4000000 in
theorem s71_l0 (rec : Rec) (N : Nat) (fs : Frm) (s : St) : opt2 (c71_l0 rec N fs s) (fun e r => some (e, (((orU (r.1.get t3)), (orU (r.1.get t1), orU (r.1.get t2))), r.2))) = opt2 (B71_l0 rec N (orU (fs.get t1), orU (fs.get t2)) (orU (fs.get t3)) s) fun e r => some (e, ((r.1, (orU (fs.get t1), orU (fs.get t2))), r.2)) := by
  rw [d71_l0]
  unfold D71_l0 B71_l0
  simp (maxSteps := 4000000) only [op2_op2, op2_op, op2_s, op2_cond, op2_bf, mov_v]
  first | done | kernel_rfl
def C71_l0 (rec : Rec) (N : Nat) (k : Value × Value) (e : AExit) (r : (Value) × St) : Out := (fun s => exV (fun i => bif Nat.beq i 0 then (J71_r0 rec N (k.1, k.2, r.1) s)
 else (none))
 (finX [.cell t2 (some 2)] .ret ((PT.put k.2 t2 PT.nil), s)) e) r.2
theorem j71_l0 (rec : Rec) (N : Nat) (fs : Frm) (s : St) : opt2 (loopF (c71_l0 rec N) N fs s) (fun e r => opt2 (blkX 0 e r) fun e r => opt2 (thenX (c71_r0 rec N) e r) fun e r => finX [.cell t2 (some 2)] e r) = opt2 (loopV (B71_l0 rec N (orU (fs.get t1), orU (fs.get t2))) N (orU (fs.get t3)) s) (C71_l0 rec N (orU (fs.get t1), orU (fs.get t2))) := by
  refine loop_j (fun fs => (orU (fs.get t3))) (fun fs => (orU (fs.get t1), orU (fs.get t2))) (B71_l0 rec N) (c71_l0 rec N) (s71_l0 rec N) (fun e r => opt2 (blkX 0 e r) fun e r => opt2 (thenX (c71_r0 rec N) e r) fun e r => finX [.cell t2 (some 2)] e r) (C71_l0 rec N) ?_ ?_ N fs s
  · intro i fs s
    unfold C71_l0
    simp (maxSteps := 4000000) only [thenX_n, thenX_e, thenX_r, x_exit, x_skip, x_ret, blkX_n, blkX_r, blkX_e, finX_r, finX_n, res_n, res_t, exV_e, exV_r, op2_op2, op2_op, op2_s, op2_cond, op2_bf, mov_v, j71_r0 rec N]
    first | done | kernel_rfl
  · intro fs s
    unfold C71_l0
    simp (maxSteps := 4000000) only [thenX_n, thenX_e, thenX_r, x_exit, x_skip, x_ret, blkX_n, blkX_r, blkX_e, finX_r, finX_n, res_n, res_t, exV_e, exV_r, op2_op2, op2_op, op2_s, op2_cond, op2_bf, mov_v, j71_r0 rec N]
    first | done | kernel_rfl
def F71 (rec : Rec) (N : Nat) (a0 : Value) (s : St) : Out := opt2 (oBox (.v a0) rec PT.nil s) fun x1 s =>
 opt2 (oNew [(.bool false), (.slice none 0 0)] rec PT.nil s) fun x2 s =>
 opt2 (oFieldAddr 1 (.v x1) rec PT.nil s) fun x3 s =>
 opt2 (oLoad1 (.v x3) rec PT.nil s) fun x4 s =>
 opt2 (loopV (B71_l0 rec N (x1, x2)) N x4 s) (C71_l0 rec N (x1, x2))
theorem f71 (rec : Rec) (N : Nat) (a0 : Value) (s : St) : callF rec N c71 [a0] s = F71 rec N a0 s := by
  rw [d71]
  unfold D71 F71
  simp (maxSteps := 4000000) only [mov_v, op2_s, j71_l0 rec N]
  first | done | kernel_rfl
-- c72
def D72 (rec : Rec) (N : Nat) (a0 : Value) (a1 : Value) (s : St) : Out := opt2 (oMov (.v (.int .u64 0)) rec PT.nil s) fun x1 s =>
 opt2 (oMov (.v a1) rec PT.nil s) fun x2 s =>
 opt2 (oMov (.v a0) rec PT.nil s) fun x3 s =>
 opt2 (oLenL (.v x3) rec PT.nil s) fun x4 s =>
 opt2 (oBin (int2 (cmpO ltI)) (.v x2) (.v x4) rec PT.nil s) fun x5 s =>
 condV x5
 (opt2 (oMov (.v a0) rec PT.nil s) fun x6 s =>
 opt2 (oMov (.v a1) rec PT.nil s) fun x7 s =>
 opt2 (oIdxAddrL 1 (.v x6) (.v x7) rec PT.nil s) fun x8 s =>
 opt2 (oLoad1 (.v x8) rec PT.nil s) fun x9 s =>
 opt2 (oMov (.v x9) rec PT.nil s) fun x10 s =>
 some (oneOf [x10], s))
 (opt2 (oMov (.v (.int .u64 0)) rec PT.nil s) fun x11 s =>
 some (oneOf [x11], s))
set_option maxHeartbeats 4000000 in
theorem d72 (rec : Rec) (N : Nat) (a0 : Value) (a1 : Value) (s : St) : callF rec N c72 [a0, a1] s = D72 rec N a0 a1 s := by
  rw [call_f _ _ _ _ _ rfl]
  simp (maxSteps := 4000000) only [c72, lenN, x_seq, x_ops, x_skip, x_ret, x_exit, x_cond, x_block, x_loop, ops_c, ops_n, op1_u, op1_gj, rq_c, rq_n, opQ_u, opQ_g, op2_op2, op2_op, op2_s, op2_cond, thenX_n, thenX_e, thenX_r, blkX_n, blkX_r, blkX_e, finX_r, finX_n, res_n, res_t, op_s, Nat.beq_refl, cond_true]
  first | done | kernel_rfl
def F72 (rec : Rec) (N : Nat) (a0 : Value) (a1 : Value) (s : St) : Out := opt2 (oLenL (.v a0) rec PT.nil s) fun x1 s =>
 opt2 (oBin (int2 (cmpO ltI)) (.v a1) (.v x1) rec PT.nil s) fun x2 s =>
 condV x2
 (opt2 (oIdxAddrL 1 (.v a0) (.v a1) rec PT.nil s) fun x3 s =>
 opt2 (oLoad1 (.v x3) rec PT.nil s) fun x4 s =>
 some (oneOf [x4], s))
 (some (oneOf [(.int .u64 0)], s))
set_option maxHeartbeats 4000000 in
theorem f72 (rec : Rec) (N : Nat) (a0 : Value) (a1 : Value) (s : St) : callF rec N c72 [a0, a1] s = F72 rec N a0 a1 s := by
  rw [d72]
  unfold D72 F72
  first
    | done
    | rfl
    | (simp (maxSteps := 4000000) only [mov_v, op2_s]; first | done | kernel_rfl)
    | kernel_rfl
end
end Go.Proofs.Ytdnedangfnincaa.AbsAccR
