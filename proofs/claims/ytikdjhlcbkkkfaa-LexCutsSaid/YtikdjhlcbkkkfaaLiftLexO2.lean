import Derived.Test.YtikdjhlcbkkkfaaAbsLexOE
import Derived.Test.YtikdjhlcbkkkfaaAbsZL
namespace Go.Proofs.Ytikdjhlcbkkkfaa.AbsLexO
open Go Go.Abs Go.Proofs
set_option maxRecDepth 100000
set_option linter.unusedVariables false
set_option linter.unusedSimpArgs false
noncomputable section
-- c19
def D19_l0 (rec : Rec) (N : Nat) (fs : Frm) (s : St) : OutX := opt2 (oMov (.v (orU (fs.get t1))) rec PT.nil s) fun x1 s =>
 opt2 (oMov (.v (orU (fs.get t5))) rec PT.nil s) fun x2 s =>
 opt2 (oBin (int2 addO) (.v x1) (.v x2) rec PT.nil s) fun x3 s =>
 opt2 (oMov (.v (orU (fs.get t0))) rec PT.nil s) fun x4 s =>
 opt2 (oLenS (.v x4) rec PT.nil s) fun x5 s =>
 opt2 (oBin (int2 (cmpO ltI)) (.v x3) (.v x5) rec PT.nil s) fun x6 s =>
 opt2 (oMov (.v x6) rec PT.nil s) fun x7 s =>
 opt (gval true x7) fun x8 => opt2 (orUndef x8 (oMov (.v (orU (fs.get t0))) rec PT.nil s) s) fun x9 s =>
 opt (gval true x7) fun x10 => opt2 (orUndef x10 (oMov (.v (orU (fs.get t1))) rec PT.nil s) s) fun x11 s =>
 opt (gval true x7) fun x12 => opt2 (orUndef x12 (oMov (.v (orU (fs.get t5))) rec PT.nil s) s) fun x13 s =>
 opt (gval true x7) fun x14 => opt2 (orUndef x14 (oBin (int2 addO) (.v x11) (.v x13) rec PT.nil s) s) fun x15 s =>
 opt (gval true x7) fun x16 => opt2 (orUndef x16 (oIdxS (.v x9) (.v x15) rec PT.nil s) s) fun x17 s =>
 opt (gval true x7) fun x18 => opt2 (orUndef x18 (rec 17 [x17] s) s) fun x19 s =>
 opt2 (oPick (.v x7) (.v x19) (.v (.bool false)) rec PT.nil s) fun x20 s =>
 condV x20
 (opt2 (oMov (.v (orU (fs.get t5))) rec PT.nil s) fun x21 s =>
 opt2 (oBin (int2 addO) (.v x21) (.v (.int .i64 1)) rec PT.nil s) fun x22 s =>
 opt2 (oMov (.v x22) rec PT.nil s) fun x23 s =>
 some (.norm, (PT.put x23 t5 (PT.put x22 t21 (PT.put x21 t20 (PT.put x20 t19 (PT.put x19 t18 (PT.put x17 t17 (PT.put x15 t16 (PT.put x13 t15 (PT.put x11 t14 (PT.put x9 t13 (PT.put x7 t12 (PT.put x6 t11 (PT.put x5 t10 (PT.put x4 t9 (PT.put x3 t8 (PT.put x2 t7 (PT.put x1 t6 fs))))))))))))))))), s))
 (some ((.exit 0), (PT.put x20 t19 (PT.put x19 t18 (PT.put x17 t17 (PT.put x15 t16 (PT.put x13 t15 (PT.put x11 t14 (PT.put x9 t13 (PT.put x7 t12 (PT.put x6 t11 (PT.put x5 t10 (PT.put x4 t9 (PT.put x3 t8 (PT.put x2 t7 (PT.put x1 t6 fs)))))))))))))), s))
set_option maxHeartbeats 4000000 in
theorem d19_l0 (rec : Rec) (N : Nat) (fs : Frm) (s : St) : c19_l0 rec N fs s = D19_l0 rec N fs s := by
  simp (maxSteps := 4000000) only [c19_l0, lenN, x_seq, x_ops, x_skip, x_ret, x_exit, x_cond, x_block, x_loop, ops_c, ops_n, op1_u, op1_gj, rq_c, rq_n, opQ_u, opQ_g, op2_op2, op2_op, op2_s, op2_cond, thenX_n, thenX_e, thenX_r, blkX_n, blkX_r, blkX_e, finX_r, finX_n, res_n, res_t, op_s, Nat.beq_refl, cond_true]
  first | done | kernel_rfl
def D19_r0 (rec : Rec) (N : Nat) (fs : Frm) (s : St) : OutX := opt2 (oMov (.v (orU (fs.get t5))) rec PT.nil s) fun x1 s =>
 opt2 (oMov (.v x1) rec PT.nil s) fun x2 s =>
 some (.ret, (PT.put x2 t4 (PT.put x1 t22 fs)), s)
set_option maxHeartbeats 4000000 in
theorem d19_r0 (rec : Rec) (N : Nat) (fs : Frm) (s : St) : c19_r0 rec N fs s = D19_r0 rec N fs s := by
  simp (maxSteps := 4000000) only [c19_r0, lenN, x_seq, x_ops, x_skip, x_ret, x_exit, x_cond, x_block, x_loop, ops_c, ops_n, op1_u, op1_gj, rq_c, rq_n, opQ_u, opQ_g, op2_op2, op2_op, op2_s, op2_cond, thenX_n, thenX_e, thenX_r, blkX_n, blkX_r, blkX_e, finX_r, finX_n, res_n, res_t, op_s, Nat.beq_refl, cond_true]
  first | done | kernel_rfl
def D19 (rec : Rec) (N : Nat) (a0 : Value) (a1 : Value) (s : St) : Out := opt2 (oMov (.v (.int .i64 0)) rec PT.nil s) fun x1 s =>
 opt2 (oMov (.v (.int .i64 0)) rec PT.nil s) fun x2 s =>
 opt2 (loopF (c19_l0 rec N) N (PT.put x2 t5 (PT.put x1 t4 (PT.put a1 t1 (PT.put a0 t0 PT.nil)))) s) fun e r => opt2 (blkX 0 e r) fun e r => opt2 (thenX (c19_r0 rec N) e r) fun e r => finX [.tmp t4] e r
set_option maxHeartbeats 4000000 in
theorem d19 (rec : Rec) (N : Nat) (a0 : Value) (a1 : Value) (s : St) : callF rec N c19 [a0, a1] s = D19 rec N a0 a1 s := by
  rw [call_f _ _ _ _ _ rfl]
  simp (maxSteps := 4000000) only [c19, lenN, x_seq, x_ops, x_skip, x_ret, x_exit, x_cond, x_block, x_loop, ops_c, ops_n, op1_u, op1_gj, rq_c, rq_n, opQ_u, opQ_g, op2_op2, op2_op, op2_s, op2_cond, thenX_n, thenX_e, thenX_r, blkX_n, blkX_r, blkX_e, finX_r, finX_n, res_n, res_t, op_s, Nat.beq_refl, cond_true]
  first | done | kernel_rfl
def J19_r0 (rec : Rec) (N : Nat) (k : Value) (s : St) : Out := some (oneOf [k], s)
set_option maxHeartbeats 4000000 in
theorem j19_r0 (rec : Rec) (N : Nat) (fs : Frm) (s : St) : opt2 (c19_r0 rec N fs s) (fun e r => finX [.tmp t4] e r) = J19_r0 rec N (orU (fs.get t5)) s := by
  rw [d19_r0]
  unfold D19_r0 J19_r0
  simp (maxSteps := 4000000) only [thenX_n, thenX_e, thenX_r, x_exit, x_skip, x_ret, blkX_n, blkX_r, blkX_e, finX_r, finX_n, res_n, res_t, op2_op2, op2_op, op2_s, op2_cond, op2_bf, mov_v]
  first | done | kernel_rfl
def B19_l0 (rec : Rec) (N : Nat) (k : Value × Value × Value) (v : Value) (s : St) : OutV (Value) := opt2 (oBin (int2 addO) (.v k.2.1) (.v v) rec PT.nil s) fun x1 s =>
 opt2 (oLenS (.v k.1) rec PT.nil s) fun x2 s =>
 opt2 (oBin (int2 (cmpO ltI)) (.v x1) (.v x2) rec PT.nil s) fun x3 s =>
 opt (gval true x3) fun x4 => opt2 (orUndef x4 (some (k.1, s)) s) fun x5 s =>
 opt (gval true x3) fun x6 => opt2 (orUndef x6 (some (k.2.1, s)) s) fun x7 s =>
 opt (gval true x3) fun x8 => opt2 (orUndef x8 (some (v, s)) s) fun x9 s =>
 opt (gval true x3) fun x10 => opt2 (orUndef x10 (oBin (int2 addO) (.v x7) (.v x9) rec PT.nil s) s) fun x11 s =>
 opt (gval true x3) fun x12 => opt2 (orUndef x12 (oIdxS (.v x5) (.v x11) rec PT.nil s) s) fun x13 s =>
 opt (gval true x3) fun x14 => opt2 (orUndef x14 (rec 17 [x13] s) s) fun x15 s =>
 opt2 (oPick (.v x3) (.v x15) (.v (.bool false)) rec PT.nil s) fun x16 s =>
 condV x16
 (opt2 (oBin (int2 addO) (.v v) (.v (.int .i64 1)) rec PT.nil s) fun x17 s =>
 some (.norm, (x17, s)))
 (some ((.exit 0), (v, s)))
set_option maxHeartbeats 4000000 in
theorem s19_l0 (rec : Rec) (N : Nat) (fs : Frm) (s : St) : opt2 (c19_l0 rec N fs s) (fun e r => some (e, (((orU (r.1.get t5)), (orU (r.1.get t0), orU (r.1.get t1), orU (r.1.get t4))), r.2))) = opt2 (B19_l0 rec N (orU (fs.get t0), orU (fs.get t1), orU (fs.get t4)) (orU (fs.get t5)) s) fun e r => some (e, ((r.1, (orU (fs.get t0), orU (fs.get t1), orU (fs.get t4))), r.2)) := by
  rw [d19_l0]
  unfold D19_l0 B19_l0
  simp (maxSteps := 4000000) only [op2_op2, op2_op, op2_s, op2_cond, op2_bf, mov_v]
  first | done | kernel_rfl
def C19_l0 (rec : Rec) (N : Nat) (k : Value × Value × Value) (e : AExit) (r : (Value) × St) : Out := (fun s => exV (fun i => bif Nat.beq i 0 then (J19_r0 rec N r.1 s)
 else (none))
 (some (oneOf [k.2.2], s)) e) r.2
theorem j19_l0 (rec : Rec) (N : Nat) (fs : Frm) (s : St) : opt2 (loopF (c19_l0 rec N) N fs s) (fun e r => opt2 (blkX 0 e r) fun e r => opt2 (thenX (c19_r0 rec N) e r) fun e r => finX [.tmp t4] e r) = opt2 (loopV (B19_l0 rec N (orU (fs.get t0), orU (fs.get t1), orU (fs.get t4))) N (orU (fs.get t5)) s) (C19_l0 rec N (orU (fs.get t0), orU (fs.get t1), orU (fs.get t4))) := by
  refine loop_j (fun fs => (orU (fs.get t5))) (fun fs => (orU (fs.get t0), orU (fs.get t1), orU (fs.get t4))) (B19_l0 rec N) (c19_l0 rec N) (s19_l0 rec N) (fun e r => opt2 (blkX 0 e r) fun e r => opt2 (thenX (c19_r0 rec N) e r) fun e r => finX [.tmp t4] e r) (C19_l0 rec N) ?_ ?_ N fs s
  · intro i fs s
    unfold C19_l0
    simp (maxSteps := 4000000) only [thenX_n, thenX_e, thenX_r, x_exit, x_skip, x_ret, blkX_n, blkX_r, blkX_e, finX_r, finX_n, res_n, res_t, exV_e, exV_r, op2_op2, op2_op, op2_s, op2_cond, op2_bf, mov_v, j19_r0 rec N]
    first | done | kernel_rfl
  · intro fs s
    unfold C19_l0
    simp (maxSteps := 4000000) only [thenX_n, thenX_e, thenX_r, x_exit, x_skip, x_ret, blkX_n, blkX_r, blkX_e, finX_r, finX_n, res_n, res_t, exV_e, exV_r, op2_op2, op2_op, op2_s, op2_cond, op2_bf, mov_v, j19_r0 rec N]
    first | done | kernel_rfl
def F19 (rec : Rec) (N : Nat) (a0 : Value) (a1 : Value) (s : St) : Out := opt2 (loopV (B19_l0 rec N (a0, a1, (.int .i64 0))) N (.int .i64 0) s) (C19_l0 rec N (a0, a1, (.int .i64 0)))
theorem f19 (rec : Rec) (N : Nat) (a0 : Value) (a1 : Value) (s : St) : callF rec N c19 [a0, a1] s = F19 rec N a0 a1 s := by
  rw [d19]
  unfold D19 F19
  simp (maxSteps := 4000000) only [mov_v, op2_s, j19_l0 rec N]
  first | done | kernel_rfl
-- c20
def D20 (rec : Rec) (N : Nat) (a0 : Value) (a1 : Value) (s : St) : Out := opt2 (oMov (.v (.int .i64 0)) rec PT.nil s) fun x1 s =>
 opt2 (oMov (.v (.bool false)) rec PT.nil s) fun x2 s =>
 opt2 (oMov (.v a0) rec PT.nil s) fun x3 s =>
 opt2 (rec 36 [x3, (.int .i64 4503599627370496)] s) fun x4 s =>
 opt2 (oMov (.v x4) rec PT.nil s) fun x5 s =>
 opt2 (oExtract (.v x5) 0 rec PT.nil s) fun x6 s =>
 opt2 (oExtract (.v x5) 1 rec PT.nil s) fun x7 s =>
 opt2 (oMov (.v x6) rec PT.nil s) fun x8 s =>
 opt2 (oMov (.v x7) rec PT.nil s) fun x9 s =>
 opt2 (oMov (.v a1) rec PT.nil s) fun x10 s =>
 opt2 (rec 36 [x10, (.int .i64 99)] s) fun x11 s =>
 opt2 (oMov (.v x11) rec PT.nil s) fun x12 s =>
 opt2 (oExtract (.v x12) 0 rec PT.nil s) fun x13 s =>
 opt2 (oExtract (.v x12) 1 rec PT.nil s) fun x14 s =>
 opt2 (oMov (.v x13) rec PT.nil s) fun x15 s =>
 opt2 (oMov (.v x14) rec PT.nil s) fun x16 s =>
 opt2 (oMov (.v x9) rec PT.nil s) fun x17 s =>
 opt2 (oNot (.v x17) rec PT.nil s) fun x18 s =>
 opt2 (oMov (.v x18) rec PT.nil s) fun x19 s =>
 opt (gval false x19) fun x20 => opt2 (orUndef x20 (oMov (.v x8) rec PT.nil s) s) fun x21 s =>
 opt (gval false x19) fun x22 => opt2 (orUndef x22 (oBin (int2 (cmpO gtI)) (.v x21) (.v (.int .i64 45035996273704)) rec PT.nil s) s) fun x23 s =>
 opt2 (oPick (.v x19) (.v (.bool true)) (.v x23) rec PT.nil s) fun x24 s =>
 opt2 (oMov (.v x24) rec PT.nil s) fun x25 s =>
 opt (gval false x25) fun x26 => opt2 (orUndef x26 (oMov (.v x8) rec PT.nil s) s) fun x27 s =>
 opt (gval false x25) fun x28 => opt2 (orUndef x28 (oBin (int2 mulO) (.v (.int .i64 100)) (.v x27) rec PT.nil s) s) fun x29 s =>
 opt (gval false x25) fun x30 => opt2 (orUndef x30 (oMov (.v x15) rec PT.nil s) s) fun x31 s =>
 opt (gval false x25) fun x32 => opt2 (orUndef x32 (oBin (int2 addO) (.v x29) (.v x31) rec PT.nil s) s) fun x33 s =>
 opt (gval false x25) fun x34 => opt2 (orUndef x34 (oBin (int2 (cmpO gtI)) (.v x33) (.v (.int .i64 4503599627370496)) rec PT.nil s) s) fun x35 s =>
 opt2 (oPick (.v x25) (.v (.bool true)) (.v x35) rec PT.nil s) fun x36 s =>
 condV x36
 (opt2 (oMov (.v (.int .i64 0)) rec PT.nil s) fun x37 s =>
 opt2 (oMov (.v (.bool false)) rec PT.nil s) fun x38 s =>
 some (oneOf [x37, x38], s))
 (opt2 (oMov (.v x8) rec PT.nil s) fun x39 s =>
 opt2 (oBin (int2 mulO) (.v (.int .i64 100)) (.v x39) rec PT.nil s) fun x40 s =>
 opt2 (oMov (.v x15) rec PT.nil s) fun x41 s =>
 opt2 (oBin (int2 addO) (.v x40) (.v x41) rec PT.nil s) fun x42 s =>
 opt2 (oMov (.v x42) rec PT.nil s) fun x43 s =>
 opt2 (oMov (.v (.bool true)) rec PT.nil s) fun x44 s =>
 some (oneOf [x43, x44], s))
set_option maxHeartbeats 4000000 in
theorem d20 (rec : Rec) (N : Nat) (a0 : Value) (a1 : Value) (s : St) : callF rec N c20 [a0, a1] s = D20 rec N a0 a1 s := by
  rw [call_f _ _ _ _ _ rfl]
  simp (maxSteps := 4000000) only [c20, lenN, x_seq, x_ops, x_skip, x_ret, x_exit, x_cond, x_block, x_loop, ops_c, ops_n, op1_u, op1_gj, rq_c, rq_n, opQ_u, opQ_g, op2_op2, op2_op, op2_s, op2_cond, thenX_n, thenX_e, thenX_r, blkX_n, blkX_r, blkX_e, finX_r, finX_n, res_n, res_t, op_s, Nat.beq_refl, cond_true]
  first | done | kernel_rfl
def F20 (rec : Rec) (N : Nat) (a0 : Value) (a1 : Value) (s : St) : Out := opt2 (rec 36 [a0, (.int .i64 4503599627370496)] s) fun x1 s =>
 opt2 (oExtract (.v x1) 0 rec PT.nil s) fun x2 s =>
 opt2 (oExtract (.v x1) 1 rec PT.nil s) fun x3 s =>
 opt2 (rec 36 [a1, (.int .i64 99)] s) fun x4 s =>
 opt2 (oExtract (.v x4) 0 rec PT.nil s) fun x5 s =>
 opt2 (oExtract (.v x4) 1 rec PT.nil s) fun x6 s =>
 opt2 (oNot (.v x3) rec PT.nil s) fun x7 s =>
 opt (gval false x7) fun x8 => opt2 (orUndef x8 (some (x2, s)) s) fun x9 s =>
 opt (gval false x7) fun x10 => opt2 (orUndef x10 (oBin (int2 (cmpO gtI)) (.v x9) (.v (.int .i64 45035996273704)) rec PT.nil s) s) fun x11 s =>
 opt2 (oPick (.v x7) (.v (.bool true)) (.v x11) rec PT.nil s) fun x12 s =>
 opt (gval false x12) fun x13 => opt2 (orUndef x13 (some (x2, s)) s) fun x14 s =>
 opt (gval false x12) fun x15 => opt2 (orUndef x15 (oBin (int2 mulO) (.v (.int .i64 100)) (.v x14) rec PT.nil s) s) fun x16 s =>
 opt (gval false x12) fun x17 => opt2 (orUndef x17 (some (x5, s)) s) fun x18 s =>
 opt (gval false x12) fun x19 => opt2 (orUndef x19 (oBin (int2 addO) (.v x16) (.v x18) rec PT.nil s) s) fun x20 s =>
 opt (gval false x12) fun x21 => opt2 (orUndef x21 (oBin (int2 (cmpO gtI)) (.v x20) (.v (.int .i64 4503599627370496)) rec PT.nil s) s) fun x22 s =>
 opt2 (oPick (.v x12) (.v (.bool true)) (.v x22) rec PT.nil s) fun x23 s =>
 condV x23
 (some (oneOf [(.int .i64 0), (.bool false)], s))
 (opt2 (oBin (int2 mulO) (.v (.int .i64 100)) (.v x2) rec PT.nil s) fun x24 s =>
 opt2 (oBin (int2 addO) (.v x24) (.v x5) rec PT.nil s) fun x25 s =>
 some (oneOf [x25, (.bool true)], s))
set_option maxHeartbeats 4000000 in
theorem f20 (rec : Rec) (N : Nat) (a0 : Value) (a1 : Value) (s : St) : callF rec N c20 [a0, a1] s = F20 rec N a0 a1 s := by
  rw [d20]
  unfold D20 F20
  first
    | done
    | rfl
    | (simp (maxSteps := 4000000) only [mov_v, op2_s]; first | done | kernel_rfl)
    | kernel_rfl
-- c21
theorem q21_g0 (rec : Rec) (n : Nat) (fs : Frm) (s : St) : xReg c21_g0 [(4, 6), (5, 6), (4, 7), (5, 7), (6, 7), (4, 8), (5, 8), (4, 9), (5, 9)] rec n fs s = opt2 (runQ rec [⟨(some t14), oMov (.t t0), none, none⟩,
   ⟨(some t15), oLenS (.t t14), none, none⟩,
   ⟨(some t16), oBin (int2 (cmpO geI)) (.t t15) (.v (.int .i64 2)), none, none⟩,
   ⟨(some t17), oMov (.t t16), none, none⟩,
   ⟨(some t18), oMov (.t t0), (some (t17, true)), none⟩,
   ⟨(some t19), oSliceS (.t t18) none (some (.v (.int .i64 2))), (some (t17, true)), none⟩,
   ⟨(some t20), oMov (.t t3), (some (t17, true)), none⟩,
   ⟨(some t21), oMov (.t t4), (some (t17, true)), none⟩,
   ⟨(some t22), oIdxAddrL 1 (.t t20) (.t t21), (some (t17, true)), none⟩,
   ⟨(some t23), oLoad1 (.t t22), (some (t17, true)), (some (.t t22))⟩,
   ⟨(some t24), oBin (str2 (cmpS eqBytes)) (.t t19) (.t t23), (some (t17, true)), none⟩,
   ⟨(some t25), oPick (.t t17) (.t t24) (.v (.bool false)), none, none⟩] fs s) fun fs s => some (.norm, fs, s) :=
 reg_q (ks := [0, 0, 0, 0, 0, 0, 0, 0, 0, 1, 0, 0]) (okc (ok0 (qv_mov (.t t0)) rfl)
 (okc (ok0 (qv_lens (.t t14)) rfl)
 (okc (ok0 (qv_bin (int2 (cmpO geI)) (.t t15) (.v (.int .i64 2))) rfl)
 (okc (ok0 (qv_mov (.t t16)) rfl)
 (okc (ok0 (qv_mov (.t t0)) rfl)
 (okc (ok0 (qv_slices (.t t18) none (some (.v (.int .i64 2)))) rfl)
 (okc (ok0 (qv_mov (.t t3)) rfl)
 (okc (ok0 (qv_mov (.t t4)) rfl)
 (okc (ok0 (qv_idxl 1 (.t t20) (.t t21)) rfl)
 (okc (ok1 rfl)
 (okc (ok0 (qv_bin (str2 (cmpS eqBytes)) (.t t19) (.t t23)) rfl)
 (okc (ok0 (qv_pick (.t t17) (.t t24) (.v (.bool false))) rfl)
 okn)))))))))))) (by kernel_rfl) rec n fs s
theorem q21_g1 (rec : Rec) (n : Nat) (fs : Frm) (s : St) : xReg c21_g1 [(0, 2), (1, 2), (0, 3), (1, 3), (2, 3), (0, 4), (1, 4)] rec n fs s = opt2 (runQ rec [⟨(some t36), oMov (.t t0), none, none⟩,
   ⟨(some t37), oIdxS (.t t36) (.v (.int .i64 0)), none, none⟩,
   ⟨(some t38), oMov (.t t5), none, none⟩,
   ⟨(some t39), oMov (.t t6), none, none⟩,
   ⟨(some t40), oIdxS (.t t38) (.t t39), none, none⟩,
   ⟨(some t41), oBin (int2 (cmpO eqI)) (.t t37) (.t t40), none, none⟩] fs s) fun fs s => some (.norm, fs, s) :=
 reg_q (ks := [0, 0, 0, 0, 0, 0]) (okc (ok0 (qv_mov (.t t0)) rfl)
 (okc (ok0 (qv_idxs (.t t36) (.v (.int .i64 0))) rfl)
 (okc (ok0 (qv_mov (.t t5)) rfl)
 (okc (ok0 (qv_mov (.t t6)) rfl)
 (okc (ok0 (qv_idxs (.t t38) (.t t39)) rfl)
 (okc (ok0 (qv_bin (int2 (cmpO eqI)) (.t t37) (.t t40)) rfl)
 okn)))))) (by kernel_rfl) rec n fs s
def D21_l0 (rec : Rec) (N : Nat) (fs : Frm) (s : St) : OutX := opt2 (oMov (.v (orU (fs.get t4))) rec PT.nil s) fun x1 s =>
 opt2 (oMov (.v (orU (fs.get t3))) rec PT.nil s) fun x2 s =>
 opt2 (oLenL (.v x2) rec PT.nil s) fun x3 s =>
 opt2 (oBin (int2 (cmpO ltI)) (.v x1) (.v x3) rec PT.nil s) fun x4 s =>
 condV x4
 (opt2 (oMov (.v (orU (fs.get t0))) rec PT.nil s) fun x5 s =>
 opt2 (oLenS (.v x5) rec PT.nil s) fun x6 s =>
 opt2 (oBin (int2 (cmpO geI)) (.v x6) (.v (.int .i64 2)) rec PT.nil s) fun x7 s =>
 opt2 (oMov (.v x7) rec PT.nil s) fun x8 s =>
 opt (gval true x8) fun x9 => opt2 (orUndef x9 (oMov (.v (orU (fs.get t0))) rec PT.nil s) s) fun x10 s =>
 opt (gval true x8) fun x11 => opt2 (orUndef x11 (oSliceS (.v x10) none (some (.v (.int .i64 2))) rec PT.nil s) s) fun x12 s =>
 opt (gval true x8) fun x13 => opt2 (orUndef x13 (oMov (.v (orU (fs.get t3))) rec PT.nil s) s) fun x14 s =>
 opt (gval true x8) fun x15 => opt2 (orUndef x15 (oMov (.v (orU (fs.get t4))) rec PT.nil s) s) fun x16 s =>
 opt (gval true x8) fun x17 => opt2 (orUndef x17 (oIdxAddrL 1 (.v x14) (.v x16) rec PT.nil s) s) fun x18 s =>
 opt (gval true x8) fun x19 => opt2 (orUndef x19 (oLoad1 (.v x18) rec PT.nil s) s) fun x20 s =>
 opt (gval true x8) fun x21 => opt2 (orUndef x21 (oBin (str2 (cmpS eqBytes)) (.v x12) (.v x20) rec PT.nil s) s) fun x22 s =>
 opt2 (oPick (.v x8) (.v x22) (.v (.bool false)) rec PT.nil s) fun x23 s =>
 condV x23
 (opt2 (oMov (.v (orU (fs.get t3))) rec PT.nil s) fun x24 s =>
 opt2 (oMov (.v (orU (fs.get t4))) rec PT.nil s) fun x25 s =>
 opt2 (oIdxAddrL 1 (.v x24) (.v x25) rec PT.nil s) fun x26 s =>
 opt2 (oLoad1 (.v x26) rec PT.nil s) fun x27 s =>
 opt2 (oMov (.v x27) rec PT.nil s) fun x28 s =>
 some (.ret, (PT.put x28 t2 (PT.put x27 t29 (PT.put x26 t28 (PT.put x25 t27 (PT.put x24 t26 (PT.put x23 t25 (PT.put x22 t24 (PT.put x20 t23 (PT.put x18 t22 (PT.put x16 t21 (PT.put x14 t20 (PT.put x12 t19 (PT.put x10 t18 (PT.put x8 t17 (PT.put x7 t16 (PT.put x6 t15 (PT.put x5 t14 (PT.put x4 t11 (PT.put x3 t10 (PT.put x2 t9 (PT.put x1 t8 fs))))))))))))))))))))), s))
 (opt2 (oMov (.v (orU (fs.get t4))) rec PT.nil s) fun x29 s =>
 opt2 (oBin (int2 addO) (.v x29) (.v (.int .i64 1)) rec PT.nil s) fun x30 s =>
 opt2 (oMov (.v x30) rec PT.nil s) fun x31 s =>
 some (.norm, (PT.put x31 t4 (PT.put x30 t13 (PT.put x29 t12 (PT.put x23 t25 (PT.put x22 t24 (PT.put x20 t23 (PT.put x18 t22 (PT.put x16 t21 (PT.put x14 t20 (PT.put x12 t19 (PT.put x10 t18 (PT.put x8 t17 (PT.put x7 t16 (PT.put x6 t15 (PT.put x5 t14 (PT.put x4 t11 (PT.put x3 t10 (PT.put x2 t9 (PT.put x1 t8 fs))))))))))))))))))), s)))
 (some ((.exit 0), (PT.put x4 t11 (PT.put x3 t10 (PT.put x2 t9 (PT.put x1 t8 fs)))), s))
set_option maxHeartbeats 4000000 in
theorem d21_l0 (rec : Rec) (N : Nat) (fs : Frm) (s : St) : c21_l0 rec N fs s = D21_l0 rec N fs s := by
  simp (maxSteps := 4000000) only [c21_l0, lenN, x_seq, x_ops, x_skip, x_ret, x_exit, x_cond, x_block, x_loop, ops_c, ops_n, op1_u, op1_gj, rq_c, rq_n, opQ_u, opQ_g, op2_op2, op2_op, op2_s, op2_cond, thenX_n, thenX_e, thenX_r, blkX_n, blkX_r, blkX_e, finX_r, finX_n, res_n, res_t, op_s, Nat.beq_refl, cond_true, q21_g0, q21_g1, sm_bin, sm_box, sm_build, sm_buildslice, sm_bytesstr, sm_compl, sm_conv, sm_eqs, sm_eqv, sm_ext, sm_extract, sm_field, sm_fieldaddr, sm_func, sm_idxaa, sm_idxl, sm_idxs, sm_iface, sm_lenc, sm_lenl, sm_lens, sm_load1, sm_loadn, sm_mm, sm_mov, sm_neg, sm_new, sm_nil, sm_not, sm_pick, sm_same, sm_slices, sm_store]
  first | done | kernel_rfl
def D21_l1 (rec : Rec) (N : Nat) (fs : Frm) (s : St) : OutX := opt2 (oMov (.v (orU (fs.get t6))) rec PT.nil s) fun x1 s =>
 opt2 (oMov (.v (orU (fs.get t5))) rec PT.nil s) fun x2 s =>
 opt2 (oLenS (.v x2) rec PT.nil s) fun x3 s =>
 opt2 (oBin (int2 (cmpO ltI)) (.v x1) (.v x3) rec PT.nil s) fun x4 s =>
 condV x4
 (opt2 (oMov (.v (orU (fs.get t0))) rec PT.nil s) fun x5 s =>
 opt2 (oIdxS (.v x5) (.v (.int .i64 0)) rec PT.nil s) fun x6 s =>
 opt2 (oMov (.v (orU (fs.get t5))) rec PT.nil s) fun x7 s =>
 opt2 (oMov (.v (orU (fs.get t6))) rec PT.nil s) fun x8 s =>
 opt2 (oIdxS (.v x7) (.v x8) rec PT.nil s) fun x9 s =>
 opt2 (oBin (int2 (cmpO eqI)) (.v x6) (.v x9) rec PT.nil s) fun x10 s =>
 condV x10
 (opt2 (oMov (.v (orU (fs.get t0))) rec PT.nil s) fun x11 s =>
 opt2 (oSliceS (.v x11) none (some (.v (.int .i64 1))) rec PT.nil s) fun x12 s =>
 opt2 (oMov (.v x12) rec PT.nil s) fun x13 s =>
 some (.ret, (PT.put x13 t2 (PT.put x12 t43 (PT.put x11 t42 (PT.put x10 t41 (PT.put x9 t40 (PT.put x8 t39 (PT.put x7 t38 (PT.put x6 t37 (PT.put x5 t36 (PT.put x4 t33 (PT.put x3 t32 (PT.put x2 t31 (PT.put x1 t30 fs))))))))))))), s))
 (opt2 (oMov (.v (orU (fs.get t6))) rec PT.nil s) fun x14 s =>
 opt2 (oBin (int2 addO) (.v x14) (.v (.int .i64 1)) rec PT.nil s) fun x15 s =>
 opt2 (oMov (.v x15) rec PT.nil s) fun x16 s =>
 some (.norm, (PT.put x16 t6 (PT.put x15 t35 (PT.put x14 t34 (PT.put x10 t41 (PT.put x9 t40 (PT.put x8 t39 (PT.put x7 t38 (PT.put x6 t37 (PT.put x5 t36 (PT.put x4 t33 (PT.put x3 t32 (PT.put x2 t31 (PT.put x1 t30 fs))))))))))))), s)))
 (some ((.exit 2), (PT.put x4 t33 (PT.put x3 t32 (PT.put x2 t31 (PT.put x1 t30 fs)))), s))
set_option maxHeartbeats 4000000 in
theorem d21_l1 (rec : Rec) (N : Nat) (fs : Frm) (s : St) : c21_l1 rec N fs s = D21_l1 rec N fs s := by
  simp (maxSteps := 4000000) only [c21_l1, lenN, x_seq, x_ops, x_skip, x_ret, x_exit, x_cond, x_block, x_loop, ops_c, ops_n, op1_u, op1_gj, rq_c, rq_n, opQ_u, opQ_g, op2_op2, op2_op, op2_s, op2_cond, thenX_n, thenX_e, thenX_r, blkX_n, blkX_r, blkX_e, finX_r, finX_n, res_n, res_t, op_s, Nat.beq_refl, cond_true, q21_g0, q21_g1, sm_bin, sm_box, sm_build, sm_buildslice, sm_bytesstr, sm_compl, sm_conv, sm_eqs, sm_eqv, sm_ext, sm_extract, sm_field, sm_fieldaddr, sm_func, sm_idxaa, sm_idxl, sm_idxs, sm_iface, sm_lenc, sm_lenl, sm_lens, sm_load1, sm_loadn, sm_mm, sm_mov, sm_neg, sm_new, sm_nil, sm_not, sm_pick, sm_same, sm_slices, sm_store]
  first | done | kernel_rfl
def D21_r0 (rec : Rec) (N : Nat) (fs : Frm) (s : St) : OutX := opt2 (oMov (.v (.string ⟨⟨[]⟩⟩)) rec PT.nil s) fun x1 s =>
 some (.ret, (PT.put x1 t2 fs), s)
set_option maxHeartbeats 4000000 in
theorem d21_r0 (rec : Rec) (N : Nat) (fs : Frm) (s : St) : c21_r0 rec N fs s = D21_r0 rec N fs s := by
  simp (maxSteps := 4000000) only [c21_r0, lenN, x_seq, x_ops, x_skip, x_ret, x_exit, x_cond, x_block, x_loop, ops_c, ops_n, op1_u, op1_gj, rq_c, rq_n, opQ_u, opQ_g, op2_op2, op2_op, op2_s, op2_cond, thenX_n, thenX_e, thenX_r, blkX_n, blkX_r, blkX_e, finX_r, finX_n, res_n, res_t, op_s, Nat.beq_refl, cond_true, q21_g0, q21_g1, sm_bin, sm_box, sm_build, sm_buildslice, sm_bytesstr, sm_compl, sm_conv, sm_eqs, sm_eqv, sm_ext, sm_extract, sm_field, sm_fieldaddr, sm_func, sm_idxaa, sm_idxl, sm_idxs, sm_iface, sm_lenc, sm_lenl, sm_lens, sm_load1, sm_loadn, sm_mm, sm_mov, sm_neg, sm_new, sm_nil, sm_not, sm_pick, sm_same, sm_slices, sm_store]
  first | done | kernel_rfl
def D21_r1 (rec : Rec) (N : Nat) (fs : Frm) (s : St) : OutX := opt2 (oMov (.v (.string ⟨⟨[40, 41, 123, 125, 91, 93, 44, 59, 58, 61, 43, 45, 42, 47, 60, 62]⟩⟩)) rec PT.nil s) fun x1 s =>
 opt2 (oMov (.v (.int .i64 0)) rec PT.nil s) fun x2 s =>
 opt2 (loopF (c21_l1 rec N) N (PT.put x2 t6 (PT.put x1 t5 fs)) s) fun e r => opt2 (blkX 2 e r) fun e r => thenX (c21_r0 rec N) e r
set_option maxHeartbeats 4000000 in
theorem d21_r1 (rec : Rec) (N : Nat) (fs : Frm) (s : St) : c21_r1 rec N fs s = D21_r1 rec N fs s := by
  simp (maxSteps := 4000000) only [c21_r1, lenN, x_seq, x_ops, x_skip, x_ret, x_exit, x_cond, x_block, x_loop, ops_c, ops_n, op1_u, op1_gj, rq_c, rq_n, opQ_u, opQ_g, op2_op2, op2_op, op2_s, op2_cond, thenX_n, thenX_e, thenX_r, blkX_n, blkX_r, blkX_e, finX_r, finX_n, res_n, res_t, op_s, Nat.beq_refl, cond_true, q21_g0, q21_g1, sm_bin, sm_box, sm_build, sm_buildslice, sm_bytesstr, sm_compl, sm_conv, sm_eqs, sm_eqv, sm_ext, sm_extract, sm_field, sm_fieldaddr, sm_func, sm_idxaa, sm_idxl, sm_idxs, sm_iface, sm_lenc, sm_lenl, sm_lens, sm_load1, sm_loadn, sm_mm, sm_mov, sm_neg, sm_new, sm_nil, sm_not, sm_pick, sm_same, sm_slices, sm_store]
  first | done | kernel_rfl
def D21 (rec : Rec) (N : Nat) (a0 : Value) (s : St) : Out := opt2 (oMov (.v (.string ⟨⟨[]⟩⟩)) rec PT.nil s) fun x1 s =>
 opt2 (oBuildSlice 4 [(.string ⟨⟨[]⟩⟩), (.string ⟨⟨[]⟩⟩), (.string ⟨⟨[]⟩⟩), (.string ⟨⟨[]⟩⟩)] [(0, 1, (.v (.string ⟨⟨[60, 61]⟩⟩))), (1, 1, (.v (.string ⟨⟨[62, 61]⟩⟩))), (2, 1, (.v (.string ⟨⟨[61, 61]⟩⟩))), (3, 1, (.v (.string ⟨⟨[33, 61]⟩⟩)))] rec PT.nil s) fun x2 s =>
 opt2 (oMov (.v x2) rec PT.nil s) fun x3 s =>
 opt2 (oMov (.v (.int .i64 0)) rec PT.nil s) fun x4 s =>
 opt2 (loopF (c21_l0 rec N) N (PT.put x4 t4 (PT.put x3 t3 (PT.put x2 t7 (PT.put x1 t2 (PT.put a0 t0 PT.nil))))) s) fun e r => opt2 (blkX 0 e r) fun e r => opt2 (thenX (c21_r1 rec N) e r) fun e r => finX [.tmp t2] e r
set_option maxHeartbeats 4000000 in
theorem d21 (rec : Rec) (N : Nat) (a0 : Value) (s : St) : callF rec N c21 [a0] s = D21 rec N a0 s := by
  rw [call_f _ _ _ _ _ rfl]
  simp (maxSteps := 4000000) only [c21, lenN, x_seq, x_ops, x_skip, x_ret, x_exit, x_cond, x_block, x_loop, ops_c, ops_n, op1_u, op1_gj, rq_c, rq_n, opQ_u, opQ_g, op2_op2, op2_op, op2_s, op2_cond, thenX_n, thenX_e, thenX_r, blkX_n, blkX_r, blkX_e, finX_r, finX_n, res_n, res_t, op_s, Nat.beq_refl, cond_true, q21_g0, q21_g1, sm_bin, sm_box, sm_build, sm_buildslice, sm_bytesstr, sm_compl, sm_conv, sm_eqs, sm_eqv, sm_ext, sm_extract, sm_field, sm_fieldaddr, sm_func, sm_idxaa, sm_idxl, sm_idxs, sm_iface, sm_lenc, sm_lenl, sm_lens, sm_load1, sm_loadn, sm_mm, sm_mov, sm_neg, sm_new, sm_nil, sm_not, sm_pick, sm_same, sm_slices, sm_store]
  first | done | kernel_rfl
def J21_r0 (rec : Rec) (N : Nat) (k : Unit) (s : St) : Out := some (oneOf [(.string ⟨⟨[]⟩⟩)], s)
set_option maxHeartbeats 4000000 in
theorem j21_r0 (rec : Rec) (N : Nat) (fs : Frm) (s : St) : opt2 (c21_r0 rec N fs s) (fun e r => finX [.tmp t2] e r) = J21_r0 rec N () s := by
  rw [d21_r0]
  unfold D21_r0 J21_r0
  simp (maxSteps := 4000000) only [thenX_n, thenX_e, thenX_r, x_exit, x_skip, x_ret, blkX_n, blkX_r, blkX_e, finX_r, finX_n, res_n, res_t, op2_op2, op2_op, op2_s, op2_cond, op2_bf, mov_v]
  first | done | kernel_rfl
def B21_l1 (rec : Rec) (N : Nat) (k : Value × Value) (v : Value × Value) (s : St) : OutV (Value × Value) := opt2 (oLenS (.v k.2) rec PT.nil s) fun x1 s =>
 opt2 (oBin (int2 (cmpO ltI)) (.v v.2) (.v x1) rec PT.nil s) fun x2 s =>
 condV x2
 (opt2 (oIdxS (.v k.1) (.v (.int .i64 0)) rec PT.nil s) fun x3 s =>
 opt2 (oIdxS (.v k.2) (.v v.2) rec PT.nil s) fun x4 s =>
 opt2 (oBin (int2 (cmpO eqI)) (.v x3) (.v x4) rec PT.nil s) fun x5 s =>
 condV x5
 (opt2 (oSliceS (.v k.1) none (some (.v (.int .i64 1))) rec PT.nil s) fun x6 s =>
 some (.ret, ((x6, v.2), s)))
 (opt2 (oBin (int2 addO) (.v v.2) (.v (.int .i64 1)) rec PT.nil s) fun x7 s =>
 some (.norm, ((v.1, x7), s))))
 (some ((.exit 2), ((v.1, v.2), s)))
set_option maxHeartbeats 4000000 in
theorem s21_l1 (rec : Rec) (N : Nat) (fs : Frm) (s : St) : opt2 (c21_l1 rec N fs s) (fun e r => some (e, (((orU (r.1.get t2), orU (r.1.get t6)), (orU (r.1.get t0), orU (r.1.get t5))), r.2))) = opt2 (B21_l1 rec N (orU (fs.get t0), orU (fs.get t5)) (orU (fs.get t2), orU (fs.get t6)) s) fun e r => some (e, ((r.1, (orU (fs.get t0), orU (fs.get t5))), r.2)) := by
  rw [d21_l1]
  unfold D21_l1 B21_l1
  simp (maxSteps := 4000000) only [op2_op2, op2_op, op2_s, op2_cond, op2_bf, mov_v]
  first | done | kernel_rfl
def C21_l1 (rec : Rec) (N : Nat) (k : Value × Value) (e : AExit) (r : (Value × Value) × St) : Out := (fun s => exV (fun i => bif Nat.beq i 2 then (J21_r0 rec N () s)
 else (none))
 (some (oneOf [r.1.1], s)) e) r.2
theorem j21_l1 (rec : Rec) (N : Nat) (fs : Frm) (s : St) : opt2 (loopF (c21_l1 rec N) N fs s) (fun e r => opt2 (blkX 2 e r) fun e r => opt2 (thenX (c21_r0 rec N) e r) fun e r => finX [.tmp t2] e r) = opt2 (loopV (B21_l1 rec N (orU (fs.get t0), orU (fs.get t5))) N (orU (fs.get t2), orU (fs.get t6)) s) (C21_l1 rec N (orU (fs.get t0), orU (fs.get t5))) := by
  refine loop_j (fun fs => (orU (fs.get t2), orU (fs.get t6))) (fun fs => (orU (fs.get t0), orU (fs.get t5))) (B21_l1 rec N) (c21_l1 rec N) (s21_l1 rec N) (fun e r => opt2 (blkX 2 e r) fun e r => opt2 (thenX (c21_r0 rec N) e r) fun e r => finX [.tmp t2] e r) (C21_l1 rec N) ?_ ?_ N fs s
  · intro i fs s
    unfold C21_l1
    simp (maxSteps := 4000000) only [thenX_n, thenX_e, thenX_r, x_exit, x_skip, x_ret, blkX_n, blkX_r, blkX_e, finX_r, finX_n, res_n, res_t, exV_e, exV_r, op2_op2, op2_op, op2_s, op2_cond, op2_bf, mov_v, j21_r0 rec N]
    first | done | kernel_rfl
  · intro fs s
    unfold C21_l1
    simp (maxSteps := 4000000) only [thenX_n, thenX_e, thenX_r, x_exit, x_skip, x_ret, blkX_n, blkX_r, blkX_e, finX_r, finX_n, res_n, res_t, exV_e, exV_r, op2_op2, op2_op, op2_s, op2_cond, op2_bf, mov_v, j21_r0 rec N]
    first | done | kernel_rfl
def J21_r1 (rec : Rec) (N : Nat) (k : Value × Value) (s : St) : Out := opt2 (loopV (B21_l1 rec N (k.1, (.string ⟨⟨[40, 41, 123, 125, 91, 93, 44, 59, 58, 61, 43, 45, 42, 47, 60, 62]⟩⟩))) N (k.2, (.int .i64 0)) s) (C21_l1 rec N (k.1, (.string ⟨⟨[40, 41, 123, 125, 91, 93, 44, 59, 58, 61, 43, 45, 42, 47, 60, 62]⟩⟩)))
set_option maxHeartbeats 4000000 in
theorem j21_r1 (rec : Rec) (N : Nat) (fs : Frm) (s : St) : opt2 (c21_r1 rec N fs s) (fun e r => finX [.tmp t2] e r) = J21_r1 rec N (orU (fs.get t0), orU (fs.get t2)) s := by
  rw [d21_r1]
  unfold D21_r1 J21_r1
  simp (maxSteps := 4000000) only [thenX_n, thenX_e, thenX_r, x_exit, x_skip, x_ret, blkX_n, blkX_r, blkX_e, finX_r, finX_n, res_n, res_t, op2_op2, op2_op, op2_s, op2_cond, op2_bf, mov_v, j21_l1 rec N]
  first | done | kernel_rfl
def B21_l0 (rec : Rec) (N : Nat) (k : Value × Value) (v : Value × Value) (s : St) : OutV (Value × Value) := opt2 (oLenL (.v k.2) rec PT.nil s) fun x1 s =>
 opt2 (oBin (int2 (cmpO ltI)) (.v v.2) (.v x1) rec PT.nil s) fun x2 s =>
 condV x2
 (opt2 (oLenS (.v k.1) rec PT.nil s) fun x3 s =>
 opt2 (oBin (int2 (cmpO geI)) (.v x3) (.v (.int .i64 2)) rec PT.nil s) fun x4 s =>
 opt (gval true x4) fun x5 => opt2 (orUndef x5 (some (k.1, s)) s) fun x6 s =>
 opt (gval true x4) fun x7 => opt2 (orUndef x7 (oSliceS (.v x6) none (some (.v (.int .i64 2))) rec PT.nil s) s) fun x8 s =>
 opt (gval true x4) fun x9 => opt2 (orUndef x9 (some (k.2, s)) s) fun x10 s =>
 opt (gval true x4) fun x11 => opt2 (orUndef x11 (some (v.2, s)) s) fun x12 s =>
 opt (gval true x4) fun x13 => opt2 (orUndef x13 (oIdxAddrL 1 (.v x10) (.v x12) rec PT.nil s) s) fun x14 s =>
 opt (gval true x4) fun x15 => opt2 (orUndef x15 (oLoad1 (.v x14) rec PT.nil s) s) fun x16 s =>
 opt (gval true x4) fun x17 => opt2 (orUndef x17 (oBin (str2 (cmpS eqBytes)) (.v x8) (.v x16) rec PT.nil s) s) fun x18 s =>
 opt2 (oPick (.v x4) (.v x18) (.v (.bool false)) rec PT.nil s) fun x19 s =>
 condV x19
 (opt2 (oIdxAddrL 1 (.v k.2) (.v v.2) rec PT.nil s) fun x20 s =>
 opt2 (oLoad1 (.v x20) rec PT.nil s) fun x21 s =>
 some (.ret, ((x21, v.2), s)))
 (opt2 (oBin (int2 addO) (.v v.2) (.v (.int .i64 1)) rec PT.nil s) fun x22 s =>
 some (.norm, ((v.1, x22), s))))
 (some ((.exit 0), ((v.1, v.2), s)))
set_option maxHeartbeats 4000000 in
theorem s21_l0 (rec : Rec) (N : Nat) (fs : Frm) (s : St) : opt2 (c21_l0 rec N fs s) (fun e r => some (e, (((orU (r.1.get t2), orU (r.1.get t4)), (orU (r.1.get t0), orU (r.1.get t3))), r.2))) = opt2 (B21_l0 rec N (orU (fs.get t0), orU (fs.get t3)) (orU (fs.get t2), orU (fs.get t4)) s) fun e r => some (e, ((r.1, (orU (fs.get t0), orU (fs.get t3))), r.2)) := by
  rw [d21_l0]
  unfold D21_l0 B21_l0
  simp (maxSteps := 4000000) only [op2_op2, op2_op, op2_s, op2_cond, op2_bf, mov_v]
  first | done | kernel_rfl
def C21_l0 (rec : Rec) (N : Nat) (k : Value × Value) (e : AExit) (r : (Value × Value) × St) : Out := (fun s => exV (fun i => bif Nat.beq i 0 then (J21_r1 rec N (k.1, r.1.1) s)
 else (none))
 (some (oneOf [r.1.1], s)) e) r.2
theorem j21_l0 (rec : Rec) (N : Nat) (fs : Frm) (s : St) : opt2 (loopF (c21_l0 rec N) N fs s) (fun e r => opt2 (blkX 0 e r) fun e r => opt2 (thenX (c21_r1 rec N) e r) fun e r => finX [.tmp t2] e r) = opt2 (loopV (B21_l0 rec N (orU (fs.get t0), orU (fs.get t3))) N (orU (fs.get t2), orU (fs.get t4)) s) (C21_l0 rec N (orU (fs.get t0), orU (fs.get t3))) := by
  refine loop_j (fun fs => (orU (fs.get t2), orU (fs.get t4))) (fun fs => (orU (fs.get t0), orU (fs.get t3))) (B21_l0 rec N) (c21_l0 rec N) (s21_l0 rec N) (fun e r => opt2 (blkX 0 e r) fun e r => opt2 (thenX (c21_r1 rec N) e r) fun e r => finX [.tmp t2] e r) (C21_l0 rec N) ?_ ?_ N fs s
  · intro i fs s
    unfold C21_l0
    simp (maxSteps := 4000000) only [thenX_n, thenX_e, thenX_r, x_exit, x_skip, x_ret, blkX_n, blkX_r, blkX_e, finX_r, finX_n, res_n, res_t, exV_e, exV_r, op2_op2, op2_op, op2_s, op2_cond, op2_bf, mov_v, j21_r1 rec N]
    first | done | kernel_rfl
  · intro fs s
    unfold C21_l0
    simp (maxSteps := 4000000) only [thenX_n, thenX_e, thenX_r, x_exit, x_skip, x_ret, blkX_n, blkX_r, blkX_e, finX_r, finX_n, res_n, res_t, exV_e, exV_r, op2_op2, op2_op, op2_s, op2_cond, op2_bf, mov_v, j21_r1 rec N]
    first | done | kernel_rfl
def F21 (rec : Rec) (N : Nat) (a0 : Value) (s : St) : Out := opt2 (oBuildSlice 4 [(.string ⟨⟨[]⟩⟩), (.string ⟨⟨[]⟩⟩), (.string ⟨⟨[]⟩⟩), (.string ⟨⟨[]⟩⟩)] [(0, 1, (.v (.string ⟨⟨[60, 61]⟩⟩))), (1, 1, (.v (.string ⟨⟨[62, 61]⟩⟩))), (2, 1, (.v (.string ⟨⟨[61, 61]⟩⟩))), (3, 1, (.v (.string ⟨⟨[33, 61]⟩⟩)))] rec PT.nil s) fun x1 s =>
 opt2 (loopV (B21_l0 rec N (a0, x1)) N ((.string ⟨⟨[]⟩⟩), (.int .i64 0)) s) (C21_l0 rec N (a0, x1))
theorem f21 (rec : Rec) (N : Nat) (a0 : Value) (s : St) : callF rec N c21 [a0] s = F21 rec N a0 s := by
  rw [d21]
  unfold D21 F21
  simp (maxSteps := 4000000) only [mov_v, op2_s, j21_l0 rec N]
  first | done | kernel_rfl
-- c25
def D25_l0 (rec : Rec) (N : Nat) (fs : Frm) (s : St) : OutX := opt2 (oMov (.v (orU (fs.get t5))) rec PT.nil s) fun x1 s =>
 opt2 (oMov (.v (orU (fs.get t0))) rec PT.nil s) fun x2 s =>
 opt2 (oLenS (.v x2) rec PT.nil s) fun x3 s =>
 opt2 (oBin (int2 (cmpO ltI)) (.v x1) (.v x3) rec PT.nil s) fun x4 s =>
 opt2 (oMov (.v x4) rec PT.nil s) fun x5 s =>
 opt (gval true x5) fun x6 => opt2 (orUndef x6 (oMov (.v (orU (fs.get t1))) rec PT.nil s) s) fun x7 s =>
 opt (gval true x5) fun x8 => opt2 (orUndef x8 (oMov (.v (orU (fs.get t0))) rec PT.nil s) s) fun x9 s =>
 opt (gval true x5) fun x10 => opt2 (orUndef x10 (oMov (.v (orU (fs.get t5))) rec PT.nil s) s) fun x11 s =>
 opt (gval true x5) fun x12 => opt2 (orUndef x12 (oIdxS (.v x9) (.v x11) rec PT.nil s) s) fun x13 s =>
 opt (gval true x5) fun x14 => opt2 (orUndef x14 (oCallV (.v x7) [(.v x13)] rec PT.nil s) s) fun x15 s =>
 opt2 (oPick (.v x5) (.v x15) (.v (.bool false)) rec PT.nil s) fun x16 s =>
 condV x16
 (opt2 (oMov (.v (orU (fs.get t5))) rec PT.nil s) fun x17 s =>
 opt2 (oBin (int2 addO) (.v x17) (.v (.int .i64 1)) rec PT.nil s) fun x18 s =>
 opt2 (oMov (.v x18) rec PT.nil s) fun x19 s =>
 some (.norm, (PT.put x19 t5 (PT.put x18 t18 (PT.put x17 t17 (PT.put x16 t16 (PT.put x15 t15 (PT.put x13 t14 (PT.put x11 t13 (PT.put x9 t12 (PT.put x7 t11 (PT.put x5 t10 (PT.put x4 t9 (PT.put x3 t8 (PT.put x2 t7 (PT.put x1 t6 fs)))))))))))))), s))
 (some ((.exit 0), (PT.put x16 t16 (PT.put x15 t15 (PT.put x13 t14 (PT.put x11 t13 (PT.put x9 t12 (PT.put x7 t11 (PT.put x5 t10 (PT.put x4 t9 (PT.put x3 t8 (PT.put x2 t7 (PT.put x1 t6 fs))))))))))), s))
set_option maxHeartbeats 4000000 in
theorem d25_l0 (rec : Rec) (N : Nat) (fs : Frm) (s : St) : c25_l0 rec N fs s = D25_l0 rec N fs s := by
  simp (maxSteps := 4000000) only [c25_l0, lenN, x_seq, x_ops, x_skip, x_ret, x_exit, x_cond, x_block, x_loop, ops_c, ops_n, op1_u, op1_gj, rq_c, rq_n, opQ_u, opQ_g, op2_op2, op2_op, op2_s, op2_cond, thenX_n, thenX_e, thenX_r, blkX_n, blkX_r, blkX_e, finX_r, finX_n, res_n, res_t, op_s, Nat.beq_refl, cond_true]
  first | done | kernel_rfl
def D25_r0 (rec : Rec) (N : Nat) (fs : Frm) (s : St) : OutX := opt2 (oMov (.v (orU (fs.get t5))) rec PT.nil s) fun x1 s =>
 opt2 (oMov (.v x1) rec PT.nil s) fun x2 s =>
 some (.ret, (PT.put x2 t4 (PT.put x1 t19 fs)), s)
set_option maxHeartbeats 4000000 in
theorem d25_r0 (rec : Rec) (N : Nat) (fs : Frm) (s : St) : c25_r0 rec N fs s = D25_r0 rec N fs s := by
  simp (maxSteps := 4000000) only [c25_r0, lenN, x_seq, x_ops, x_skip, x_ret, x_exit, x_cond, x_block, x_loop, ops_c, ops_n, op1_u, op1_gj, rq_c, rq_n, opQ_u, opQ_g, op2_op2, op2_op, op2_s, op2_cond, thenX_n, thenX_e, thenX_r, blkX_n, blkX_r, blkX_e, finX_r, finX_n, res_n, res_t, op_s, Nat.beq_refl, cond_true]
  first | done | kernel_rfl
def D25 (rec : Rec) (N : Nat) (a0 : Value) (a1 : Value) (s : St) : Out := opt2 (oMov (.v (.int .i64 0)) rec PT.nil s) fun x1 s =>
 opt2 (oMov (.v (.int .i64 0)) rec PT.nil s) fun x2 s =>
 opt2 (loopF (c25_l0 rec N) N (PT.put x2 t5 (PT.put x1 t4 (PT.put a1 t1 (PT.put a0 t0 PT.nil)))) s) fun e r => opt2 (blkX 0 e r) fun e r => opt2 (thenX (c25_r0 rec N) e r) fun e r => finX [.tmp t4] e r
set_option maxHeartbeats 4000000 in
theorem d25 (rec : Rec) (N : Nat) (a0 : Value) (a1 : Value) (s : St) : callF rec N c25 [a0, a1] s = D25 rec N a0 a1 s := by
  rw [call_f _ _ _ _ _ rfl]
  simp (maxSteps := 4000000) only [c25, lenN, x_seq, x_ops, x_skip, x_ret, x_exit, x_cond, x_block, x_loop, ops_c, ops_n, op1_u, op1_gj, rq_c, rq_n, opQ_u, opQ_g, op2_op2, op2_op, op2_s, op2_cond, thenX_n, thenX_e, thenX_r, blkX_n, blkX_r, blkX_e, finX_r, finX_n, res_n, res_t, op_s, Nat.beq_refl, cond_true]
  first | done | kernel_rfl
def J25_r0 (rec : Rec) (N : Nat) (k : Value) (s : St) : Out := some (oneOf [k], s)
set_option maxHeartbeats 4000000 in
theorem j25_r0 (rec : Rec) (N : Nat) (fs : Frm) (s : St) : opt2 (c25_r0 rec N fs s) (fun e r => finX [.tmp t4] e r) = J25_r0 rec N (orU (fs.get t5)) s := by
  rw [d25_r0]
  unfold D25_r0 J25_r0
  simp (maxSteps := 4000000) only [thenX_n, thenX_e, thenX_r, x_exit, x_skip, x_ret, blkX_n, blkX_r, blkX_e, finX_r, finX_n, res_n, res_t, op2_op2, op2_op, op2_s, op2_cond, op2_bf, mov_v]
  first | done | kernel_rfl
def B25_l0 (rec : Rec) (N : Nat) (k : Value × Value × Value) (v : Value) (s : St) : OutV (Value) := opt2 (oLenS (.v k.1) rec PT.nil s) fun x1 s =>
 opt2 (oBin (int2 (cmpO ltI)) (.v v) (.v x1) rec PT.nil s) fun x2 s =>
 opt (gval true x2) fun x3 => opt2 (orUndef x3 (some (k.2.1, s)) s) fun x4 s =>
 opt (gval true x2) fun x5 => opt2 (orUndef x5 (some (k.1, s)) s) fun x6 s =>
 opt (gval true x2) fun x7 => opt2 (orUndef x7 (some (v, s)) s) fun x8 s =>
 opt (gval true x2) fun x9 => opt2 (orUndef x9 (oIdxS (.v x6) (.v x8) rec PT.nil s) s) fun x10 s =>
 opt (gval true x2) fun x11 => opt2 (orUndef x11 (oCallV (.v x4) [(.v x10)] rec PT.nil s) s) fun x12 s =>
 opt2 (oPick (.v x2) (.v x12) (.v (.bool false)) rec PT.nil s) fun x13 s =>
 condV x13
 (opt2 (oBin (int2 addO) (.v v) (.v (.int .i64 1)) rec PT.nil s) fun x14 s =>
 some (.norm, (x14, s)))
 (some ((.exit 0), (v, s)))
set_option maxHeartbeats 4000000 in
theorem s25_l0 (rec : Rec) (N : Nat) (fs : Frm) (s : St) : opt2 (c25_l0 rec N fs s) (fun e r => some (e, (((orU (r.1.get t5)), (orU (r.1.get t0), orU (r.1.get t1), orU (r.1.get t4))), r.2))) = opt2 (B25_l0 rec N (orU (fs.get t0), orU (fs.get t1), orU (fs.get t4)) (orU (fs.get t5)) s) fun e r => some (e, ((r.1, (orU (fs.get t0), orU (fs.get t1), orU (fs.get t4))), r.2)) := by
  rw [d25_l0]
  unfold D25_l0 B25_l0
  simp (maxSteps := 4000000) only [op2_op2, op2_op, op2_s, op2_cond, op2_bf, mov_v]
  first | done | kernel_rfl
def C25_l0 (rec : Rec) (N : Nat) (k : Value × Value × Value) (e : AExit) (r : (Value) × St) : Out := (fun s => exV (fun i => bif Nat.beq i 0 then (J25_r0 rec N r.1 s)
 else (none))
 (some (oneOf [k.2.2], s)) e) r.2
theorem j25_l0 (rec : Rec) (N : Nat) (fs : Frm) (s : St) : opt2 (loopF (c25_l0 rec N) N fs s) (fun e r => opt2 (blkX 0 e r) fun e r => opt2 (thenX (c25_r0 rec N) e r) fun e r => finX [.tmp t4] e r) = opt2 (loopV (B25_l0 rec N (orU (fs.get t0), orU (fs.get t1), orU (fs.get t4))) N (orU (fs.get t5)) s) (C25_l0 rec N (orU (fs.get t0), orU (fs.get t1), orU (fs.get t4))) := by
  refine loop_j (fun fs => (orU (fs.get t5))) (fun fs => (orU (fs.get t0), orU (fs.get t1), orU (fs.get t4))) (B25_l0 rec N) (c25_l0 rec N) (s25_l0 rec N) (fun e r => opt2 (blkX 0 e r) fun e r => opt2 (thenX (c25_r0 rec N) e r) fun e r => finX [.tmp t4] e r) (C25_l0 rec N) ?_ ?_ N fs s
  · intro i fs s
    unfold C25_l0
    simp (maxSteps := 4000000) only [thenX_n, thenX_e, thenX_r, x_exit, x_skip, x_ret, blkX_n, blkX_r, blkX_e, finX_r, finX_n, res_n, res_t, exV_e, exV_r, op2_op2, op2_op, op2_s, op2_cond, op2_bf, mov_v, j25_r0 rec N]
    first | done | kernel_rfl
  · intro fs s
    unfold C25_l0
    simp (maxSteps := 4000000) only [thenX_n, thenX_e, thenX_r, x_exit, x_skip, x_ret, blkX_n, blkX_r, blkX_e, finX_r, finX_n, res_n, res_t, exV_e, exV_r, op2_op2, op2_op, op2_s, op2_cond, op2_bf, mov_v, j25_r0 rec N]
    first | done | kernel_rfl
def F25 (rec : Rec) (N : Nat) (a0 : Value) (a1 : Value) (s : St) : Out := opt2 (loopV (B25_l0 rec N (a0, a1, (.int .i64 0))) N (.int .i64 0) s) (C25_l0 rec N (a0, a1, (.int .i64 0)))
theorem f25 (rec : Rec) (N : Nat) (a0 : Value) (a1 : Value) (s : St) : callF rec N c25 [a0, a1] s = F25 rec N a0 a1 s := by
  rw [d25]
  unfold D25 F25
  simp (maxSteps := 4000000) only [mov_v, op2_s, j25_l0 rec N]
  first | done | kernel_rfl
-- c26
def D26 (rec : Rec) (N : Nat) (a0 : Value) (s : St) : Out := opt2 (oMov (.v (.bool false)) rec PT.nil s) fun x1 s =>
 opt2 (oMov (.v a0) rec PT.nil s) fun x2 s =>
 opt2 (oBin (int2 (cmpO neI)) (.v x2) (.v (.int .u8 10)) rec PT.nil s) fun x3 s =>
 opt2 (oMov (.v x3) rec PT.nil s) fun x4 s =>
 some (oneOf [x4], s)
set_option maxHeartbeats 4000000 in
theorem d26 (rec : Rec) (N : Nat) (a0 : Value) (s : St) : callF rec N c26 [a0] s = D26 rec N a0 s := by
  rw [call_f _ _ _ _ _ rfl]
  simp (maxSteps := 4000000) only [c26, lenN, x_seq, x_ops, x_skip, x_ret, x_exit, x_cond, x_block, x_loop, ops_c, ops_n, op1_u, op1_gj, rq_c, rq_n, opQ_u, opQ_g, op2_op2, op2_op, op2_s, op2_cond, thenX_n, thenX_e, thenX_r, blkX_n, blkX_r, blkX_e, finX_r, finX_n, res_n, res_t, op_s, Nat.beq_refl, cond_true]
  first | done | kernel_rfl
def F26 (rec : Rec) (N : Nat) (a0 : Value) (s : St) : Out := opt2 (oBin (int2 (cmpO neI)) (.v a0) (.v (.int .u8 10)) rec PT.nil s) fun x1 s =>
 some (oneOf [x1], s)
set_option maxHeartbeats 4000000 in
theorem f26 (rec : Rec) (N : Nat) (a0 : Value) (s : St) : callF rec N c26 [a0] s = F26 rec N a0 s := by
  rw [d26]
  unfold D26 F26
  first
    | done
    | rfl
    | (simp (maxSteps := 4000000) only [mov_v, op2_s]; first | done | kernel_rfl)
    | kernel_rfl
-- c27
def D27 (rec : Rec) (N : Nat) (a0 : Value) (s : St) : Out := opt2 (oMov (.v (.bool false)) rec PT.nil s) fun x1 s =>
 opt2 (oMov (.v a0) rec PT.nil s) fun x2 s =>
 opt2 (oBin (int2 (cmpO geI)) (.v x2) (.v (.int .u8 97)) rec PT.nil s) fun x3 s =>
 opt2 (oMov (.v x3) rec PT.nil s) fun x4 s =>
 opt (gval true x4) fun x5 => opt2 (orUndef x5 (oMov (.v a0) rec PT.nil s) s) fun x6 s =>
 opt (gval true x4) fun x7 => opt2 (orUndef x7 (oBin (int2 (cmpO leI)) (.v x6) (.v (.int .u8 122)) rec PT.nil s) s) fun x8 s =>
 opt2 (oPick (.v x4) (.v x8) (.v (.bool false)) rec PT.nil s) fun x9 s =>
 opt2 (oMov (.v x9) rec PT.nil s) fun x10 s =>
 some (oneOf [x10], s)
set_option maxHeartbeats 4000000 in
theorem d27 (rec : Rec) (N : Nat) (a0 : Value) (s : St) : callF rec N c27 [a0] s = D27 rec N a0 s := by
  rw [call_f _ _ _ _ _ rfl]
  simp (maxSteps := 4000000) only [c27, lenN, x_seq, x_ops, x_skip, x_ret, x_exit, x_cond, x_block, x_loop, ops_c, ops_n, op1_u, op1_gj, rq_c, rq_n, opQ_u, opQ_g, op2_op2, op2_op, op2_s, op2_cond, thenX_n, thenX_e, thenX_r, blkX_n, blkX_r, blkX_e, finX_r, finX_n, res_n, res_t, op_s, Nat.beq_refl, cond_true]
  first | done | kernel_rfl
def F27 (rec : Rec) (N : Nat) (a0 : Value) (s : St) : Out := opt2 (oBin (int2 (cmpO geI)) (.v a0) (.v (.int .u8 97)) rec PT.nil s) fun x1 s =>
 opt (gval true x1) fun x2 => opt2 (orUndef x2 (some (a0, s)) s) fun x3 s =>
 opt (gval true x1) fun x4 => opt2 (orUndef x4 (oBin (int2 (cmpO leI)) (.v x3) (.v (.int .u8 122)) rec PT.nil s) s) fun x5 s =>
 opt2 (oPick (.v x1) (.v x5) (.v (.bool false)) rec PT.nil s) fun x6 s =>
 some (oneOf [x6], s)
set_option maxHeartbeats 4000000 in
theorem f27 (rec : Rec) (N : Nat) (a0 : Value) (s : St) : callF rec N c27 [a0] s = F27 rec N a0 s := by
  rw [d27]
  unfold D27 F27
  first
    | done
    | rfl
    | (simp (maxSteps := 4000000) only [mov_v, op2_s]; first | done | kernel_rfl)
    | kernel_rfl
-- c28
def D28 (rec : Rec) (N : Nat) (a0 : Value) (s : St) : Out := opt2 (oMov (.v (.bool false)) rec PT.nil s) fun x1 s =>
 opt2 (oMov (.v a0) rec PT.nil s) fun x2 s =>
 opt2 (rec 27 [x2] s) fun x3 s =>
 opt2 (oMov (.v x3) rec PT.nil s) fun x4 s =>
 opt (gval false x4) fun x5 => opt2 (orUndef x5 (oMov (.v a0) rec PT.nil s) s) fun x6 s =>
 opt (gval false x4) fun x7 => opt2 (orUndef x7 (rec 30 [x6] s) s) fun x8 s =>
 opt2 (oPick (.v x4) (.v (.bool true)) (.v x8) rec PT.nil s) fun x9 s =>
 opt2 (oMov (.v x9) rec PT.nil s) fun x10 s =>
 opt (gval false x10) fun x11 => opt2 (orUndef x11 (oMov (.v a0) rec PT.nil s) s) fun x12 s =>
 opt (gval false x10) fun x13 => opt2 (orUndef x13 (oBin (int2 (cmpO eqI)) (.v x12) (.v (.int .u8 95)) rec PT.nil s) s) fun x14 s =>
 opt2 (oPick (.v x10) (.v (.bool true)) (.v x14) rec PT.nil s) fun x15 s =>
 opt2 (oMov (.v x15) rec PT.nil s) fun x16 s =>
 some (oneOf [x16], s)
set_option maxHeartbeats 4000000 in
theorem d28 (rec : Rec) (N : Nat) (a0 : Value) (s : St) : callF rec N c28 [a0] s = D28 rec N a0 s := by
  rw [call_f _ _ _ _ _ rfl]
  simp (maxSteps := 4000000) only [c28, lenN, x_seq, x_ops, x_skip, x_ret, x_exit, x_cond, x_block, x_loop, ops_c, ops_n, op1_u, op1_gj, rq_c, rq_n, opQ_u, opQ_g, op2_op2, op2_op, op2_s, op2_cond, thenX_n, thenX_e, thenX_r, blkX_n, blkX_r, blkX_e, finX_r, finX_n, res_n, res_t, op_s, Nat.beq_refl, cond_true]
  first | done | kernel_rfl
def F28 (rec : Rec) (N : Nat) (a0 : Value) (s : St) : Out := opt2 (rec 27 [a0] s) fun x1 s =>
 opt (gval false x1) fun x2 => opt2 (orUndef x2 (some (a0, s)) s) fun x3 s =>
 opt (gval false x1) fun x4 => opt2 (orUndef x4 (rec 30 [x3] s) s) fun x5 s =>
 opt2 (oPick (.v x1) (.v (.bool true)) (.v x5) rec PT.nil s) fun x6 s =>
 opt (gval false x6) fun x7 => opt2 (orUndef x7 (some (a0, s)) s) fun x8 s =>
 opt (gval false x6) fun x9 => opt2 (orUndef x9 (oBin (int2 (cmpO eqI)) (.v x8) (.v (.int .u8 95)) rec PT.nil s) s) fun x10 s =>
 opt2 (oPick (.v x6) (.v (.bool true)) (.v x10) rec PT.nil s) fun x11 s =>
 some (oneOf [x11], s)
set_option maxHeartbeats 4000000 in
theorem f28 (rec : Rec) (N : Nat) (a0 : Value) (s : St) : callF rec N c28 [a0] s = F28 rec N a0 s := by
  rw [d28]
  unfold D28 F28
  first
    | done
    | rfl
    | (simp (maxSteps := 4000000) only [mov_v, op2_s]; first | done | kernel_rfl)
    | kernel_rfl
-- c29
def D29 (rec : Rec) (N : Nat) (a0 : Value) (a1 : Value) (s : St) : Out := opt2 (oNew [(.int .i64 0), (.string ⟨⟨[]⟩⟩), (.int .i64 0), (.int .i64 0)] rec PT.nil s) fun x1 s =>
 opt2 (oMov (.v a0) rec PT.nil s) fun x2 s =>
 opt2 (oMov (.v a1) rec PT.nil s) fun x3 s =>
 opt2 (rec 31 [x2, x3] s) fun x4 s =>
 opt2 (oMov (.v x4) rec PT.nil s) fun x5 s =>
 opt2 (oExtract (.v x5) 0 rec PT.nil s) fun x6 s =>
 opt2 (oExtract (.v x5) 1 rec PT.nil s) fun x7 s =>
 opt2 (oMov (.v x6) rec PT.nil s) fun x8 s =>
 opt2 (oMov (.v x7) rec PT.nil s) fun x9 s =>
 opt2 (oMov (.v x8) rec PT.nil s) fun x10 s =>
 opt2 (oBin (int2 (cmpO eqI)) (.v x10) (.v (.int .i64 0)) rec PT.nil s) fun x11 s =>
 opt2 (oMov (.v x11) rec PT.nil s) fun x12 s =>
 opt (gval false x12) fun x13 => opt2 (orUndef x13 (oMov (.v x9) rec PT.nil s) s) fun x14 s =>
 opt (gval false x12) fun x15 => opt2 (orUndef x15 (oBin (int2 (cmpO ltI)) (.v x14) (.v (.int .i64 0)) rec PT.nil s) s) fun x16 s =>
 opt2 (oPick (.v x12) (.v (.bool true)) (.v x16) rec PT.nil s) fun x17 s =>
 condV x17
 (opt2 (oBuild [(.int .i64 0), (.string ⟨⟨[]⟩⟩), (.int .i64 0), (.int .i64 0)] [] rec PT.nil s) fun x18 s =>
 opt2 (oStore 4 (.v x1) (.v x18) rec PT.nil s) fun x19 s =>
 finX [.cell t4 (some 4)] .ret ((PT.put x18 t19 (PT.put x17 t18 (PT.put x16 t17 (PT.put x14 t16 (PT.put x12 t15 (PT.put x11 t14 (PT.put x10 t13 (PT.put x9 t6 (PT.put x8 t5 (PT.put x7 t12 (PT.put x6 t11 (PT.put x5 t7 (PT.put x4 t10 (PT.put x3 t9 (PT.put x2 t8 (PT.put x1 t4 (PT.put a1 t1 (PT.put a0 t0 PT.nil)))))))))))))))))), s))
 (opt2 (oMov (.v a1) rec PT.nil s) fun x20 s =>
 opt2 (oMov (.v a0) rec PT.nil s) fun x21 s =>
 opt2 (oMov (.v x8) rec PT.nil s) fun x22 s =>
 opt2 (oSliceS (.v x21) none (some (.v x22)) rec PT.nil s) fun x23 s =>
 opt2 (oMov (.v x9) rec PT.nil s) fun x24 s =>
 opt2 (oBuild [(.int .i64 0), (.string ⟨⟨[]⟩⟩), (.int .i64 0), (.int .i64 0)] [(0, 1, (.v x20)), (1, 1, (.v x23)), (2, 1, (.v x24))] rec PT.nil s) fun x25 s =>
 opt2 (oStore 4 (.v x1) (.v x25) rec PT.nil s) fun x26 s =>
 finX [.cell t4 (some 4)] .ret ((PT.put x25 t25 (PT.put x24 t24 (PT.put x23 t23 (PT.put x22 t22 (PT.put x21 t21 (PT.put x20 t20 (PT.put x17 t18 (PT.put x16 t17 (PT.put x14 t16 (PT.put x12 t15 (PT.put x11 t14 (PT.put x10 t13 (PT.put x9 t6 (PT.put x8 t5 (PT.put x7 t12 (PT.put x6 t11 (PT.put x5 t7 (PT.put x4 t10 (PT.put x3 t9 (PT.put x2 t8 (PT.put x1 t4 (PT.put a1 t1 (PT.put a0 t0 PT.nil))))))))))))))))))))))), s))
set_option maxHeartbeats 4000000 in
theorem d29 (rec : Rec) (N : Nat) (a0 : Value) (a1 : Value) (s : St) : callF rec N c29 [a0, a1] s = D29 rec N a0 a1 s := by
  rw [call_f _ _ _ _ _ rfl]
  simp (maxSteps := 4000000) only [c29, lenN, x_seq, x_ops, x_skip, x_ret, x_exit, x_cond, x_block, x_loop, ops_c, ops_n, op1_u, op1_gj, rq_c, rq_n, opQ_u, opQ_g, op2_op2, op2_op, op2_s, op2_cond, thenX_n, thenX_e, thenX_r, blkX_n, blkX_r, blkX_e, finX_r, finX_n, res_n, res_t, op_s, Nat.beq_refl, cond_true]
  first | done | kernel_rfl
def F29 (rec : Rec) (N : Nat) (a0 : Value) (a1 : Value) (s : St) : Out := opt2 (oNew [(.int .i64 0), (.string ⟨⟨[]⟩⟩), (.int .i64 0), (.int .i64 0)] rec PT.nil s) fun x1 s =>
 opt2 (rec 31 [a0, a1] s) fun x2 s =>
 opt2 (oExtract (.v x2) 0 rec PT.nil s) fun x3 s =>
 opt2 (oExtract (.v x2) 1 rec PT.nil s) fun x4 s =>
 opt2 (oBin (int2 (cmpO eqI)) (.v x3) (.v (.int .i64 0)) rec PT.nil s) fun x5 s =>
 opt (gval false x5) fun x6 => opt2 (orUndef x6 (some (x4, s)) s) fun x7 s =>
 opt (gval false x5) fun x8 => opt2 (orUndef x8 (oBin (int2 (cmpO ltI)) (.v x7) (.v (.int .i64 0)) rec PT.nil s) s) fun x9 s =>
 opt2 (oPick (.v x5) (.v (.bool true)) (.v x9) rec PT.nil s) fun x10 s =>
 condV x10
 (opt2 (oBuild [(.int .i64 0), (.string ⟨⟨[]⟩⟩), (.int .i64 0), (.int .i64 0)] [] rec PT.nil s) fun x11 s =>
 opt2 (oStore 4 (.v x1) (.v x11) rec PT.nil s) fun x12 s =>
 finX [.cell t4 (some 4)] .ret ((PT.put x1 t4 PT.nil), s))
 (opt2 (oSliceS (.v a0) none (some (.v x3)) rec PT.nil s) fun x13 s =>
 opt2 (oBuild [(.int .i64 0), (.string ⟨⟨[]⟩⟩), (.int .i64 0), (.int .i64 0)] [(0, 1, (.v a1)), (1, 1, (.v x13)), (2, 1, (.v x4))] rec PT.nil s) fun x14 s =>
 opt2 (oStore 4 (.v x1) (.v x14) rec PT.nil s) fun x15 s =>
 finX [.cell t4 (some 4)] .ret ((PT.put x1 t4 PT.nil), s))
set_option maxHeartbeats 4000000 in
theorem f29 (rec : Rec) (N : Nat) (a0 : Value) (a1 : Value) (s : St) : callF rec N c29 [a0, a1] s = F29 rec N a0 a1 s := by
  rw [d29]
  unfold D29 F29
  first
    | done
    | rfl
    | (simp (maxSteps := 4000000) only [mov_v, op2_s]; first | done | kernel_rfl)
    | kernel_rfl
-- c30
def D30 (rec : Rec) (N : Nat) (a0 : Value) (s : St) : Out := opt2 (oMov (.v (.bool false)) rec PT.nil s) fun x1 s =>
 opt2 (oMov (.v a0) rec PT.nil s) fun x2 s =>
 opt2 (oBin (int2 (cmpO geI)) (.v x2) (.v (.int .u8 48)) rec PT.nil s) fun x3 s =>
 opt2 (oMov (.v x3) rec PT.nil s) fun x4 s =>
 opt (gval true x4) fun x5 => opt2 (orUndef x5 (oMov (.v a0) rec PT.nil s) s) fun x6 s =>
 opt (gval true x4) fun x7 => opt2 (orUndef x7 (oBin (int2 (cmpO leI)) (.v x6) (.v (.int .u8 57)) rec PT.nil s) s) fun x8 s =>
 opt2 (oPick (.v x4) (.v x8) (.v (.bool false)) rec PT.nil s) fun x9 s =>
 opt2 (oMov (.v x9) rec PT.nil s) fun x10 s =>
 some (oneOf [x10], s)
set_option maxHeartbeats 4000000 in
theorem d30 (rec : Rec) (N : Nat) (a0 : Value) (s : St) : callF rec N c30 [a0] s = D30 rec N a0 s := by
  rw [call_f _ _ _ _ _ rfl]
  simp (maxSteps := 4000000) only [c30, lenN, x_seq, x_ops, x_skip, x_ret, x_exit, x_cond, x_block, x_loop, ops_c, ops_n, op1_u, op1_gj, rq_c, rq_n, opQ_u, opQ_g, op2_op2, op2_op, op2_s, op2_cond, thenX_n, thenX_e, thenX_r, blkX_n, blkX_r, blkX_e, finX_r, finX_n, res_n, res_t, op_s, Nat.beq_refl, cond_true]
  first | done | kernel_rfl
def F30 (rec : Rec) (N : Nat) (a0 : Value) (s : St) : Out := opt2 (oBin (int2 (cmpO geI)) (.v a0) (.v (.int .u8 48)) rec PT.nil s) fun x1 s =>
 opt (gval true x1) fun x2 => opt2 (orUndef x2 (some (a0, s)) s) fun x3 s =>
 opt (gval true x1) fun x4 => opt2 (orUndef x4 (oBin (int2 (cmpO leI)) (.v x3) (.v (.int .u8 57)) rec PT.nil s) s) fun x5 s =>
 opt2 (oPick (.v x1) (.v x5) (.v (.bool false)) rec PT.nil s) fun x6 s =>
 some (oneOf [x6], s)
set_option maxHeartbeats 4000000 in
theorem f30 (rec : Rec) (N : Nat) (a0 : Value) (s : St) : callF rec N c30 [a0] s = F30 rec N a0 s := by
  rw [d30]
  unfold D30 F30
  first
    | done
    | rfl
    | (simp (maxSteps := 4000000) only [mov_v, op2_s]; first | done | kernel_rfl)
    | kernel_rfl
-- c31
def D31 (rec : Rec) (N : Nat) (a0 : Value) (a1 : Value) (s : St) : Out := opt2 (oMov (.v (.int .i64 0)) rec PT.nil s) fun x1 s =>
 opt2 (oMov (.v (.int .i64 0)) rec PT.nil s) fun x2 s =>
 opt2 (oMov (.v a1) rec PT.nil s) fun x3 s =>
 opt2 (oBin (int2 (cmpO eqI)) (.v x3) (.v (.int .i64 4)) rec PT.nil s) fun x4 s =>
 opt2 (oMov (.v x4) rec PT.nil s) fun x5 s =>
 condV x5
 (opt2 (oMov (.v a0) rec PT.nil s) fun x6 s =>
 opt2 (rec 39 [x6] s) fun x7 s =>
 opt2 (oExtract (.v x7) 0 rec PT.nil s) fun x8 s =>
 opt2 (oExtract (.v x7) 1 rec PT.nil s) fun x9 s =>
 opt2 (oMov (.v x8) rec PT.nil s) fun x10 s =>
 opt2 (oMov (.v x9) rec PT.nil s) fun x11 s =>
 some (oneOf [x10, x11], s))
 (opt2 (oBin (int2 (cmpO eqI)) (.v x3) (.v (.int .i64 5)) rec PT.nil s) fun x12 s =>
 opt2 (oMov (.v x12) rec PT.nil s) fun x13 s =>
 condV x13
 (opt2 (oMov (.v a0) rec PT.nil s) fun x14 s =>
 opt2 (rec 40 [x14] s) fun x15 s =>
 opt2 (oExtract (.v x15) 0 rec PT.nil s) fun x16 s =>
 opt2 (oExtract (.v x15) 1 rec PT.nil s) fun x17 s =>
 opt2 (oMov (.v x16) rec PT.nil s) fun x18 s =>
 opt2 (oMov (.v x17) rec PT.nil s) fun x19 s =>
 some (oneOf [x18, x19], s))
 (opt2 (oBin (int2 (cmpO eqI)) (.v x3) (.v (.int .i64 6)) rec PT.nil s) fun x20 s =>
 opt2 (oMov (.v x20) rec PT.nil s) fun x21 s =>
 condV x21
 (opt2 (oMov (.v a0) rec PT.nil s) fun x22 s =>
 opt2 (rec 41 [x22] s) fun x23 s =>
 opt2 (oExtract (.v x23) 0 rec PT.nil s) fun x24 s =>
 opt2 (oExtract (.v x23) 1 rec PT.nil s) fun x25 s =>
 opt2 (oMov (.v x24) rec PT.nil s) fun x26 s =>
 opt2 (oMov (.v x25) rec PT.nil s) fun x27 s =>
 some (oneOf [x26, x27], s))
 (opt2 (oMov (.v a0) rec PT.nil s) fun x28 s =>
 opt2 (rec 25 [x28, (.func (.func 30) #[] #[])] s) fun x29 s =>
 opt2 (oMov (.v x29) rec PT.nil s) fun x30 s =>
 opt2 (oMov (.v x30) rec PT.nil s) fun x31 s =>
 opt2 (oMov (.v a0) rec PT.nil s) fun x32 s =>
 opt2 (oMov (.v x30) rec PT.nil s) fun x33 s =>
 opt2 (oSliceS (.v x32) none (some (.v x33)) rec PT.nil s) fun x34 s =>
 opt2 (rec 42 [x34, (.int .i64 4503599627370496)] s) fun x35 s =>
 opt2 (oMov (.v x31) rec PT.nil s) fun x36 s =>
 opt2 (oMov (.v x35) rec PT.nil s) fun x37 s =>
 some (oneOf [x36, x37], s))))
set_option maxHeartbeats 4000000 in
theorem d31 (rec : Rec) (N : Nat) (a0 : Value) (a1 : Value) (s : St) : callF rec N c31 [a0, a1] s = D31 rec N a0 a1 s := by
  rw [call_f _ _ _ _ _ rfl]
  simp (maxSteps := 4000000) only [c31, lenN, x_seq, x_ops, x_skip, x_ret, x_exit, x_cond, x_block, x_loop, ops_c, ops_n, op1_u, op1_gj, rq_c, rq_n, opQ_u, opQ_g, op2_op2, op2_op, op2_s, op2_cond, thenX_n, thenX_e, thenX_r, blkX_n, blkX_r, blkX_e, finX_r, finX_n, res_n, res_t, op_s, Nat.beq_refl, cond_true]
  first | done | kernel_rfl
def F31 (rec : Rec) (N : Nat) (a0 : Value) (a1 : Value) (s : St) : Out := opt2 (oBin (int2 (cmpO eqI)) (.v a1) (.v (.int .i64 4)) rec PT.nil s) fun x1 s =>
 condV x1
 (opt2 (rec 39 [a0] s) fun x2 s =>
 opt2 (oExtract (.v x2) 0 rec PT.nil s) fun x3 s =>
 opt2 (oExtract (.v x2) 1 rec PT.nil s) fun x4 s =>
 some (oneOf [x3, x4], s))
 (opt2 (oBin (int2 (cmpO eqI)) (.v a1) (.v (.int .i64 5)) rec PT.nil s) fun x5 s =>
 condV x5
 (opt2 (rec 40 [a0] s) fun x6 s =>
 opt2 (oExtract (.v x6) 0 rec PT.nil s) fun x7 s =>
 opt2 (oExtract (.v x6) 1 rec PT.nil s) fun x8 s =>
 some (oneOf [x7, x8], s))
 (opt2 (oBin (int2 (cmpO eqI)) (.v a1) (.v (.int .i64 6)) rec PT.nil s) fun x9 s =>
 condV x9
 (opt2 (rec 41 [a0] s) fun x10 s =>
 opt2 (oExtract (.v x10) 0 rec PT.nil s) fun x11 s =>
 opt2 (oExtract (.v x10) 1 rec PT.nil s) fun x12 s =>
 some (oneOf [x11, x12], s))
 (opt2 (rec 25 [a0, (.func (.func 30) #[] #[])] s) fun x13 s =>
 opt2 (oSliceS (.v a0) none (some (.v x13)) rec PT.nil s) fun x14 s =>
 opt2 (rec 42 [x14, (.int .i64 4503599627370496)] s) fun x15 s =>
 some (oneOf [x13, x15], s))))
set_option maxHeartbeats 4000000 in
theorem f31 (rec : Rec) (N : Nat) (a0 : Value) (a1 : Value) (s : St) : callF rec N c31 [a0, a1] s = F31 rec N a0 a1 s := by
  rw [d31]
  unfold D31 F31
  first
    | done
    | rfl
    | (simp (maxSteps := 4000000) only [mov_v, op2_s]; first | done | kernel_rfl)
    | kernel_rfl
-- c32
def D32 (rec : Rec) (N : Nat) (s : St) : Out := opt2 (oMov (.v (.slice none 0 0)) rec PT.nil s) fun x1 s =>
 opt2 (oBuildSlice 20 (rep 20 [(.string ⟨⟨[]⟩⟩)]) [(0, 1, (.v (.string ⟨⟨[60, 61]⟩⟩))), (1, 1, (.v (.string ⟨⟨[62, 61]⟩⟩))), (2, 1, (.v (.string ⟨⟨[61, 61]⟩⟩))), (3, 1, (.v (.string ⟨⟨[33, 61]⟩⟩))), (4, 1, (.v (.string ⟨⟨[40]⟩⟩))), (5, 1, (.v (.string ⟨⟨[41]⟩⟩))), (6, 1, (.v (.string ⟨⟨[123]⟩⟩))), (7, 1, (.v (.string ⟨⟨[125]⟩⟩))), (8, 1, (.v (.string ⟨⟨[91]⟩⟩))), (9, 1, (.v (.string ⟨⟨[93]⟩⟩))), (10, 1, (.v (.string ⟨⟨[44]⟩⟩))), (11, 1, (.v (.string ⟨⟨[59]⟩⟩))), (12, 1, (.v (.string ⟨⟨[58]⟩⟩))), (13, 1, (.v (.string ⟨⟨[61]⟩⟩))), (14, 1, (.v (.string ⟨⟨[43]⟩⟩))), (15, 1, (.v (.string ⟨⟨[45]⟩⟩))), (16, 1, (.v (.string ⟨⟨[42]⟩⟩))), (17, 1, (.v (.string ⟨⟨[47]⟩⟩))), (18, 1, (.v (.string ⟨⟨[60]⟩⟩))), (19, 1, (.v (.string ⟨⟨[62]⟩⟩)))] rec PT.nil s) fun x2 s =>
 opt2 (oMov (.v x2) rec PT.nil s) fun x3 s =>
 some (oneOf [x3], s)
set_option maxHeartbeats 4000000 in
theorem d32 (rec : Rec) (N : Nat) (s : St) : callF rec N c32 [] s = D32 rec N s := by
  rw [call_f _ _ _ _ _ rfl]
  simp (maxSteps := 4000000) only [c32, lenN, x_seq, x_ops, x_skip, x_ret, x_exit, x_cond, x_block, x_loop, ops_c, ops_n, op1_u, op1_gj, rq_c, rq_n, opQ_u, opQ_g, op2_op2, op2_op, op2_s, op2_cond, thenX_n, thenX_e, thenX_r, blkX_n, blkX_r, blkX_e, finX_r, finX_n, res_n, res_t, op_s, Nat.beq_refl, cond_true]
  first | done | kernel_rfl
def F32 (rec : Rec) (N : Nat) (s : St) : Out := opt2 (oBuildSlice 20 (rep 20 [(.string ⟨⟨[]⟩⟩)]) [(0, 1, (.v (.string ⟨⟨[60, 61]⟩⟩))), (1, 1, (.v (.string ⟨⟨[62, 61]⟩⟩))), (2, 1, (.v (.string ⟨⟨[61, 61]⟩⟩))), (3, 1, (.v (.string ⟨⟨[33, 61]⟩⟩))), (4, 1, (.v (.string ⟨⟨[40]⟩⟩))), (5, 1, (.v (.string ⟨⟨[41]⟩⟩))), (6, 1, (.v (.string ⟨⟨[123]⟩⟩))), (7, 1, (.v (.string ⟨⟨[125]⟩⟩))), (8, 1, (.v (.string ⟨⟨[91]⟩⟩))), (9, 1, (.v (.string ⟨⟨[93]⟩⟩))), (10, 1, (.v (.string ⟨⟨[44]⟩⟩))), (11, 1, (.v (.string ⟨⟨[59]⟩⟩))), (12, 1, (.v (.string ⟨⟨[58]⟩⟩))), (13, 1, (.v (.string ⟨⟨[61]⟩⟩))), (14, 1, (.v (.string ⟨⟨[43]⟩⟩))), (15, 1, (.v (.string ⟨⟨[45]⟩⟩))), (16, 1, (.v (.string ⟨⟨[42]⟩⟩))), (17, 1, (.v (.string ⟨⟨[47]⟩⟩))), (18, 1, (.v (.string ⟨⟨[60]⟩⟩))), (19, 1, (.v (.string ⟨⟨[62]⟩⟩)))] rec PT.nil s) fun x1 s =>
 some (oneOf [x1], s)
set_option maxHeartbeats 4000000 in
theorem f32 (rec : Rec) (N : Nat) (s : St) : callF rec N c32 [] s = F32 rec N s := by
  rw [d32]
  unfold D32 F32
  first
    | done
    | rfl
    | (simp (maxSteps := 4000000) only [mov_v, op2_s]; first | done | kernel_rfl)
    | kernel_rfl
-- c33
def D33 (rec : Rec) (N : Nat) (a0 : Value) (a1 : Value) (s : St) : Out := opt2 (oMov (.v (.bool false)) rec PT.nil s) fun x1 s =>
 opt2 (oMov (.v a0) rec PT.nil s) fun x2 s =>
 opt2 (oMov (.v a1) rec PT.nil s) fun x3 s =>
 opt2 (rec 43 [x2, x3] s) fun x4 s =>
 opt2 (oMov (.v x4) rec PT.nil s) fun x5 s =>
 some (oneOf [x5], s)
set_option maxHeartbeats 4000000 in
theorem d33 (rec : Rec) (N : Nat) (a0 : Value) (a1 : Value) (s : St) : callF rec N c33 [a0, a1] s = D33 rec N a0 a1 s := by
  rw [call_f _ _ _ _ _ rfl]
  simp (maxSteps := 4000000) only [c33, lenN, x_seq, x_ops, x_skip, x_ret, x_exit, x_cond, x_block, x_loop, ops_c, ops_n, op1_u, op1_gj, rq_c, rq_n, opQ_u, opQ_g, op2_op2, op2_op, op2_s, op2_cond, thenX_n, thenX_e, thenX_r, blkX_n, blkX_r, blkX_e, finX_r, finX_n, res_n, res_t, op_s, Nat.beq_refl, cond_true]
  first | done | kernel_rfl
def F33 (rec : Rec) (N : Nat) (a0 : Value) (a1 : Value) (s : St) : Out := opt2 (rec 43 [a0, a1] s) fun x1 s =>
 some (oneOf [x1], s)
set_option maxHeartbeats 4000000 in
theorem f33 (rec : Rec) (N : Nat) (a0 : Value) (a1 : Value) (s : St) : callF rec N c33 [a0, a1] s = F33 rec N a0 a1 s := by
  rw [d33]
  unfold D33 F33
  first
    | done
    | rfl
    | (simp (maxSteps := 4000000) only [mov_v, op2_s]; first | done | kernel_rfl)
    | kernel_rfl
-- c34
theorem q34_g0 (rec : Rec) (n : Nat) (fs : Frm) (s : St) : xReg c34_g0 [(0, 1), (0, 2), (1, 2), (0, 3), (1, 3), (2, 3), (0, 4), (1, 4), (0, 5), (1, 5), (0, 6), (1, 6), (0, 7), (1, 7), (2, 7), (3, 7), (4, 7), (5, 7), (6, 7), (0, 8), (1, 8), (2, 8), (3, 8), (4, 8), (5, 8), (6, 8), (7, 8), (0, 9), (1, 9), (2, 9), (3, 9), (4, 9), (5, 9), (6, 9), (0, 10), (1, 10), (2, 10), (3, 10), (4, 10), (5, 10), (6, 10), (0, 11), (1, 11), (2, 11), (3, 11), (4, 11), (5, 11), (6, 11), (0, 12), (1, 12)] rec n fs s = opt2 (runQ rec [⟨(some t45), oMov (.t t4), none, none⟩,
   ⟨(some t46), oMov (.t t6), none, none⟩,
   ⟨(some t47), oMov (.t t4), none, none⟩,
   ⟨(some t48), oMov (.t t6), none, none⟩,
   ⟨(some t49), oIdxAddrL 1 (.t t47) (.t t48), none, none⟩,
   ⟨(some t50), oLoad1 (.t t49), none, (some (.t t49))⟩,
   ⟨(some t51), oBin (int2 mulO) (.v (.int .i64 10)) (.t t50), none, none⟩,
   ⟨(some t52), oMov (.t t0), none, none⟩,
   ⟨(some t53), oMov (.t t5), none, none⟩,
   ⟨(some t54), oIdxS (.t t52) (.t t53), none, none⟩,
   ⟨(some t55), oBin (int2 subO) (.t t54) (.v (.int .u8 48)), none, none⟩,
   ⟨(some t56), oConv .i64 (.t t55), none, none⟩,
   ⟨(some t57), oBin (int2 addO) (.t t51) (.t t56), none, none⟩,
   ⟨(some t58), oIdxAddrL 1 (.t t45) (.t t46), none, none⟩,
   ⟨none, oStore 1 (.t t58) (.t t57), none, none⟩] fs s) fun fs s => some (.norm, fs, s) :=
 reg_q (ks := [0, 0, 0, 0, 0, 1, 0, 0, 0, 0, 0, 0, 0, 0, 2]) (okc (ok0 (qv_mov (.t t4)) rfl)
 (okc (ok0 (qv_mov (.t t6)) rfl)
 (okc (ok0 (qv_mov (.t t4)) rfl)
 (okc (ok0 (qv_mov (.t t6)) rfl)
 (okc (ok0 (qv_idxl 1 (.t t47) (.t t48)) rfl)
 (okc (ok1 rfl)
 (okc (ok0 (qv_bin (int2 mulO) (.v (.int .i64 10)) (.t t50)) rfl)
 (okc (ok0 (qv_mov (.t t0)) rfl)
 (okc (ok0 (qv_mov (.t t5)) rfl)
 (okc (ok0 (qv_idxs (.t t52) (.t t53)) rfl)
 (okc (ok0 (qv_bin (int2 subO) (.t t54) (.v (.int .u8 48))) rfl)
 (okc (ok0 (qv_conv .i64 (.t t55)) rfl)
 (okc (ok0 (qv_bin (int2 addO) (.t t51) (.t t56)) rfl)
 (okc (ok0 (qv_idxl 1 (.t t45) (.t t46)) rfl)
 (okc (ok2 rfl)
 okn))))))))))))))) (by kernel_rfl) rec n fs s
theorem q34_g1 (rec : Rec) (n : Nat) (fs : Frm) (s : St) : xReg c34_g1 [(0, 3), (1, 3), (2, 3), (0, 4), (1, 4), (2, 4), (0, 5), (1, 5), (2, 5), (0, 6), (1, 6), (2, 6), (3, 6), (4, 6), (5, 6), (0, 7), (1, 7), (2, 7), (3, 7), (4, 7), (5, 7), (0, 8), (1, 8), (2, 8), (3, 8), (4, 8), (5, 8), (10, 11)] rec n fs s = opt2 (runQ rec [⟨(some t59), oMov (.t t4), none, none⟩,
   ⟨(some t60), oIdxAddrL 1 (.t t59) (.v (.int .i64 0)), none, none⟩,
   ⟨(some t61), oLoad1 (.t t60), none, (some (.t t60))⟩,
   ⟨(some t62), oMov (.t t4), none, none⟩,
   ⟨(some t63), oIdxAddrL 1 (.t t62) (.v (.int .i64 1)), none, none⟩,
   ⟨(some t64), oLoad1 (.t t63), none, (some (.t t63))⟩,
   ⟨(some t65), oMov (.t t4), none, none⟩,
   ⟨(some t66), oIdxAddrL 1 (.t t65) (.v (.int .i64 2)), none, none⟩,
   ⟨(some t67), oLoad1 (.t t66), none, (some (.t t66))⟩,
   ⟨(some t68), oCall 44 [(.t t61), (.t t64), (.t t67)], none, none⟩,
   ⟨(some t69), oExtract (.t t68) 0, none, none⟩,
   ⟨(some t70), oExtract (.t t68) 1, none, none⟩,
   ⟨(some t2), oMov (.t t69), none, none⟩,
   ⟨(some t3), oMov (.t t70), none, none⟩] fs s) fun fs s => some (.norm, fs, s) :=
 reg_q (ks := [0, 0, 1, 0, 0, 1, 0, 0, 1, 2, 0, 0, 0, 0]) (okc (ok0 (qv_mov (.t t4)) rfl)
 (okc (ok0 (qv_idxl 1 (.t t59) (.v (.int .i64 0))) rfl)
 (okc (ok1 rfl)
 (okc (ok0 (qv_mov (.t t4)) rfl)
 (okc (ok0 (qv_idxl 1 (.t t62) (.v (.int .i64 1))) rfl)
 (okc (ok1 rfl)
 (okc (ok0 (qv_mov (.t t4)) rfl)
 (okc (ok0 (qv_idxl 1 (.t t65) (.v (.int .i64 2))) rfl)
 (okc (ok1 rfl)
 (okc (ok2 rfl)
 (okc (ok0 (qv_extract (.t t68) 0) rfl)
 (okc (ok0 (qv_extract (.t t68) 1) rfl)
 (okc (ok0 (qv_mov (.t t69)) rfl)
 (okc (ok0 (qv_mov (.t t70)) rfl)
 okn)))))))))))))) (by kernel_rfl) rec n fs s
def D34_j0 (rec : Rec) (N : Nat) (fs : Frm) (s : St) : OutX := opt2 (oMov (.v (orU (fs.get t5))) rec PT.nil s) fun x1 s =>
 opt2 (oBin (int2 (cmpO gtI)) (.v x1) (.v (.int .i64 7)) rec PT.nil s) fun x2 s =>
 condV x2
 (opt2 (oMov (.v (.int .i64 2)) rec PT.nil s) fun x3 s =>
 opt2 (oMov (.v (orU (fs.get t4))) rec PT.nil s) fun x4 s =>
 opt2 (oMov (.v x3) rec PT.nil s) fun x5 s =>
 opt2 (oMov (.v (orU (fs.get t4))) rec PT.nil s) fun x6 s =>
 opt2 (oMov (.v x3) rec PT.nil s) fun x7 s =>
 opt2 (oIdxAddrL 1 (.v x6) (.v x7) rec PT.nil s) fun x8 s =>
 opt2 (oLoad1 (.v x8) rec PT.nil s) fun x9 s =>
 opt2 (oBin (int2 mulO) (.v (.int .i64 10)) (.v x9) rec PT.nil s) fun x10 s =>
 opt2 (oMov (.v (orU (fs.get t0))) rec PT.nil s) fun x11 s =>
 opt2 (oMov (.v (orU (fs.get t5))) rec PT.nil s) fun x12 s =>
 opt2 (oIdxS (.v x11) (.v x12) rec PT.nil s) fun x13 s =>
 opt2 (oBin (int2 subO) (.v x13) (.v (.int .u8 48)) rec PT.nil s) fun x14 s =>
 opt2 (oConv .i64 (.v x14) rec PT.nil s) fun x15 s =>
 opt2 (oBin (int2 addO) (.v x10) (.v x15) rec PT.nil s) fun x16 s =>
 opt2 (oIdxAddrL 1 (.v x4) (.v x5) rec PT.nil s) fun x17 s =>
 opt2 (oStore 1 (.v x17) (.v x16) rec PT.nil s) fun x18 s =>
 some (.norm, (PT.put x17 t58 (PT.put x16 t57 (PT.put x15 t56 (PT.put x14 t55 (PT.put x13 t54 (PT.put x12 t53 (PT.put x11 t52 (PT.put x10 t51 (PT.put x9 t50 (PT.put x8 t49 (PT.put x7 t48 (PT.put x6 t47 (PT.put x5 t46 (PT.put x4 t45 (PT.put x3 t6 (PT.put x2 t44 (PT.put x1 t43 fs))))))))))))))))), s))
 (opt2 (oMov (.v (orU (fs.get t4))) rec PT.nil s) fun x19 s =>
 opt2 (oMov (.v (orU (fs.get t6))) rec PT.nil s) fun x20 s =>
 opt2 (oMov (.v (orU (fs.get t4))) rec PT.nil s) fun x21 s =>
 opt2 (oMov (.v (orU (fs.get t6))) rec PT.nil s) fun x22 s =>
 opt2 (oIdxAddrL 1 (.v x21) (.v x22) rec PT.nil s) fun x23 s =>
 opt2 (oLoad1 (.v x23) rec PT.nil s) fun x24 s =>
 opt2 (oBin (int2 mulO) (.v (.int .i64 10)) (.v x24) rec PT.nil s) fun x25 s =>
 opt2 (oMov (.v (orU (fs.get t0))) rec PT.nil s) fun x26 s =>
 opt2 (oMov (.v (orU (fs.get t5))) rec PT.nil s) fun x27 s =>
 opt2 (oIdxS (.v x26) (.v x27) rec PT.nil s) fun x28 s =>
 opt2 (oBin (int2 subO) (.v x28) (.v (.int .u8 48)) rec PT.nil s) fun x29 s =>
 opt2 (oConv .i64 (.v x29) rec PT.nil s) fun x30 s =>
 opt2 (oBin (int2 addO) (.v x25) (.v x30) rec PT.nil s) fun x31 s =>
 opt2 (oIdxAddrL 1 (.v x19) (.v x20) rec PT.nil s) fun x32 s =>
 opt2 (oStore 1 (.v x32) (.v x31) rec PT.nil s) fun x33 s =>
 some (.norm, (PT.put x32 t58 (PT.put x31 t57 (PT.put x30 t56 (PT.put x29 t55 (PT.put x28 t54 (PT.put x27 t53 (PT.put x26 t52 (PT.put x25 t51 (PT.put x24 t50 (PT.put x23 t49 (PT.put x22 t48 (PT.put x21 t47 (PT.put x20 t46 (PT.put x19 t45 (PT.put x2 t44 (PT.put x1 t43 fs)))))))))))))))), s))
set_option maxHeartbeats 4000000 in
theorem d34_j0 (rec : Rec) (N : Nat) (fs : Frm) (s : St) : c34_j0 rec N fs s = D34_j0 rec N fs s := by
  simp (maxSteps := 4000000) only [c34_j0, lenN, x_seq, x_ops, x_skip, x_ret, x_exit, x_cond, x_block, x_loop, ops_c, ops_n, op1_u, op1_gj, rq_c, rq_n, opQ_u, opQ_g, op2_op2, op2_op, op2_s, op2_cond, thenX_n, thenX_e, thenX_r, blkX_n, blkX_r, blkX_e, finX_r, finX_n, res_n, res_t, op_s, Nat.beq_refl, cond_true, q34_g0, q34_g1, sm_bin, sm_box, sm_build, sm_buildslice, sm_bytesstr, sm_compl, sm_conv, sm_eqs, sm_eqv, sm_ext, sm_extract, sm_field, sm_fieldaddr, sm_func, sm_idxaa, sm_idxl, sm_idxs, sm_iface, sm_lenc, sm_lenl, sm_lens, sm_load1, sm_loadn, sm_mm, sm_mov, sm_neg, sm_new, sm_nil, sm_not, sm_pick, sm_same, sm_slices, sm_store]
  first | done | kernel_rfl
def D34_j1 (rec : Rec) (N : Nat) (fs : Frm) (s : St) : OutX := opt2 (oMov (.v (orU (fs.get t5))) rec PT.nil s) fun x1 s =>
 opt2 (oBin (int2 addO) (.v x1) (.v (.int .i64 1)) rec PT.nil s) fun x2 s =>
 opt2 (oMov (.v x2) rec PT.nil s) fun x3 s =>
 some (.norm, (PT.put x3 t5 (PT.put x2 t24 (PT.put x1 t23 fs))), s)
set_option maxHeartbeats 4000000 in
theorem d34_j1 (rec : Rec) (N : Nat) (fs : Frm) (s : St) : c34_j1 rec N fs s = D34_j1 rec N fs s := by
  simp (maxSteps := 4000000) only [c34_j1, lenN, x_seq, x_ops, x_skip, x_ret, x_exit, x_cond, x_block, x_loop, ops_c, ops_n, op1_u, op1_gj, rq_c, rq_n, opQ_u, opQ_g, op2_op2, op2_op, op2_s, op2_cond, thenX_n, thenX_e, thenX_r, blkX_n, blkX_r, blkX_e, finX_r, finX_n, res_n, res_t, op_s, Nat.beq_refl, cond_true, q34_g0, q34_g1, sm_bin, sm_box, sm_build, sm_buildslice, sm_bytesstr, sm_compl, sm_conv, sm_eqs, sm_eqv, sm_ext, sm_extract, sm_field, sm_fieldaddr, sm_func, sm_idxaa, sm_idxl, sm_idxs, sm_iface, sm_lenc, sm_lenl, sm_lens, sm_load1, sm_loadn, sm_mm, sm_mov, sm_neg, sm_new, sm_nil, sm_not, sm_pick, sm_same, sm_slices, sm_store]
  first | done | kernel_rfl
def D34_l0 (rec : Rec) (N : Nat) (fs : Frm) (s : St) : OutX := opt2 (oMov (.v (orU (fs.get t5))) rec PT.nil s) fun x1 s =>
 opt2 (oBin (int2 (cmpO ltI)) (.v x1) (.v (.int .i64 10)) rec PT.nil s) fun x2 s =>
 condV x2
 (opt2 (oMov (.v (orU (fs.get t5))) rec PT.nil s) fun x3 s =>
 opt2 (oBin (int2 (cmpO eqI)) (.v x3) (.v (.int .i64 4)) rec PT.nil s) fun x4 s =>
 opt2 (oMov (.v x4) rec PT.nil s) fun x5 s =>
 opt (gval false x5) fun x6 => opt2 (orUndef x6 (oMov (.v (orU (fs.get t5))) rec PT.nil s) s) fun x7 s =>
 opt (gval false x5) fun x8 => opt2 (orUndef x8 (oBin (int2 (cmpO eqI)) (.v x7) (.v (.int .i64 7)) rec PT.nil s) s) fun x9 s =>
 opt2 (oPick (.v x5) (.v (.bool true)) (.v x9) rec PT.nil s) fun x10 s =>
 condV x10
 (c34_j1 rec N (PT.put x10 t30 (PT.put x9 t29 (PT.put x7 t28 (PT.put x5 t27 (PT.put x4 t26 (PT.put x3 t25 (PT.put x2 t22 (PT.put x1 t21 fs)))))))) s)
 (opt2 (oMov (.v (orU (fs.get t0))) rec PT.nil s) fun x11 s =>
 opt2 (oMov (.v (orU (fs.get t5))) rec PT.nil s) fun x12 s =>
 opt2 (oIdxS (.v x11) (.v x12) rec PT.nil s) fun x13 s =>
 opt2 (oBin (int2 (cmpO ltI)) (.v x13) (.v (.int .u8 48)) rec PT.nil s) fun x14 s =>
 opt2 (oMov (.v x14) rec PT.nil s) fun x15 s =>
 opt (gval false x15) fun x16 => opt2 (orUndef x16 (oMov (.v (orU (fs.get t0))) rec PT.nil s) s) fun x17 s =>
 opt (gval false x15) fun x18 => opt2 (orUndef x18 (oMov (.v (orU (fs.get t5))) rec PT.nil s) s) fun x19 s =>
 opt (gval false x15) fun x20 => opt2 (orUndef x20 (oIdxS (.v x17) (.v x19) rec PT.nil s) s) fun x21 s =>
 opt (gval false x15) fun x22 => opt2 (orUndef x22 (oBin (int2 (cmpO gtI)) (.v x21) (.v (.int .u8 57)) rec PT.nil s) s) fun x23 s =>
 opt2 (oPick (.v x15) (.v (.bool true)) (.v x23) rec PT.nil s) fun x24 s =>
 condV x24
 (opt2 (oMov (.v (.int .i64 0)) rec PT.nil s) fun x25 s =>
 opt2 (oMov (.v (.bool false)) rec PT.nil s) fun x26 s =>
 some (.ret, (PT.put x26 t3 (PT.put x25 t2 (PT.put x24 t40 (PT.put x23 t39 (PT.put x21 t38 (PT.put x19 t37 (PT.put x17 t36 (PT.put x15 t35 (PT.put x14 t34 (PT.put x13 t33 (PT.put x12 t32 (PT.put x11 t31 (PT.put x10 t30 (PT.put x9 t29 (PT.put x7 t28 (PT.put x5 t27 (PT.put x4 t26 (PT.put x3 t25 (PT.put x2 t22 (PT.put x1 t21 fs)))))))))))))))))))), s))
 (opt2 (oMov (.v (.int .i64 0)) rec PT.nil s) fun x27 s =>
 opt2 (oMov (.v (orU (fs.get t5))) rec PT.nil s) fun x28 s =>
 opt2 (oBin (int2 (cmpO gtI)) (.v x28) (.v (.int .i64 4)) rec PT.nil s) fun x29 s =>
 condV x29
 (opt2 (oMov (.v (.int .i64 1)) rec PT.nil s) fun x30 s =>
 opt2 (c34_j0 rec N (PT.put x30 t6 (PT.put x29 t42 (PT.put x28 t41 (PT.put x27 t6 (PT.put x24 t40 (PT.put x23 t39 (PT.put x21 t38 (PT.put x19 t37 (PT.put x17 t36 (PT.put x15 t35 (PT.put x14 t34 (PT.put x13 t33 (PT.put x12 t32 (PT.put x11 t31 (PT.put x10 t30 (PT.put x9 t29 (PT.put x7 t28 (PT.put x5 t27 (PT.put x4 t26 (PT.put x3 t25 (PT.put x2 t22 (PT.put x1 t21 fs)))))))))))))))))))))) s) fun e r => opt2 (blkX 1 e r) fun e r => thenX (c34_j1 rec N) e r)
 (opt2 (c34_j0 rec N (PT.put x29 t42 (PT.put x28 t41 (PT.put x27 t6 (PT.put x24 t40 (PT.put x23 t39 (PT.put x21 t38 (PT.put x19 t37 (PT.put x17 t36 (PT.put x15 t35 (PT.put x14 t34 (PT.put x13 t33 (PT.put x12 t32 (PT.put x11 t31 (PT.put x10 t30 (PT.put x9 t29 (PT.put x7 t28 (PT.put x5 t27 (PT.put x4 t26 (PT.put x3 t25 (PT.put x2 t22 (PT.put x1 t21 fs))))))))))))))))))))) s) fun e r => opt2 (blkX 1 e r) fun e r => thenX (c34_j1 rec N) e r))))
 (some ((.exit 0), (PT.put x2 t22 (PT.put x1 t21 fs)), s))
set_option maxHeartbeats 4000000 in
theorem d34_l0 (rec : Rec) (N : Nat) (fs : Frm) (s : St) : c34_l0 rec N fs s = D34_l0 rec N fs s := by
  simp (maxSteps := 4000000) only [c34_l0, lenN, x_seq, x_ops, x_skip, x_ret, x_exit, x_cond, x_block, x_loop, ops_c, ops_n, op1_u, op1_gj, rq_c, rq_n, opQ_u, opQ_g, op2_op2, op2_op, op2_s, op2_cond, thenX_n, thenX_e, thenX_r, blkX_n, blkX_r, blkX_e, finX_r, finX_n, res_n, res_t, op_s, Nat.beq_refl, cond_true, q34_g0, q34_g1, sm_bin, sm_box, sm_build, sm_buildslice, sm_bytesstr, sm_compl, sm_conv, sm_eqs, sm_eqv, sm_ext, sm_extract, sm_field, sm_fieldaddr, sm_func, sm_idxaa, sm_idxl, sm_idxs, sm_iface, sm_lenc, sm_lenl, sm_lens, sm_load1, sm_loadn, sm_mm, sm_mov, sm_neg, sm_new, sm_nil, sm_not, sm_pick, sm_same, sm_slices, sm_store]
  first | done | kernel_rfl
def D34_r0 (rec : Rec) (N : Nat) (fs : Frm) (s : St) : OutX := opt2 (oMov (.v (orU (fs.get t4))) rec PT.nil s) fun x1 s =>
 opt2 (oIdxAddrL 1 (.v x1) (.v (.int .i64 0)) rec PT.nil s) fun x2 s =>
 opt2 (oLoad1 (.v x2) rec PT.nil s) fun x3 s =>
 opt2 (oMov (.v (orU (fs.get t4))) rec PT.nil s) fun x4 s =>
 opt2 (oIdxAddrL 1 (.v x4) (.v (.int .i64 1)) rec PT.nil s) fun x5 s =>
 opt2 (oLoad1 (.v x5) rec PT.nil s) fun x6 s =>
 opt2 (oMov (.v (orU (fs.get t4))) rec PT.nil s) fun x7 s =>
 opt2 (oIdxAddrL 1 (.v x7) (.v (.int .i64 2)) rec PT.nil s) fun x8 s =>
 opt2 (oLoad1 (.v x8) rec PT.nil s) fun x9 s =>
 opt2 (rV (rec 44 [x3, x6, x9] (z0 s)) s) fun x10 s =>
 opt2 (oExtract (.v x10) 0 rec PT.nil s) fun x11 s =>
 opt2 (oExtract (.v x10) 1 rec PT.nil s) fun x12 s =>
 opt2 (oMov (.v x11) rec PT.nil s) fun x13 s =>
 opt2 (oMov (.v x12) rec PT.nil s) fun x14 s =>
 some (.ret, (PT.put x14 t3 (PT.put x13 t2 (PT.put x12 t70 (PT.put x11 t69 (PT.put x10 t68 (PT.put x9 t67 (PT.put x8 t66 (PT.put x7 t65 (PT.put x6 t64 (PT.put x5 t63 (PT.put x4 t62 (PT.put x3 t61 (PT.put x2 t60 (PT.put x1 t59 fs)))))))))))))), s)
set_option maxHeartbeats 4000000 in
theorem d34_r0 (rec : Rec) (N : Nat) (fs : Frm) (s : St) : c34_r0 rec N fs s = D34_r0 rec N fs s := by
  simp (maxSteps := 4000000) only [c34_r0, lenN, x_seq, x_ops, x_skip, x_ret, x_exit, x_cond, x_block, x_loop, ops_c, ops_n, op1_u, op1_gj, rq_c, rq_n, opQ_u, opQ_g, op2_op2, op2_op, op2_s, op2_cond, thenX_n, thenX_e, thenX_r, blkX_n, blkX_r, blkX_e, finX_r, finX_n, res_n, res_t, op_s, Nat.beq_refl, cond_true, q34_g0, q34_g1, sm_bin, sm_box, sm_build, sm_buildslice, sm_bytesstr, sm_compl, sm_conv, sm_eqs, sm_eqv, sm_ext, sm_extract, sm_field, sm_fieldaddr, sm_func, sm_idxaa, sm_idxl, sm_idxs, sm_iface, sm_lenc, sm_lenl, sm_lens, sm_load1, sm_loadn, sm_mm, sm_mov, sm_neg, sm_new, sm_nil, sm_not, sm_pick, sm_same, sm_slices, sm_store]
  first | done | kernel_rfl
def D34 (rec : Rec) (N : Nat) (a0 : Value) (s : St) : Out := opt2 (oMov (.v (.int .i64 0)) rec PT.nil s) fun x1 s =>
 opt2 (oMov (.v (.bool false)) rec PT.nil s) fun x2 s =>
 opt2 (oMov (.v a0) rec PT.nil s) fun x3 s =>
 opt2 (oLenS (.v x3) rec PT.nil s) fun x4 s =>
 opt2 (oBin (int2 (cmpO neI)) (.v x4) (.v (.int .i64 10)) rec PT.nil s) fun x5 s =>
 opt2 (oMov (.v x5) rec PT.nil s) fun x6 s =>
 opt (gval false x6) fun x7 => opt2 (orUndef x7 (oMov (.v a0) rec PT.nil s) s) fun x8 s =>
 opt (gval false x6) fun x9 => opt2 (orUndef x9 (oIdxS (.v x8) (.v (.int .i64 4)) rec PT.nil s) s) fun x10 s =>
 opt (gval false x6) fun x11 => opt2 (orUndef x11 (oBin (int2 (cmpO neI)) (.v x10) (.v (.int .u8 45)) rec PT.nil s) s) fun x12 s =>
 opt2 (oPick (.v x6) (.v (.bool true)) (.v x12) rec PT.nil s) fun x13 s =>
 opt2 (oMov (.v x13) rec PT.nil s) fun x14 s =>
 opt (gval false x14) fun x15 => opt2 (orUndef x15 (oMov (.v a0) rec PT.nil s) s) fun x16 s =>
 opt (gval false x14) fun x17 => opt2 (orUndef x17 (oIdxS (.v x16) (.v (.int .i64 7)) rec PT.nil s) s) fun x18 s =>
 opt (gval false x14) fun x19 => opt2 (orUndef x19 (oBin (int2 (cmpO neI)) (.v x18) (.v (.int .u8 45)) rec PT.nil s) s) fun x20 s =>
 opt2 (oPick (.v x14) (.v (.bool true)) (.v x20) rec PT.nil s) fun x21 s =>
 condV x21
 (opt2 (oMov (.v (.int .i64 0)) rec PT.nil s) fun x22 s =>
 opt2 (oMov (.v (.bool false)) rec PT.nil s) fun x23 s =>
 some (oneOf [x22, x23], s))
 (opt2 (oBuildSlice 3 [(.int .i64 0), (.int .i64 0), (.int .i64 0)] [(0, 1, (.v (.int .i64 0))), (1, 1, (.v (.int .i64 0))), (2, 1, (.v (.int .i64 0)))] rec PT.nil s) fun x24 s =>
 opt2 (oMov (.v x24) rec PT.nil s) fun x25 s =>
 opt2 (oMov (.v (.int .i64 0)) rec PT.nil s) fun x26 s =>
 opt2 (loopF (c34_l0 rec N) N (PT.put x26 t5 (PT.put x25 t4 (PT.put x24 t20 (PT.put x21 t19 (PT.put x20 t18 (PT.put x18 t17 (PT.put x16 t16 (PT.put x14 t15 (PT.put x13 t14 (PT.put x12 t13 (PT.put x10 t12 (PT.put x8 t11 (PT.put x6 t10 (PT.put x5 t9 (PT.put x4 t8 (PT.put x3 t7 (PT.put x2 t3 (PT.put x1 t2 (PT.put a0 t0 PT.nil))))))))))))))))))) s) fun e r => opt2 (blkX 0 e r) fun e r => opt2 (thenX (c34_r0 rec N) e r) fun e r => finX [.tmp t2, .tmp t3] e r)
set_option maxHeartbeats 4000000 in
theorem d34 (rec : Rec) (N : Nat) (a0 : Value) (s : St) : callF rec N c34 [a0] s = D34 rec N a0 s := by
  rw [call_f _ _ _ _ _ rfl]
  simp (maxSteps := 4000000) only [c34, lenN, x_seq, x_ops, x_skip, x_ret, x_exit, x_cond, x_block, x_loop, ops_c, ops_n, op1_u, op1_gj, rq_c, rq_n, opQ_u, opQ_g, op2_op2, op2_op, op2_s, op2_cond, thenX_n, thenX_e, thenX_r, blkX_n, blkX_r, blkX_e, finX_r, finX_n, res_n, res_t, op_s, Nat.beq_refl, cond_true, q34_g0, q34_g1, sm_bin, sm_box, sm_build, sm_buildslice, sm_bytesstr, sm_compl, sm_conv, sm_eqs, sm_eqv, sm_ext, sm_extract, sm_field, sm_fieldaddr, sm_func, sm_idxaa, sm_idxl, sm_idxs, sm_iface, sm_lenc, sm_lenl, sm_lens, sm_load1, sm_loadn, sm_mm, sm_mov, sm_neg, sm_new, sm_nil, sm_not, sm_pick, sm_same, sm_slices, sm_store]
  first | done | kernel_rfl
def J34_j1 (rec : Rec) (N : Nat) (k : Value × Value × Value × Value × Value) (s : St) : OutV (Value × Value × Value) := opt2 (oBin (int2 addO) (.v k.2.2.2.2) (.v (.int .i64 1)) rec PT.nil s) fun x1 s =>
 some (.norm, ((k.2.1, k.2.2.1, x1), s))
set_option maxHeartbeats 4000000 in
theorem j34_j1 (rec : Rec) (N : Nat) (fs : Frm) (s : St) : opt2 (c34_j1 rec N fs s) (fun e r => some (e, (((orU (r.1.get t2), orU (r.1.get t3), orU (r.1.get t5)), (orU (r.1.get t0), orU (r.1.get t4))), r.2))) = opt2 (J34_j1 rec N (orU (fs.get t0), orU (fs.get t2), orU (fs.get t3), orU (fs.get t4), orU (fs.get t5)) s) fun e r => some (e, ((r.1, (orU (fs.get t0), orU (fs.get t4))), r.2)) := by
  rw [d34_j1]
  unfold D34_j1 J34_j1
  simp (maxSteps := 4000000) only [thenX_n, thenX_e, thenX_r, x_exit, x_skip, x_ret, blkX_n, blkX_r, blkX_e, finX_r, finX_n, res_n, res_t, op2_op2, op2_op, op2_s, op2_cond, op2_bf, mov_v]
  first | done | kernel_rfl
def J34_j0 (rec : Rec) (N : Nat) (k : Value × Value × Value × Value × Value × Value) (s : St) : OutV (Value × Value × Value) := opt2 (oBin (int2 (cmpO gtI)) (.v k.2.2.2.2.1) (.v (.int .i64 7)) rec PT.nil s) fun x1 s =>
 condV x1
 (opt2 (oIdxAddrL 1 (.v k.2.2.2.1) (.v (.int .i64 2)) rec PT.nil s) fun x2 s =>
 opt2 (oLoad1 (.v x2) rec PT.nil s) fun x3 s =>
 opt2 (oBin (int2 mulO) (.v (.int .i64 10)) (.v x3) rec PT.nil s) fun x4 s =>
 opt2 (oIdxS (.v k.1) (.v k.2.2.2.2.1) rec PT.nil s) fun x5 s =>
 opt2 (oBin (int2 subO) (.v x5) (.v (.int .u8 48)) rec PT.nil s) fun x6 s =>
 opt2 (oConv .i64 (.v x6) rec PT.nil s) fun x7 s =>
 opt2 (oBin (int2 addO) (.v x4) (.v x7) rec PT.nil s) fun x8 s =>
 opt2 (oIdxAddrL 1 (.v k.2.2.2.1) (.v (.int .i64 2)) rec PT.nil s) fun x9 s =>
 opt2 (oStore 1 (.v x9) (.v x8) rec PT.nil s) fun x10 s =>
 J34_j1 rec N (k.1, k.2.1, k.2.2.1, k.2.2.2.1, k.2.2.2.2.1) s)
 (opt2 (oIdxAddrL 1 (.v k.2.2.2.1) (.v k.2.2.2.2.2) rec PT.nil s) fun x11 s =>
 opt2 (oLoad1 (.v x11) rec PT.nil s) fun x12 s =>
 opt2 (oBin (int2 mulO) (.v (.int .i64 10)) (.v x12) rec PT.nil s) fun x13 s =>
 opt2 (oIdxS (.v k.1) (.v k.2.2.2.2.1) rec PT.nil s) fun x14 s =>
 opt2 (oBin (int2 subO) (.v x14) (.v (.int .u8 48)) rec PT.nil s) fun x15 s =>
 opt2 (oConv .i64 (.v x15) rec PT.nil s) fun x16 s =>
 opt2 (oBin (int2 addO) (.v x13) (.v x16) rec PT.nil s) fun x17 s =>
 opt2 (oIdxAddrL 1 (.v k.2.2.2.1) (.v k.2.2.2.2.2) rec PT.nil s) fun x18 s =>
 opt2 (oStore 1 (.v x18) (.v x17) rec PT.nil s) fun x19 s =>
 J34_j1 rec N (k.1, k.2.1, k.2.2.1, k.2.2.2.1, k.2.2.2.2.1) s)
set_option maxHeartbeats 4000000 in
theorem j34_j0 (rec : Rec) (N : Nat) (fs : Frm) (s : St) : opt2 (c34_j0 rec N fs s) (fun e r => opt2 (blkX 1 e r) fun e r => opt2 (thenX (c34_j1 rec N) e r) fun e r => some (e, (((orU (r.1.get t2), orU (r.1.get t3), orU (r.1.get t5)), (orU (r.1.get t0), orU (r.1.get t4))), r.2))) = opt2 (J34_j0 rec N (orU (fs.get t0), orU (fs.get t2), orU (fs.get t3), orU (fs.get t4), orU (fs.get t5), orU (fs.get t6)) s) fun e r => some (e, ((r.1, (orU (fs.get t0), orU (fs.get t4))), r.2)) := by
  rw [d34_j0]
  unfold D34_j0 J34_j0
  simp (maxSteps := 4000000) only [thenX_n, thenX_e, thenX_r, x_exit, x_skip, x_ret, blkX_n, blkX_r, blkX_e, finX_r, finX_n, res_n, res_t, op2_op2, op2_op, op2_s, op2_cond, op2_bf, mov_v, j34_j1 rec N]
  first | done | kernel_rfl
def J34_r0 (rec : Rec) (N : Nat) (k : Value) (s : St) : Out := opt2 (oIdxAddrL 1 (.v k) (.v (.int .i64 0)) rec PT.nil s) fun x1 s =>
 opt2 (oLoad1 (.v x1) rec PT.nil s) fun x2 s =>
 opt2 (oIdxAddrL 1 (.v k) (.v (.int .i64 1)) rec PT.nil s) fun x3 s =>
 opt2 (oLoad1 (.v x3) rec PT.nil s) fun x4 s =>
 opt2 (oIdxAddrL 1 (.v k) (.v (.int .i64 2)) rec PT.nil s) fun x5 s =>
 opt2 (oLoad1 (.v x5) rec PT.nil s) fun x6 s =>
 opt2 (rV (rec 44 [x2, x4, x6] (z0 s)) s) fun x7 s =>
 opt2 (oExtract (.v x7) 0 rec PT.nil s) fun x8 s =>
 opt2 (oExtract (.v x7) 1 rec PT.nil s) fun x9 s =>
 some (oneOf [x8, x9], s)
set_option maxHeartbeats 4000000 in
theorem j34_r0 (rec : Rec) (N : Nat) (fs : Frm) (s : St) : opt2 (c34_r0 rec N fs s) (fun e r => finX [.tmp t2, .tmp t3] e r) = J34_r0 rec N (orU (fs.get t4)) s := by
  rw [d34_r0]
  unfold D34_r0 J34_r0
  simp (maxSteps := 4000000) only [thenX_n, thenX_e, thenX_r, x_exit, x_skip, x_ret, blkX_n, blkX_r, blkX_e, finX_r, finX_n, res_n, res_t, op2_op2, op2_op, op2_s, op2_cond, op2_bf, mov_v]
  first | done | kernel_rfl
def B34_l0 (rec : Rec) (N : Nat) (k : Value × Value) (v : Value × Value × Value) (s : St) : OutV (Value × Value × Value) := opt2 (oBin (int2 (cmpO ltI)) (.v v.2.2) (.v (.int .i64 10)) rec PT.nil s) fun x1 s =>
 condV x1
 (opt2 (oBin (int2 (cmpO eqI)) (.v v.2.2) (.v (.int .i64 4)) rec PT.nil s) fun x2 s =>
 opt (gval false x2) fun x3 => opt2 (orUndef x3 (some (v.2.2, s)) s) fun x4 s =>
 opt (gval false x2) fun x5 => opt2 (orUndef x5 (oBin (int2 (cmpO eqI)) (.v x4) (.v (.int .i64 7)) rec PT.nil s) s) fun x6 s =>
 opt2 (oPick (.v x2) (.v (.bool true)) (.v x6) rec PT.nil s) fun x7 s =>
 condV x7
 (J34_j1 rec N (k.1, v.1, v.2.1, k.2, v.2.2) s)
 (opt2 (oIdxS (.v k.1) (.v v.2.2) rec PT.nil s) fun x8 s =>
 opt2 (oBin (int2 (cmpO ltI)) (.v x8) (.v (.int .u8 48)) rec PT.nil s) fun x9 s =>
 opt (gval false x9) fun x10 => opt2 (orUndef x10 (some (k.1, s)) s) fun x11 s =>
 opt (gval false x9) fun x12 => opt2 (orUndef x12 (some (v.2.2, s)) s) fun x13 s =>
 opt (gval false x9) fun x14 => opt2 (orUndef x14 (oIdxS (.v x11) (.v x13) rec PT.nil s) s) fun x15 s =>
 opt (gval false x9) fun x16 => opt2 (orUndef x16 (oBin (int2 (cmpO gtI)) (.v x15) (.v (.int .u8 57)) rec PT.nil s) s) fun x17 s =>
 opt2 (oPick (.v x9) (.v (.bool true)) (.v x17) rec PT.nil s) fun x18 s =>
 condV x18
 (some (.ret, (((.int .i64 0), (.bool false), v.2.2), s)))
 (opt2 (oBin (int2 (cmpO gtI)) (.v v.2.2) (.v (.int .i64 4)) rec PT.nil s) fun x19 s =>
 condV x19
 (J34_j0 rec N (k.1, v.1, v.2.1, k.2, v.2.2, (.int .i64 1)) s)
 (J34_j0 rec N (k.1, v.1, v.2.1, k.2, v.2.2, (.int .i64 0)) s))))
 (some ((.exit 0), ((v.1, v.2.1, v.2.2), s)))
set_option maxHeartbeats 4000000 in
theorem s34_l0 (rec : Rec) (N : Nat) (fs : Frm) (s : St) : opt2 (c34_l0 rec N fs s) (fun e r => some (e, (((orU (r.1.get t2), orU (r.1.get t3), orU (r.1.get t5)), (orU (r.1.get t0), orU (r.1.get t4))), r.2))) = opt2 (B34_l0 rec N (orU (fs.get t0), orU (fs.get t4)) (orU (fs.get t2), orU (fs.get t3), orU (fs.get t5)) s) fun e r => some (e, ((r.1, (orU (fs.get t0), orU (fs.get t4))), r.2)) := by
  rw [d34_l0]
  unfold D34_l0 B34_l0
  simp (maxSteps := 4000000) only [op2_op2, op2_op, op2_s, op2_cond, op2_bf, mov_v, j34_j1 rec N, j34_j0 rec N]
  first | done | kernel_rfl
def C34_l0 (rec : Rec) (N : Nat) (k : Value × Value) (e : AExit) (r : (Value × Value × Value) × St) : Out := (fun s => exV (fun i => bif Nat.beq i 0 then (J34_r0 rec N k.2 s)
 else (none))
 (some (oneOf [r.1.1, r.1.2.1], s)) e) r.2
theorem j34_l0 (rec : Rec) (N : Nat) (fs : Frm) (s : St) : opt2 (loopF (c34_l0 rec N) N fs s) (fun e r => opt2 (blkX 0 e r) fun e r => opt2 (thenX (c34_r0 rec N) e r) fun e r => finX [.tmp t2, .tmp t3] e r) = opt2 (loopV (B34_l0 rec N (orU (fs.get t0), orU (fs.get t4))) N (orU (fs.get t2), orU (fs.get t3), orU (fs.get t5)) s) (C34_l0 rec N (orU (fs.get t0), orU (fs.get t4))) := by
  refine loop_j (fun fs => (orU (fs.get t2), orU (fs.get t3), orU (fs.get t5))) (fun fs => (orU (fs.get t0), orU (fs.get t4))) (B34_l0 rec N) (c34_l0 rec N) (s34_l0 rec N) (fun e r => opt2 (blkX 0 e r) fun e r => opt2 (thenX (c34_r0 rec N) e r) fun e r => finX [.tmp t2, .tmp t3] e r) (C34_l0 rec N) ?_ ?_ N fs s
  · intro i fs s
    unfold C34_l0
    simp (maxSteps := 4000000) only [thenX_n, thenX_e, thenX_r, x_exit, x_skip, x_ret, blkX_n, blkX_r, blkX_e, finX_r, finX_n, res_n, res_t, exV_e, exV_r, op2_op2, op2_op, op2_s, op2_cond, op2_bf, mov_v, j34_r0 rec N]
    first | done | kernel_rfl
  · intro fs s
    unfold C34_l0
    simp (maxSteps := 4000000) only [thenX_n, thenX_e, thenX_r, x_exit, x_skip, x_ret, blkX_n, blkX_r, blkX_e, finX_r, finX_n, res_n, res_t, exV_e, exV_r, op2_op2, op2_op, op2_s, op2_cond, op2_bf, mov_v, j34_r0 rec N]
    first | done | kernel_rfl
def F34 (rec : Rec) (N : Nat) (a0 : Value) (s : St) : Out := opt2 (oLenS (.v a0) rec PT.nil s) fun x1 s =>
 opt2 (oBin (int2 (cmpO neI)) (.v x1) (.v (.int .i64 10)) rec PT.nil s) fun x2 s =>
 opt (gval false x2) fun x3 => opt2 (orUndef x3 (some (a0, s)) s) fun x4 s =>
 opt (gval false x2) fun x5 => opt2 (orUndef x5 (oIdxS (.v x4) (.v (.int .i64 4)) rec PT.nil s) s) fun x6 s =>
 opt (gval false x2) fun x7 => opt2 (orUndef x7 (oBin (int2 (cmpO neI)) (.v x6) (.v (.int .u8 45)) rec PT.nil s) s) fun x8 s =>
 opt2 (oPick (.v x2) (.v (.bool true)) (.v x8) rec PT.nil s) fun x9 s =>
 opt (gval false x9) fun x10 => opt2 (orUndef x10 (some (a0, s)) s) fun x11 s =>
 opt (gval false x9) fun x12 => opt2 (orUndef x12 (oIdxS (.v x11) (.v (.int .i64 7)) rec PT.nil s) s) fun x13 s =>
 opt (gval false x9) fun x14 => opt2 (orUndef x14 (oBin (int2 (cmpO neI)) (.v x13) (.v (.int .u8 45)) rec PT.nil s) s) fun x15 s =>
 opt2 (oPick (.v x9) (.v (.bool true)) (.v x15) rec PT.nil s) fun x16 s =>
 condV x16
 (some (oneOf [(.int .i64 0), (.bool false)], s))
 (opt2 (oBuildSlice 3 [(.int .i64 0), (.int .i64 0), (.int .i64 0)] [(0, 1, (.v (.int .i64 0))), (1, 1, (.v (.int .i64 0))), (2, 1, (.v (.int .i64 0)))] rec PT.nil s) fun x17 s =>
 opt2 (loopV (B34_l0 rec N (a0, x17)) N ((.int .i64 0), (.bool false), (.int .i64 0)) s) (C34_l0 rec N (a0, x17)))
theorem f34 (rec : Rec) (N : Nat) (a0 : Value) (s : St) : callF rec N c34 [a0] s = F34 rec N a0 s := by
  rw [d34]
  unfold D34 F34
  simp (maxSteps := 4000000) only [mov_v, op2_s, j34_l0 rec N]
  first | done | kernel_rfl
-- c35
def D35_l0 (rec : Rec) (N : Nat) (fs : Frm) (s : St) : OutX := opt2 (oMov (.v (orU (fs.get t1))) rec PT.nil s) fun x1 s =>
 opt2 (oLenS (.v x1) rec PT.nil s) fun x2 s =>
 opt2 (oBin (int2 (cmpO ltI)) (.v x2) (.v (.int .i64 4)) rec PT.nil s) fun x3 s =>
 condV x3
 (opt2 (oMov (.v (orU (fs.get t1))) rec PT.nil s) fun x4 s =>
 opt2 (oBin (str2 catO) (.v x4) (.v (.string ⟨⟨[48]⟩⟩)) rec PT.nil s) fun x5 s =>
 opt2 (oMov (.v x5) rec PT.nil s) fun x6 s =>
 some (.norm, (PT.put x6 t1 (PT.put x5 t14 (PT.put x4 t13 (PT.put x3 t12 (PT.put x2 t11 (PT.put x1 t10 fs)))))), s))
 (some ((.exit 0), (PT.put x3 t12 (PT.put x2 t11 (PT.put x1 t10 fs))), s))
set_option maxHeartbeats 4000000 in
theorem d35_l0 (rec : Rec) (N : Nat) (fs : Frm) (s : St) : c35_l0 rec N fs s = D35_l0 rec N fs s := by
  simp (maxSteps := 4000000) only [c35_l0, lenN, x_seq, x_ops, x_skip, x_ret, x_exit, x_cond, x_block, x_loop, ops_c, ops_n, op1_u, op1_gj, rq_c, rq_n, opQ_u, opQ_g, op2_op2, op2_op, op2_s, op2_cond, thenX_n, thenX_e, thenX_r, blkX_n, blkX_r, blkX_e, finX_r, finX_n, res_n, res_t, op_s, Nat.beq_refl, cond_true]
  first | done | kernel_rfl
def D35_r0 (rec : Rec) (N : Nat) (fs : Frm) (s : St) : OutX := opt2 (oMov (.v (orU (fs.get t0))) rec PT.nil s) fun x1 s =>
 opt2 (rec 36 [x1, (.int .i64 1000000000000)] s) fun x2 s =>
 opt2 (oMov (.v x2) rec PT.nil s) fun x3 s =>
 opt2 (oExtract (.v x3) 0 rec PT.nil s) fun x4 s =>
 opt2 (oExtract (.v x3) 1 rec PT.nil s) fun x5 s =>
 opt2 (oMov (.v x4) rec PT.nil s) fun x6 s =>
 opt2 (oMov (.v x5) rec PT.nil s) fun x7 s =>
 opt2 (oMov (.v (orU (fs.get t1))) rec PT.nil s) fun x8 s =>
 opt2 (rec 36 [x8, (.int .i64 9999)] s) fun x9 s =>
 opt2 (oMov (.v x9) rec PT.nil s) fun x10 s =>
 opt2 (oExtract (.v x10) 0 rec PT.nil s) fun x11 s =>
 opt2 (oExtract (.v x10) 1 rec PT.nil s) fun x12 s =>
 opt2 (oMov (.v x11) rec PT.nil s) fun x13 s =>
 opt2 (oMov (.v x12) rec PT.nil s) fun x14 s =>
 opt2 (oMov (.v x7) rec PT.nil s) fun x15 s =>
 opt2 (oNot (.v x15) rec PT.nil s) fun x16 s =>
 opt2 (oMov (.v x16) rec PT.nil s) fun x17 s =>
 opt (gval false x17) fun x18 => opt2 (orUndef x18 (oMov (.v x6) rec PT.nil s) s) fun x19 s =>
 opt (gval false x17) fun x20 => opt2 (orUndef x20 (oBin (int2 (cmpO gtI)) (.v x19) (.v (.int .i64 100000000)) rec PT.nil s) s) fun x21 s =>
 opt2 (oPick (.v x17) (.v (.bool true)) (.v x21) rec PT.nil s) fun x22 s =>
 opt2 (oMov (.v x22) rec PT.nil s) fun x23 s =>
 opt (gval false x23) fun x24 => opt2 (orUndef x24 (oMov (.v x6) rec PT.nil s) s) fun x25 s =>
 opt (gval false x23) fun x26 => opt2 (orUndef x26 (oBin (int2 mulO) (.v (.int .i64 10000)) (.v x25) rec PT.nil s) s) fun x27 s =>
 opt (gval false x23) fun x28 => opt2 (orUndef x28 (oMov (.v x13) rec PT.nil s) s) fun x29 s =>
 opt (gval false x23) fun x30 => opt2 (orUndef x30 (oBin (int2 addO) (.v x27) (.v x29) rec PT.nil s) s) fun x31 s =>
 opt (gval false x23) fun x32 => opt2 (orUndef x32 (oBin (int2 (cmpO gtI)) (.v x31) (.v (.int .i64 1000000000000)) rec PT.nil s) s) fun x33 s =>
 opt2 (oPick (.v x23) (.v (.bool true)) (.v x33) rec PT.nil s) fun x34 s =>
 condV x34
 (opt2 (oMov (.v (.int .i64 0)) rec PT.nil s) fun x35 s =>
 opt2 (oMov (.v (.bool false)) rec PT.nil s) fun x36 s =>
 some (.ret, (PT.put x36 t5 (PT.put x35 t4 (PT.put x34 t37 (PT.put x33 t36 (PT.put x31 t35 (PT.put x29 t34 (PT.put x27 t33 (PT.put x25 t32 (PT.put x23 t31 (PT.put x22 t30 (PT.put x21 t29 (PT.put x19 t28 (PT.put x17 t27 (PT.put x16 t26 (PT.put x15 t25 (PT.put x14 t9 (PT.put x13 t8 (PT.put x12 t24 (PT.put x11 t23 (PT.put x10 t20 (PT.put x9 t22 (PT.put x8 t21 (PT.put x7 t7 (PT.put x6 t6 (PT.put x5 t19 (PT.put x4 t18 (PT.put x3 t15 (PT.put x2 t17 (PT.put x1 t16 fs))))))))))))))))))))))))))))), s))
 (opt2 (oMov (.v x6) rec PT.nil s) fun x37 s =>
 opt2 (oBin (int2 mulO) (.v (.int .i64 10000)) (.v x37) rec PT.nil s) fun x38 s =>
 opt2 (oMov (.v x13) rec PT.nil s) fun x39 s =>
 opt2 (oBin (int2 addO) (.v x38) (.v x39) rec PT.nil s) fun x40 s =>
 opt2 (oMov (.v x40) rec PT.nil s) fun x41 s =>
 opt2 (oMov (.v (.bool true)) rec PT.nil s) fun x42 s =>
 some (.ret, (PT.put x42 t5 (PT.put x41 t4 (PT.put x40 t41 (PT.put x39 t40 (PT.put x38 t39 (PT.put x37 t38 (PT.put x34 t37 (PT.put x33 t36 (PT.put x31 t35 (PT.put x29 t34 (PT.put x27 t33 (PT.put x25 t32 (PT.put x23 t31 (PT.put x22 t30 (PT.put x21 t29 (PT.put x19 t28 (PT.put x17 t27 (PT.put x16 t26 (PT.put x15 t25 (PT.put x14 t9 (PT.put x13 t8 (PT.put x12 t24 (PT.put x11 t23 (PT.put x10 t20 (PT.put x9 t22 (PT.put x8 t21 (PT.put x7 t7 (PT.put x6 t6 (PT.put x5 t19 (PT.put x4 t18 (PT.put x3 t15 (PT.put x2 t17 (PT.put x1 t16 fs))))))))))))))))))))))))))))))))), s))
set_option maxHeartbeats 4000000 in
theorem d35_r0 (rec : Rec) (N : Nat) (fs : Frm) (s : St) : c35_r0 rec N fs s = D35_r0 rec N fs s := by
  simp (maxSteps := 4000000) only [c35_r0, lenN, x_seq, x_ops, x_skip, x_ret, x_exit, x_cond, x_block, x_loop, ops_c, ops_n, op1_u, op1_gj, rq_c, rq_n, opQ_u, opQ_g, op2_op2, op2_op, op2_s, op2_cond, thenX_n, thenX_e, thenX_r, blkX_n, blkX_r, blkX_e, finX_r, finX_n, res_n, res_t, op_s, Nat.beq_refl, cond_true]
  first | done | kernel_rfl
def D35 (rec : Rec) (N : Nat) (a0 : Value) (a1 : Value) (s : St) : Out := opt2 (oMov (.v (.int .i64 0)) rec PT.nil s) fun x1 s =>
 opt2 (oMov (.v (.bool false)) rec PT.nil s) fun x2 s =>
 opt2 (loopF (c35_l0 rec N) N (PT.put x2 t5 (PT.put x1 t4 (PT.put a1 t1 (PT.put a0 t0 PT.nil)))) s) fun e r => opt2 (blkX 0 e r) fun e r => opt2 (thenX (c35_r0 rec N) e r) fun e r => finX [.tmp t4, .tmp t5] e r
set_option maxHeartbeats 4000000 in
theorem d35 (rec : Rec) (N : Nat) (a0 : Value) (a1 : Value) (s : St) : callF rec N c35 [a0, a1] s = D35 rec N a0 a1 s := by
  rw [call_f _ _ _ _ _ rfl]
  simp (maxSteps := 4000000) only [c35, lenN, x_seq, x_ops, x_skip, x_ret, x_exit, x_cond, x_block, x_loop, ops_c, ops_n, op1_u, op1_gj, rq_c, rq_n, opQ_u, opQ_g, op2_op2, op2_op, op2_s, op2_cond, thenX_n, thenX_e, thenX_r, blkX_n, blkX_r, blkX_e, finX_r, finX_n, res_n, res_t, op_s, Nat.beq_refl, cond_true]
  first | done | kernel_rfl
def J35_r0 (rec : Rec) (N : Nat) (k : Value × Value) (s : St) : Out := opt2 (rec 36 [k.1, (.int .i64 1000000000000)] s) fun x1 s =>
 opt2 (oExtract (.v x1) 0 rec PT.nil s) fun x2 s =>
 opt2 (oExtract (.v x1) 1 rec PT.nil s) fun x3 s =>
 opt2 (rec 36 [k.2, (.int .i64 9999)] s) fun x4 s =>
 opt2 (oExtract (.v x4) 0 rec PT.nil s) fun x5 s =>
 opt2 (oExtract (.v x4) 1 rec PT.nil s) fun x6 s =>
 opt2 (oNot (.v x3) rec PT.nil s) fun x7 s =>
 opt (gval false x7) fun x8 => opt2 (orUndef x8 (some (x2, s)) s) fun x9 s =>
 opt (gval false x7) fun x10 => opt2 (orUndef x10 (oBin (int2 (cmpO gtI)) (.v x9) (.v (.int .i64 100000000)) rec PT.nil s) s) fun x11 s =>
 opt2 (oPick (.v x7) (.v (.bool true)) (.v x11) rec PT.nil s) fun x12 s =>
 opt (gval false x12) fun x13 => opt2 (orUndef x13 (some (x2, s)) s) fun x14 s =>
 opt (gval false x12) fun x15 => opt2 (orUndef x15 (oBin (int2 mulO) (.v (.int .i64 10000)) (.v x14) rec PT.nil s) s) fun x16 s =>
 opt (gval false x12) fun x17 => opt2 (orUndef x17 (some (x5, s)) s) fun x18 s =>
 opt (gval false x12) fun x19 => opt2 (orUndef x19 (oBin (int2 addO) (.v x16) (.v x18) rec PT.nil s) s) fun x20 s =>
 opt (gval false x12) fun x21 => opt2 (orUndef x21 (oBin (int2 (cmpO gtI)) (.v x20) (.v (.int .i64 1000000000000)) rec PT.nil s) s) fun x22 s =>
 opt2 (oPick (.v x12) (.v (.bool true)) (.v x22) rec PT.nil s) fun x23 s =>
 condV x23
 (some (oneOf [(.int .i64 0), (.bool false)], s))
 (opt2 (oBin (int2 mulO) (.v (.int .i64 10000)) (.v x2) rec PT.nil s) fun x24 s =>
 opt2 (oBin (int2 addO) (.v x24) (.v x5) rec PT.nil s) fun x25 s =>
 some (oneOf [x25, (.bool true)], s))
set_option maxHeartbeats 4000000 in
theorem j35_r0 (rec : Rec) (N : Nat) (fs : Frm) (s : St) : opt2 (c35_r0 rec N fs s) (fun e r => finX [.tmp t4, .tmp t5] e r) = J35_r0 rec N (orU (fs.get t0), orU (fs.get t1)) s := by
  rw [d35_r0]
  unfold D35_r0 J35_r0
  simp (maxSteps := 4000000) only [thenX_n, thenX_e, thenX_r, x_exit, x_skip, x_ret, blkX_n, blkX_r, blkX_e, finX_r, finX_n, res_n, res_t, op2_op2, op2_op, op2_s, op2_cond, op2_bf, mov_v]
  first | done | kernel_rfl
def B35_l0 (rec : Rec) (N : Nat) (k : Value × Value × Value) (v : Value) (s : St) : OutV (Value) := opt2 (oLenS (.v v) rec PT.nil s) fun x1 s =>
 opt2 (oBin (int2 (cmpO ltI)) (.v x1) (.v (.int .i64 4)) rec PT.nil s) fun x2 s =>
 condV x2
 (opt2 (oBin (str2 catO) (.v v) (.v (.string ⟨⟨[48]⟩⟩)) rec PT.nil s) fun x3 s =>
 some (.norm, (x3, s)))
 (some ((.exit 0), (v, s)))
set_option maxHeartbeats 4000000 in
theorem s35_l0 (rec : Rec) (N : Nat) (fs : Frm) (s : St) : opt2 (c35_l0 rec N fs s) (fun e r => some (e, (((orU (r.1.get t1)), (orU (r.1.get t0), orU (r.1.get t4), orU (r.1.get t5))), r.2))) = opt2 (B35_l0 rec N (orU (fs.get t0), orU (fs.get t4), orU (fs.get t5)) (orU (fs.get t1)) s) fun e r => some (e, ((r.1, (orU (fs.get t0), orU (fs.get t4), orU (fs.get t5))), r.2)) := by
  rw [d35_l0]
  unfold D35_l0 B35_l0
  simp (maxSteps := 4000000) only [op2_op2, op2_op, op2_s, op2_cond, op2_bf, mov_v]
  first | done | kernel_rfl
def C35_l0 (rec : Rec) (N : Nat) (k : Value × Value × Value) (e : AExit) (r : (Value) × St) : Out := (fun s => exV (fun i => bif Nat.beq i 0 then (J35_r0 rec N (k.1, r.1) s)
 else (none))
 (some (oneOf [k.2.1, k.2.2], s)) e) r.2
theorem j35_l0 (rec : Rec) (N : Nat) (fs : Frm) (s : St) : opt2 (loopF (c35_l0 rec N) N fs s) (fun e r => opt2 (blkX 0 e r) fun e r => opt2 (thenX (c35_r0 rec N) e r) fun e r => finX [.tmp t4, .tmp t5] e r) = opt2 (loopV (B35_l0 rec N (orU (fs.get t0), orU (fs.get t4), orU (fs.get t5))) N (orU (fs.get t1)) s) (C35_l0 rec N (orU (fs.get t0), orU (fs.get t4), orU (fs.get t5))) := by
  refine loop_j (fun fs => (orU (fs.get t1))) (fun fs => (orU (fs.get t0), orU (fs.get t4), orU (fs.get t5))) (B35_l0 rec N) (c35_l0 rec N) (s35_l0 rec N) (fun e r => opt2 (blkX 0 e r) fun e r => opt2 (thenX (c35_r0 rec N) e r) fun e r => finX [.tmp t4, .tmp t5] e r) (C35_l0 rec N) ?_ ?_ N fs s
  · intro i fs s
    unfold C35_l0
    simp (maxSteps := 4000000) only [thenX_n, thenX_e, thenX_r, x_exit, x_skip, x_ret, blkX_n, blkX_r, blkX_e, finX_r, finX_n, res_n, res_t, exV_e, exV_r, op2_op2, op2_op, op2_s, op2_cond, op2_bf, mov_v, j35_r0 rec N]
    first | done | kernel_rfl
  · intro fs s
    unfold C35_l0
    simp (maxSteps := 4000000) only [thenX_n, thenX_e, thenX_r, x_exit, x_skip, x_ret, blkX_n, blkX_r, blkX_e, finX_r, finX_n, res_n, res_t, exV_e, exV_r, op2_op2, op2_op, op2_s, op2_cond, op2_bf, mov_v, j35_r0 rec N]
    first | done | kernel_rfl
def F35 (rec : Rec) (N : Nat) (a0 : Value) (a1 : Value) (s : St) : Out := opt2 (loopV (B35_l0 rec N (a0, (.int .i64 0), (.bool false))) N a1 s) (C35_l0 rec N (a0, (.int .i64 0), (.bool false)))
theorem f35 (rec : Rec) (N : Nat) (a0 : Value) (a1 : Value) (s : St) : callF rec N c35 [a0, a1] s = F35 rec N a0 a1 s := by
  rw [d35]
  unfold D35 F35
  simp (maxSteps := 4000000) only [mov_v, op2_s, j35_l0 rec N]
  first | done | kernel_rfl
-- c36
def D36_l0 (rec : Rec) (N : Nat) (fs : Frm) (s : St) : OutX := opt2 (oMov (.v (orU (fs.get t7))) rec PT.nil s) fun x1 s =>
 opt2 (oMov (.v (orU (fs.get t0))) rec PT.nil s) fun x2 s =>
 opt2 (oLenS (.v x2) rec PT.nil s) fun x3 s =>
 opt2 (oBin (int2 (cmpO ltI)) (.v x1) (.v x3) rec PT.nil s) fun x4 s =>
 condV x4
 (opt2 (oMov (.v (orU (fs.get t6))) rec PT.nil s) fun x5 s =>
 opt2 (oMov (.v (orU (fs.get t1))) rec PT.nil s) fun x6 s =>
 opt2 (oBin (int2 quoO) (.v x6) (.v (.int .i64 10)) rec PT.nil s) fun x7 s =>
 opt2 (oBin (int2 (cmpO gtI)) (.v x5) (.v x7) rec PT.nil s) fun x8 s =>
 condV x8
 (opt2 (oMov (.v (.int .i64 0)) rec PT.nil s) fun x9 s =>
 opt2 (oMov (.v (.bool false)) rec PT.nil s) fun x10 s =>
 some (.ret, (PT.put x10 t5 (PT.put x9 t4 (PT.put x8 t17 (PT.put x7 t16 (PT.put x6 t15 (PT.put x5 t14 (PT.put x4 t11 (PT.put x3 t10 (PT.put x2 t9 (PT.put x1 t8 fs)))))))))), s))
 (opt2 (oMov (.v (orU (fs.get t6))) rec PT.nil s) fun x11 s =>
 opt2 (oBin (int2 mulO) (.v (.int .i64 10)) (.v x11) rec PT.nil s) fun x12 s =>
 opt2 (oMov (.v (orU (fs.get t0))) rec PT.nil s) fun x13 s =>
 opt2 (oMov (.v (orU (fs.get t7))) rec PT.nil s) fun x14 s =>
 opt2 (oIdxS (.v x13) (.v x14) rec PT.nil s) fun x15 s =>
 opt2 (oBin (int2 subO) (.v x15) (.v (.int .u8 48)) rec PT.nil s) fun x16 s =>
 opt2 (oConv .i64 (.v x16) rec PT.nil s) fun x17 s =>
 opt2 (oBin (int2 addO) (.v x12) (.v x17) rec PT.nil s) fun x18 s =>
 opt2 (oMov (.v x18) rec PT.nil s) fun x19 s =>
 opt2 (oMov (.v x19) rec PT.nil s) fun x20 s =>
 opt2 (oMov (.v (orU (fs.get t1))) rec PT.nil s) fun x21 s =>
 opt2 (oBin (int2 (cmpO gtI)) (.v x20) (.v x21) rec PT.nil s) fun x22 s =>
 condV x22
 (opt2 (oMov (.v (.int .i64 0)) rec PT.nil s) fun x23 s =>
 opt2 (oMov (.v (.bool false)) rec PT.nil s) fun x24 s =>
 some (.ret, (PT.put x24 t5 (PT.put x23 t4 (PT.put x22 t28 (PT.put x21 t27 (PT.put x20 t26 (PT.put x19 t6 (PT.put x18 t25 (PT.put x17 t24 (PT.put x16 t23 (PT.put x15 t22 (PT.put x14 t21 (PT.put x13 t20 (PT.put x12 t19 (PT.put x11 t18 (PT.put x8 t17 (PT.put x7 t16 (PT.put x6 t15 (PT.put x5 t14 (PT.put x4 t11 (PT.put x3 t10 (PT.put x2 t9 (PT.put x1 t8 fs)))))))))))))))))))))), s))
 (opt2 (oMov (.v (orU (fs.get t7))) rec PT.nil s) fun x25 s =>
 opt2 (oBin (int2 addO) (.v x25) (.v (.int .i64 1)) rec PT.nil s) fun x26 s =>
 opt2 (oMov (.v x26) rec PT.nil s) fun x27 s =>
 some (.norm, (PT.put x27 t7 (PT.put x26 t13 (PT.put x25 t12 (PT.put x22 t28 (PT.put x21 t27 (PT.put x20 t26 (PT.put x19 t6 (PT.put x18 t25 (PT.put x17 t24 (PT.put x16 t23 (PT.put x15 t22 (PT.put x14 t21 (PT.put x13 t20 (PT.put x12 t19 (PT.put x11 t18 (PT.put x8 t17 (PT.put x7 t16 (PT.put x6 t15 (PT.put x5 t14 (PT.put x4 t11 (PT.put x3 t10 (PT.put x2 t9 (PT.put x1 t8 fs))))))))))))))))))))))), s))))
 (some ((.exit 0), (PT.put x4 t11 (PT.put x3 t10 (PT.put x2 t9 (PT.put x1 t8 fs)))), s))
set_option maxHeartbeats 4000000 in
theorem d36_l0 (rec : Rec) (N : Nat) (fs : Frm) (s : St) : c36_l0 rec N fs s = D36_l0 rec N fs s := by
  simp (maxSteps := 4000000) only [c36_l0, lenN, x_seq, x_ops, x_skip, x_ret, x_exit, x_cond, x_block, x_loop, ops_c, ops_n, op1_u, op1_gj, rq_c, rq_n, opQ_u, opQ_g, op2_op2, op2_op, op2_s, op2_cond, thenX_n, thenX_e, thenX_r, blkX_n, blkX_r, blkX_e, finX_r, finX_n, res_n, res_t, op_s, Nat.beq_refl, cond_true]
  first | done | kernel_rfl
def D36_r0 (rec : Rec) (N : Nat) (fs : Frm) (s : St) : OutX := opt2 (oMov (.v (orU (fs.get t6))) rec PT.nil s) fun x1 s =>
 opt2 (oMov (.v x1) rec PT.nil s) fun x2 s =>
 opt2 (oMov (.v (.bool true)) rec PT.nil s) fun x3 s =>
 some (.ret, (PT.put x3 t5 (PT.put x2 t4 (PT.put x1 t29 fs))), s)
set_option maxHeartbeats 4000000 in
theorem d36_r0 (rec : Rec) (N : Nat) (fs : Frm) (s : St) : c36_r0 rec N fs s = D36_r0 rec N fs s := by
  simp (maxSteps := 4000000) only [c36_r0, lenN, x_seq, x_ops, x_skip, x_ret, x_exit, x_cond, x_block, x_loop, ops_c, ops_n, op1_u, op1_gj, rq_c, rq_n, opQ_u, opQ_g, op2_op2, op2_op, op2_s, op2_cond, thenX_n, thenX_e, thenX_r, blkX_n, blkX_r, blkX_e, finX_r, finX_n, res_n, res_t, op_s, Nat.beq_refl, cond_true]
  first | done | kernel_rfl
def D36 (rec : Rec) (N : Nat) (a0 : Value) (a1 : Value) (s : St) : Out := opt2 (oMov (.v (.int .i64 0)) rec PT.nil s) fun x1 s =>
 opt2 (oMov (.v (.bool false)) rec PT.nil s) fun x2 s =>
 opt2 (oMov (.v (.int .i64 0)) rec PT.nil s) fun x3 s =>
 opt2 (oMov (.v (.int .i64 0)) rec PT.nil s) fun x4 s =>
 opt2 (loopF (c36_l0 rec N) N (PT.put x4 t7 (PT.put x3 t6 (PT.put x2 t5 (PT.put x1 t4 (PT.put a1 t1 (PT.put a0 t0 PT.nil)))))) s) fun e r => opt2 (blkX 0 e r) fun e r => opt2 (thenX (c36_r0 rec N) e r) fun e r => finX [.tmp t4, .tmp t5] e r
set_option maxHeartbeats 4000000 in
theorem d36 (rec : Rec) (N : Nat) (a0 : Value) (a1 : Value) (s : St) : callF rec N c36 [a0, a1] s = D36 rec N a0 a1 s := by
  rw [call_f _ _ _ _ _ rfl]
  simp (maxSteps := 4000000) only [c36, lenN, x_seq, x_ops, x_skip, x_ret, x_exit, x_cond, x_block, x_loop, ops_c, ops_n, op1_u, op1_gj, rq_c, rq_n, opQ_u, opQ_g, op2_op2, op2_op, op2_s, op2_cond, thenX_n, thenX_e, thenX_r, blkX_n, blkX_r, blkX_e, finX_r, finX_n, res_n, res_t, op_s, Nat.beq_refl, cond_true]
  first | done | kernel_rfl
def J36_r0 (rec : Rec) (N : Nat) (k : Value) (s : St) : Out := some (oneOf [k, (.bool true)], s)
set_option maxHeartbeats 4000000 in
theorem j36_r0 (rec : Rec) (N : Nat) (fs : Frm) (s : St) : opt2 (c36_r0 rec N fs s) (fun e r => finX [.tmp t4, .tmp t5] e r) = J36_r0 rec N (orU (fs.get t6)) s := by
  rw [d36_r0]
  unfold D36_r0 J36_r0
  simp (maxSteps := 4000000) only [thenX_n, thenX_e, thenX_r, x_exit, x_skip, x_ret, blkX_n, blkX_r, blkX_e, finX_r, finX_n, res_n, res_t, op2_op2, op2_op, op2_s, op2_cond, op2_bf, mov_v]
  first | done | kernel_rfl
def B36_l0 (rec : Rec) (N : Nat) (k : Value × Value) (v : Value × Value × Value × Value) (s : St) : OutV (Value × Value × Value × Value) := opt2 (oLenS (.v k.1) rec PT.nil s) fun x1 s =>
 opt2 (oBin (int2 (cmpO ltI)) (.v v.2.2.2) (.v x1) rec PT.nil s) fun x2 s =>
 condV x2
 (opt2 (oBin (int2 quoO) (.v k.2) (.v (.int .i64 10)) rec PT.nil s) fun x3 s =>
 opt2 (oBin (int2 (cmpO gtI)) (.v v.2.2.1) (.v x3) rec PT.nil s) fun x4 s =>
 condV x4
 (some (.ret, (((.int .i64 0), (.bool false), v.2.2.1, v.2.2.2), s)))
 (opt2 (oBin (int2 mulO) (.v (.int .i64 10)) (.v v.2.2.1) rec PT.nil s) fun x5 s =>
 opt2 (oIdxS (.v k.1) (.v v.2.2.2) rec PT.nil s) fun x6 s =>
 opt2 (oBin (int2 subO) (.v x6) (.v (.int .u8 48)) rec PT.nil s) fun x7 s =>
 opt2 (oConv .i64 (.v x7) rec PT.nil s) fun x8 s =>
 opt2 (oBin (int2 addO) (.v x5) (.v x8) rec PT.nil s) fun x9 s =>
 opt2 (oBin (int2 (cmpO gtI)) (.v x9) (.v k.2) rec PT.nil s) fun x10 s =>
 condV x10
 (some (.ret, (((.int .i64 0), (.bool false), x9, v.2.2.2), s)))
 (opt2 (oBin (int2 addO) (.v v.2.2.2) (.v (.int .i64 1)) rec PT.nil s) fun x11 s =>
 some (.norm, ((v.1, v.2.1, x9, x11), s)))))
 (some ((.exit 0), ((v.1, v.2.1, v.2.2.1, v.2.2.2), s)))
set_option maxHeartbeats 4000000 in
theorem s36_l0 (rec : Rec) (N : Nat) (fs : Frm) (s : St) : opt2 (c36_l0 rec N fs s) (fun e r => some (e, (((orU (r.1.get t4), orU (r.1.get t5), orU (r.1.get t6), orU (r.1.get t7)), (orU (r.1.get t0), orU (r.1.get t1))), r.2))) = opt2 (B36_l0 rec N (orU (fs.get t0), orU (fs.get t1)) (orU (fs.get t4), orU (fs.get t5), orU (fs.get t6), orU (fs.get t7)) s) fun e r => some (e, ((r.1, (orU (fs.get t0), orU (fs.get t1))), r.2)) := by
  rw [d36_l0]
  unfold D36_l0 B36_l0
  simp (maxSteps := 4000000) only [op2_op2, op2_op, op2_s, op2_cond, op2_bf, mov_v]
  first | done | kernel_rfl
def C36_l0 (rec : Rec) (N : Nat) (k : Value × Value) (e : AExit) (r : (Value × Value × Value × Value) × St) : Out := (fun s => exV (fun i => bif Nat.beq i 0 then (J36_r0 rec N r.1.2.2.1 s)
 else (none))
 (some (oneOf [r.1.1, r.1.2.1], s)) e) r.2
theorem j36_l0 (rec : Rec) (N : Nat) (fs : Frm) (s : St) : opt2 (loopF (c36_l0 rec N) N fs s) (fun e r => opt2 (blkX 0 e r) fun e r => opt2 (thenX (c36_r0 rec N) e r) fun e r => finX [.tmp t4, .tmp t5] e r) = opt2 (loopV (B36_l0 rec N (orU (fs.get t0), orU (fs.get t1))) N (orU (fs.get t4), orU (fs.get t5), orU (fs.get t6), orU (fs.get t7)) s) (C36_l0 rec N (orU (fs.get t0), orU (fs.get t1))) := by
  refine loop_j (fun fs => (orU (fs.get t4), orU (fs.get t5), orU (fs.get t6), orU (fs.get t7))) (fun fs => (orU (fs.get t0), orU (fs.get t1))) (B36_l0 rec N) (c36_l0 rec N) (s36_l0 rec N) (fun e r => opt2 (blkX 0 e r) fun e r => opt2 (thenX (c36_r0 rec N) e r) fun e r => finX [.tmp t4, .tmp t5] e r) (C36_l0 rec N) ?_ ?_ N fs s
  · intro i fs s
    unfold C36_l0
    simp (maxSteps := 4000000) only [thenX_n, thenX_e, thenX_r, x_exit, x_skip, x_ret, blkX_n, blkX_r, blkX_e, finX_r, finX_n, res_n, res_t, exV_e, exV_r, op2_op2, op2_op, op2_s, op2_cond, op2_bf, mov_v, j36_r0 rec N]
    first | done | kernel_rfl
  · intro fs s
    unfold C36_l0
    simp (maxSteps := 4000000) only [thenX_n, thenX_e, thenX_r, x_exit, x_skip, x_ret, blkX_n, blkX_r, blkX_e, finX_r, finX_n, res_n, res_t, exV_e, exV_r, op2_op2, op2_op, op2_s, op2_cond, op2_bf, mov_v, j36_r0 rec N]
    first | done | kernel_rfl
def F36 (rec : Rec) (N : Nat) (a0 : Value) (a1 : Value) (s : St) : Out := opt2 (loopV (B36_l0 rec N (a0, a1)) N ((.int .i64 0), (.bool false), (.int .i64 0), (.int .i64 0)) s) (C36_l0 rec N (a0, a1))
theorem f36 (rec : Rec) (N : Nat) (a0 : Value) (a1 : Value) (s : St) : callF rec N c36 [a0, a1] s = F36 rec N a0 a1 s := by
  rw [d36]
  unfold D36 F36
  simp (maxSteps := 4000000) only [mov_v, op2_s, j36_l0 rec N]
  first | done | kernel_rfl
end
end Go.Proofs.Ytikdjhlcbkkkfaa.AbsLexO
