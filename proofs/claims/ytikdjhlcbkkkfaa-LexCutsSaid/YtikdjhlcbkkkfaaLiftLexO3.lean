import Derived.Test.YtikdjhlcbkkkfaaAbsLexOE
import Derived.Test.YtikdjhlcbkkkfaaAbsZL
namespace Go.Proofs.Ytikdjhlcbkkkfaa.AbsLexO
open Go Go.Abs Go.Proofs
set_option maxRecDepth 100000
set_option linter.unusedVariables false
set_option linter.unusedSimpArgs false
noncomputable section
-- c39
def D39_j0 (rec : Rec) (N : Nat) (fs : Frm) (s : St) : OutX := opt2 (oMov (.v (orU (fs.get t5))) rec PT.nil s) fun x1 s =>
 opt2 (oBin (int2 (cmpO gtI)) (.v x1) (.v (.int .i64 4503599627370496)) rec PT.nil s) fun x2 s =>
 condV x2
 (opt2 (oMov (.v (.int .i64 (-1))) rec PT.nil s) fun x3 s =>
 opt2 (oMov (.v (orU (fs.get t4))) rec PT.nil s) fun x4 s =>
 opt2 (oMov (.v x3) rec PT.nil s) fun x5 s =>
 opt2 (oMov (.v x4) rec PT.nil s) fun x6 s =>
 opt2 (oMov (.v x5) rec PT.nil s) fun x7 s =>
 some (.ret, (PT.put x7 t3 (PT.put x6 t2 (PT.put x5 t48 (PT.put x4 t47 (PT.put x3 t5 (PT.put x2 t46 (PT.put x1 t45 fs))))))), s))
 (opt2 (oMov (.v (orU (fs.get t4))) rec PT.nil s) fun x8 s =>
 opt2 (oMov (.v (orU (fs.get t5))) rec PT.nil s) fun x9 s =>
 opt2 (oMov (.v x8) rec PT.nil s) fun x10 s =>
 opt2 (oMov (.v x9) rec PT.nil s) fun x11 s =>
 some (.ret, (PT.put x11 t3 (PT.put x10 t2 (PT.put x9 t48 (PT.put x8 t47 (PT.put x2 t46 (PT.put x1 t45 fs)))))), s))
set_option maxHeartbeats 4000000 in
theorem d39_j0 (rec : Rec) (N : Nat) (fs : Frm) (s : St) : c39_j0 rec N fs s = D39_j0 rec N fs s := by
  simp (maxSteps := 4000000) only [c39_j0, lenN, x_seq, x_ops, x_skip, x_ret, x_exit, x_cond, x_block, x_loop, ops_c, ops_n, op1_u, op1_gj, rq_c, rq_n, opQ_u, opQ_g, op2_op2, op2_op, op2_s, op2_cond, thenX_n, thenX_e, thenX_r, blkX_n, blkX_r, blkX_e, finX_r, finX_n, res_n, res_t, op_s, Nat.beq_refl, cond_true]
  first | done | kernel_rfl
def D39 (rec : Rec) (N : Nat) (a0 : Value) (s : St) : Out := opt2 (oMov (.v (.int .i64 0)) rec PT.nil s) fun x1 s =>
 opt2 (oMov (.v (.int .i64 0)) rec PT.nil s) fun x2 s =>
 opt2 (oMov (.v a0) rec PT.nil s) fun x3 s =>
 opt2 (oSliceS (.v x3) (some (.v (.int .i64 1))) none rec PT.nil s) fun x4 s =>
 opt2 (rec 25 [x4, (.func (.func 30) #[] #[])] s) fun x5 s =>
 opt2 (oBin (int2 addO) (.v (.int .i64 1)) (.v x5) rec PT.nil s) fun x6 s =>
 opt2 (oMov (.v x6) rec PT.nil s) fun x7 s =>
 opt2 (oMov (.v a0) rec PT.nil s) fun x8 s =>
 opt2 (oIdxS (.v x8) (.v (.int .i64 0)) rec PT.nil s) fun x9 s =>
 opt2 (oBin (int2 (cmpO neI)) (.v x9) (.v (.int .u8 36)) rec PT.nil s) fun x10 s =>
 opt2 (oMov (.v x10) rec PT.nil s) fun x11 s =>
 opt (gval false x11) fun x12 => opt2 (orUndef x12 (oMov (.v x7) rec PT.nil s) s) fun x13 s =>
 opt (gval false x11) fun x14 => opt2 (orUndef x14 (oBin (int2 (cmpO eqI)) (.v x13) (.v (.int .i64 1)) rec PT.nil s) s) fun x15 s =>
 opt2 (oPick (.v x11) (.v (.bool true)) (.v x15) rec PT.nil s) fun x16 s =>
 condV x16
 (opt2 (oMov (.v (.int .i64 0)) rec PT.nil s) fun x17 s =>
 opt2 (oMov (.v (.int .i64 0)) rec PT.nil s) fun x18 s =>
 some (oneOf [x17, x18], s))
 (opt2 (oMov (.v a0) rec PT.nil s) fun x19 s =>
 opt2 (oMov (.v x7) rec PT.nil s) fun x20 s =>
 opt2 (oSliceS (.v x19) (some (.v (.int .i64 1))) (some (.v x20)) rec PT.nil s) fun x21 s =>
 opt2 (rec 42 [x21, (.int .i64 4503599627370496)] s) fun x22 s =>
 opt2 (oMov (.v x22) rec PT.nil s) fun x23 s =>
 opt2 (oMov (.v a0) rec PT.nil s) fun x24 s =>
 opt2 (oMov (.v x7) rec PT.nil s) fun x25 s =>
 opt2 (oSliceS (.v x24) (some (.v x25)) none rec PT.nil s) fun x26 s =>
 opt2 (rec 47 [x26, (.int .i64 2)] s) fun x27 s =>
 opt2 (oBin (int2 (cmpO eqI)) (.v x27) (.v (.int .i64 2)) rec PT.nil s) fun x28 s =>
 condV x28
 (opt2 (oMov (.v x23) rec PT.nil s) fun x29 s =>
 opt2 (oBin (int2 (cmpO geI)) (.v x29) (.v (.int .i64 0)) rec PT.nil s) fun x30 s =>
 condV x30
 (opt2 (oMov (.v x23) rec PT.nil s) fun x31 s =>
 opt2 (oBin (int2 mulO) (.v x31) (.v (.int .i64 100)) rec PT.nil s) fun x32 s =>
 opt2 (oMov (.v a0) rec PT.nil s) fun x33 s =>
 opt2 (oMov (.v x7) rec PT.nil s) fun x34 s =>
 opt2 (oBin (int2 addO) (.v x34) (.v (.int .i64 1)) rec PT.nil s) fun x35 s =>
 opt2 (oMov (.v x7) rec PT.nil s) fun x36 s =>
 opt2 (oBin (int2 addO) (.v x36) (.v (.int .i64 3)) rec PT.nil s) fun x37 s =>
 opt2 (oSliceS (.v x33) (some (.v x35)) (some (.v x37)) rec PT.nil s) fun x38 s =>
 opt2 (rec 42 [x38, (.int .i64 100)] s) fun x39 s =>
 opt2 (oBin (int2 addO) (.v x32) (.v x39) rec PT.nil s) fun x40 s =>
 opt2 (oMov (.v x40) rec PT.nil s) fun x41 s =>
 opt2 (oMov (.v x7) rec PT.nil s) fun x42 s =>
 opt2 (oBin (int2 addO) (.v x42) (.v (.int .i64 3)) rec PT.nil s) fun x43 s =>
 opt2 (oMov (.v x43) rec PT.nil s) fun x44 s =>
 opt2 (c39_j0 rec N (PT.put x44 t4 (PT.put x43 t39 (PT.put x42 t38 (PT.put x41 t5 (PT.put x40 t37 (PT.put x39 t36 (PT.put x38 t35 (PT.put x37 t34 (PT.put x36 t33 (PT.put x35 t32 (PT.put x34 t31 (PT.put x33 t30 (PT.put x32 t29 (PT.put x31 t28 (PT.put x30 t27 (PT.put x29 t26 (PT.put x28 t25 (PT.put x27 t24 (PT.put x26 t23 (PT.put x25 t22 (PT.put x24 t21 (PT.put x23 t5 (PT.put x22 t20 (PT.put x21 t19 (PT.put x20 t18 (PT.put x19 t17 (PT.put x16 t16 (PT.put x15 t15 (PT.put x13 t14 (PT.put x11 t13 (PT.put x10 t12 (PT.put x9 t11 (PT.put x8 t10 (PT.put x7 t4 (PT.put x6 t9 (PT.put x5 t8 (PT.put x4 t7 (PT.put x3 t6 (PT.put x2 t3 (PT.put x1 t2 (PT.put a0 t0 PT.nil))))))))))))))))))))))))))))))))))))))))) s) fun e r => finX [.tmp t2, .tmp t3] e r)
 (opt2 (oMov (.v x7) rec PT.nil s) fun x45 s =>
 opt2 (oBin (int2 addO) (.v x45) (.v (.int .i64 3)) rec PT.nil s) fun x46 s =>
 opt2 (oMov (.v x46) rec PT.nil s) fun x47 s =>
 opt2 (c39_j0 rec N (PT.put x47 t4 (PT.put x46 t39 (PT.put x45 t38 (PT.put x30 t27 (PT.put x29 t26 (PT.put x28 t25 (PT.put x27 t24 (PT.put x26 t23 (PT.put x25 t22 (PT.put x24 t21 (PT.put x23 t5 (PT.put x22 t20 (PT.put x21 t19 (PT.put x20 t18 (PT.put x19 t17 (PT.put x16 t16 (PT.put x15 t15 (PT.put x13 t14 (PT.put x11 t13 (PT.put x10 t12 (PT.put x9 t11 (PT.put x8 t10 (PT.put x7 t4 (PT.put x6 t9 (PT.put x5 t8 (PT.put x4 t7 (PT.put x3 t6 (PT.put x2 t3 (PT.put x1 t2 (PT.put a0 t0 PT.nil)))))))))))))))))))))))))))))) s) fun e r => finX [.tmp t2, .tmp t3] e r))
 (opt2 (oMov (.v x23) rec PT.nil s) fun x48 s =>
 opt2 (oBin (int2 (cmpO geI)) (.v x48) (.v (.int .i64 0)) rec PT.nil s) fun x49 s =>
 condV x49
 (opt2 (oMov (.v x23) rec PT.nil s) fun x50 s =>
 opt2 (oMM false (.v x50) [(.v (.int .i64 4503599627370496))] rec PT.nil s) fun x51 s =>
 opt2 (oBin (int2 mulO) (.v x51) (.v (.int .i64 100)) rec PT.nil s) fun x52 s =>
 opt2 (oMov (.v x52) rec PT.nil s) fun x53 s =>
 opt2 (c39_j0 rec N (PT.put x53 t5 (PT.put x52 t44 (PT.put x51 t43 (PT.put x50 t42 (PT.put x49 t41 (PT.put x48 t40 (PT.put x28 t25 (PT.put x27 t24 (PT.put x26 t23 (PT.put x25 t22 (PT.put x24 t21 (PT.put x23 t5 (PT.put x22 t20 (PT.put x21 t19 (PT.put x20 t18 (PT.put x19 t17 (PT.put x16 t16 (PT.put x15 t15 (PT.put x13 t14 (PT.put x11 t13 (PT.put x10 t12 (PT.put x9 t11 (PT.put x8 t10 (PT.put x7 t4 (PT.put x6 t9 (PT.put x5 t8 (PT.put x4 t7 (PT.put x3 t6 (PT.put x2 t3 (PT.put x1 t2 (PT.put a0 t0 PT.nil))))))))))))))))))))))))))))))) s) fun e r => finX [.tmp t2, .tmp t3] e r)
 (opt2 (c39_j0 rec N (PT.put x49 t41 (PT.put x48 t40 (PT.put x28 t25 (PT.put x27 t24 (PT.put x26 t23 (PT.put x25 t22 (PT.put x24 t21 (PT.put x23 t5 (PT.put x22 t20 (PT.put x21 t19 (PT.put x20 t18 (PT.put x19 t17 (PT.put x16 t16 (PT.put x15 t15 (PT.put x13 t14 (PT.put x11 t13 (PT.put x10 t12 (PT.put x9 t11 (PT.put x8 t10 (PT.put x7 t4 (PT.put x6 t9 (PT.put x5 t8 (PT.put x4 t7 (PT.put x3 t6 (PT.put x2 t3 (PT.put x1 t2 (PT.put a0 t0 PT.nil))))))))))))))))))))))))))) s) fun e r => finX [.tmp t2, .tmp t3] e r)))
set_option maxHeartbeats 4000000 in
theorem d39 (rec : Rec) (N : Nat) (a0 : Value) (s : St) : callF rec N c39 [a0] s = D39 rec N a0 s := by
  rw [call_f _ _ _ _ _ rfl]
  simp (maxSteps := 4000000) only [c39, lenN, x_seq, x_ops, x_skip, x_ret, x_exit, x_cond, x_block, x_loop, ops_c, ops_n, op1_u, op1_gj, rq_c, rq_n, opQ_u, opQ_g, op2_op2, op2_op, op2_s, op2_cond, thenX_n, thenX_e, thenX_r, blkX_n, blkX_r, blkX_e, finX_r, finX_n, res_n, res_t, op_s, Nat.beq_refl, cond_true]
  first | done | kernel_rfl
def J39_j0 (rec : Rec) (N : Nat) (k : Value × Value) (s : St) : Out := opt2 (oBin (int2 (cmpO gtI)) (.v k.2) (.v (.int .i64 4503599627370496)) rec PT.nil s) fun x1 s =>
 condV x1
 (some (oneOf [k.1, (.int .i64 (-1))], s))
 (some (oneOf [k.1, k.2], s))
set_option maxHeartbeats 4000000 in
theorem j39_j0 (rec : Rec) (N : Nat) (fs : Frm) (s : St) : opt2 (c39_j0 rec N fs s) (fun e r => finX [.tmp t2, .tmp t3] e r) = J39_j0 rec N (orU (fs.get t4), orU (fs.get t5)) s := by
  rw [d39_j0]
  unfold D39_j0 J39_j0
  simp (maxSteps := 4000000) only [thenX_n, thenX_e, thenX_r, x_exit, x_skip, x_ret, blkX_n, blkX_r, blkX_e, finX_r, finX_n, res_n, res_t, op2_op2, op2_op, op2_s, op2_cond, op2_bf, mov_v]
  first | done | kernel_rfl
def F39 (rec : Rec) (N : Nat) (a0 : Value) (s : St) : Out := opt2 (oSliceS (.v a0) (some (.v (.int .i64 1))) none rec PT.nil s) fun x1 s =>
 opt2 (rec 25 [x1, (.func (.func 30) #[] #[])] s) fun x2 s =>
 opt2 (oBin (int2 addO) (.v (.int .i64 1)) (.v x2) rec PT.nil s) fun x3 s =>
 opt2 (oIdxS (.v a0) (.v (.int .i64 0)) rec PT.nil s) fun x4 s =>
 opt2 (oBin (int2 (cmpO neI)) (.v x4) (.v (.int .u8 36)) rec PT.nil s) fun x5 s =>
 opt (gval false x5) fun x6 => opt2 (orUndef x6 (some (x3, s)) s) fun x7 s =>
 opt (gval false x5) fun x8 => opt2 (orUndef x8 (oBin (int2 (cmpO eqI)) (.v x7) (.v (.int .i64 1)) rec PT.nil s) s) fun x9 s =>
 opt2 (oPick (.v x5) (.v (.bool true)) (.v x9) rec PT.nil s) fun x10 s =>
 condV x10
 (some (oneOf [(.int .i64 0), (.int .i64 0)], s))
 (opt2 (oSliceS (.v a0) (some (.v (.int .i64 1))) (some (.v x3)) rec PT.nil s) fun x11 s =>
 opt2 (rec 42 [x11, (.int .i64 4503599627370496)] s) fun x12 s =>
 opt2 (oSliceS (.v a0) (some (.v x3)) none rec PT.nil s) fun x13 s =>
 opt2 (rec 47 [x13, (.int .i64 2)] s) fun x14 s =>
 opt2 (oBin (int2 (cmpO eqI)) (.v x14) (.v (.int .i64 2)) rec PT.nil s) fun x15 s =>
 condV x15
 (opt2 (oBin (int2 (cmpO geI)) (.v x12) (.v (.int .i64 0)) rec PT.nil s) fun x16 s =>
 condV x16
 (opt2 (oBin (int2 mulO) (.v x12) (.v (.int .i64 100)) rec PT.nil s) fun x17 s =>
 opt2 (oBin (int2 addO) (.v x3) (.v (.int .i64 1)) rec PT.nil s) fun x18 s =>
 opt2 (oBin (int2 addO) (.v x3) (.v (.int .i64 3)) rec PT.nil s) fun x19 s =>
 opt2 (oSliceS (.v a0) (some (.v x18)) (some (.v x19)) rec PT.nil s) fun x20 s =>
 opt2 (rec 42 [x20, (.int .i64 100)] s) fun x21 s =>
 opt2 (oBin (int2 addO) (.v x17) (.v x21) rec PT.nil s) fun x22 s =>
 opt2 (oBin (int2 addO) (.v x3) (.v (.int .i64 3)) rec PT.nil s) fun x23 s =>
 J39_j0 rec N (x23, x22) s)
 (opt2 (oBin (int2 addO) (.v x3) (.v (.int .i64 3)) rec PT.nil s) fun x24 s =>
 J39_j0 rec N (x24, x12) s))
 (opt2 (oBin (int2 (cmpO geI)) (.v x12) (.v (.int .i64 0)) rec PT.nil s) fun x25 s =>
 condV x25
 (opt2 (oMM false (.v x12) [(.v (.int .i64 4503599627370496))] rec PT.nil s) fun x26 s =>
 opt2 (oBin (int2 mulO) (.v x26) (.v (.int .i64 100)) rec PT.nil s) fun x27 s =>
 J39_j0 rec N (x3, x27) s)
 (J39_j0 rec N (x3, x12) s)))
theorem f39 (rec : Rec) (N : Nat) (a0 : Value) (s : St) : callF rec N c39 [a0] s = F39 rec N a0 s := by
  rw [d39]
  unfold D39 F39
  simp (maxSteps := 4000000) only [mov_v, op2_s, j39_j0 rec N]
  first | done | kernel_rfl
-- c40
theorem q40_g0 (rec : Rec) (n : Nat) (fs : Frm) (s : St) : xReg c40_g0 [(0, 1), (0, 2), (1, 2), (0, 3), (1, 3), (0, 4), (1, 4), (2, 4), (3, 4), (0, 5), (0, 6), (1, 6), (2, 6), (3, 6), (4, 6), (5, 6), (0, 7), (1, 7), (2, 7), (3, 7), (4, 7), (5, 7), (0, 8), (1, 8), (2, 8), (3, 8), (4, 8), (5, 8), (0, 9), (0, 10)] rec n fs s = opt2 (runQ rec [⟨(some t49), oMov (.t t7), none, none⟩,
   ⟨(some t50), oMov (.t t0), none, none⟩,
   ⟨(some t51), oMov (.t t4), none, none⟩,
   ⟨(some t52), oBin (int2 addO) (.t t51) (.v (.int .i64 1)), none, none⟩,
   ⟨(some t53), oMov (.t t6), none, none⟩,
   ⟨(some t54), oSliceS (.t t50) (some (.t t52)) (some (.t t53)), none, none⟩,
   ⟨(some t55), oMov (.t t5), none, none⟩,
   ⟨(some t56), oBin (int2 subO) (.v (.int .i64 4)) (.t t55), none, none⟩,
   ⟨(some t57), oCall 48 [(.v (.string ⟨⟨[48]⟩⟩)), (.t t56)], none, none⟩,
   ⟨(some t58), oBin (str2 catO) (.t t54) (.t t57), none, none⟩,
   ⟨(some t59), oCall 42 [(.t t58), (.v (.int .i64 10000))], none, none⟩,
   ⟨(some t60), oBin (int2 addO) (.t t49) (.t t59), none, none⟩,
   ⟨(some t7), oMov (.t t60), none, none⟩] fs s) fun fs s => some (.norm, fs, s) :=
 reg_q (ks := [0, 0, 0, 0, 0, 0, 0, 0, 2, 0, 2, 0, 0]) (okc (ok0 (qv_mov (.t t7)) rfl)
 (okc (ok0 (qv_mov (.t t0)) rfl)
 (okc (ok0 (qv_mov (.t t4)) rfl)
 (okc (ok0 (qv_bin (int2 addO) (.t t51) (.v (.int .i64 1))) rfl)
 (okc (ok0 (qv_mov (.t t6)) rfl)
 (okc (ok0 (qv_slices (.t t50) (some (.t t52)) (some (.t t53))) rfl)
 (okc (ok0 (qv_mov (.t t5)) rfl)
 (okc (ok0 (qv_bin (int2 subO) (.v (.int .i64 4)) (.t t55)) rfl)
 (okc (ok2 rfl)
 (okc (ok0 (qv_bin (str2 catO) (.t t54) (.t t57)) rfl)
 (okc (ok2 rfl)
 (okc (ok0 (qv_bin (int2 addO) (.t t49) (.t t59)) rfl)
 (okc (ok0 (qv_mov (.t t60)) rfl)
 okn))))))))))))) (by kernel_rfl) rec n fs s
def D40_j0 (rec : Rec) (N : Nat) (fs : Frm) (s : St) : OutX := opt2 (oMov (.v (orU (fs.get t4))) rec PT.nil s) fun x1 s =>
 opt2 (oBin (int2 (cmpO eqI)) (.v x1) (.v (.int .i64 0)) rec PT.nil s) fun x2 s =>
 opt2 (oMov (.v x2) rec PT.nil s) fun x3 s =>
 opt (gval false x3) fun x4 => opt2 (orUndef x4 (oMov (.v (orU (fs.get t6))) rec PT.nil s) s) fun x5 s =>
 opt (gval false x3) fun x6 => opt2 (orUndef x6 (oMov (.v (orU (fs.get t0))) rec PT.nil s) s) fun x7 s =>
 opt (gval false x3) fun x8 => opt2 (orUndef x8 (oLenS (.v x7) rec PT.nil s) s) fun x9 s =>
 opt (gval false x3) fun x10 => opt2 (orUndef x10 (oBin (int2 (cmpO geI)) (.v x5) (.v x9) rec PT.nil s) s) fun x11 s =>
 opt2 (oPick (.v x3) (.v (.bool true)) (.v x11) rec PT.nil s) fun x12 s =>
 opt2 (oMov (.v x12) rec PT.nil s) fun x13 s =>
 opt (gval false x13) fun x14 => opt2 (orUndef x14 (oMov (.v (orU (fs.get t0))) rec PT.nil s) s) fun x15 s =>
 opt (gval false x13) fun x16 => opt2 (orUndef x16 (oMov (.v (orU (fs.get t6))) rec PT.nil s) s) fun x17 s =>
 opt (gval false x13) fun x18 => opt2 (orUndef x18 (oIdxS (.v x15) (.v x17) rec PT.nil s) s) fun x19 s =>
 opt (gval false x13) fun x20 => opt2 (orUndef x20 (oBin (int2 (cmpO neI)) (.v x19) (.v (.int .u8 37)) rec PT.nil s) s) fun x21 s =>
 opt2 (oPick (.v x13) (.v (.bool true)) (.v x21) rec PT.nil s) fun x22 s =>
 condV x22
 (opt2 (oMov (.v (.int .i64 0)) rec PT.nil s) fun x23 s =>
 opt2 (oMov (.v (.int .i64 0)) rec PT.nil s) fun x24 s =>
 some (.ret, (PT.put x24 t3 (PT.put x23 t2 (PT.put x22 t34 (PT.put x21 t33 (PT.put x19 t32 (PT.put x17 t31 (PT.put x15 t30 (PT.put x13 t29 (PT.put x12 t28 (PT.put x11 t27 (PT.put x9 t26 (PT.put x7 t25 (PT.put x5 t24 (PT.put x3 t23 (PT.put x2 t22 (PT.put x1 t21 fs)))))))))))))))), s))
 (opt2 (oMov (.v (orU (fs.get t0))) rec PT.nil s) fun x25 s =>
 opt2 (oMov (.v (orU (fs.get t4))) rec PT.nil s) fun x26 s =>
 opt2 (oSliceS (.v x25) none (some (.v x26)) rec PT.nil s) fun x27 s =>
 opt2 (rec 42 [x27, (.int .i64 1000000000000)] s) fun x28 s =>
 opt2 (oMov (.v x28) rec PT.nil s) fun x29 s =>
 opt2 (oMov (.v x29) rec PT.nil s) fun x30 s =>
 opt2 (oBin (int2 (cmpO geI)) (.v x30) (.v (.int .i64 0)) rec PT.nil s) fun x31 s =>
 condV x31
 (opt2 (oMov (.v x29) rec PT.nil s) fun x32 s =>
 opt2 (oBin (int2 mulO) (.v x32) (.v (.int .i64 10000)) rec PT.nil s) fun x33 s =>
 opt2 (oMov (.v x33) rec PT.nil s) fun x34 s =>
 opt2 (oMov (.v x34) rec PT.nil s) fun x35 s =>
 opt2 (oBin (int2 (cmpO leI)) (.v x35) (.v (.int .i64 1000000000000)) rec PT.nil s) fun x36 s =>
 opt2 (oMov (.v x36) rec PT.nil s) fun x37 s =>
 opt (gval true x37) fun x38 => opt2 (orUndef x38 (oMov (.v (orU (fs.get t5))) rec PT.nil s) s) fun x39 s =>
 opt (gval true x37) fun x40 => opt2 (orUndef x40 (oBin (int2 (cmpO gtI)) (.v x39) (.v (.int .i64 0)) rec PT.nil s) s) fun x41 s =>
 opt2 (oPick (.v x37) (.v x41) (.v (.bool false)) rec PT.nil s) fun x42 s =>
 condV x42
 (opt2 (oMov (.v x34) rec PT.nil s) fun x43 s =>
 opt2 (oMov (.v (orU (fs.get t0))) rec PT.nil s) fun x44 s =>
 opt2 (oMov (.v (orU (fs.get t4))) rec PT.nil s) fun x45 s =>
 opt2 (oBin (int2 addO) (.v x45) (.v (.int .i64 1)) rec PT.nil s) fun x46 s =>
 opt2 (oMov (.v (orU (fs.get t6))) rec PT.nil s) fun x47 s =>
 opt2 (oSliceS (.v x44) (some (.v x46)) (some (.v x47)) rec PT.nil s) fun x48 s =>
 opt2 (oMov (.v (orU (fs.get t5))) rec PT.nil s) fun x49 s =>
 opt2 (oBin (int2 subO) (.v (.int .i64 4)) (.v x49) rec PT.nil s) fun x50 s =>
 opt2 (rV (rec 48 [(.string ⟨⟨[48]⟩⟩), x50] (z0 s)) s) fun x51 s =>
 opt2 (oBin (str2 catO) (.v x48) (.v x51) rec PT.nil s) fun x52 s =>
 opt2 (rV (rec 42 [x52, (.int .i64 10000)] (z0 s)) s) fun x53 s =>
 opt2 (oBin (int2 addO) (.v x43) (.v x53) rec PT.nil s) fun x54 s =>
 opt2 (oMov (.v x54) rec PT.nil s) fun x55 s =>
 opt2 (oMov (.v x55) rec PT.nil s) fun x56 s =>
 opt2 (oBin (int2 (cmpO gtI)) (.v x56) (.v (.int .i64 1000000000000)) rec PT.nil s) fun x57 s =>
 condV x57
 (opt2 (oMov (.v (.int .i64 (-1))) rec PT.nil s) fun x58 s =>
 opt2 (oMov (.v (orU (fs.get t6))) rec PT.nil s) fun x59 s =>
 opt2 (oBin (int2 addO) (.v x59) (.v (.int .i64 1)) rec PT.nil s) fun x60 s =>
 opt2 (oMov (.v x58) rec PT.nil s) fun x61 s =>
 opt2 (oMov (.v x60) rec PT.nil s) fun x62 s =>
 opt2 (oMov (.v x61) rec PT.nil s) fun x63 s =>
 some (.ret, (PT.put x63 t3 (PT.put x62 t2 (PT.put x61 t65 (PT.put x60 t64 (PT.put x59 t63 (PT.put x58 t7 (PT.put x57 t62 (PT.put x56 t61 (PT.put x55 t7 (PT.put x54 t60 (PT.put x53 t59 (PT.put x52 t58 (PT.put x51 t57 (PT.put x50 t56 (PT.put x49 t55 (PT.put x48 t54 (PT.put x47 t53 (PT.put x46 t52 (PT.put x45 t51 (PT.put x44 t50 (PT.put x43 t49 (PT.put x42 t48 (PT.put x41 t47 (PT.put x39 t46 (PT.put x37 t45 (PT.put x36 t44 (PT.put x35 t43 (PT.put x34 t7 (PT.put x33 t42 (PT.put x32 t41 (PT.put x31 t40 (PT.put x30 t39 (PT.put x29 t7 (PT.put x28 t38 (PT.put x27 t37 (PT.put x26 t36 (PT.put x25 t35 (PT.put x22 t34 (PT.put x21 t33 (PT.put x19 t32 (PT.put x17 t31 (PT.put x15 t30 (PT.put x13 t29 (PT.put x12 t28 (PT.put x11 t27 (PT.put x9 t26 (PT.put x7 t25 (PT.put x5 t24 (PT.put x3 t23 (PT.put x2 t22 (PT.put x1 t21 fs))))))))))))))))))))))))))))))))))))))))))))))))))), s))
 (opt2 (oMov (.v (orU (fs.get t6))) rec PT.nil s) fun x64 s =>
 opt2 (oBin (int2 addO) (.v x64) (.v (.int .i64 1)) rec PT.nil s) fun x65 s =>
 opt2 (oMov (.v x55) rec PT.nil s) fun x66 s =>
 opt2 (oMov (.v x65) rec PT.nil s) fun x67 s =>
 opt2 (oMov (.v x66) rec PT.nil s) fun x68 s =>
 some (.ret, (PT.put x68 t3 (PT.put x67 t2 (PT.put x66 t65 (PT.put x65 t64 (PT.put x64 t63 (PT.put x57 t62 (PT.put x56 t61 (PT.put x55 t7 (PT.put x54 t60 (PT.put x53 t59 (PT.put x52 t58 (PT.put x51 t57 (PT.put x50 t56 (PT.put x49 t55 (PT.put x48 t54 (PT.put x47 t53 (PT.put x46 t52 (PT.put x45 t51 (PT.put x44 t50 (PT.put x43 t49 (PT.put x42 t48 (PT.put x41 t47 (PT.put x39 t46 (PT.put x37 t45 (PT.put x36 t44 (PT.put x35 t43 (PT.put x34 t7 (PT.put x33 t42 (PT.put x32 t41 (PT.put x31 t40 (PT.put x30 t39 (PT.put x29 t7 (PT.put x28 t38 (PT.put x27 t37 (PT.put x26 t36 (PT.put x25 t35 (PT.put x22 t34 (PT.put x21 t33 (PT.put x19 t32 (PT.put x17 t31 (PT.put x15 t30 (PT.put x13 t29 (PT.put x12 t28 (PT.put x11 t27 (PT.put x9 t26 (PT.put x7 t25 (PT.put x5 t24 (PT.put x3 t23 (PT.put x2 t22 (PT.put x1 t21 fs)))))))))))))))))))))))))))))))))))))))))))))))))), s)))
 (opt2 (oMov (.v x34) rec PT.nil s) fun x69 s =>
 opt2 (oBin (int2 (cmpO gtI)) (.v x69) (.v (.int .i64 1000000000000)) rec PT.nil s) fun x70 s =>
 condV x70
 (opt2 (oMov (.v (.int .i64 (-1))) rec PT.nil s) fun x71 s =>
 opt2 (oMov (.v (orU (fs.get t6))) rec PT.nil s) fun x72 s =>
 opt2 (oBin (int2 addO) (.v x72) (.v (.int .i64 1)) rec PT.nil s) fun x73 s =>
 opt2 (oMov (.v x71) rec PT.nil s) fun x74 s =>
 opt2 (oMov (.v x73) rec PT.nil s) fun x75 s =>
 opt2 (oMov (.v x74) rec PT.nil s) fun x76 s =>
 some (.ret, (PT.put x76 t3 (PT.put x75 t2 (PT.put x74 t65 (PT.put x73 t64 (PT.put x72 t63 (PT.put x71 t7 (PT.put x70 t62 (PT.put x69 t61 (PT.put x42 t48 (PT.put x41 t47 (PT.put x39 t46 (PT.put x37 t45 (PT.put x36 t44 (PT.put x35 t43 (PT.put x34 t7 (PT.put x33 t42 (PT.put x32 t41 (PT.put x31 t40 (PT.put x30 t39 (PT.put x29 t7 (PT.put x28 t38 (PT.put x27 t37 (PT.put x26 t36 (PT.put x25 t35 (PT.put x22 t34 (PT.put x21 t33 (PT.put x19 t32 (PT.put x17 t31 (PT.put x15 t30 (PT.put x13 t29 (PT.put x12 t28 (PT.put x11 t27 (PT.put x9 t26 (PT.put x7 t25 (PT.put x5 t24 (PT.put x3 t23 (PT.put x2 t22 (PT.put x1 t21 fs)))))))))))))))))))))))))))))))))))))), s))
 (opt2 (oMov (.v (orU (fs.get t6))) rec PT.nil s) fun x77 s =>
 opt2 (oBin (int2 addO) (.v x77) (.v (.int .i64 1)) rec PT.nil s) fun x78 s =>
 opt2 (oMov (.v x34) rec PT.nil s) fun x79 s =>
 opt2 (oMov (.v x78) rec PT.nil s) fun x80 s =>
 opt2 (oMov (.v x79) rec PT.nil s) fun x81 s =>
 some (.ret, (PT.put x81 t3 (PT.put x80 t2 (PT.put x79 t65 (PT.put x78 t64 (PT.put x77 t63 (PT.put x70 t62 (PT.put x69 t61 (PT.put x42 t48 (PT.put x41 t47 (PT.put x39 t46 (PT.put x37 t45 (PT.put x36 t44 (PT.put x35 t43 (PT.put x34 t7 (PT.put x33 t42 (PT.put x32 t41 (PT.put x31 t40 (PT.put x30 t39 (PT.put x29 t7 (PT.put x28 t38 (PT.put x27 t37 (PT.put x26 t36 (PT.put x25 t35 (PT.put x22 t34 (PT.put x21 t33 (PT.put x19 t32 (PT.put x17 t31 (PT.put x15 t30 (PT.put x13 t29 (PT.put x12 t28 (PT.put x11 t27 (PT.put x9 t26 (PT.put x7 t25 (PT.put x5 t24 (PT.put x3 t23 (PT.put x2 t22 (PT.put x1 t21 fs))))))))))))))))))))))))))))))))))))), s))))
 (opt2 (oMov (.v x29) rec PT.nil s) fun x82 s =>
 opt2 (oBin (int2 (cmpO gtI)) (.v x82) (.v (.int .i64 1000000000000)) rec PT.nil s) fun x83 s =>
 condV x83
 (opt2 (oMov (.v (.int .i64 (-1))) rec PT.nil s) fun x84 s =>
 opt2 (oMov (.v (orU (fs.get t6))) rec PT.nil s) fun x85 s =>
 opt2 (oBin (int2 addO) (.v x85) (.v (.int .i64 1)) rec PT.nil s) fun x86 s =>
 opt2 (oMov (.v x84) rec PT.nil s) fun x87 s =>
 opt2 (oMov (.v x86) rec PT.nil s) fun x88 s =>
 opt2 (oMov (.v x87) rec PT.nil s) fun x89 s =>
 some (.ret, (PT.put x89 t3 (PT.put x88 t2 (PT.put x87 t65 (PT.put x86 t64 (PT.put x85 t63 (PT.put x84 t7 (PT.put x83 t62 (PT.put x82 t61 (PT.put x31 t40 (PT.put x30 t39 (PT.put x29 t7 (PT.put x28 t38 (PT.put x27 t37 (PT.put x26 t36 (PT.put x25 t35 (PT.put x22 t34 (PT.put x21 t33 (PT.put x19 t32 (PT.put x17 t31 (PT.put x15 t30 (PT.put x13 t29 (PT.put x12 t28 (PT.put x11 t27 (PT.put x9 t26 (PT.put x7 t25 (PT.put x5 t24 (PT.put x3 t23 (PT.put x2 t22 (PT.put x1 t21 fs))))))))))))))))))))))))))))), s))
 (opt2 (oMov (.v (orU (fs.get t6))) rec PT.nil s) fun x90 s =>
 opt2 (oBin (int2 addO) (.v x90) (.v (.int .i64 1)) rec PT.nil s) fun x91 s =>
 opt2 (oMov (.v x29) rec PT.nil s) fun x92 s =>
 opt2 (oMov (.v x91) rec PT.nil s) fun x93 s =>
 opt2 (oMov (.v x92) rec PT.nil s) fun x94 s =>
 some (.ret, (PT.put x94 t3 (PT.put x93 t2 (PT.put x92 t65 (PT.put x91 t64 (PT.put x90 t63 (PT.put x83 t62 (PT.put x82 t61 (PT.put x31 t40 (PT.put x30 t39 (PT.put x29 t7 (PT.put x28 t38 (PT.put x27 t37 (PT.put x26 t36 (PT.put x25 t35 (PT.put x22 t34 (PT.put x21 t33 (PT.put x19 t32 (PT.put x17 t31 (PT.put x15 t30 (PT.put x13 t29 (PT.put x12 t28 (PT.put x11 t27 (PT.put x9 t26 (PT.put x7 t25 (PT.put x5 t24 (PT.put x3 t23 (PT.put x2 t22 (PT.put x1 t21 fs)))))))))))))))))))))))))))), s))))
set_option maxHeartbeats 4000000 in
theorem d40_j0 (rec : Rec) (N : Nat) (fs : Frm) (s : St) : c40_j0 rec N fs s = D40_j0 rec N fs s := by
  simp (maxSteps := 4000000) only [c40_j0, lenN, x_seq, x_ops, x_skip, x_ret, x_exit, x_cond, x_block, x_loop, ops_c, ops_n, op1_u, op1_gj, rq_c, rq_n, opQ_u, opQ_g, op2_op2, op2_op, op2_s, op2_cond, thenX_n, thenX_e, thenX_r, blkX_n, blkX_r, blkX_e, finX_r, finX_n, res_n, res_t, op_s, Nat.beq_refl, cond_true, q40_g0, sm_bin, sm_box, sm_build, sm_buildslice, sm_bytesstr, sm_compl, sm_conv, sm_eqs, sm_eqv, sm_ext, sm_extract, sm_field, sm_fieldaddr, sm_func, sm_idxaa, sm_idxl, sm_idxs, sm_iface, sm_lenc, sm_lenl, sm_lens, sm_load1, sm_loadn, sm_mm, sm_mov, sm_neg, sm_new, sm_nil, sm_not, sm_pick, sm_same, sm_slices, sm_store]
  first | done | kernel_rfl
def D40 (rec : Rec) (N : Nat) (a0 : Value) (s : St) : Out := opt2 (oMov (.v (.int .i64 0)) rec PT.nil s) fun x1 s =>
 opt2 (oMov (.v (.int .i64 0)) rec PT.nil s) fun x2 s =>
 opt2 (oMov (.v a0) rec PT.nil s) fun x3 s =>
 opt2 (rec 25 [x3, (.func (.func 30) #[] #[])] s) fun x4 s =>
 opt2 (oMov (.v x4) rec PT.nil s) fun x5 s =>
 opt2 (oMov (.v a0) rec PT.nil s) fun x6 s =>
 opt2 (oMov (.v x5) rec PT.nil s) fun x7 s =>
 opt2 (oSliceS (.v x6) (some (.v x7)) none rec PT.nil s) fun x8 s =>
 opt2 (rec 47 [x8, (.int .i64 4)] s) fun x9 s =>
 opt2 (oMov (.v x9) rec PT.nil s) fun x10 s =>
 opt2 (oMov (.v x5) rec PT.nil s) fun x11 s =>
 opt2 (oMov (.v x11) rec PT.nil s) fun x12 s =>
 opt2 (oMov (.v x10) rec PT.nil s) fun x13 s =>
 opt2 (oBin (int2 (cmpO gtI)) (.v x13) (.v (.int .i64 0)) rec PT.nil s) fun x14 s =>
 condV x14
 (opt2 (oMov (.v x12) rec PT.nil s) fun x15 s =>
 opt2 (oMov (.v x10) rec PT.nil s) fun x16 s =>
 opt2 (oBin (int2 addO) (.v (.int .i64 1)) (.v x16) rec PT.nil s) fun x17 s =>
 opt2 (oBin (int2 addO) (.v x15) (.v x17) rec PT.nil s) fun x18 s =>
 opt2 (oMov (.v x18) rec PT.nil s) fun x19 s =>
 opt2 (c40_j0 rec N (PT.put x19 t6 (PT.put x18 t20 (PT.put x17 t19 (PT.put x16 t18 (PT.put x15 t17 (PT.put x14 t16 (PT.put x13 t15 (PT.put x12 t6 (PT.put x11 t14 (PT.put x10 t5 (PT.put x9 t13 (PT.put x8 t12 (PT.put x7 t11 (PT.put x6 t10 (PT.put x5 t4 (PT.put x4 t9 (PT.put x3 t8 (PT.put x2 t3 (PT.put x1 t2 (PT.put a0 t0 PT.nil)))))))))))))))))))) s) fun e r => finX [.tmp t2, .tmp t3] e r)
 (opt2 (c40_j0 rec N (PT.put x14 t16 (PT.put x13 t15 (PT.put x12 t6 (PT.put x11 t14 (PT.put x10 t5 (PT.put x9 t13 (PT.put x8 t12 (PT.put x7 t11 (PT.put x6 t10 (PT.put x5 t4 (PT.put x4 t9 (PT.put x3 t8 (PT.put x2 t3 (PT.put x1 t2 (PT.put a0 t0 PT.nil))))))))))))))) s) fun e r => finX [.tmp t2, .tmp t3] e r)
set_option maxHeartbeats 4000000 in
theorem d40 (rec : Rec) (N : Nat) (a0 : Value) (s : St) : callF rec N c40 [a0] s = D40 rec N a0 s := by
  rw [call_f _ _ _ _ _ rfl]
  simp (maxSteps := 4000000) only [c40, lenN, x_seq, x_ops, x_skip, x_ret, x_exit, x_cond, x_block, x_loop, ops_c, ops_n, op1_u, op1_gj, rq_c, rq_n, opQ_u, opQ_g, op2_op2, op2_op, op2_s, op2_cond, thenX_n, thenX_e, thenX_r, blkX_n, blkX_r, blkX_e, finX_r, finX_n, res_n, res_t, op_s, Nat.beq_refl, cond_true, q40_g0, sm_bin, sm_box, sm_build, sm_buildslice, sm_bytesstr, sm_compl, sm_conv, sm_eqs, sm_eqv, sm_ext, sm_extract, sm_field, sm_fieldaddr, sm_func, sm_idxaa, sm_idxl, sm_idxs, sm_iface, sm_lenc, sm_lenl, sm_lens, sm_load1, sm_loadn, sm_mm, sm_mov, sm_neg, sm_new, sm_nil, sm_not, sm_pick, sm_same, sm_slices, sm_store]
  first | done | kernel_rfl
def J40_j0 (rec : Rec) (N : Nat) (k : Value × Value × Value × Value) (s : St) : Out := opt2 (oBin (int2 (cmpO eqI)) (.v k.2.1) (.v (.int .i64 0)) rec PT.nil s) fun x1 s =>
 opt (gval false x1) fun x2 => opt2 (orUndef x2 (some (k.2.2.2, s)) s) fun x3 s =>
 opt (gval false x1) fun x4 => opt2 (orUndef x4 (some (k.1, s)) s) fun x5 s =>
 opt (gval false x1) fun x6 => opt2 (orUndef x6 (oLenS (.v x5) rec PT.nil s) s) fun x7 s =>
 opt (gval false x1) fun x8 => opt2 (orUndef x8 (oBin (int2 (cmpO geI)) (.v x3) (.v x7) rec PT.nil s) s) fun x9 s =>
 opt2 (oPick (.v x1) (.v (.bool true)) (.v x9) rec PT.nil s) fun x10 s =>
 opt (gval false x10) fun x11 => opt2 (orUndef x11 (some (k.1, s)) s) fun x12 s =>
 opt (gval false x10) fun x13 => opt2 (orUndef x13 (some (k.2.2.2, s)) s) fun x14 s =>
 opt (gval false x10) fun x15 => opt2 (orUndef x15 (oIdxS (.v x12) (.v x14) rec PT.nil s) s) fun x16 s =>
 opt (gval false x10) fun x17 => opt2 (orUndef x17 (oBin (int2 (cmpO neI)) (.v x16) (.v (.int .u8 37)) rec PT.nil s) s) fun x18 s =>
 opt2 (oPick (.v x10) (.v (.bool true)) (.v x18) rec PT.nil s) fun x19 s =>
 condV x19
 (some (oneOf [(.int .i64 0), (.int .i64 0)], s))
 (opt2 (oSliceS (.v k.1) none (some (.v k.2.1)) rec PT.nil s) fun x20 s =>
 opt2 (rec 42 [x20, (.int .i64 1000000000000)] s) fun x21 s =>
 opt2 (oBin (int2 (cmpO geI)) (.v x21) (.v (.int .i64 0)) rec PT.nil s) fun x22 s =>
 condV x22
 (opt2 (oBin (int2 mulO) (.v x21) (.v (.int .i64 10000)) rec PT.nil s) fun x23 s =>
 opt2 (oBin (int2 (cmpO leI)) (.v x23) (.v (.int .i64 1000000000000)) rec PT.nil s) fun x24 s =>
 opt (gval true x24) fun x25 => opt2 (orUndef x25 (some (k.2.2.1, s)) s) fun x26 s =>
 opt (gval true x24) fun x27 => opt2 (orUndef x27 (oBin (int2 (cmpO gtI)) (.v x26) (.v (.int .i64 0)) rec PT.nil s) s) fun x28 s =>
 opt2 (oPick (.v x24) (.v x28) (.v (.bool false)) rec PT.nil s) fun x29 s =>
 condV x29
 (opt2 (oBin (int2 addO) (.v k.2.1) (.v (.int .i64 1)) rec PT.nil s) fun x30 s =>
 opt2 (oSliceS (.v k.1) (some (.v x30)) (some (.v k.2.2.2)) rec PT.nil s) fun x31 s =>
 opt2 (oBin (int2 subO) (.v (.int .i64 4)) (.v k.2.2.1) rec PT.nil s) fun x32 s =>
 opt2 (rV (rec 48 [(.string ⟨⟨[48]⟩⟩), x32] (z0 s)) s) fun x33 s =>
 opt2 (oBin (str2 catO) (.v x31) (.v x33) rec PT.nil s) fun x34 s =>
 opt2 (rV (rec 42 [x34, (.int .i64 10000)] (z0 s)) s) fun x35 s =>
 opt2 (oBin (int2 addO) (.v x23) (.v x35) rec PT.nil s) fun x36 s =>
 opt2 (oBin (int2 (cmpO gtI)) (.v x36) (.v (.int .i64 1000000000000)) rec PT.nil s) fun x37 s =>
 condV x37
 (opt2 (oBin (int2 addO) (.v k.2.2.2) (.v (.int .i64 1)) rec PT.nil s) fun x38 s =>
 some (oneOf [x38, (.int .i64 (-1))], s))
 (opt2 (oBin (int2 addO) (.v k.2.2.2) (.v (.int .i64 1)) rec PT.nil s) fun x39 s =>
 some (oneOf [x39, x36], s)))
 (opt2 (oBin (int2 (cmpO gtI)) (.v x23) (.v (.int .i64 1000000000000)) rec PT.nil s) fun x40 s =>
 condV x40
 (opt2 (oBin (int2 addO) (.v k.2.2.2) (.v (.int .i64 1)) rec PT.nil s) fun x41 s =>
 some (oneOf [x41, (.int .i64 (-1))], s))
 (opt2 (oBin (int2 addO) (.v k.2.2.2) (.v (.int .i64 1)) rec PT.nil s) fun x42 s =>
 some (oneOf [x42, x23], s))))
 (opt2 (oBin (int2 (cmpO gtI)) (.v x21) (.v (.int .i64 1000000000000)) rec PT.nil s) fun x43 s =>
 condV x43
 (opt2 (oBin (int2 addO) (.v k.2.2.2) (.v (.int .i64 1)) rec PT.nil s) fun x44 s =>
 some (oneOf [x44, (.int .i64 (-1))], s))
 (opt2 (oBin (int2 addO) (.v k.2.2.2) (.v (.int .i64 1)) rec PT.nil s) fun x45 s =>
 some (oneOf [x45, x21], s))))
set_option maxHeartbeats 4000000 in
theorem j40_j0 (rec : Rec) (N : Nat) (fs : Frm) (s : St) : opt2 (c40_j0 rec N fs s) (fun e r => finX [.tmp t2, .tmp t3] e r) = J40_j0 rec N (orU (fs.get t0), orU (fs.get t4), orU (fs.get t5), orU (fs.get t6)) s := by
  rw [d40_j0]
  unfold D40_j0 J40_j0
  simp (maxSteps := 4000000) only [thenX_n, thenX_e, thenX_r, x_exit, x_skip, x_ret, blkX_n, blkX_r, blkX_e, finX_r, finX_n, res_n, res_t, op2_op2, op2_op, op2_s, op2_cond, op2_bf, mov_v]
  first | done | kernel_rfl
def F40 (rec : Rec) (N : Nat) (a0 : Value) (s : St) : Out := opt2 (rec 25 [a0, (.func (.func 30) #[] #[])] s) fun x1 s =>
 opt2 (oSliceS (.v a0) (some (.v x1)) none rec PT.nil s) fun x2 s =>
 opt2 (rec 47 [x2, (.int .i64 4)] s) fun x3 s =>
 opt2 (oBin (int2 (cmpO gtI)) (.v x3) (.v (.int .i64 0)) rec PT.nil s) fun x4 s =>
 condV x4
 (opt2 (oBin (int2 addO) (.v (.int .i64 1)) (.v x3) rec PT.nil s) fun x5 s =>
 opt2 (oBin (int2 addO) (.v x1) (.v x5) rec PT.nil s) fun x6 s =>
 J40_j0 rec N (a0, x1, x3, x6) s)
 (J40_j0 rec N (a0, x1, x3, x1) s)
theorem f40 (rec : Rec) (N : Nat) (a0 : Value) (s : St) : callF rec N c40 [a0] s = F40 rec N a0 s := by
  rw [d40]
  unfold D40 F40
  simp (maxSteps := 4000000) only [mov_v, op2_s, j40_j0 rec N]
  first | done | kernel_rfl
-- c41
def D41 (rec : Rec) (N : Nat) (a0 : Value) (s : St) : Out := opt2 (oMov (.v (.int .i64 0)) rec PT.nil s) fun x1 s =>
 opt2 (oMov (.v (.int .i64 0)) rec PT.nil s) fun x2 s =>
 opt2 (oMov (.v a0) rec PT.nil s) fun x3 s =>
 opt2 (oLenS (.v x3) rec PT.nil s) fun x4 s =>
 opt2 (oBin (int2 (cmpO ltI)) (.v x4) (.v (.int .i64 10)) rec PT.nil s) fun x5 s =>
 opt2 (oMov (.v x5) rec PT.nil s) fun x6 s =>
 opt (gval false x6) fun x7 => opt2 (orUndef x7 (oMov (.v a0) rec PT.nil s) s) fun x8 s =>
 opt (gval false x6) fun x9 => opt2 (orUndef x9 (oLenS (.v x8) rec PT.nil s) s) fun x10 s =>
 opt (gval false x6) fun x11 => opt2 (orUndef x11 (oBin (int2 (cmpO gtI)) (.v x10) (.v (.int .i64 10)) rec PT.nil s) s) fun x12 s =>
 opt (gval false x6) fun x13 => opt2 (orUndef x13 (oMov (.v x12) rec PT.nil s) s) fun x14 s =>
 opt (gval true x14) fun x15 => opt2 (orUndef x15 (oMov (.v a0) rec PT.nil s) s) fun x16 s =>
 opt (gval true x14) fun x17 => opt2 (orUndef x17 (oIdxS (.v x16) (.v (.int .i64 10)) rec PT.nil s) s) fun x18 s =>
 opt (gval true x14) fun x19 => opt2 (orUndef x19 (rec 30 [x18] s) s) fun x20 s =>
 opt (gval false x6) fun x21 => opt2 (orUndef x21 (oPick (.v x14) (.v x20) (.v (.bool false)) rec PT.nil s) s) fun x22 s =>
 opt2 (oPick (.v x6) (.v (.bool true)) (.v x22) rec PT.nil s) fun x23 s =>
 condV x23
 (opt2 (oMov (.v (.int .i64 0)) rec PT.nil s) fun x24 s =>
 opt2 (oMov (.v (.int .i64 0)) rec PT.nil s) fun x25 s =>
 some (oneOf [x24, x25], s))
 (opt2 (oMov (.v a0) rec PT.nil s) fun x26 s =>
 opt2 (oSliceS (.v x26) none (some (.v (.int .i64 10))) rec PT.nil s) fun x27 s =>
 opt2 (rec 49 [x27] s) fun x28 s =>
 opt2 (oMov (.v x28) rec PT.nil s) fun x29 s =>
 opt2 (oExtract (.v x29) 0 rec PT.nil s) fun x30 s =>
 opt2 (oExtract (.v x29) 1 rec PT.nil s) fun x31 s =>
 opt2 (oMov (.v x30) rec PT.nil s) fun x32 s =>
 opt2 (oMov (.v x31) rec PT.nil s) fun x33 s =>
 opt2 (oMov (.v x33) rec PT.nil s) fun x34 s =>
 opt2 (oNot (.v x34) rec PT.nil s) fun x35 s =>
 condV x35
 (opt2 (oMov (.v (.int .i64 0)) rec PT.nil s) fun x36 s =>
 opt2 (oMov (.v (.int .i64 0)) rec PT.nil s) fun x37 s =>
 some (oneOf [x36, x37], s))
 (opt2 (oMov (.v x32) rec PT.nil s) fun x38 s =>
 opt2 (oMov (.v (.int .i64 10)) rec PT.nil s) fun x39 s =>
 opt2 (oMov (.v x38) rec PT.nil s) fun x40 s =>
 some (oneOf [x39, x40], s)))
set_option maxHeartbeats 4000000 in
theorem d41 (rec : Rec) (N : Nat) (a0 : Value) (s : St) : callF rec N c41 [a0] s = D41 rec N a0 s := by
  rw [call_f _ _ _ _ _ rfl]
  simp (maxSteps := 4000000) only [c41, lenN, x_seq, x_ops, x_skip, x_ret, x_exit, x_cond, x_block, x_loop, ops_c, ops_n, op1_u, op1_gj, rq_c, rq_n, opQ_u, opQ_g, op2_op2, op2_op, op2_s, op2_cond, thenX_n, thenX_e, thenX_r, blkX_n, blkX_r, blkX_e, finX_r, finX_n, res_n, res_t, op_s, Nat.beq_refl, cond_true]
  first | done | kernel_rfl
def F41 (rec : Rec) (N : Nat) (a0 : Value) (s : St) : Out := opt2 (oLenS (.v a0) rec PT.nil s) fun x1 s =>
 opt2 (oBin (int2 (cmpO ltI)) (.v x1) (.v (.int .i64 10)) rec PT.nil s) fun x2 s =>
 opt (gval false x2) fun x3 => opt2 (orUndef x3 (some (a0, s)) s) fun x4 s =>
 opt (gval false x2) fun x5 => opt2 (orUndef x5 (oLenS (.v x4) rec PT.nil s) s) fun x6 s =>
 opt (gval false x2) fun x7 => opt2 (orUndef x7 (oBin (int2 (cmpO gtI)) (.v x6) (.v (.int .i64 10)) rec PT.nil s) s) fun x8 s =>
 opt (gval false x2) fun x9 => opt2 (orUndef x9 (some (x8, s)) s) fun x10 s =>
 opt (gval true x10) fun x11 => opt2 (orUndef x11 (some (a0, s)) s) fun x12 s =>
 opt (gval true x10) fun x13 => opt2 (orUndef x13 (oIdxS (.v x12) (.v (.int .i64 10)) rec PT.nil s) s) fun x14 s =>
 opt (gval true x10) fun x15 => opt2 (orUndef x15 (rec 30 [x14] s) s) fun x16 s =>
 opt (gval false x2) fun x17 => opt2 (orUndef x17 (oPick (.v x10) (.v x16) (.v (.bool false)) rec PT.nil s) s) fun x18 s =>
 opt2 (oPick (.v x2) (.v (.bool true)) (.v x18) rec PT.nil s) fun x19 s =>
 condV x19
 (some (oneOf [(.int .i64 0), (.int .i64 0)], s))
 (opt2 (oSliceS (.v a0) none (some (.v (.int .i64 10))) rec PT.nil s) fun x20 s =>
 opt2 (rec 49 [x20] s) fun x21 s =>
 opt2 (oExtract (.v x21) 0 rec PT.nil s) fun x22 s =>
 opt2 (oExtract (.v x21) 1 rec PT.nil s) fun x23 s =>
 opt2 (oNot (.v x23) rec PT.nil s) fun x24 s =>
 condV x24
 (some (oneOf [(.int .i64 0), (.int .i64 0)], s))
 (some (oneOf [(.int .i64 10), x22], s)))
set_option maxHeartbeats 4000000 in
theorem f41 (rec : Rec) (N : Nat) (a0 : Value) (s : St) : callF rec N c41 [a0] s = F41 rec N a0 s := by
  rw [d41]
  unfold D41 F41
  first
    | done
    | rfl
    | (simp (maxSteps := 4000000) only [mov_v, op2_s]; first | done | kernel_rfl)
    | kernel_rfl
-- c42
def D42_l0 (rec : Rec) (N : Nat) (fs : Frm) (s : St) : OutX := opt2 (oBin (int2 (cmpO ltI)) (.v (orU (fs.get t11))) (.v (orU (fs.get t10))) rec PT.nil s) fun x1 s =>
 condV x1
 (opt2 (oIdxAddrL 1 (.v (orU (fs.get t9))) (.v (orU (fs.get t11))) rec PT.nil s) fun x2 s =>
 opt2 (oLoad1 (.v x2) rec PT.nil s) fun x3 s =>
 opt2 (oMov (.v x3) rec PT.nil s) fun x4 s =>
 opt2 (oMov (.v (orU (fs.get t5))) rec PT.nil s) fun x5 s =>
 opt2 (oBin (int2 mulO) (.v x5) (.v (.int .i64 10)) rec PT.nil s) fun x6 s =>
 opt2 (oMov (.v x4) rec PT.nil s) fun x7 s =>
 opt2 (oBin (int2 subO) (.v x7) (.v (.int .u8 48)) rec PT.nil s) fun x8 s =>
 opt2 (oConv .i64 (.v x8) rec PT.nil s) fun x9 s =>
 opt2 (oBin (int2 addO) (.v x6) (.v x9) rec PT.nil s) fun x10 s =>
 opt2 (oMov (.v x10) rec PT.nil s) fun x11 s =>
 opt2 (oMov (.v x11) rec PT.nil s) fun x12 s =>
 opt2 (oMov (.v (orU (fs.get t1))) rec PT.nil s) fun x13 s =>
 opt2 (oBin (int2 (cmpO gtI)) (.v x12) (.v x13) rec PT.nil s) fun x14 s =>
 condV x14
 (opt2 (oMov (.v (.int .i64 (-1))) rec PT.nil s) fun x15 s =>
 some (.ret, (PT.put x15 t4 (PT.put x14 t23 (PT.put x13 t22 (PT.put x12 t21 (PT.put x11 t5 (PT.put x10 t20 (PT.put x9 t19 (PT.put x8 t18 (PT.put x7 t17 (PT.put x6 t16 (PT.put x5 t15 (PT.put x4 t7 (PT.put x3 t14 (PT.put x2 t13 (PT.put x1 t12 fs))))))))))))))), s))
 (opt2 (oBin (int2 addO) (.v (orU (fs.get t11))) (.v (.int .i64 1)) rec PT.nil s) fun x16 s =>
 opt2 (oMov (.v x16) rec PT.nil s) fun x17 s =>
 some (.norm, (PT.put x17 t11 (PT.put x16 t24 (PT.put x14 t23 (PT.put x13 t22 (PT.put x12 t21 (PT.put x11 t5 (PT.put x10 t20 (PT.put x9 t19 (PT.put x8 t18 (PT.put x7 t17 (PT.put x6 t16 (PT.put x5 t15 (PT.put x4 t7 (PT.put x3 t14 (PT.put x2 t13 (PT.put x1 t12 fs)))))))))))))))), s)))
 (some ((.exit 0), (PT.put x1 t12 fs), s))
set_option maxHeartbeats 4000000 in
theorem d42_l0 (rec : Rec) (N : Nat) (fs : Frm) (s : St) : c42_l0 rec N fs s = D42_l0 rec N fs s := by
  simp (maxSteps := 4000000) only [c42_l0, lenN, x_seq, x_ops, x_skip, x_ret, x_exit, x_cond, x_block, x_loop, ops_c, ops_n, op1_u, op1_gj, rq_c, rq_n, opQ_u, opQ_g, op2_op2, op2_op, op2_s, op2_cond, thenX_n, thenX_e, thenX_r, blkX_n, blkX_r, blkX_e, finX_r, finX_n, res_n, res_t, op_s, Nat.beq_refl, cond_true]
  first | done | kernel_rfl
def D42_r0 (rec : Rec) (N : Nat) (fs : Frm) (s : St) : OutX := opt2 (oMov (.v (orU (fs.get t5))) rec PT.nil s) fun x1 s =>
 opt2 (oMov (.v x1) rec PT.nil s) fun x2 s =>
 some (.ret, (PT.put x2 t4 (PT.put x1 t25 fs)), s)
set_option maxHeartbeats 4000000 in
theorem d42_r0 (rec : Rec) (N : Nat) (fs : Frm) (s : St) : c42_r0 rec N fs s = D42_r0 rec N fs s := by
  simp (maxSteps := 4000000) only [c42_r0, lenN, x_seq, x_ops, x_skip, x_ret, x_exit, x_cond, x_block, x_loop, ops_c, ops_n, op1_u, op1_gj, rq_c, rq_n, opQ_u, opQ_g, op2_op2, op2_op, op2_s, op2_cond, thenX_n, thenX_e, thenX_r, blkX_n, blkX_r, blkX_e, finX_r, finX_n, res_n, res_t, op_s, Nat.beq_refl, cond_true]
  first | done | kernel_rfl
def D42 (rec : Rec) (N : Nat) (a0 : Value) (a1 : Value) (s : St) : Out := opt2 (oMov (.v (.int .i64 0)) rec PT.nil s) fun x1 s =>
 opt2 (oMov (.v (.int .i64 0)) rec PT.nil s) fun x2 s =>
 opt2 (oMov (.v a0) rec PT.nil s) fun x3 s =>
 opt2 (oStrBytes (.v x3) rec PT.nil s) fun x4 s =>
 opt2 (oLenL (.v x4) rec PT.nil s) fun x5 s =>
 opt2 (oMov (.v (.int .i64 0)) rec PT.nil s) fun x6 s =>
 opt2 (loopF (c42_l0 rec N) N (PT.put x6 t11 (PT.put x5 t10 (PT.put x4 t9 (PT.put x3 t8 (PT.put x2 t5 (PT.put x1 t4 (PT.put a1 t1 (PT.put a0 t0 PT.nil)))))))) s) fun e r => opt2 (blkX 0 e r) fun e r => opt2 (thenX (c42_r0 rec N) e r) fun e r => finX [.tmp t4] e r
set_option maxHeartbeats 4000000 in
theorem d42 (rec : Rec) (N : Nat) (a0 : Value) (a1 : Value) (s : St) : callF rec N c42 [a0, a1] s = D42 rec N a0 a1 s := by
  rw [call_f _ _ _ _ _ rfl]
  simp (maxSteps := 4000000) only [c42, lenN, x_seq, x_ops, x_skip, x_ret, x_exit, x_cond, x_block, x_loop, ops_c, ops_n, op1_u, op1_gj, rq_c, rq_n, opQ_u, opQ_g, op2_op2, op2_op, op2_s, op2_cond, thenX_n, thenX_e, thenX_r, blkX_n, blkX_r, blkX_e, finX_r, finX_n, res_n, res_t, op_s, Nat.beq_refl, cond_true]
  first | done | kernel_rfl
def J42_r0 (rec : Rec) (N : Nat) (k : Value) (s : St) : Out := some (oneOf [k], s)
set_option maxHeartbeats 4000000 in
theorem j42_r0 (rec : Rec) (N : Nat) (fs : Frm) (s : St) : opt2 (c42_r0 rec N fs s) (fun e r => finX [.tmp t4] e r) = J42_r0 rec N (orU (fs.get t5)) s := by
  rw [d42_r0]
  unfold D42_r0 J42_r0
  simp (maxSteps := 4000000) only [thenX_n, thenX_e, thenX_r, x_exit, x_skip, x_ret, blkX_n, blkX_r, blkX_e, finX_r, finX_n, res_n, res_t, op2_op2, op2_op, op2_s, op2_cond, op2_bf, mov_v]
  first | done | kernel_rfl
def B42_l0 (rec : Rec) (N : Nat) (k : Value × Value × Value) (v : Value × Value × Value) (s : St) : OutV (Value × Value × Value) := opt2 (oBin (int2 (cmpO ltI)) (.v v.2.2) (.v k.2.2) rec PT.nil s) fun x1 s =>
 condV x1
 (opt2 (oIdxAddrL 1 (.v k.2.1) (.v v.2.2) rec PT.nil s) fun x2 s =>
 opt2 (oLoad1 (.v x2) rec PT.nil s) fun x3 s =>
 opt2 (oBin (int2 mulO) (.v v.2.1) (.v (.int .i64 10)) rec PT.nil s) fun x4 s =>
 opt2 (oBin (int2 subO) (.v x3) (.v (.int .u8 48)) rec PT.nil s) fun x5 s =>
 opt2 (oConv .i64 (.v x5) rec PT.nil s) fun x6 s =>
 opt2 (oBin (int2 addO) (.v x4) (.v x6) rec PT.nil s) fun x7 s =>
 opt2 (oBin (int2 (cmpO gtI)) (.v x7) (.v k.1) rec PT.nil s) fun x8 s =>
 condV x8
 (some (.ret, (((.int .i64 (-1)), x7, v.2.2), s)))
 (opt2 (oBin (int2 addO) (.v v.2.2) (.v (.int .i64 1)) rec PT.nil s) fun x9 s =>
 some (.norm, ((v.1, x7, x9), s))))
 (some ((.exit 0), ((v.1, v.2.1, v.2.2), s)))
set_option maxHeartbeats 4000000 in
theorem s42_l0 (rec : Rec) (N : Nat) (fs : Frm) (s : St) : opt2 (c42_l0 rec N fs s) (fun e r => some (e, (((orU (r.1.get t4), orU (r.1.get t5), orU (r.1.get t11)), (orU (r.1.get t1), orU (r.1.get t9), orU (r.1.get t10))), r.2))) = opt2 (B42_l0 rec N (orU (fs.get t1), orU (fs.get t9), orU (fs.get t10)) (orU (fs.get t4), orU (fs.get t5), orU (fs.get t11)) s) fun e r => some (e, ((r.1, (orU (fs.get t1), orU (fs.get t9), orU (fs.get t10))), r.2)) := by
  rw [d42_l0]
  unfold D42_l0 B42_l0
  simp (maxSteps := 4000000) only [op2_op2, op2_op, op2_s, op2_cond, op2_bf, mov_v]
  first | done | kernel_rfl
def C42_l0 (rec : Rec) (N : Nat) (k : Value × Value × Value) (e : AExit) (r : (Value × Value × Value) × St) : Out := (fun s => exV (fun i => bif Nat.beq i 0 then (J42_r0 rec N r.1.2.1 s)
 else (none))
 (some (oneOf [r.1.1], s)) e) r.2
theorem j42_l0 (rec : Rec) (N : Nat) (fs : Frm) (s : St) : opt2 (loopF (c42_l0 rec N) N fs s) (fun e r => opt2 (blkX 0 e r) fun e r => opt2 (thenX (c42_r0 rec N) e r) fun e r => finX [.tmp t4] e r) = opt2 (loopV (B42_l0 rec N (orU (fs.get t1), orU (fs.get t9), orU (fs.get t10))) N (orU (fs.get t4), orU (fs.get t5), orU (fs.get t11)) s) (C42_l0 rec N (orU (fs.get t1), orU (fs.get t9), orU (fs.get t10))) := by
  refine loop_j (fun fs => (orU (fs.get t4), orU (fs.get t5), orU (fs.get t11))) (fun fs => (orU (fs.get t1), orU (fs.get t9), orU (fs.get t10))) (B42_l0 rec N) (c42_l0 rec N) (s42_l0 rec N) (fun e r => opt2 (blkX 0 e r) fun e r => opt2 (thenX (c42_r0 rec N) e r) fun e r => finX [.tmp t4] e r) (C42_l0 rec N) ?_ ?_ N fs s
  · intro i fs s
    unfold C42_l0
    simp (maxSteps := 4000000) only [thenX_n, thenX_e, thenX_r, x_exit, x_skip, x_ret, blkX_n, blkX_r, blkX_e, finX_r, finX_n, res_n, res_t, exV_e, exV_r, op2_op2, op2_op, op2_s, op2_cond, op2_bf, mov_v, j42_r0 rec N]
    first | done | kernel_rfl
  · intro fs s
    unfold C42_l0
    simp (maxSteps := 4000000) only [thenX_n, thenX_e, thenX_r, x_exit, x_skip, x_ret, blkX_n, blkX_r, blkX_e, finX_r, finX_n, res_n, res_t, exV_e, exV_r, op2_op2, op2_op, op2_s, op2_cond, op2_bf, mov_v, j42_r0 rec N]
    first | done | kernel_rfl
def F42 (rec : Rec) (N : Nat) (a0 : Value) (a1 : Value) (s : St) : Out := opt2 (oStrBytes (.v a0) rec PT.nil s) fun x1 s =>
 opt2 (oLenL (.v x1) rec PT.nil s) fun x2 s =>
 opt2 (loopV (B42_l0 rec N (a1, x1, x2)) N ((.int .i64 0), (.int .i64 0), (.int .i64 0)) s) (C42_l0 rec N (a1, x1, x2))
theorem f42 (rec : Rec) (N : Nat) (a0 : Value) (a1 : Value) (s : St) : callF rec N c42 [a0, a1] s = F42 rec N a0 a1 s := by
  rw [d42]
  unfold D42 F42
  simp (maxSteps := 4000000) only [mov_v, op2_s, j42_l0 rec N]
  first | done | kernel_rfl
-- c43
def D43 (rec : Rec) (N : Nat) (a0 : Value) (a1 : Value) (s : St) : Out := opt2 (oMov (.v (.bool false)) rec PT.nil s) fun x1 s =>
 opt2 (oMov (.v a0) rec PT.nil s) fun x2 s =>
 opt2 (oLenS (.v x2) rec PT.nil s) fun x3 s =>
 opt2 (oMov (.v a1) rec PT.nil s) fun x4 s =>
 opt2 (oLenS (.v x4) rec PT.nil s) fun x5 s =>
 opt2 (oBin (int2 (cmpO geI)) (.v x3) (.v x5) rec PT.nil s) fun x6 s =>
 opt2 (oMov (.v x6) rec PT.nil s) fun x7 s =>
 opt (gval true x7) fun x8 => opt2 (orUndef x8 (oMov (.v a0) rec PT.nil s) s) fun x9 s =>
 opt (gval true x7) fun x10 => opt2 (orUndef x10 (oMov (.v a1) rec PT.nil s) s) fun x11 s =>
 opt (gval true x7) fun x12 => opt2 (orUndef x12 (oLenS (.v x11) rec PT.nil s) s) fun x13 s =>
 opt (gval true x7) fun x14 => opt2 (orUndef x14 (oSliceS (.v x9) none (some (.v x13)) rec PT.nil s) s) fun x15 s =>
 opt (gval true x7) fun x16 => opt2 (orUndef x16 (oMov (.v a1) rec PT.nil s) s) fun x17 s =>
 opt (gval true x7) fun x18 => opt2 (orUndef x18 (oBin (str2 (cmpS eqBytes)) (.v x15) (.v x17) rec PT.nil s) s) fun x19 s =>
 opt2 (oPick (.v x7) (.v x19) (.v (.bool false)) rec PT.nil s) fun x20 s =>
 opt2 (oMov (.v x20) rec PT.nil s) fun x21 s =>
 some (oneOf [x21], s)
set_option maxHeartbeats 4000000 in
theorem d43 (rec : Rec) (N : Nat) (a0 : Value) (a1 : Value) (s : St) : callF rec N c43 [a0, a1] s = D43 rec N a0 a1 s := by
  rw [call_f _ _ _ _ _ rfl]
  simp (maxSteps := 4000000) only [c43, lenN, x_seq, x_ops, x_skip, x_ret, x_exit, x_cond, x_block, x_loop, ops_c, ops_n, op1_u, op1_gj, rq_c, rq_n, opQ_u, opQ_g, op2_op2, op2_op, op2_s, op2_cond, thenX_n, thenX_e, thenX_r, blkX_n, blkX_r, blkX_e, finX_r, finX_n, res_n, res_t, op_s, Nat.beq_refl, cond_true]
  first | done | kernel_rfl
def F43 (rec : Rec) (N : Nat) (a0 : Value) (a1 : Value) (s : St) : Out := opt2 (oLenS (.v a0) rec PT.nil s) fun x1 s =>
 opt2 (oLenS (.v a1) rec PT.nil s) fun x2 s =>
 opt2 (oBin (int2 (cmpO geI)) (.v x1) (.v x2) rec PT.nil s) fun x3 s =>
 opt (gval true x3) fun x4 => opt2 (orUndef x4 (some (a0, s)) s) fun x5 s =>
 opt (gval true x3) fun x6 => opt2 (orUndef x6 (some (a1, s)) s) fun x7 s =>
 opt (gval true x3) fun x8 => opt2 (orUndef x8 (oLenS (.v x7) rec PT.nil s) s) fun x9 s =>
 opt (gval true x3) fun x10 => opt2 (orUndef x10 (oSliceS (.v x5) none (some (.v x9)) rec PT.nil s) s) fun x11 s =>
 opt (gval true x3) fun x12 => opt2 (orUndef x12 (some (a1, s)) s) fun x13 s =>
 opt (gval true x3) fun x14 => opt2 (orUndef x14 (oBin (str2 (cmpS eqBytes)) (.v x11) (.v x13) rec PT.nil s) s) fun x15 s =>
 opt2 (oPick (.v x3) (.v x15) (.v (.bool false)) rec PT.nil s) fun x16 s =>
 some (oneOf [x16], s)
set_option maxHeartbeats 4000000 in
theorem f43 (rec : Rec) (N : Nat) (a0 : Value) (a1 : Value) (s : St) : callF rec N c43 [a0, a1] s = F43 rec N a0 a1 s := by
  rw [d43]
  unfold D43 F43
  first
    | done
    | rfl
    | (simp (maxSteps := 4000000) only [mov_v, op2_s]; first | done | kernel_rfl)
    | kernel_rfl
-- c44
def D44_q0 (rec : Rec) (fs : Frm) (s : St) : Option (Frm × St) := opt2 (oMov (.v (orU (fs.get t24))) rec PT.nil s) fun x1 s =>
 opt (gval false x1) fun x2 => opt2 (orUndef x2 (oMov (.v (orU (fs.get t2))) rec PT.nil s) s) fun x3 s =>
 opt (gval false x1) fun x4 => opt2 (orUndef x4 (oBin (int2 (cmpO ltI)) (.v x3) (.v (.int .i64 1)) rec PT.nil s) s) fun x5 s =>
 opt2 (oPick (.v x1) (.v (.bool true)) (.v x5) rec PT.nil s) fun x6 s =>
 opt2 (oMov (.v x6) rec PT.nil s) fun x7 s =>
 opt (gval false x7) fun x8 => opt2 (orUndef x8 (oMov (.v (orU (fs.get t2))) rec PT.nil s) s) fun x9 s =>
 opt (gval false x7) fun x10 => opt2 (orUndef x10 (oMov (.v (orU (fs.get t0))) rec PT.nil s) s) fun x11 s =>
 opt (gval false x7) fun x12 => opt2 (orUndef x12 (oMov (.v (orU (fs.get t1))) rec PT.nil s) s) fun x13 s =>
 opt (gval false x7) fun x14 => opt2 (orUndef x14 (rec 46 [x11, x13] s) s) fun x15 s =>
 opt (gval false x7) fun x16 => opt2 (orUndef x16 (oBin (int2 (cmpO gtI)) (.v x9) (.v x15) rec PT.nil s) s) fun x17 s =>
 opt2 (oPick (.v x7) (.v (.bool true)) (.v x17) rec PT.nil s) fun x18 s =>
 some ((PT.put x18 t35 (PT.put x17 t34 (PT.put x15 t33 (PT.put x13 t32 (PT.put x11 t31 (PT.put x9 t30 (PT.put x7 t29 (PT.put x6 t28 (PT.put x5 t27 (PT.put x3 t26 (PT.put x1 t25 fs))))))))))), s)
set_option maxHeartbeats 4000000 in
theorem d44_q0 (rec : Rec) (fs : Frm) (s : St) : runOps rec c44_q0 fs s = D44_q0 rec fs s := by
  simp (maxSteps := 4000000) only [c44_q0, ops_c, ops_n, op1_u, op1_gj, rq_c, rq_n, opQ_u, opQ_g, op2_op2, op2_op, op2_s]
  first | done | kernel_rfl
def D44_j0 (rec : Rec) (N : Nat) (fs : Frm) (s : St) : OutX := condV (orU (fs.get t35))
 (opt2 (oMov (.v (.int .i64 0)) rec PT.nil s) fun x1 s =>
 opt2 (oMov (.v (.bool false)) rec PT.nil s) fun x2 s =>
 some (.ret, (PT.put x2 t7 (PT.put x1 t6 fs)), s))
 (some (.norm, fs, s))
set_option maxHeartbeats 4000000 in
theorem d44_j0 (rec : Rec) (N : Nat) (fs : Frm) (s : St) : c44_j0 rec N fs s = D44_j0 rec N fs s := by
  simp (maxSteps := 4000000) only [c44_j0, lenN, x_seq, x_ops, x_skip, x_ret, x_exit, x_cond, x_block, x_loop, ops_c, ops_n, op1_u, op1_gj, rq_c, rq_n, opQ_u, opQ_g, op2_op2, op2_op, op2_s, op2_cond, thenX_n, thenX_e, thenX_r, blkX_n, blkX_r, blkX_e, finX_r, finX_n, res_n, res_t, op_s, Nat.beq_refl, cond_true]
  first | done | kernel_rfl
def D44_l0 (rec : Rec) (N : Nat) (fs : Frm) (s : St) : OutX := opt2 (oMov (.v (orU (fs.get t9))) rec PT.nil s) fun x1 s =>
 opt2 (oMov (.v (orU (fs.get t0))) rec PT.nil s) fun x2 s =>
 opt2 (oBin (int2 (cmpO ltI)) (.v x1) (.v x2) rec PT.nil s) fun x3 s =>
 condV x3
 (opt2 (oMov (.v (orU (fs.get t8))) rec PT.nil s) fun x4 s =>
 opt2 (oBin (int2 addO) (.v x4) (.v (.int .i64 365)) rec PT.nil s) fun x5 s =>
 opt2 (oMov (.v x5) rec PT.nil s) fun x6 s =>
 opt2 (oMov (.v (orU (fs.get t9))) rec PT.nil s) fun x7 s =>
 opt2 (rec 45 [x7] s) fun x8 s =>
 condV x8
 (opt2 (oMov (.v x6) rec PT.nil s) fun x9 s =>
 opt2 (oBin (int2 addO) (.v x9) (.v (.int .i64 1)) rec PT.nil s) fun x10 s =>
 opt2 (oMov (.v x10) rec PT.nil s) fun x11 s =>
 opt2 (oMov (.v (orU (fs.get t9))) rec PT.nil s) fun x12 s =>
 opt2 (oBin (int2 addO) (.v x12) (.v (.int .i64 1)) rec PT.nil s) fun x13 s =>
 opt2 (oMov (.v x13) rec PT.nil s) fun x14 s =>
 some (.norm, (PT.put x14 t9 (PT.put x13 t40 (PT.put x12 t39 (PT.put x11 t8 (PT.put x10 t46 (PT.put x9 t45 (PT.put x8 t44 (PT.put x7 t43 (PT.put x6 t8 (PT.put x5 t42 (PT.put x4 t41 (PT.put x3 t38 (PT.put x2 t37 (PT.put x1 t36 fs)))))))))))))), s))
 (opt2 (oMov (.v (orU (fs.get t9))) rec PT.nil s) fun x15 s =>
 opt2 (oBin (int2 addO) (.v x15) (.v (.int .i64 1)) rec PT.nil s) fun x16 s =>
 opt2 (oMov (.v x16) rec PT.nil s) fun x17 s =>
 some (.norm, (PT.put x17 t9 (PT.put x16 t40 (PT.put x15 t39 (PT.put x8 t44 (PT.put x7 t43 (PT.put x6 t8 (PT.put x5 t42 (PT.put x4 t41 (PT.put x3 t38 (PT.put x2 t37 (PT.put x1 t36 fs))))))))))), s)))
 (some ((.exit 0), (PT.put x3 t38 (PT.put x2 t37 (PT.put x1 t36 fs))), s))
set_option maxHeartbeats 4000000 in
theorem d44_l0 (rec : Rec) (N : Nat) (fs : Frm) (s : St) : c44_l0 rec N fs s = D44_l0 rec N fs s := by
  simp (maxSteps := 4000000) only [c44_l0, lenN, x_seq, x_ops, x_skip, x_ret, x_exit, x_cond, x_block, x_loop, ops_c, ops_n, op1_u, op1_gj, rq_c, rq_n, opQ_u, opQ_g, op2_op2, op2_op, op2_s, op2_cond, thenX_n, thenX_e, thenX_r, blkX_n, blkX_r, blkX_e, finX_r, finX_n, res_n, res_t, op_s, Nat.beq_refl, cond_true]
  first | done | kernel_rfl
def D44_l1 (rec : Rec) (N : Nat) (fs : Frm) (s : St) : OutX := opt2 (oMov (.v (orU (fs.get t10))) rec PT.nil s) fun x1 s =>
 opt2 (oMov (.v (orU (fs.get t1))) rec PT.nil s) fun x2 s =>
 opt2 (oBin (int2 (cmpO ltI)) (.v x1) (.v x2) rec PT.nil s) fun x3 s =>
 condV x3
 (opt2 (oMov (.v (orU (fs.get t8))) rec PT.nil s) fun x4 s =>
 opt2 (oMov (.v (orU (fs.get t0))) rec PT.nil s) fun x5 s =>
 opt2 (oMov (.v (orU (fs.get t10))) rec PT.nil s) fun x6 s =>
 opt2 (rec 46 [x5, x6] s) fun x7 s =>
 opt2 (oBin (int2 addO) (.v x4) (.v x7) rec PT.nil s) fun x8 s =>
 opt2 (oMov (.v x8) rec PT.nil s) fun x9 s =>
 opt2 (oMov (.v (orU (fs.get t10))) rec PT.nil s) fun x10 s =>
 opt2 (oBin (int2 addO) (.v x10) (.v (.int .i64 1)) rec PT.nil s) fun x11 s =>
 opt2 (oMov (.v x11) rec PT.nil s) fun x12 s =>
 some (.norm, (PT.put x12 t10 (PT.put x11 t51 (PT.put x10 t50 (PT.put x9 t8 (PT.put x8 t56 (PT.put x7 t55 (PT.put x6 t54 (PT.put x5 t53 (PT.put x4 t52 (PT.put x3 t49 (PT.put x2 t48 (PT.put x1 t47 fs)))))))))))), s))
 (some ((.exit 2), (PT.put x3 t49 (PT.put x2 t48 (PT.put x1 t47 fs))), s))
set_option maxHeartbeats 4000000 in
theorem d44_l1 (rec : Rec) (N : Nat) (fs : Frm) (s : St) : c44_l1 rec N fs s = D44_l1 rec N fs s := by
  simp (maxSteps := 4000000) only [c44_l1, lenN, x_seq, x_ops, x_skip, x_ret, x_exit, x_cond, x_block, x_loop, ops_c, ops_n, op1_u, op1_gj, rq_c, rq_n, opQ_u, opQ_g, op2_op2, op2_op, op2_s, op2_cond, thenX_n, thenX_e, thenX_r, blkX_n, blkX_r, blkX_e, finX_r, finX_n, res_n, res_t, op_s, Nat.beq_refl, cond_true]
  first | done | kernel_rfl
def D44_r0 (rec : Rec) (N : Nat) (fs : Frm) (s : St) : OutX := opt2 (oMov (.v (orU (fs.get t8))) rec PT.nil s) fun x1 s =>
 opt2 (oMov (.v (orU (fs.get t2))) rec PT.nil s) fun x2 s =>
 opt2 (oBin (int2 addO) (.v x1) (.v x2) rec PT.nil s) fun x3 s =>
 opt2 (oBin (int2 subO) (.v x3) (.v (.int .i64 1)) rec PT.nil s) fun x4 s =>
 opt2 (oMov (.v x4) rec PT.nil s) fun x5 s =>
 opt2 (oMov (.v (.bool true)) rec PT.nil s) fun x6 s =>
 some (.ret, (PT.put x6 t7 (PT.put x5 t6 (PT.put x4 t60 (PT.put x3 t59 (PT.put x2 t58 (PT.put x1 t57 fs)))))), s)
set_option maxHeartbeats 4000000 in
theorem d44_r0 (rec : Rec) (N : Nat) (fs : Frm) (s : St) : c44_r0 rec N fs s = D44_r0 rec N fs s := by
  simp (maxSteps := 4000000) only [c44_r0, lenN, x_seq, x_ops, x_skip, x_ret, x_exit, x_cond, x_block, x_loop, ops_c, ops_n, op1_u, op1_gj, rq_c, rq_n, opQ_u, opQ_g, op2_op2, op2_op, op2_s, op2_cond, thenX_n, thenX_e, thenX_r, blkX_n, blkX_r, blkX_e, finX_r, finX_n, res_n, res_t, op_s, Nat.beq_refl, cond_true]
  first | done | kernel_rfl
def D44_r1 (rec : Rec) (N : Nat) (fs : Frm) (s : St) : OutX := opt2 (oMov (.v (.int .i64 1)) rec PT.nil s) fun x1 s =>
 opt2 (loopF (c44_l1 rec N) N (PT.put x1 t10 fs) s) fun e r => opt2 (blkX 2 e r) fun e r => thenX (c44_r0 rec N) e r
set_option maxHeartbeats 4000000 in
theorem d44_r1 (rec : Rec) (N : Nat) (fs : Frm) (s : St) : c44_r1 rec N fs s = D44_r1 rec N fs s := by
  simp (maxSteps := 4000000) only [c44_r1, lenN, x_seq, x_ops, x_skip, x_ret, x_exit, x_cond, x_block, x_loop, ops_c, ops_n, op1_u, op1_gj, rq_c, rq_n, opQ_u, opQ_g, op2_op2, op2_op, op2_s, op2_cond, thenX_n, thenX_e, thenX_r, blkX_n, blkX_r, blkX_e, finX_r, finX_n, res_n, res_t, op_s, Nat.beq_refl, cond_true]
  first | done | kernel_rfl
def D44_j1 (rec : Rec) (N : Nat) (fs : Frm) (s : St) : OutX := opt2 (oMov (.v (.int .i64 0)) rec PT.nil s) fun x1 s =>
 opt2 (oMov (.v (.int .i64 1900)) rec PT.nil s) fun x2 s =>
 opt2 (loopF (c44_l0 rec N) N (PT.put x2 t9 (PT.put x1 t8 fs)) s) fun e r => opt2 (blkX 0 e r) fun e r => thenX (c44_r1 rec N) e r
set_option maxHeartbeats 4000000 in
theorem d44_j1 (rec : Rec) (N : Nat) (fs : Frm) (s : St) : c44_j1 rec N fs s = D44_j1 rec N fs s := by
  simp (maxSteps := 4000000) only [c44_j1, lenN, x_seq, x_ops, x_skip, x_ret, x_exit, x_cond, x_block, x_loop, ops_c, ops_n, op1_u, op1_gj, rq_c, rq_n, opQ_u, opQ_g, op2_op2, op2_op, op2_s, op2_cond, thenX_n, thenX_e, thenX_r, blkX_n, blkX_r, blkX_e, finX_r, finX_n, res_n, res_t, op_s, Nat.beq_refl, cond_true]
  first | done | kernel_rfl
def D44 (rec : Rec) (N : Nat) (a0 : Value) (a1 : Value) (a2 : Value) (s : St) : Out := opt2 (oMov (.v (.int .i64 0)) rec PT.nil s) fun x1 s =>
 opt2 (oMov (.v (.bool false)) rec PT.nil s) fun x2 s =>
 opt2 (oMov (.v a0) rec PT.nil s) fun x3 s =>
 opt2 (oBin (int2 (cmpO ltI)) (.v x3) (.v (.int .i64 1900)) rec PT.nil s) fun x4 s =>
 opt2 (oMov (.v x4) rec PT.nil s) fun x5 s =>
 opt (gval false x5) fun x6 => opt2 (orUndef x6 (oMov (.v a0) rec PT.nil s) s) fun x7 s =>
 opt (gval false x5) fun x8 => opt2 (orUndef x8 (oBin (int2 (cmpO gtI)) (.v x7) (.v (.int .i64 2199)) rec PT.nil s) s) fun x9 s =>
 opt2 (oPick (.v x5) (.v (.bool true)) (.v x9) rec PT.nil s) fun x10 s =>
 opt2 (oMov (.v x10) rec PT.nil s) fun x11 s =>
 opt (gval false x11) fun x12 => opt2 (orUndef x12 (oMov (.v a1) rec PT.nil s) s) fun x13 s =>
 opt (gval false x11) fun x14 => opt2 (orUndef x14 (oBin (int2 (cmpO ltI)) (.v x13) (.v (.int .i64 1)) rec PT.nil s) s) fun x15 s =>
 opt2 (oPick (.v x11) (.v (.bool true)) (.v x15) rec PT.nil s) fun x16 s =>
 opt2 (oMov (.v x16) rec PT.nil s) fun x17 s =>
 opt (gval false x17) fun x18 => opt2 (orUndef x18 (oMov (.v a1) rec PT.nil s) s) fun x19 s =>
 opt (gval false x17) fun x20 => opt2 (orUndef x20 (oBin (int2 (cmpO gtI)) (.v x19) (.v (.int .i64 12)) rec PT.nil s) s) fun x21 s =>
 opt2 (oPick (.v x17) (.v (.bool true)) (.v x21) rec PT.nil s) fun x22 s =>
 opt2 (runOps rec c44_q0 (PT.put x22 t24 (PT.put x21 t23 (PT.put x19 t22 (PT.put x17 t21 (PT.put x16 t20 (PT.put x15 t19 (PT.put x13 t18 (PT.put x11 t17 (PT.put x10 t16 (PT.put x9 t15 (PT.put x7 t14 (PT.put x5 t13 (PT.put x4 t12 (PT.put x3 t11 (PT.put x2 t7 (PT.put x1 t6 (PT.put a2 t2 (PT.put a1 t1 (PT.put a0 t0 PT.nil))))))))))))))))))) s) fun fs s =>
 opt2 (c44_j0 rec N fs s) fun e r => opt2 (thenX (c44_j1 rec N) e r) fun e r => finX [.tmp t6, .tmp t7] e r
set_option maxHeartbeats 4000000 in
theorem d44 (rec : Rec) (N : Nat) (a0 : Value) (a1 : Value) (a2 : Value) (s : St) : callF rec N c44 [a0, a1, a2] s = D44 rec N a0 a1 a2 s := by
  rw [call_f _ _ _ _ _ rfl]
  simp (maxSteps := 4000000) only [c44, lenN, x_seq, x_ops, x_skip, x_ret, x_exit, x_cond, x_block, x_loop, ops_c, ops_n, op1_u, op1_gj, rq_c, rq_n, opQ_u, opQ_g, op2_op2, op2_op, op2_s, op2_cond, thenX_n, thenX_e, thenX_r, blkX_n, blkX_r, blkX_e, finX_r, finX_n, res_n, res_t, op_s, Nat.beq_refl, cond_true]
  first | done | kernel_rfl
def J44_r0 (rec : Rec) (N : Nat) (k : Value × Value) (s : St) : Out := opt2 (oBin (int2 addO) (.v k.2) (.v k.1) rec PT.nil s) fun x1 s =>
 opt2 (oBin (int2 subO) (.v x1) (.v (.int .i64 1)) rec PT.nil s) fun x2 s =>
 some (oneOf [x2, (.bool true)], s)
set_option maxHeartbeats 4000000 in
theorem j44_r0 (rec : Rec) (N : Nat) (fs : Frm) (s : St) : opt2 (c44_r0 rec N fs s) (fun e r => finX [.tmp t6, .tmp t7] e r) = J44_r0 rec N (orU (fs.get t2), orU (fs.get t8)) s := by
  rw [d44_r0]
  unfold D44_r0 J44_r0
  simp (maxSteps := 4000000) only [thenX_n, thenX_e, thenX_r, x_exit, x_skip, x_ret, blkX_n, blkX_r, blkX_e, finX_r, finX_n, res_n, res_t, op2_op2, op2_op, op2_s, op2_cond, op2_bf, mov_v]
  first | done | kernel_rfl
def B44_l1 (rec : Rec) (N : Nat) (k : Value × Value × Value × Value × Value) (v : Value × Value) (s : St) : OutV (Value × Value) := opt2 (oBin (int2 (cmpO ltI)) (.v v.2) (.v k.2.1) rec PT.nil s) fun x1 s =>
 condV x1
 (opt2 (rec 46 [k.1, v.2] s) fun x2 s =>
 opt2 (oBin (int2 addO) (.v v.1) (.v x2) rec PT.nil s) fun x3 s =>
 opt2 (oBin (int2 addO) (.v v.2) (.v (.int .i64 1)) rec PT.nil s) fun x4 s =>
 some (.norm, ((x3, x4), s)))
 (some ((.exit 2), ((v.1, v.2), s)))
set_option maxHeartbeats 4000000 in
theorem s44_l1 (rec : Rec) (N : Nat) (fs : Frm) (s : St) : opt2 (c44_l1 rec N fs s) (fun e r => some (e, (((orU (r.1.get t8), orU (r.1.get t10)), (orU (r.1.get t0), orU (r.1.get t1), orU (r.1.get t2), orU (r.1.get t6), orU (r.1.get t7))), r.2))) = opt2 (B44_l1 rec N (orU (fs.get t0), orU (fs.get t1), orU (fs.get t2), orU (fs.get t6), orU (fs.get t7)) (orU (fs.get t8), orU (fs.get t10)) s) fun e r => some (e, ((r.1, (orU (fs.get t0), orU (fs.get t1), orU (fs.get t2), orU (fs.get t6), orU (fs.get t7))), r.2)) := by
  rw [d44_l1]
  unfold D44_l1 B44_l1
  simp (maxSteps := 4000000) only [op2_op2, op2_op, op2_s, op2_cond, op2_bf, mov_v]
  first | done | kernel_rfl
def C44_l1 (rec : Rec) (N : Nat) (k : Value × Value × Value × Value × Value) (e : AExit) (r : (Value × Value) × St) : Out := (fun s => exV (fun i => bif Nat.beq i 2 then (J44_r0 rec N (k.2.2.1, r.1.1) s)
 else (none))
 (some (oneOf [k.2.2.2.1, k.2.2.2.2], s)) e) r.2
theorem j44_l1 (rec : Rec) (N : Nat) (fs : Frm) (s : St) : opt2 (loopF (c44_l1 rec N) N fs s) (fun e r => opt2 (blkX 2 e r) fun e r => opt2 (thenX (c44_r0 rec N) e r) fun e r => finX [.tmp t6, .tmp t7] e r) = opt2 (loopV (B44_l1 rec N (orU (fs.get t0), orU (fs.get t1), orU (fs.get t2), orU (fs.get t6), orU (fs.get t7))) N (orU (fs.get t8), orU (fs.get t10)) s) (C44_l1 rec N (orU (fs.get t0), orU (fs.get t1), orU (fs.get t2), orU (fs.get t6), orU (fs.get t7))) := by
  refine loop_j (fun fs => (orU (fs.get t8), orU (fs.get t10))) (fun fs => (orU (fs.get t0), orU (fs.get t1), orU (fs.get t2), orU (fs.get t6), orU (fs.get t7))) (B44_l1 rec N) (c44_l1 rec N) (s44_l1 rec N) (fun e r => opt2 (blkX 2 e r) fun e r => opt2 (thenX (c44_r0 rec N) e r) fun e r => finX [.tmp t6, .tmp t7] e r) (C44_l1 rec N) ?_ ?_ N fs s
  · intro i fs s
    unfold C44_l1
    simp (maxSteps := 4000000) only [thenX_n, thenX_e, thenX_r, x_exit, x_skip, x_ret, blkX_n, blkX_r, blkX_e, finX_r, finX_n, res_n, res_t, exV_e, exV_r, op2_op2, op2_op, op2_s, op2_cond, op2_bf, mov_v, j44_r0 rec N]
    first | done | kernel_rfl
  · intro fs s
    unfold C44_l1
    simp (maxSteps := 4000000) only [thenX_n, thenX_e, thenX_r, x_exit, x_skip, x_ret, blkX_n, blkX_r, blkX_e, finX_r, finX_n, res_n, res_t, exV_e, exV_r, op2_op2, op2_op, op2_s, op2_cond, op2_bf, mov_v, j44_r0 rec N]
    first | done | kernel_rfl
def J44_r1 (rec : Rec) (N : Nat) (k : Value × Value × Value × Value × Value × Value) (s : St) : Out := opt2 (loopV (B44_l1 rec N (k.1, k.2.1, k.2.2.1, k.2.2.2.1, k.2.2.2.2.1)) N (k.2.2.2.2.2, (.int .i64 1)) s) (C44_l1 rec N (k.1, k.2.1, k.2.2.1, k.2.2.2.1, k.2.2.2.2.1))
set_option maxHeartbeats 4000000 in
theorem j44_r1 (rec : Rec) (N : Nat) (fs : Frm) (s : St) : opt2 (c44_r1 rec N fs s) (fun e r => finX [.tmp t6, .tmp t7] e r) = J44_r1 rec N (orU (fs.get t0), orU (fs.get t1), orU (fs.get t2), orU (fs.get t6), orU (fs.get t7), orU (fs.get t8)) s := by
  rw [d44_r1]
  unfold D44_r1 J44_r1
  simp (maxSteps := 4000000) only [thenX_n, thenX_e, thenX_r, x_exit, x_skip, x_ret, blkX_n, blkX_r, blkX_e, finX_r, finX_n, res_n, res_t, op2_op2, op2_op, op2_s, op2_cond, op2_bf, mov_v, j44_l1 rec N]
  first | done | kernel_rfl
def B44_l0 (rec : Rec) (N : Nat) (k : Value × Value × Value × Value × Value) (v : Value × Value) (s : St) : OutV (Value × Value) := opt2 (oBin (int2 (cmpO ltI)) (.v v.2) (.v k.1) rec PT.nil s) fun x1 s =>
 condV x1
 (opt2 (oBin (int2 addO) (.v v.1) (.v (.int .i64 365)) rec PT.nil s) fun x2 s =>
 opt2 (rec 45 [v.2] s) fun x3 s =>
 condV x3
 (opt2 (oBin (int2 addO) (.v x2) (.v (.int .i64 1)) rec PT.nil s) fun x4 s =>
 opt2 (oBin (int2 addO) (.v v.2) (.v (.int .i64 1)) rec PT.nil s) fun x5 s =>
 some (.norm, ((x4, x5), s)))
 (opt2 (oBin (int2 addO) (.v v.2) (.v (.int .i64 1)) rec PT.nil s) fun x6 s =>
 some (.norm, ((x2, x6), s))))
 (some ((.exit 0), ((v.1, v.2), s)))
set_option maxHeartbeats 4000000 in
theorem s44_l0 (rec : Rec) (N : Nat) (fs : Frm) (s : St) : opt2 (c44_l0 rec N fs s) (fun e r => some (e, (((orU (r.1.get t8), orU (r.1.get t9)), (orU (r.1.get t0), orU (r.1.get t1), orU (r.1.get t2), orU (r.1.get t6), orU (r.1.get t7))), r.2))) = opt2 (B44_l0 rec N (orU (fs.get t0), orU (fs.get t1), orU (fs.get t2), orU (fs.get t6), orU (fs.get t7)) (orU (fs.get t8), orU (fs.get t9)) s) fun e r => some (e, ((r.1, (orU (fs.get t0), orU (fs.get t1), orU (fs.get t2), orU (fs.get t6), orU (fs.get t7))), r.2)) := by
  rw [d44_l0]
  unfold D44_l0 B44_l0
  simp (maxSteps := 4000000) only [op2_op2, op2_op, op2_s, op2_cond, op2_bf, mov_v]
  first | done | kernel_rfl
def C44_l0 (rec : Rec) (N : Nat) (k : Value × Value × Value × Value × Value) (e : AExit) (r : (Value × Value) × St) : Out := (fun s => exV (fun i => bif Nat.beq i 0 then (J44_r1 rec N (k.1, k.2.1, k.2.2.1, k.2.2.2.1, k.2.2.2.2, r.1.1) s)
 else (none))
 (some (oneOf [k.2.2.2.1, k.2.2.2.2], s)) e) r.2
theorem j44_l0 (rec : Rec) (N : Nat) (fs : Frm) (s : St) : opt2 (loopF (c44_l0 rec N) N fs s) (fun e r => opt2 (blkX 0 e r) fun e r => opt2 (thenX (c44_r1 rec N) e r) fun e r => finX [.tmp t6, .tmp t7] e r) = opt2 (loopV (B44_l0 rec N (orU (fs.get t0), orU (fs.get t1), orU (fs.get t2), orU (fs.get t6), orU (fs.get t7))) N (orU (fs.get t8), orU (fs.get t9)) s) (C44_l0 rec N (orU (fs.get t0), orU (fs.get t1), orU (fs.get t2), orU (fs.get t6), orU (fs.get t7))) := by
  refine loop_j (fun fs => (orU (fs.get t8), orU (fs.get t9))) (fun fs => (orU (fs.get t0), orU (fs.get t1), orU (fs.get t2), orU (fs.get t6), orU (fs.get t7))) (B44_l0 rec N) (c44_l0 rec N) (s44_l0 rec N) (fun e r => opt2 (blkX 0 e r) fun e r => opt2 (thenX (c44_r1 rec N) e r) fun e r => finX [.tmp t6, .tmp t7] e r) (C44_l0 rec N) ?_ ?_ N fs s
  · intro i fs s
    unfold C44_l0
    simp (maxSteps := 4000000) only [thenX_n, thenX_e, thenX_r, x_exit, x_skip, x_ret, blkX_n, blkX_r, blkX_e, finX_r, finX_n, res_n, res_t, exV_e, exV_r, op2_op2, op2_op, op2_s, op2_cond, op2_bf, mov_v, j44_r1 rec N]
    first | done | kernel_rfl
  · intro fs s
    unfold C44_l0
    simp (maxSteps := 4000000) only [thenX_n, thenX_e, thenX_r, x_exit, x_skip, x_ret, blkX_n, blkX_r, blkX_e, finX_r, finX_n, res_n, res_t, exV_e, exV_r, op2_op2, op2_op, op2_s, op2_cond, op2_bf, mov_v, j44_r1 rec N]
    first | done | kernel_rfl
def J44_j1 (rec : Rec) (N : Nat) (k : Value × Value × Value × Value × Value) (s : St) : Out := opt2 (loopV (B44_l0 rec N (k.1, k.2.1, k.2.2.1, k.2.2.2.1, k.2.2.2.2)) N ((.int .i64 0), (.int .i64 1900)) s) (C44_l0 rec N (k.1, k.2.1, k.2.2.1, k.2.2.2.1, k.2.2.2.2))
set_option maxHeartbeats 4000000 in
theorem j44_j1 (rec : Rec) (N : Nat) (fs : Frm) (s : St) : opt2 (c44_j1 rec N fs s) (fun e r => finX [.tmp t6, .tmp t7] e r) = J44_j1 rec N (orU (fs.get t0), orU (fs.get t1), orU (fs.get t2), orU (fs.get t6), orU (fs.get t7)) s := by
  rw [d44_j1]
  unfold D44_j1 J44_j1
  simp (maxSteps := 4000000) only [thenX_n, thenX_e, thenX_r, x_exit, x_skip, x_ret, blkX_n, blkX_r, blkX_e, finX_r, finX_n, res_n, res_t, op2_op2, op2_op, op2_s, op2_cond, op2_bf, mov_v, j44_l0 rec N]
  first | done | kernel_rfl
def J44_j0 (rec : Rec) (N : Nat) (k : Value × Value × Value × Value × Value × Value) (s : St) : Out := condV k.2.2.2.2.2
 (some (oneOf [(.int .i64 0), (.bool false)], s))
 (J44_j1 rec N (k.1, k.2.1, k.2.2.1, k.2.2.2.1, k.2.2.2.2.1) s)
set_option maxHeartbeats 4000000 in
theorem j44_j0 (rec : Rec) (N : Nat) (fs : Frm) (s : St) : opt2 (c44_j0 rec N fs s) (fun e r => opt2 (thenX (c44_j1 rec N) e r) fun e r => finX [.tmp t6, .tmp t7] e r) = J44_j0 rec N (orU (fs.get t0), orU (fs.get t1), orU (fs.get t2), orU (fs.get t6), orU (fs.get t7), orU (fs.get t35)) s := by
  rw [d44_j0]
  unfold D44_j0 J44_j0
  simp (maxSteps := 4000000) only [thenX_n, thenX_e, thenX_r, x_exit, x_skip, x_ret, blkX_n, blkX_r, blkX_e, finX_r, finX_n, res_n, res_t, op2_op2, op2_op, op2_s, op2_cond, op2_bf, mov_v, j44_j1 rec N]
  first | done | kernel_rfl
def Q44_q0 (rec : Rec) (N : Nat) (k : Value × Value × Value × Value × Value × Value) (s : St) : Out := opt (gval false k.2.2.2.2.2) fun x1 => opt2 (orUndef x1 (some (k.2.2.1, s)) s) fun x2 s =>
 opt (gval false k.2.2.2.2.2) fun x3 => opt2 (orUndef x3 (oBin (int2 (cmpO ltI)) (.v x2) (.v (.int .i64 1)) rec PT.nil s) s) fun x4 s =>
 opt2 (oPick (.v k.2.2.2.2.2) (.v (.bool true)) (.v x4) rec PT.nil s) fun x5 s =>
 opt (gval false x5) fun x6 => opt2 (orUndef x6 (some (k.2.2.1, s)) s) fun x7 s =>
 opt (gval false x5) fun x8 => opt2 (orUndef x8 (some (k.1, s)) s) fun x9 s =>
 opt (gval false x5) fun x10 => opt2 (orUndef x10 (some (k.2.1, s)) s) fun x11 s =>
 opt (gval false x5) fun x12 => opt2 (orUndef x12 (rec 46 [x9, x11] s) s) fun x13 s =>
 opt (gval false x5) fun x14 => opt2 (orUndef x14 (oBin (int2 (cmpO gtI)) (.v x7) (.v x13) rec PT.nil s) s) fun x15 s =>
 opt2 (oPick (.v x5) (.v (.bool true)) (.v x15) rec PT.nil s) fun x16 s =>
 J44_j0 rec N (k.1, k.2.1, k.2.2.1, k.2.2.2.1, k.2.2.2.2.1, x16) s
set_option maxHeartbeats 4000000 in
theorem j44_q0 (rec : Rec) (N : Nat) (fs : Frm) (s : St) : opt2 (runOps rec c44_q0 fs s) (fun fs s => opt2 (c44_j0 rec N fs s) fun e r => opt2 (thenX (c44_j1 rec N) e r) fun e r => finX [.tmp t6, .tmp t7] e r) = Q44_q0 rec N (orU (fs.get t0), orU (fs.get t1), orU (fs.get t2), orU (fs.get t6), orU (fs.get t7), orU (fs.get t24)) s := by
  rw [d44_q0]
  unfold D44_q0 Q44_q0
  simp (maxSteps := 4000000) only [thenX_n, thenX_e, thenX_r, x_exit, x_skip, x_ret, blkX_n, blkX_r, blkX_e, finX_r, finX_n, res_n, res_t, op2_op2, op2_op, op2_s, op2_cond, op2_bf, mov_v, j44_j0 rec N]
  first | done | kernel_rfl
def F44 (rec : Rec) (N : Nat) (a0 : Value) (a1 : Value) (a2 : Value) (s : St) : Out := opt2 (oBin (int2 (cmpO ltI)) (.v a0) (.v (.int .i64 1900)) rec PT.nil s) fun x1 s =>
 opt (gval false x1) fun x2 => opt2 (orUndef x2 (some (a0, s)) s) fun x3 s =>
 opt (gval false x1) fun x4 => opt2 (orUndef x4 (oBin (int2 (cmpO gtI)) (.v x3) (.v (.int .i64 2199)) rec PT.nil s) s) fun x5 s =>
 opt2 (oPick (.v x1) (.v (.bool true)) (.v x5) rec PT.nil s) fun x6 s =>
 opt (gval false x6) fun x7 => opt2 (orUndef x7 (some (a1, s)) s) fun x8 s =>
 opt (gval false x6) fun x9 => opt2 (orUndef x9 (oBin (int2 (cmpO ltI)) (.v x8) (.v (.int .i64 1)) rec PT.nil s) s) fun x10 s =>
 opt2 (oPick (.v x6) (.v (.bool true)) (.v x10) rec PT.nil s) fun x11 s =>
 opt (gval false x11) fun x12 => opt2 (orUndef x12 (some (a1, s)) s) fun x13 s =>
 opt (gval false x11) fun x14 => opt2 (orUndef x14 (oBin (int2 (cmpO gtI)) (.v x13) (.v (.int .i64 12)) rec PT.nil s) s) fun x15 s =>
 opt2 (oPick (.v x11) (.v (.bool true)) (.v x15) rec PT.nil s) fun x16 s =>
 Q44_q0 rec N (a0, a1, a2, (.int .i64 0), (.bool false), x16) s
theorem f44 (rec : Rec) (N : Nat) (a0 : Value) (a1 : Value) (a2 : Value) (s : St) : callF rec N c44 [a0, a1, a2] s = F44 rec N a0 a1 a2 s := by
  rw [d44]
  unfold D44 F44
  simp (maxSteps := 4000000) only [mov_v, op2_s, j44_q0 rec N]
  first | done | kernel_rfl
-- c45
def D45 (rec : Rec) (N : Nat) (a0 : Value) (s : St) : Out := opt2 (oMov (.v (.bool false)) rec PT.nil s) fun x1 s =>
 opt2 (oMov (.v a0) rec PT.nil s) fun x2 s =>
 opt2 (oBin (int2 remO) (.v x2) (.v (.int .i64 4)) rec PT.nil s) fun x3 s =>
 opt2 (oBin (int2 (cmpO eqI)) (.v x3) (.v (.int .i64 0)) rec PT.nil s) fun x4 s =>
 opt2 (oMov (.v x4) rec PT.nil s) fun x5 s =>
 opt (gval true x5) fun x6 => opt2 (orUndef x6 (oMov (.v a0) rec PT.nil s) s) fun x7 s =>
 opt (gval true x5) fun x8 => opt2 (orUndef x8 (oBin (int2 remO) (.v x7) (.v (.int .i64 100)) rec PT.nil s) s) fun x9 s =>
 opt (gval true x5) fun x10 => opt2 (orUndef x10 (oBin (int2 (cmpO neI)) (.v x9) (.v (.int .i64 0)) rec PT.nil s) s) fun x11 s =>
 opt2 (oPick (.v x5) (.v x11) (.v (.bool false)) rec PT.nil s) fun x12 s =>
 opt2 (oMov (.v x12) rec PT.nil s) fun x13 s =>
 opt (gval false x13) fun x14 => opt2 (orUndef x14 (oMov (.v a0) rec PT.nil s) s) fun x15 s =>
 opt (gval false x13) fun x16 => opt2 (orUndef x16 (oBin (int2 remO) (.v x15) (.v (.int .i64 400)) rec PT.nil s) s) fun x17 s =>
 opt (gval false x13) fun x18 => opt2 (orUndef x18 (oBin (int2 (cmpO eqI)) (.v x17) (.v (.int .i64 0)) rec PT.nil s) s) fun x19 s =>
 opt2 (oPick (.v x13) (.v (.bool true)) (.v x19) rec PT.nil s) fun x20 s =>
 opt2 (oMov (.v x20) rec PT.nil s) fun x21 s =>
 some (oneOf [x21], s)
set_option maxHeartbeats 4000000 in
theorem d45 (rec : Rec) (N : Nat) (a0 : Value) (s : St) : callF rec N c45 [a0] s = D45 rec N a0 s := by
  rw [call_f _ _ _ _ _ rfl]
  simp (maxSteps := 4000000) only [c45, lenN, x_seq, x_ops, x_skip, x_ret, x_exit, x_cond, x_block, x_loop, ops_c, ops_n, op1_u, op1_gj, rq_c, rq_n, opQ_u, opQ_g, op2_op2, op2_op, op2_s, op2_cond, thenX_n, thenX_e, thenX_r, blkX_n, blkX_r, blkX_e, finX_r, finX_n, res_n, res_t, op_s, Nat.beq_refl, cond_true]
  first | done | kernel_rfl
def F45 (rec : Rec) (N : Nat) (a0 : Value) (s : St) : Out := opt2 (oBin (int2 remO) (.v a0) (.v (.int .i64 4)) rec PT.nil s) fun x1 s =>
 opt2 (oBin (int2 (cmpO eqI)) (.v x1) (.v (.int .i64 0)) rec PT.nil s) fun x2 s =>
 opt (gval true x2) fun x3 => opt2 (orUndef x3 (some (a0, s)) s) fun x4 s =>
 opt (gval true x2) fun x5 => opt2 (orUndef x5 (oBin (int2 remO) (.v x4) (.v (.int .i64 100)) rec PT.nil s) s) fun x6 s =>
 opt (gval true x2) fun x7 => opt2 (orUndef x7 (oBin (int2 (cmpO neI)) (.v x6) (.v (.int .i64 0)) rec PT.nil s) s) fun x8 s =>
 opt2 (oPick (.v x2) (.v x8) (.v (.bool false)) rec PT.nil s) fun x9 s =>
 opt (gval false x9) fun x10 => opt2 (orUndef x10 (some (a0, s)) s) fun x11 s =>
 opt (gval false x9) fun x12 => opt2 (orUndef x12 (oBin (int2 remO) (.v x11) (.v (.int .i64 400)) rec PT.nil s) s) fun x13 s =>
 opt (gval false x9) fun x14 => opt2 (orUndef x14 (oBin (int2 (cmpO eqI)) (.v x13) (.v (.int .i64 0)) rec PT.nil s) s) fun x15 s =>
 opt2 (oPick (.v x9) (.v (.bool true)) (.v x15) rec PT.nil s) fun x16 s =>
 some (oneOf [x16], s)
set_option maxHeartbeats 4000000 in
theorem f45 (rec : Rec) (N : Nat) (a0 : Value) (s : St) : callF rec N c45 [a0] s = F45 rec N a0 s := by
  rw [d45]
  unfold D45 F45
  first
    | done
    | rfl
    | (simp (maxSteps := 4000000) only [mov_v, op2_s]; first | done | kernel_rfl)
    | kernel_rfl
-- c46
def D46_j0 (rec : Rec) (N : Nat) (fs : Frm) (s : St) : OutX := condV (orU (fs.get t14))
 (opt2 (oMov (.v (.int .i64 30)) rec PT.nil s) fun x1 s =>
 some (.ret, (PT.put x1 t4 fs), s))
 (opt2 (oBin (int2 (cmpO eqI)) (.v (orU (fs.get t5))) (.v (.int .i64 2)) rec PT.nil s) fun x2 s =>
 opt2 (oMov (.v x2) rec PT.nil s) fun x3 s =>
 condV x3
 (opt2 (oMov (.v (orU (fs.get t0))) rec PT.nil s) fun x4 s =>
 opt2 (rec 45 [x4] s) fun x5 s =>
 condV x5
 (opt2 (oMov (.v (.int .i64 29)) rec PT.nil s) fun x6 s =>
 some (.ret, (PT.put x6 t4 (PT.put x5 t22 (PT.put x4 t21 (PT.put x3 t19 (PT.put x2 t20 fs))))), s))
 (opt2 (oMov (.v (.int .i64 28)) rec PT.nil s) fun x7 s =>
 some (.ret, (PT.put x7 t4 (PT.put x5 t22 (PT.put x4 t21 (PT.put x3 t19 (PT.put x2 t20 fs))))), s)))
 (some (.norm, (PT.put x3 t19 (PT.put x2 t20 fs)), s)))
set_option maxHeartbeats 4000000 in
theorem d46_j0 (rec : Rec) (N : Nat) (fs : Frm) (s : St) : c46_j0 rec N fs s = D46_j0 rec N fs s := by
  simp (maxSteps := 4000000) only [c46_j0, lenN, x_seq, x_ops, x_skip, x_ret, x_exit, x_cond, x_block, x_loop, ops_c, ops_n, op1_u, op1_gj, rq_c, rq_n, opQ_u, opQ_g, op2_op2, op2_op, op2_s, op2_cond, thenX_n, thenX_e, thenX_r, blkX_n, blkX_r, blkX_e, finX_r, finX_n, res_n, res_t, op_s, Nat.beq_refl, cond_true]
  first | done | kernel_rfl
def D46_j1 (rec : Rec) (N : Nat) (fs : Frm) (s : St) : OutX := condV (orU (fs.get t6))
 (opt2 (oMov (.v (.int .i64 31)) rec PT.nil s) fun x1 s =>
 some (.ret, (PT.put x1 t4 fs), s))
 (opt2 (oBin (int2 (cmpO eqI)) (.v (orU (fs.get t5))) (.v (.int .i64 4)) rec PT.nil s) fun x2 s =>
 opt2 (oMov (.v x2) rec PT.nil s) fun x3 s =>
 condV x3
 (c46_j0 rec N (PT.put x3 t14 (PT.put x2 t15 fs)) s)
 (opt2 (oBin (int2 (cmpO eqI)) (.v (orU (fs.get t5))) (.v (.int .i64 6)) rec PT.nil s) fun x4 s =>
 opt2 (oMov (.v x4) rec PT.nil s) fun x5 s =>
 condV x5
 (c46_j0 rec N (PT.put x5 t14 (PT.put x4 t16 (PT.put x3 t14 (PT.put x2 t15 fs)))) s)
 (opt2 (oBin (int2 (cmpO eqI)) (.v (orU (fs.get t5))) (.v (.int .i64 9)) rec PT.nil s) fun x6 s =>
 opt2 (oMov (.v x6) rec PT.nil s) fun x7 s =>
 condV x7
 (c46_j0 rec N (PT.put x7 t14 (PT.put x6 t17 (PT.put x5 t14 (PT.put x4 t16 (PT.put x3 t14 (PT.put x2 t15 fs)))))) s)
 (opt2 (oBin (int2 (cmpO eqI)) (.v (orU (fs.get t5))) (.v (.int .i64 11)) rec PT.nil s) fun x8 s =>
 opt2 (oMov (.v x8) rec PT.nil s) fun x9 s =>
 c46_j0 rec N (PT.put x9 t14 (PT.put x8 t18 (PT.put x7 t14 (PT.put x6 t17 (PT.put x5 t14 (PT.put x4 t16 (PT.put x3 t14 (PT.put x2 t15 fs)))))))) s))))
set_option maxHeartbeats 4000000 in
theorem d46_j1 (rec : Rec) (N : Nat) (fs : Frm) (s : St) : c46_j1 rec N fs s = D46_j1 rec N fs s := by
  simp (maxSteps := 4000000) only [c46_j1, lenN, x_seq, x_ops, x_skip, x_ret, x_exit, x_cond, x_block, x_loop, ops_c, ops_n, op1_u, op1_gj, rq_c, rq_n, opQ_u, opQ_g, op2_op2, op2_op, op2_s, op2_cond, thenX_n, thenX_e, thenX_r, blkX_n, blkX_r, blkX_e, finX_r, finX_n, res_n, res_t, op_s, Nat.beq_refl, cond_true]
  first | done | kernel_rfl
def D46_j2 (rec : Rec) (N : Nat) (fs : Frm) (s : St) : OutX := opt2 (oMov (.v (.int .i64 0)) rec PT.nil s) fun x1 s =>
 some (.ret, (PT.put x1 t4 fs), s)
set_option maxHeartbeats 4000000 in
theorem d46_j2 (rec : Rec) (N : Nat) (fs : Frm) (s : St) : c46_j2 rec N fs s = D46_j2 rec N fs s := by
  simp (maxSteps := 4000000) only [c46_j2, lenN, x_seq, x_ops, x_skip, x_ret, x_exit, x_cond, x_block, x_loop, ops_c, ops_n, op1_u, op1_gj, rq_c, rq_n, opQ_u, opQ_g, op2_op2, op2_op, op2_s, op2_cond, thenX_n, thenX_e, thenX_r, blkX_n, blkX_r, blkX_e, finX_r, finX_n, res_n, res_t, op_s, Nat.beq_refl, cond_true]
  first | done | kernel_rfl
def D46 (rec : Rec) (N : Nat) (a0 : Value) (a1 : Value) (s : St) : Out := opt2 (oMov (.v (.int .i64 0)) rec PT.nil s) fun x1 s =>
 opt2 (oMov (.v a1) rec PT.nil s) fun x2 s =>
 opt2 (oBin (int2 (cmpO eqI)) (.v x2) (.v (.int .i64 1)) rec PT.nil s) fun x3 s =>
 opt2 (oMov (.v x3) rec PT.nil s) fun x4 s =>
 condV x4
 (opt2 (c46_j1 rec N (PT.put x4 t6 (PT.put x3 t7 (PT.put x2 t5 (PT.put x1 t4 (PT.put a1 t1 (PT.put a0 t0 PT.nil)))))) s) fun e r => opt2 (blkX 0 e r) fun e r => opt2 (thenX (c46_j2 rec N) e r) fun e r => finX [.tmp t4] e r)
 (opt2 (oBin (int2 (cmpO eqI)) (.v x2) (.v (.int .i64 3)) rec PT.nil s) fun x5 s =>
 opt2 (oMov (.v x5) rec PT.nil s) fun x6 s =>
 condV x6
 (opt2 (c46_j1 rec N (PT.put x6 t6 (PT.put x5 t8 (PT.put x4 t6 (PT.put x3 t7 (PT.put x2 t5 (PT.put x1 t4 (PT.put a1 t1 (PT.put a0 t0 PT.nil)))))))) s) fun e r => opt2 (blkX 0 e r) fun e r => opt2 (thenX (c46_j2 rec N) e r) fun e r => finX [.tmp t4] e r)
 (opt2 (oBin (int2 (cmpO eqI)) (.v x2) (.v (.int .i64 5)) rec PT.nil s) fun x7 s =>
 opt2 (oMov (.v x7) rec PT.nil s) fun x8 s =>
 condV x8
 (opt2 (c46_j1 rec N (PT.put x8 t6 (PT.put x7 t9 (PT.put x6 t6 (PT.put x5 t8 (PT.put x4 t6 (PT.put x3 t7 (PT.put x2 t5 (PT.put x1 t4 (PT.put a1 t1 (PT.put a0 t0 PT.nil)))))))))) s) fun e r => opt2 (blkX 0 e r) fun e r => opt2 (thenX (c46_j2 rec N) e r) fun e r => finX [.tmp t4] e r)
 (opt2 (oBin (int2 (cmpO eqI)) (.v x2) (.v (.int .i64 7)) rec PT.nil s) fun x9 s =>
 opt2 (oMov (.v x9) rec PT.nil s) fun x10 s =>
 condV x10
 (opt2 (c46_j1 rec N (PT.put x10 t6 (PT.put x9 t10 (PT.put x8 t6 (PT.put x7 t9 (PT.put x6 t6 (PT.put x5 t8 (PT.put x4 t6 (PT.put x3 t7 (PT.put x2 t5 (PT.put x1 t4 (PT.put a1 t1 (PT.put a0 t0 PT.nil)))))))))))) s) fun e r => opt2 (blkX 0 e r) fun e r => opt2 (thenX (c46_j2 rec N) e r) fun e r => finX [.tmp t4] e r)
 (opt2 (oBin (int2 (cmpO eqI)) (.v x2) (.v (.int .i64 8)) rec PT.nil s) fun x11 s =>
 opt2 (oMov (.v x11) rec PT.nil s) fun x12 s =>
 condV x12
 (opt2 (c46_j1 rec N (PT.put x12 t6 (PT.put x11 t11 (PT.put x10 t6 (PT.put x9 t10 (PT.put x8 t6 (PT.put x7 t9 (PT.put x6 t6 (PT.put x5 t8 (PT.put x4 t6 (PT.put x3 t7 (PT.put x2 t5 (PT.put x1 t4 (PT.put a1 t1 (PT.put a0 t0 PT.nil)))))))))))))) s) fun e r => opt2 (blkX 0 e r) fun e r => opt2 (thenX (c46_j2 rec N) e r) fun e r => finX [.tmp t4] e r)
 (opt2 (oBin (int2 (cmpO eqI)) (.v x2) (.v (.int .i64 10)) rec PT.nil s) fun x13 s =>
 opt2 (oMov (.v x13) rec PT.nil s) fun x14 s =>
 condV x14
 (opt2 (c46_j1 rec N (PT.put x14 t6 (PT.put x13 t12 (PT.put x12 t6 (PT.put x11 t11 (PT.put x10 t6 (PT.put x9 t10 (PT.put x8 t6 (PT.put x7 t9 (PT.put x6 t6 (PT.put x5 t8 (PT.put x4 t6 (PT.put x3 t7 (PT.put x2 t5 (PT.put x1 t4 (PT.put a1 t1 (PT.put a0 t0 PT.nil)))))))))))))))) s) fun e r => opt2 (blkX 0 e r) fun e r => opt2 (thenX (c46_j2 rec N) e r) fun e r => finX [.tmp t4] e r)
 (opt2 (oBin (int2 (cmpO eqI)) (.v x2) (.v (.int .i64 12)) rec PT.nil s) fun x15 s =>
 opt2 (oMov (.v x15) rec PT.nil s) fun x16 s =>
 opt2 (c46_j1 rec N (PT.put x16 t6 (PT.put x15 t13 (PT.put x14 t6 (PT.put x13 t12 (PT.put x12 t6 (PT.put x11 t11 (PT.put x10 t6 (PT.put x9 t10 (PT.put x8 t6 (PT.put x7 t9 (PT.put x6 t6 (PT.put x5 t8 (PT.put x4 t6 (PT.put x3 t7 (PT.put x2 t5 (PT.put x1 t4 (PT.put a1 t1 (PT.put a0 t0 PT.nil)))))))))))))))))) s) fun e r => opt2 (blkX 0 e r) fun e r => opt2 (thenX (c46_j2 rec N) e r) fun e r => finX [.tmp t4] e r))))))
set_option maxHeartbeats 4000000 in
theorem d46 (rec : Rec) (N : Nat) (a0 : Value) (a1 : Value) (s : St) : callF rec N c46 [a0, a1] s = D46 rec N a0 a1 s := by
  rw [call_f _ _ _ _ _ rfl]
  simp (maxSteps := 4000000) only [c46, lenN, x_seq, x_ops, x_skip, x_ret, x_exit, x_cond, x_block, x_loop, ops_c, ops_n, op1_u, op1_gj, rq_c, rq_n, opQ_u, opQ_g, op2_op2, op2_op, op2_s, op2_cond, thenX_n, thenX_e, thenX_r, blkX_n, blkX_r, blkX_e, finX_r, finX_n, res_n, res_t, op_s, Nat.beq_refl, cond_true]
  first | done | kernel_rfl
def J46_j2 (rec : Rec) (N : Nat) (k : Unit) (s : St) : Out := some (oneOf [(.int .i64 0)], s)
set_option maxHeartbeats 4000000 in
theorem j46_j2 (rec : Rec) (N : Nat) (fs : Frm) (s : St) : opt2 (c46_j2 rec N fs s) (fun e r => finX [.tmp t4] e r) = J46_j2 rec N () s := by
  rw [d46_j2]
  unfold D46_j2 J46_j2
  simp (maxSteps := 4000000) only [thenX_n, thenX_e, thenX_r, x_exit, x_skip, x_ret, blkX_n, blkX_r, blkX_e, finX_r, finX_n, res_n, res_t, op2_op2, op2_op, op2_s, op2_cond, op2_bf, mov_v]
  first | done | kernel_rfl
def J46_j0 (rec : Rec) (N : Nat) (k : Value × Value × Value) (s : St) : Out := condV k.2.2
 (some (oneOf [(.int .i64 30)], s))
 (opt2 (oBin (int2 (cmpO eqI)) (.v k.2.1) (.v (.int .i64 2)) rec PT.nil s) fun x1 s =>
 condV x1
 (opt2 (rec 45 [k.1] s) fun x2 s =>
 condV x2
 (some (oneOf [(.int .i64 29)], s))
 (some (oneOf [(.int .i64 28)], s)))
 (J46_j2 rec N () s))
set_option maxHeartbeats 4000000 in
theorem j46_j0 (rec : Rec) (N : Nat) (fs : Frm) (s : St) : opt2 (c46_j0 rec N fs s) (fun e r => opt2 (blkX 0 e r) fun e r => opt2 (thenX (c46_j2 rec N) e r) fun e r => finX [.tmp t4] e r) = J46_j0 rec N (orU (fs.get t0), orU (fs.get t5), orU (fs.get t14)) s := by
  rw [d46_j0]
  unfold D46_j0 J46_j0
  simp (maxSteps := 4000000) only [thenX_n, thenX_e, thenX_r, x_exit, x_skip, x_ret, blkX_n, blkX_r, blkX_e, finX_r, finX_n, res_n, res_t, op2_op2, op2_op, op2_s, op2_cond, op2_bf, mov_v, j46_j2 rec N]
  first | done | kernel_rfl
def J46_j1 (rec : Rec) (N : Nat) (k : Value × Value × Value) (s : St) : Out := condV k.2.2
 (some (oneOf [(.int .i64 31)], s))
 (opt2 (oBin (int2 (cmpO eqI)) (.v k.2.1) (.v (.int .i64 4)) rec PT.nil s) fun x1 s =>
 condV x1
 (J46_j0 rec N (k.1, k.2.1, x1) s)
 (opt2 (oBin (int2 (cmpO eqI)) (.v k.2.1) (.v (.int .i64 6)) rec PT.nil s) fun x2 s =>
 condV x2
 (J46_j0 rec N (k.1, k.2.1, x2) s)
 (opt2 (oBin (int2 (cmpO eqI)) (.v k.2.1) (.v (.int .i64 9)) rec PT.nil s) fun x3 s =>
 condV x3
 (J46_j0 rec N (k.1, k.2.1, x3) s)
 (opt2 (oBin (int2 (cmpO eqI)) (.v k.2.1) (.v (.int .i64 11)) rec PT.nil s) fun x4 s =>
 J46_j0 rec N (k.1, k.2.1, x4) s))))
set_option maxHeartbeats 4000000 in
theorem j46_j1 (rec : Rec) (N : Nat) (fs : Frm) (s : St) : opt2 (c46_j1 rec N fs s) (fun e r => opt2 (blkX 0 e r) fun e r => opt2 (thenX (c46_j2 rec N) e r) fun e r => finX [.tmp t4] e r) = J46_j1 rec N (orU (fs.get t0), orU (fs.get t5), orU (fs.get t6)) s := by
  rw [d46_j1]
  unfold D46_j1 J46_j1
  simp (maxSteps := 4000000) only [thenX_n, thenX_e, thenX_r, x_exit, x_skip, x_ret, blkX_n, blkX_r, blkX_e, finX_r, finX_n, res_n, res_t, op2_op2, op2_op, op2_s, op2_cond, op2_bf, mov_v, j46_j0 rec N]
  first | done | kernel_rfl
def F46 (rec : Rec) (N : Nat) (a0 : Value) (a1 : Value) (s : St) : Out := opt2 (oBin (int2 (cmpO eqI)) (.v a1) (.v (.int .i64 1)) rec PT.nil s) fun x1 s =>
 condV x1
 (J46_j1 rec N (a0, a1, x1) s)
 (opt2 (oBin (int2 (cmpO eqI)) (.v a1) (.v (.int .i64 3)) rec PT.nil s) fun x2 s =>
 condV x2
 (J46_j1 rec N (a0, a1, x2) s)
 (opt2 (oBin (int2 (cmpO eqI)) (.v a1) (.v (.int .i64 5)) rec PT.nil s) fun x3 s =>
 condV x3
 (J46_j1 rec N (a0, a1, x3) s)
 (opt2 (oBin (int2 (cmpO eqI)) (.v a1) (.v (.int .i64 7)) rec PT.nil s) fun x4 s =>
 condV x4
 (J46_j1 rec N (a0, a1, x4) s)
 (opt2 (oBin (int2 (cmpO eqI)) (.v a1) (.v (.int .i64 8)) rec PT.nil s) fun x5 s =>
 condV x5
 (J46_j1 rec N (a0, a1, x5) s)
 (opt2 (oBin (int2 (cmpO eqI)) (.v a1) (.v (.int .i64 10)) rec PT.nil s) fun x6 s =>
 condV x6
 (J46_j1 rec N (a0, a1, x6) s)
 (opt2 (oBin (int2 (cmpO eqI)) (.v a1) (.v (.int .i64 12)) rec PT.nil s) fun x7 s =>
 J46_j1 rec N (a0, a1, x7) s))))))
theorem f46 (rec : Rec) (N : Nat) (a0 : Value) (a1 : Value) (s : St) : callF rec N c46 [a0, a1] s = F46 rec N a0 a1 s := by
  rw [d46]
  unfold D46 F46
  simp (maxSteps := 4000000) only [mov_v, op2_s, j46_j1 rec N]
  first | done | kernel_rfl
-- c47
def D47 (rec : Rec) (N : Nat) (a0 : Value) (a1 : Value) (s : St) : Out := opt2 (oMov (.v (.int .i64 0)) rec PT.nil s) fun x1 s =>
 opt2 (oMov (.v a0) rec PT.nil s) fun x2 s =>
 opt2 (oBin (str2 (cmpS eqBytes)) (.v x2) (.v (.string ⟨⟨[]⟩⟩)) rec PT.nil s) fun x3 s =>
 opt2 (oMov (.v x3) rec PT.nil s) fun x4 s =>
 opt (gval false x4) fun x5 => opt2 (orUndef x5 (oMov (.v a0) rec PT.nil s) s) fun x6 s =>
 opt (gval false x4) fun x7 => opt2 (orUndef x7 (oIdxS (.v x6) (.v (.int .i64 0)) rec PT.nil s) s) fun x8 s =>
 opt (gval false x4) fun x9 => opt2 (orUndef x9 (oBin (int2 (cmpO neI)) (.v x8) (.v (.int .u8 46)) rec PT.nil s) s) fun x10 s =>
 opt2 (oPick (.v x4) (.v (.bool true)) (.v x10) rec PT.nil s) fun x11 s =>
 condV x11
 (opt2 (oMov (.v (.int .i64 0)) rec PT.nil s) fun x12 s =>
 some (oneOf [x12], s))
 (opt2 (oMov (.v a0) rec PT.nil s) fun x13 s =>
 opt2 (oSliceS (.v x13) (some (.v (.int .i64 1))) none rec PT.nil s) fun x14 s =>
 opt2 (rec 25 [x14, (.func (.func 30) #[] #[])] s) fun x15 s =>
 opt2 (oMov (.v x15) rec PT.nil s) fun x16 s =>
 opt2 (oMov (.v x16) rec PT.nil s) fun x17 s =>
 opt2 (oMov (.v a1) rec PT.nil s) fun x18 s =>
 opt2 (oBin (int2 (cmpO leI)) (.v x17) (.v x18) rec PT.nil s) fun x19 s =>
 condV x19
 (opt2 (oMov (.v x16) rec PT.nil s) fun x20 s =>
 opt2 (oMov (.v x20) rec PT.nil s) fun x21 s =>
 some (oneOf [x21], s))
 (opt2 (oMov (.v (.int .i64 0)) rec PT.nil s) fun x22 s =>
 some (oneOf [x22], s)))
set_option maxHeartbeats 4000000 in
theorem d47 (rec : Rec) (N : Nat) (a0 : Value) (a1 : Value) (s : St) : callF rec N c47 [a0, a1] s = D47 rec N a0 a1 s := by
  rw [call_f _ _ _ _ _ rfl]
  simp (maxSteps := 4000000) only [c47, lenN, x_seq, x_ops, x_skip, x_ret, x_exit, x_cond, x_block, x_loop, ops_c, ops_n, op1_u, op1_gj, rq_c, rq_n, opQ_u, opQ_g, op2_op2, op2_op, op2_s, op2_cond, thenX_n, thenX_e, thenX_r, blkX_n, blkX_r, blkX_e, finX_r, finX_n, res_n, res_t, op_s, Nat.beq_refl, cond_true]
  first | done | kernel_rfl
def F47 (rec : Rec) (N : Nat) (a0 : Value) (a1 : Value) (s : St) : Out := opt2 (oBin (str2 (cmpS eqBytes)) (.v a0) (.v (.string ⟨⟨[]⟩⟩)) rec PT.nil s) fun x1 s =>
 opt (gval false x1) fun x2 => opt2 (orUndef x2 (some (a0, s)) s) fun x3 s =>
 opt (gval false x1) fun x4 => opt2 (orUndef x4 (oIdxS (.v x3) (.v (.int .i64 0)) rec PT.nil s) s) fun x5 s =>
 opt (gval false x1) fun x6 => opt2 (orUndef x6 (oBin (int2 (cmpO neI)) (.v x5) (.v (.int .u8 46)) rec PT.nil s) s) fun x7 s =>
 opt2 (oPick (.v x1) (.v (.bool true)) (.v x7) rec PT.nil s) fun x8 s =>
 condV x8
 (some (oneOf [(.int .i64 0)], s))
 (opt2 (oSliceS (.v a0) (some (.v (.int .i64 1))) none rec PT.nil s) fun x9 s =>
 opt2 (rec 25 [x9, (.func (.func 30) #[] #[])] s) fun x10 s =>
 opt2 (oBin (int2 (cmpO leI)) (.v x10) (.v a1) rec PT.nil s) fun x11 s =>
 condV x11
 (some (oneOf [x10], s))
 (some (oneOf [(.int .i64 0)], s)))
set_option maxHeartbeats 4000000 in
theorem f47 (rec : Rec) (N : Nat) (a0 : Value) (a1 : Value) (s : St) : callF rec N c47 [a0, a1] s = F47 rec N a0 a1 s := by
  rw [d47]
  unfold D47 F47
  first
    | done
    | rfl
    | (simp (maxSteps := 4000000) only [mov_v, op2_s]; first | done | kernel_rfl)
    | kernel_rfl
-- c49
theorem q49_g0 (rec : Rec) (n : Nat) (fs : Frm) (s : St) : xReg c49_g0 [(0, 3), (1, 3), (2, 3), (0, 4), (1, 4), (2, 4), (0, 6), (1, 6), (2, 6), (3, 6), (4, 6), (5, 6), (0, 7), (1, 7), (2, 7), (3, 7), (4, 7), (5, 7), (10, 11)] rec n fs s = opt2 (runQ rec [⟨(some t17), oMov (.t t0), none, none⟩,
   ⟨(some t18), oSliceS (.t t17) none (some (.v (.int .i64 4))), none, none⟩,
   ⟨(some t19), oCall 56 [(.t t18)], none, none⟩,
   ⟨(some t20), oMov (.t t0), none, none⟩,
   ⟨(some t21), oSliceS (.t t20) (some (.v (.int .i64 5))) (some (.v (.int .i64 7))), none, none⟩,
   ⟨(some t22), oCall 56 [(.t t21)], none, none⟩,
   ⟨(some t23), oMov (.t t0), none, none⟩,
   ⟨(some t24), oSliceS (.t t23) (some (.v (.int .i64 8))) none, none, none⟩,
   ⟨(some t25), oCall 56 [(.t t24)], none, none⟩,
   ⟨(some t26), oCall 55 [(.t t19), (.t t22), (.t t25)], none, none⟩,
   ⟨(some t27), oExtract (.t t26) 0, none, none⟩,
   ⟨(some t28), oExtract (.t t26) 1, none, none⟩,
   ⟨(some t2), oMov (.t t27), none, none⟩,
   ⟨(some t3), oMov (.t t28), none, none⟩] fs s) fun fs s => some (.norm, fs, s) :=
 reg_q (ks := [0, 0, 2, 0, 0, 2, 0, 0, 2, 2, 0, 0, 0, 0]) (okc (ok0 (qv_mov (.t t0)) rfl)
 (okc (ok0 (qv_slices (.t t17) none (some (.v (.int .i64 4)))) rfl)
 (okc (ok2 rfl)
 (okc (ok0 (qv_mov (.t t0)) rfl)
 (okc (ok0 (qv_slices (.t t20) (some (.v (.int .i64 5))) (some (.v (.int .i64 7)))) rfl)
 (okc (ok2 rfl)
 (okc (ok0 (qv_mov (.t t0)) rfl)
 (okc (ok0 (qv_slices (.t t23) (some (.v (.int .i64 8))) none) rfl)
 (okc (ok2 rfl)
 (okc (ok2 rfl)
 (okc (ok0 (qv_extract (.t t26) 0) rfl)
 (okc (ok0 (qv_extract (.t t26) 1) rfl)
 (okc (ok0 (qv_mov (.t t27)) rfl)
 (okc (ok0 (qv_mov (.t t28)) rfl)
 okn)))))))))))))) (by kernel_rfl) rec n fs s
def D49 (rec : Rec) (N : Nat) (a0 : Value) (s : St) : Out := opt2 (oMov (.v (.int .i64 0)) rec PT.nil s) fun x1 s =>
 opt2 (oMov (.v (.bool false)) rec PT.nil s) fun x2 s =>
 opt2 (oMov (.v a0) rec PT.nil s) fun x3 s =>
 opt2 (oLenS (.v x3) rec PT.nil s) fun x4 s =>
 opt2 (oBin (int2 (cmpO neI)) (.v x4) (.v (.int .i64 10)) rec PT.nil s) fun x5 s =>
 opt2 (oMov (.v x5) rec PT.nil s) fun x6 s =>
 opt (gval false x6) fun x7 => opt2 (orUndef x7 (oMov (.v a0) rec PT.nil s) s) fun x8 s =>
 opt (gval false x6) fun x9 => opt2 (orUndef x9 (oIdxS (.v x8) (.v (.int .i64 4)) rec PT.nil s) s) fun x10 s =>
 opt (gval false x6) fun x11 => opt2 (orUndef x11 (oBin (int2 (cmpO neI)) (.v x10) (.v (.int .u8 45)) rec PT.nil s) s) fun x12 s =>
 opt2 (oPick (.v x6) (.v (.bool true)) (.v x12) rec PT.nil s) fun x13 s =>
 opt2 (oMov (.v x13) rec PT.nil s) fun x14 s =>
 opt (gval false x14) fun x15 => opt2 (orUndef x15 (oMov (.v a0) rec PT.nil s) s) fun x16 s =>
 opt (gval false x14) fun x17 => opt2 (orUndef x17 (oIdxS (.v x16) (.v (.int .i64 7)) rec PT.nil s) s) fun x18 s =>
 opt (gval false x14) fun x19 => opt2 (orUndef x19 (oBin (int2 (cmpO neI)) (.v x18) (.v (.int .u8 45)) rec PT.nil s) s) fun x20 s =>
 opt2 (oPick (.v x14) (.v (.bool true)) (.v x20) rec PT.nil s) fun x21 s =>
 condV x21
 (opt2 (oMov (.v (.int .i64 0)) rec PT.nil s) fun x22 s =>
 opt2 (oMov (.v (.bool false)) rec PT.nil s) fun x23 s =>
 some (oneOf [x22, x23], s))
 (opt2 (oMov (.v a0) rec PT.nil s) fun x24 s =>
 opt2 (oSliceS (.v x24) none (some (.v (.int .i64 4))) rec PT.nil s) fun x25 s =>
 opt2 (rV (rec 56 [x25] (z0 s)) s) fun x26 s =>
 opt2 (oMov (.v a0) rec PT.nil s) fun x27 s =>
 opt2 (oSliceS (.v x27) (some (.v (.int .i64 5))) (some (.v (.int .i64 7))) rec PT.nil s) fun x28 s =>
 opt2 (rV (rec 56 [x28] (z0 s)) s) fun x29 s =>
 opt2 (oMov (.v a0) rec PT.nil s) fun x30 s =>
 opt2 (oSliceS (.v x30) (some (.v (.int .i64 8))) none rec PT.nil s) fun x31 s =>
 opt2 (rV (rec 56 [x31] (z0 s)) s) fun x32 s =>
 opt2 (rV (rec 55 [x26, x29, x32] (z0 s)) s) fun x33 s =>
 opt2 (oExtract (.v x33) 0 rec PT.nil s) fun x34 s =>
 opt2 (oExtract (.v x33) 1 rec PT.nil s) fun x35 s =>
 opt2 (oMov (.v x34) rec PT.nil s) fun x36 s =>
 opt2 (oMov (.v x35) rec PT.nil s) fun x37 s =>
 some (oneOf [x36, x37], s))
set_option maxHeartbeats 4000000 in
theorem d49 (rec : Rec) (N : Nat) (a0 : Value) (s : St) : callF rec N c49 [a0] s = D49 rec N a0 s := by
  rw [call_f _ _ _ _ _ rfl]
  simp (maxSteps := 4000000) only [c49, lenN, x_seq, x_ops, x_skip, x_ret, x_exit, x_cond, x_block, x_loop, ops_c, ops_n, op1_u, op1_gj, rq_c, rq_n, opQ_u, opQ_g, op2_op2, op2_op, op2_s, op2_cond, thenX_n, thenX_e, thenX_r, blkX_n, blkX_r, blkX_e, finX_r, finX_n, res_n, res_t, op_s, Nat.beq_refl, cond_true, q49_g0, sm_bin, sm_box, sm_build, sm_buildslice, sm_bytesstr, sm_compl, sm_conv, sm_eqs, sm_eqv, sm_ext, sm_extract, sm_field, sm_fieldaddr, sm_func, sm_idxaa, sm_idxl, sm_idxs, sm_iface, sm_lenc, sm_lenl, sm_lens, sm_load1, sm_loadn, sm_mm, sm_mov, sm_neg, sm_new, sm_nil, sm_not, sm_pick, sm_same, sm_slices, sm_store]
  first | done | kernel_rfl
def F49 (rec : Rec) (N : Nat) (a0 : Value) (s : St) : Out := opt2 (oLenS (.v a0) rec PT.nil s) fun x1 s =>
 opt2 (oBin (int2 (cmpO neI)) (.v x1) (.v (.int .i64 10)) rec PT.nil s) fun x2 s =>
 opt (gval false x2) fun x3 => opt2 (orUndef x3 (some (a0, s)) s) fun x4 s =>
 opt (gval false x2) fun x5 => opt2 (orUndef x5 (oIdxS (.v x4) (.v (.int .i64 4)) rec PT.nil s) s) fun x6 s =>
 opt (gval false x2) fun x7 => opt2 (orUndef x7 (oBin (int2 (cmpO neI)) (.v x6) (.v (.int .u8 45)) rec PT.nil s) s) fun x8 s =>
 opt2 (oPick (.v x2) (.v (.bool true)) (.v x8) rec PT.nil s) fun x9 s =>
 opt (gval false x9) fun x10 => opt2 (orUndef x10 (some (a0, s)) s) fun x11 s =>
 opt (gval false x9) fun x12 => opt2 (orUndef x12 (oIdxS (.v x11) (.v (.int .i64 7)) rec PT.nil s) s) fun x13 s =>
 opt (gval false x9) fun x14 => opt2 (orUndef x14 (oBin (int2 (cmpO neI)) (.v x13) (.v (.int .u8 45)) rec PT.nil s) s) fun x15 s =>
 opt2 (oPick (.v x9) (.v (.bool true)) (.v x15) rec PT.nil s) fun x16 s =>
 condV x16
 (some (oneOf [(.int .i64 0), (.bool false)], s))
 (opt2 (oSliceS (.v a0) none (some (.v (.int .i64 4))) rec PT.nil s) fun x17 s =>
 opt2 (rV (rec 56 [x17] (z0 s)) s) fun x18 s =>
 opt2 (oSliceS (.v a0) (some (.v (.int .i64 5))) (some (.v (.int .i64 7))) rec PT.nil s) fun x19 s =>
 opt2 (rV (rec 56 [x19] (z0 s)) s) fun x20 s =>
 opt2 (oSliceS (.v a0) (some (.v (.int .i64 8))) none rec PT.nil s) fun x21 s =>
 opt2 (rV (rec 56 [x21] (z0 s)) s) fun x22 s =>
 opt2 (rV (rec 55 [x18, x20, x22] (z0 s)) s) fun x23 s =>
 opt2 (oExtract (.v x23) 0 rec PT.nil s) fun x24 s =>
 opt2 (oExtract (.v x23) 1 rec PT.nil s) fun x25 s =>
 some (oneOf [x24, x25], s))
set_option maxHeartbeats 4000000 in
theorem f49 (rec : Rec) (N : Nat) (a0 : Value) (s : St) : callF rec N c49 [a0] s = F49 rec N a0 s := by
  rw [d49]
  unfold D49 F49
  first
    | done
    | rfl
    | (simp (maxSteps := 4000000) only [mov_v, op2_s]; first | done | kernel_rfl)
    | kernel_rfl
-- c55
def D55_l0 (rec : Rec) (N : Nat) (fs : Frm) (s : St) : OutX := opt2 (oMov (.v (orU (fs.get t9))) rec PT.nil s) fun x1 s =>
 opt2 (oMov (.v (orU (fs.get t1))) rec PT.nil s) fun x2 s =>
 opt2 (oBin (int2 (cmpO ltI)) (.v x1) (.v x2) rec PT.nil s) fun x3 s =>
 condV x3
 (opt2 (oMov (.v (orU (fs.get t8))) rec PT.nil s) fun x4 s =>
 opt2 (oMov (.v (orU (fs.get t0))) rec PT.nil s) fun x5 s =>
 opt2 (oMov (.v (orU (fs.get t9))) rec PT.nil s) fun x6 s =>
 opt2 (rec 61 [x5, x6] s) fun x7 s =>
 opt2 (oBin (int2 addO) (.v x4) (.v x7) rec PT.nil s) fun x8 s =>
 opt2 (oMov (.v x8) rec PT.nil s) fun x9 s =>
 opt2 (oMov (.v (orU (fs.get t9))) rec PT.nil s) fun x10 s =>
 opt2 (oBin (int2 addO) (.v x10) (.v (.int .i64 1)) rec PT.nil s) fun x11 s =>
 opt2 (oMov (.v x11) rec PT.nil s) fun x12 s =>
 some (.norm, (PT.put x12 t9 (PT.put x11 t33 (PT.put x10 t32 (PT.put x9 t8 (PT.put x8 t38 (PT.put x7 t37 (PT.put x6 t36 (PT.put x5 t35 (PT.put x4 t34 (PT.put x3 t31 (PT.put x2 t30 (PT.put x1 t29 fs)))))))))))), s))
 (some ((.exit 0), (PT.put x3 t31 (PT.put x2 t30 (PT.put x1 t29 fs))), s))
set_option maxHeartbeats 4000000 in
theorem d55_l0 (rec : Rec) (N : Nat) (fs : Frm) (s : St) : c55_l0 rec N fs s = D55_l0 rec N fs s := by
  simp (maxSteps := 4000000) only [c55_l0, lenN, x_seq, x_ops, x_skip, x_ret, x_exit, x_cond, x_block, x_loop, ops_c, ops_n, op1_u, op1_gj, rq_c, rq_n, opQ_u, opQ_g, op2_op2, op2_op, op2_s, op2_cond, thenX_n, thenX_e, thenX_r, blkX_n, blkX_r, blkX_e, finX_r, finX_n, res_n, res_t, op_s, Nat.beq_refl, cond_true]
  first | done | kernel_rfl
def D55_r0 (rec : Rec) (N : Nat) (fs : Frm) (s : St) : OutX := opt2 (oMov (.v (orU (fs.get t8))) rec PT.nil s) fun x1 s =>
 opt2 (oMov (.v (orU (fs.get t2))) rec PT.nil s) fun x2 s =>
 opt2 (oBin (int2 addO) (.v x1) (.v x2) rec PT.nil s) fun x3 s =>
 opt2 (oBin (int2 subO) (.v x3) (.v (.int .i64 1)) rec PT.nil s) fun x4 s =>
 opt2 (oMov (.v x4) rec PT.nil s) fun x5 s =>
 opt2 (oMov (.v (.bool true)) rec PT.nil s) fun x6 s =>
 some (.ret, (PT.put x6 t7 (PT.put x5 t6 (PT.put x4 t42 (PT.put x3 t41 (PT.put x2 t40 (PT.put x1 t39 fs)))))), s)
set_option maxHeartbeats 4000000 in
theorem d55_r0 (rec : Rec) (N : Nat) (fs : Frm) (s : St) : c55_r0 rec N fs s = D55_r0 rec N fs s := by
  simp (maxSteps := 4000000) only [c55_r0, lenN, x_seq, x_ops, x_skip, x_ret, x_exit, x_cond, x_block, x_loop, ops_c, ops_n, op1_u, op1_gj, rq_c, rq_n, opQ_u, opQ_g, op2_op2, op2_op, op2_s, op2_cond, thenX_n, thenX_e, thenX_r, blkX_n, blkX_r, blkX_e, finX_r, finX_n, res_n, res_t, op_s, Nat.beq_refl, cond_true]
  first | done | kernel_rfl
def D55 (rec : Rec) (N : Nat) (a0 : Value) (a1 : Value) (a2 : Value) (s : St) : Out := opt2 (oMov (.v (.int .i64 0)) rec PT.nil s) fun x1 s =>
 opt2 (oMov (.v (.bool false)) rec PT.nil s) fun x2 s =>
 opt2 (oMov (.v a0) rec PT.nil s) fun x3 s =>
 opt2 (oBin (int2 (cmpO ltI)) (.v x3) (.v (.int .i64 1900)) rec PT.nil s) fun x4 s =>
 opt2 (oMov (.v x4) rec PT.nil s) fun x5 s =>
 opt (gval false x5) fun x6 => opt2 (orUndef x6 (oMov (.v a0) rec PT.nil s) s) fun x7 s =>
 opt (gval false x5) fun x8 => opt2 (orUndef x8 (oBin (int2 (cmpO gtI)) (.v x7) (.v (.int .i64 2199)) rec PT.nil s) s) fun x9 s =>
 opt2 (oPick (.v x5) (.v (.bool true)) (.v x9) rec PT.nil s) fun x10 s =>
 opt2 (oMov (.v x10) rec PT.nil s) fun x11 s =>
 opt (gval false x11) fun x12 => opt2 (orUndef x12 (oMov (.v a2) rec PT.nil s) s) fun x13 s =>
 opt (gval false x11) fun x14 => opt2 (orUndef x14 (oBin (int2 (cmpO ltI)) (.v x13) (.v (.int .i64 1)) rec PT.nil s) s) fun x15 s =>
 opt2 (oPick (.v x11) (.v (.bool true)) (.v x15) rec PT.nil s) fun x16 s =>
 opt2 (oMov (.v x16) rec PT.nil s) fun x17 s =>
 opt (gval false x17) fun x18 => opt2 (orUndef x18 (oMov (.v a2) rec PT.nil s) s) fun x19 s =>
 opt (gval false x17) fun x20 => opt2 (orUndef x20 (oMov (.v a0) rec PT.nil s) s) fun x21 s =>
 opt (gval false x17) fun x22 => opt2 (orUndef x22 (oMov (.v a1) rec PT.nil s) s) fun x23 s =>
 opt (gval false x17) fun x24 => opt2 (orUndef x24 (rec 61 [x21, x23] s) s) fun x25 s =>
 opt (gval false x17) fun x26 => opt2 (orUndef x26 (oBin (int2 (cmpO gtI)) (.v x19) (.v x25) rec PT.nil s) s) fun x27 s =>
 opt2 (oPick (.v x17) (.v (.bool true)) (.v x27) rec PT.nil s) fun x28 s =>
 condV x28
 (opt2 (oMov (.v (.int .i64 0)) rec PT.nil s) fun x29 s =>
 opt2 (oMov (.v (.bool false)) rec PT.nil s) fun x30 s =>
 some (oneOf [x29, x30], s))
 (opt2 (oMov (.v a0) rec PT.nil s) fun x31 s =>
 opt2 (rec 62 [x31] s) fun x32 s =>
 opt2 (oMov (.v x32) rec PT.nil s) fun x33 s =>
 opt2 (oMov (.v (.int .i64 1)) rec PT.nil s) fun x34 s =>
 opt2 (loopF (c55_l0 rec N) N (PT.put x34 t9 (PT.put x33 t8 (PT.put x32 t28 (PT.put x31 t27 (PT.put x28 t26 (PT.put x27 t25 (PT.put x25 t24 (PT.put x23 t23 (PT.put x21 t22 (PT.put x19 t21 (PT.put x17 t20 (PT.put x16 t19 (PT.put x15 t18 (PT.put x13 t17 (PT.put x11 t16 (PT.put x10 t15 (PT.put x9 t14 (PT.put x7 t13 (PT.put x5 t12 (PT.put x4 t11 (PT.put x3 t10 (PT.put x2 t7 (PT.put x1 t6 (PT.put a2 t2 (PT.put a1 t1 (PT.put a0 t0 PT.nil)))))))))))))))))))))))))) s) fun e r => opt2 (blkX 0 e r) fun e r => opt2 (thenX (c55_r0 rec N) e r) fun e r => finX [.tmp t6, .tmp t7] e r)
set_option maxHeartbeats 4000000 in
theorem d55 (rec : Rec) (N : Nat) (a0 : Value) (a1 : Value) (a2 : Value) (s : St) : callF rec N c55 [a0, a1, a2] s = D55 rec N a0 a1 a2 s := by
  rw [call_f _ _ _ _ _ rfl]
  simp (maxSteps := 4000000) only [c55, lenN, x_seq, x_ops, x_skip, x_ret, x_exit, x_cond, x_block, x_loop, ops_c, ops_n, op1_u, op1_gj, rq_c, rq_n, opQ_u, opQ_g, op2_op2, op2_op, op2_s, op2_cond, thenX_n, thenX_e, thenX_r, blkX_n, blkX_r, blkX_e, finX_r, finX_n, res_n, res_t, op_s, Nat.beq_refl, cond_true]
  first | done | kernel_rfl
def J55_r0 (rec : Rec) (N : Nat) (k : Value × Value) (s : St) : Out := opt2 (oBin (int2 addO) (.v k.2) (.v k.1) rec PT.nil s) fun x1 s =>
 opt2 (oBin (int2 subO) (.v x1) (.v (.int .i64 1)) rec PT.nil s) fun x2 s =>
 some (oneOf [x2, (.bool true)], s)
set_option maxHeartbeats 4000000 in
theorem j55_r0 (rec : Rec) (N : Nat) (fs : Frm) (s : St) : opt2 (c55_r0 rec N fs s) (fun e r => finX [.tmp t6, .tmp t7] e r) = J55_r0 rec N (orU (fs.get t2), orU (fs.get t8)) s := by
  rw [d55_r0]
  unfold D55_r0 J55_r0
  simp (maxSteps := 4000000) only [thenX_n, thenX_e, thenX_r, x_exit, x_skip, x_ret, blkX_n, blkX_r, blkX_e, finX_r, finX_n, res_n, res_t, op2_op2, op2_op, op2_s, op2_cond, op2_bf, mov_v]
  first | done | kernel_rfl
def B55_l0 (rec : Rec) (N : Nat) (k : Value × Value × Value × Value × Value) (v : Value × Value) (s : St) : OutV (Value × Value) := opt2 (oBin (int2 (cmpO ltI)) (.v v.2) (.v k.2.1) rec PT.nil s) fun x1 s =>
 condV x1
 (opt2 (rec 61 [k.1, v.2] s) fun x2 s =>
 opt2 (oBin (int2 addO) (.v v.1) (.v x2) rec PT.nil s) fun x3 s =>
 opt2 (oBin (int2 addO) (.v v.2) (.v (.int .i64 1)) rec PT.nil s) fun x4 s =>
 some (.norm, ((x3, x4), s)))
 (some ((.exit 0), ((v.1, v.2), s)))
set_option maxHeartbeats 4000000 in
theorem s55_l0 (rec : Rec) (N : Nat) (fs : Frm) (s : St) : opt2 (c55_l0 rec N fs s) (fun e r => some (e, (((orU (r.1.get t8), orU (r.1.get t9)), (orU (r.1.get t0), orU (r.1.get t1), orU (r.1.get t2), orU (r.1.get t6), orU (r.1.get t7))), r.2))) = opt2 (B55_l0 rec N (orU (fs.get t0), orU (fs.get t1), orU (fs.get t2), orU (fs.get t6), orU (fs.get t7)) (orU (fs.get t8), orU (fs.get t9)) s) fun e r => some (e, ((r.1, (orU (fs.get t0), orU (fs.get t1), orU (fs.get t2), orU (fs.get t6), orU (fs.get t7))), r.2)) := by
  rw [d55_l0]
  unfold D55_l0 B55_l0
  simp (maxSteps := 4000000) only [op2_op2, op2_op, op2_s, op2_cond, op2_bf, mov_v]
  first | done | kernel_rfl
def C55_l0 (rec : Rec) (N : Nat) (k : Value × Value × Value × Value × Value) (e : AExit) (r : (Value × Value) × St) : Out := (fun s => exV (fun i => bif Nat.beq i 0 then (J55_r0 rec N (k.2.2.1, r.1.1) s)
 else (none))
 (some (oneOf [k.2.2.2.1, k.2.2.2.2], s)) e) r.2
theorem j55_l0 (rec : Rec) (N : Nat) (fs : Frm) (s : St) : opt2 (loopF (c55_l0 rec N) N fs s) (fun e r => opt2 (blkX 0 e r) fun e r => opt2 (thenX (c55_r0 rec N) e r) fun e r => finX [.tmp t6, .tmp t7] e r) = opt2 (loopV (B55_l0 rec N (orU (fs.get t0), orU (fs.get t1), orU (fs.get t2), orU (fs.get t6), orU (fs.get t7))) N (orU (fs.get t8), orU (fs.get t9)) s) (C55_l0 rec N (orU (fs.get t0), orU (fs.get t1), orU (fs.get t2), orU (fs.get t6), orU (fs.get t7))) := by
  refine loop_j (fun fs => (orU (fs.get t8), orU (fs.get t9))) (fun fs => (orU (fs.get t0), orU (fs.get t1), orU (fs.get t2), orU (fs.get t6), orU (fs.get t7))) (B55_l0 rec N) (c55_l0 rec N) (s55_l0 rec N) (fun e r => opt2 (blkX 0 e r) fun e r => opt2 (thenX (c55_r0 rec N) e r) fun e r => finX [.tmp t6, .tmp t7] e r) (C55_l0 rec N) ?_ ?_ N fs s
  · intro i fs s
    unfold C55_l0
    simp (maxSteps := 4000000) only [thenX_n, thenX_e, thenX_r, x_exit, x_skip, x_ret, blkX_n, blkX_r, blkX_e, finX_r, finX_n, res_n, res_t, exV_e, exV_r, op2_op2, op2_op, op2_s, op2_cond, op2_bf, mov_v, j55_r0 rec N]
    first | done | kernel_rfl
  · intro fs s
    unfold C55_l0
    simp (maxSteps := 4000000) only [thenX_n, thenX_e, thenX_r, x_exit, x_skip, x_ret, blkX_n, blkX_r, blkX_e, finX_r, finX_n, res_n, res_t, exV_e, exV_r, op2_op2, op2_op, op2_s, op2_cond, op2_bf, mov_v, j55_r0 rec N]
    first | done | kernel_rfl
def F55 (rec : Rec) (N : Nat) (a0 : Value) (a1 : Value) (a2 : Value) (s : St) : Out := opt2 (oBin (int2 (cmpO ltI)) (.v a0) (.v (.int .i64 1900)) rec PT.nil s) fun x1 s =>
 opt (gval false x1) fun x2 => opt2 (orUndef x2 (some (a0, s)) s) fun x3 s =>
 opt (gval false x1) fun x4 => opt2 (orUndef x4 (oBin (int2 (cmpO gtI)) (.v x3) (.v (.int .i64 2199)) rec PT.nil s) s) fun x5 s =>
 opt2 (oPick (.v x1) (.v (.bool true)) (.v x5) rec PT.nil s) fun x6 s =>
 opt (gval false x6) fun x7 => opt2 (orUndef x7 (some (a2, s)) s) fun x8 s =>
 opt (gval false x6) fun x9 => opt2 (orUndef x9 (oBin (int2 (cmpO ltI)) (.v x8) (.v (.int .i64 1)) rec PT.nil s) s) fun x10 s =>
 opt2 (oPick (.v x6) (.v (.bool true)) (.v x10) rec PT.nil s) fun x11 s =>
 opt (gval false x11) fun x12 => opt2 (orUndef x12 (some (a2, s)) s) fun x13 s =>
 opt (gval false x11) fun x14 => opt2 (orUndef x14 (some (a0, s)) s) fun x15 s =>
 opt (gval false x11) fun x16 => opt2 (orUndef x16 (some (a1, s)) s) fun x17 s =>
 opt (gval false x11) fun x18 => opt2 (orUndef x18 (rec 61 [x15, x17] s) s) fun x19 s =>
 opt (gval false x11) fun x20 => opt2 (orUndef x20 (oBin (int2 (cmpO gtI)) (.v x13) (.v x19) rec PT.nil s) s) fun x21 s =>
 opt2 (oPick (.v x11) (.v (.bool true)) (.v x21) rec PT.nil s) fun x22 s =>
 condV x22
 (some (oneOf [(.int .i64 0), (.bool false)], s))
 (opt2 (rec 62 [a0] s) fun x23 s =>
 opt2 (loopV (B55_l0 rec N (a0, a1, a2, (.int .i64 0), (.bool false))) N (x23, (.int .i64 1)) s) (C55_l0 rec N (a0, a1, a2, (.int .i64 0), (.bool false))))
theorem f55 (rec : Rec) (N : Nat) (a0 : Value) (a1 : Value) (a2 : Value) (s : St) : callF rec N c55 [a0, a1, a2] s = F55 rec N a0 a1 a2 s := by
  rw [d55]
  unfold D55 F55
  simp (maxSteps := 4000000) only [mov_v, op2_s, j55_l0 rec N]
  first | done | kernel_rfl
end
end Go.Proofs.Ytikdjhlcbkkkfaa.AbsLexO
