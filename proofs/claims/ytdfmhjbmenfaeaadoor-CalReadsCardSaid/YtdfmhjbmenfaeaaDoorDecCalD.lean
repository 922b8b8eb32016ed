import Derived.Test.YtdfmhjbmenfaeaaDoorAbsCalDE
import Derived.Test.YtdfmhjbmenfaeaaDoorAbsZF
namespace Go.Proofs.YtdfmhjbmenfaeaaDoor.AbsCalD
open Go Go.Abs Go.Proofs
set_option maxRecDepth 100000
set_option linter.unusedVariables false
set_option linter.unusedSimpArgs false
set_option maxHeartbeats 4000000
noncomputable section
def D5 (rec : Rec) (N : Nat) (a0 : Value) (s : St) : Out := opt2 (rec 10 [] s) fun x1 s =>
 opt2 (oNot (.v x1) rec PT.nil s) fun x2 s =>
 condV x2
 (some (oneOf [(.bool false)], s))
 (opt2 (oLenS (.v a0) rec PT.nil s) fun x3 s =>
 opt2 (oBin (int2 (cmpO gtI)) (.v x3) (.v (.int .i64 100)) rec PT.nil s) fun x4 s =>
 condV x4
 (some (oneOf [(.bool true)], s))
 (opt2 (rec 13 [a0] s) fun x5 s =>
 opt2 (oExtract (.v x5) 0 rec PT.nil s) fun x6 s =>
 opt2 (oExtract (.v x5) 1 rec PT.nil s) fun x7 s =>
 opt2 (rec 25 [a0] s) fun x8 s =>
 opt2 (oExtract (.v x8) 0 rec PT.nil s) fun x9 s =>
 opt2 (oExtract (.v x8) 1 rec PT.nil s) fun x10 s =>
 opt2 (oBin (int2 (cmpO eqI)) (.v x6) (.v x9) rec PT.nil s) fun x11 s =>
 opt (gval true x11) fun x12 => opt2 (orUndef x12 (some (x7, s)) s) fun x13 s =>
 opt (gval true x11) fun x14 => opt2 (orUndef x14 (some (x10, s)) s) fun x15 s =>
 opt (gval true x11) fun x16 => opt2 (orUndef x16 (oEqv eqB false (.v x13) (.v x15) rec PT.nil s) s) fun x17 s =>
 opt2 (oPick (.v x11) (.v x17) (.v (.bool false)) rec PT.nil s) fun x18 s =>
 opt (gval true x18) fun x19 => opt2 (orUndef x19 (some (x7, s)) s) fun x20 s =>
 opt (gval true x18) fun x21 => opt2 (orUndef x21 (oNot (.v x20) rec PT.nil s) s) fun x22 s =>
 opt (gval true x18) fun x23 => opt2 (orUndef x23 (some (x22, s)) s) fun x24 s =>
 opt (gval false x24) fun x25 => opt2 (orUndef x25 (some (x6, s)) s) fun x26 s =>
 opt (gval false x24) fun x27 => opt2 (orUndef x27 (rec 15 [x26] s) s) fun x28 s =>
 opt (gval false x24) fun x29 => opt2 (orUndef x29 (some (a0, s)) s) fun x30 s =>
 opt (gval false x24) fun x31 => opt2 (orUndef x31 (oBin (str2 (cmpS eqBytes)) (.v x28) (.v x30) rec PT.nil s) s) fun x32 s =>
 opt (gval true x18) fun x33 => opt2 (orUndef x33 (oPick (.v x24) (.v (.bool true)) (.v x32) rec PT.nil s) s) fun x34 s =>
 opt2 (oPick (.v x18) (.v x34) (.v (.bool false)) rec PT.nil s) fun x35 s =>
 some (oneOf [x35], s)))
theorem d5 (rec : Rec) (N : Nat) (a0 : Value) (s : St) : callF rec N c5 [a0] s = D5 rec N a0 s := by
  rw [call_f _ _ _ _ _ rfl]
  simp (maxSteps := 4000000) only [c5, x_reg, reg_n, reg_c, reg1_u, reg1_g, op2_cons, op2_bif, x_seq, x_ops, x_skip, x_ret, x_exit, x_cond, x_block, x_loop, ops_c, ops_n, op1_u, op1_gj, op2_op2, op2_op, op2_s, op2_cond, thenX_n, thenX_e, thenX_r, blkX_n, blkX_r, blkX_e, finX_r, finX_n, res_n, res_t, mov_f, op_s, Nat.beq_refl, cond_true]
  first | done | kernel_rfl
def D11_l0 (rec : Rec) (N : Nat) (fs : Frm) (s : St) : OutX := opt2 (oBin (int2 (cmpO ltI)) (.v (orU (fs.get t9))) (.v (orU (fs.get t1))) rec PT.nil s) fun x1 s =>
 condV x1
 (opt2 (rec 17 [(orU (fs.get t0)), (orU (fs.get t9))] s) fun x2 s =>
 opt2 (oBin (int2 addO) (.v (orU (fs.get t8))) (.v x2) rec PT.nil s) fun x3 s =>
 opt2 (oBin (int2 addO) (.v (orU (fs.get t9))) (.v (.int .i64 1)) rec PT.nil s) fun x4 s =>
 some (.norm, (PT.put x4 t9 (PT.put x4 t33 (PT.put (orU (fs.get t9)) t32 (PT.put x3 t8 (PT.put x3 t38 (PT.put x2 t37 (PT.put (orU (fs.get t9)) t36 (PT.put (orU (fs.get t0)) t35 (PT.put (orU (fs.get t8)) t34 (PT.put x1 t31 (PT.put (orU (fs.get t1)) t30 (PT.put (orU (fs.get t9)) t29 fs)))))))))))), s))
 (some ((.exit 0), (PT.put x1 t31 (PT.put (orU (fs.get t1)) t30 (PT.put (orU (fs.get t9)) t29 fs))), s))
theorem d11_l0 (rec : Rec) (N : Nat) (fs : Frm) (s : St) : c11_l0 rec N fs s = D11_l0 rec N fs s := by
  simp (maxSteps := 4000000) only [c11_l0, call_f, lenN, x_reg, reg_n, reg_c, reg1_u, reg1_g, op2_cons, op2_bif, x_seq, x_ops, x_skip, x_ret, x_exit, x_cond, x_block, x_loop, ops_c, ops_n, op1_u, op1_gj, op2_op2, op2_op, op2_s, op2_cond, thenX_n, thenX_e, thenX_r, blkX_n, blkX_r, blkX_e, finX_r, finX_n, res_n, res_t, mov_f, op_s, Nat.beq_refl, cond_true]
  first | done | kernel_rfl
def D11_r0 (rec : Rec) (N : Nat) (fs : Frm) (s : St) : OutX := opt2 (oBin (int2 addO) (.v (orU (fs.get t8))) (.v (orU (fs.get t2))) rec PT.nil s) fun x1 s =>
 opt2 (oBin (int2 subO) (.v x1) (.v (.int .i64 1)) rec PT.nil s) fun x2 s =>
 some (.ret, (PT.put (.bool true) t7 (PT.put x2 t6 (PT.put x2 t42 (PT.put x1 t41 (PT.put (orU (fs.get t2)) t40 (PT.put (orU (fs.get t8)) t39 fs)))))), s)
theorem d11_r0 (rec : Rec) (N : Nat) (fs : Frm) (s : St) : c11_r0 rec N fs s = D11_r0 rec N fs s := by
  simp (maxSteps := 4000000) only [c11_r0, call_f, lenN, x_reg, reg_n, reg_c, reg1_u, reg1_g, op2_cons, op2_bif, x_seq, x_ops, x_skip, x_ret, x_exit, x_cond, x_block, x_loop, ops_c, ops_n, op1_u, op1_gj, op2_op2, op2_op, op2_s, op2_cond, thenX_n, thenX_e, thenX_r, blkX_n, blkX_r, blkX_e, finX_r, finX_n, res_n, res_t, mov_f, op_s, Nat.beq_refl, cond_true]
  first | done | kernel_rfl
def D11 (rec : Rec) (N : Nat) (a0 : Value) (a1 : Value) (a2 : Value) (s : St) : Out := opt2 (oBin (int2 (cmpO ltI)) (.v a0) (.v (.int .i64 1900)) rec PT.nil s) fun x1 s =>
 opt (gval false x1) fun x2 => opt2 (orUndef x2 (some (a0, s)) s) fun x3 s =>
 opt (gval false x1) fun x4 => opt2 (orUndef x4 (oBin (int2 (cmpO gtI)) (.v x3) (.v (.int .i64 2199)) rec PT.nil s) s) fun x5 s =>
 opt2 (oPick (.v x1) (.v (.bool true)) (.v x5) rec PT.nil s) fun x6 s =>
 opt (gval false x6) fun x7 => opt2 (orUndef x7 (some (a2, s)) s) fun x8 s =>
 opt (gval false x6) fun x9 => opt2 (orUndef x9 (oBin (int2 (cmpO ltI)) (.v x8) (.v (.int .i64 1)) rec PT.nil s) s) fun x10 s =>
 opt2 (oPick (.v x6) (.v (.bool true)) (.v x10) rec PT.nil s) fun x11 s =>
 opt (gval false x11) fun x12 => opt2 (orUndef x12 (some (a2, s)) s) fun x13 s =>
 opt (gval false x11) fun x14 => opt2 (orUndef x14 (some (a0, s)) s) fun x15 s =>
 opt (gval false x11) fun x16 => opt2 (orUndef x16 (some (a1, s)) s) fun x17 s =>
 opt (gval false x11) fun x18 => opt2 (orUndef x18 (rec 17 [x15, x17] s) s) fun x19 s =>
 opt (gval false x11) fun x20 => opt2 (orUndef x20 (oBin (int2 (cmpO gtI)) (.v x13) (.v x19) rec PT.nil s) s) fun x21 s =>
 opt2 (oPick (.v x11) (.v (.bool true)) (.v x21) rec PT.nil s) fun x22 s =>
 condV x22
 (some (oneOf [(.int .i64 0), (.bool false)], s))
 (opt2 (rec 26 [a0] s) fun x23 s =>
 opt2 (loopF (c11_l0 rec N) N (PT.put (.int .i64 1) t9 (PT.put x23 t8 (PT.put x23 t28 (PT.put a0 t27 (PT.put x22 t26 (PT.put x21 t25 (PT.put x19 t24 (PT.put x17 t23 (PT.put x15 t22 (PT.put x13 t21 (PT.put x11 t20 (PT.put x11 t19 (PT.put x10 t18 (PT.put x8 t17 (PT.put x6 t16 (PT.put x6 t15 (PT.put x5 t14 (PT.put x3 t13 (PT.put x1 t12 (PT.put x1 t11 (PT.put a0 t10 (PT.put (.bool false) t7 (PT.put (.int .i64 0) t6 (PT.put a2 t2 (PT.put a1 t1 (PT.put a0 t0 PT.nil)))))))))))))))))))))))))) s) fun e r => opt2 (blkX 0 e r) fun e r => opt2 (thenX (c11_r0 rec N) e r) fun e r => finX [.tmp t6, .tmp t7] e r)
theorem d11 (rec : Rec) (N : Nat) (a0 : Value) (a1 : Value) (a2 : Value) (s : St) : callF rec N c11 [a0, a1, a2] s = D11 rec N a0 a1 a2 s := by
  rw [call_f _ _ _ _ _ rfl]
  simp (maxSteps := 4000000) only [c11, x_reg, reg_n, reg_c, reg1_u, reg1_g, op2_cons, op2_bif, x_seq, x_ops, x_skip, x_ret, x_exit, x_cond, x_block, x_loop, ops_c, ops_n, op1_u, op1_gj, op2_op2, op2_op, op2_s, op2_cond, thenX_n, thenX_e, thenX_r, blkX_n, blkX_r, blkX_e, finX_r, finX_n, res_n, res_t, mov_f, op_s, Nat.beq_refl, cond_true]
  first | done | kernel_rfl
def D12 (rec : Rec) (N : Nat) (a0 : Value) (a1 : Value) (s : St) : Out := opt2 (rec 14 [a0] s) fun x1 s =>
 opt2 (oExtract (.v x1) 0 rec PT.nil s) fun x2 s =>
 opt2 (oExtract (.v x1) 1 rec PT.nil s) fun x3 s =>
 opt2 (oExtract (.v x1) 2 rec PT.nil s) fun x4 s =>
 opt2 (oExtract (.v x1) 3 rec PT.nil s) fun x5 s =>
 opt2 (oNot (.v x5) rec PT.nil s) fun x6 s =>
 opt (gval false x6) fun x7 => opt2 (orUndef x7 (some (a1, s)) s) fun x8 s =>
 opt (gval false x6) fun x9 => opt2 (orUndef x9 (oBin (int2 (cmpO ltI)) (.v x8) (.v (.int .i64 (-3600))) rec PT.nil s) s) fun x10 s =>
 opt2 (oPick (.v x6) (.v (.bool true)) (.v x10) rec PT.nil s) fun x11 s =>
 opt (gval false x11) fun x12 => opt2 (orUndef x12 (some (a1, s)) s) fun x13 s =>
 opt (gval false x11) fun x14 => opt2 (orUndef x14 (oBin (int2 (cmpO gtI)) (.v x13) (.v (.int .i64 3600)) rec PT.nil s) s) fun x15 s =>
 opt2 (oPick (.v x11) (.v (.bool true)) (.v x15) rec PT.nil s) fun x16 s =>
 condV x16
 (some (oneOf [(.int .i64 0), (.bool false)], s))
 (opt2 (oBin (int2 subO) (.v x2) (.v (.int .i64 1900)) rec PT.nil s) fun x17 s =>
 opt2 (oBin (int2 mulO) (.v x17) (.v (.int .i64 12)) rec PT.nil s) fun x18 s =>
 opt2 (oBin (int2 addO) (.v x18) (.v x3) rec PT.nil s) fun x19 s =>
 opt2 (oBin (int2 subO) (.v x19) (.v (.int .i64 1)) rec PT.nil s) fun x20 s =>
 opt2 (oBin (int2 addO) (.v x20) (.v a1) rec PT.nil s) fun x21 s =>
 opt2 (oBin (int2 (cmpO ltI)) (.v x21) (.v (.int .i64 0)) rec PT.nil s) fun x22 s =>
 opt (gval false x22) fun x23 => opt2 (orUndef x23 (some (x21, s)) s) fun x24 s =>
 opt (gval false x22) fun x25 => opt2 (orUndef x25 (oBin (int2 (cmpO geI)) (.v x24) (.v (.int .i64 3600)) rec PT.nil s) s) fun x26 s =>
 opt2 (oPick (.v x22) (.v (.bool true)) (.v x26) rec PT.nil s) fun x27 s =>
 condV x27
 (some (oneOf [(.int .i64 0), (.bool false)], s))
 (opt2 (oBin (int2 quoO) (.v x21) (.v (.int .i64 12)) rec PT.nil s) fun x28 s =>
 opt2 (oBin (int2 addO) (.v (.int .i64 1900)) (.v x28) rec PT.nil s) fun x29 s =>
 opt2 (oBin (int2 remO) (.v x21) (.v (.int .i64 12)) rec PT.nil s) fun x30 s =>
 opt2 (oBin (int2 addO) (.v x30) (.v (.int .i64 1)) rec PT.nil s) fun x31 s =>
 opt2 (rec 17 [x29, x31] s) fun x32 s =>
 opt2 (oMM false (.v x4) [(.v x32)] rec PT.nil s) fun x33 s =>
 opt2 (rec 11 [x29, x31, x33] s) fun x34 s =>
 opt2 (oExtract (.v x34) 0 rec PT.nil s) fun x35 s =>
 opt2 (oExtract (.v x34) 1 rec PT.nil s) fun x36 s =>
 some (oneOf [x35, x36], s)))
theorem d12 (rec : Rec) (N : Nat) (a0 : Value) (a1 : Value) (s : St) : callF rec N c12 [a0, a1] s = D12 rec N a0 a1 s := by
  rw [call_f _ _ _ _ _ rfl]
  simp (maxSteps := 4000000) only [c12, x_reg, reg_n, reg_c, reg1_u, reg1_g, op2_cons, op2_bif, x_seq, x_ops, x_skip, x_ret, x_exit, x_cond, x_block, x_loop, ops_c, ops_n, op1_u, op1_gj, op2_op2, op2_op, op2_s, op2_cond, thenX_n, thenX_e, thenX_r, blkX_n, blkX_r, blkX_e, finX_r, finX_n, res_n, res_t, mov_f, op_s, Nat.beq_refl, cond_true]
  first | done | kernel_rfl
def D13 (rec : Rec) (N : Nat) (a0 : Value) (s : St) : Out := opt2 (oLenS (.v a0) rec PT.nil s) fun x1 s =>
 opt2 (oBin (int2 (cmpO neI)) (.v x1) (.v (.int .i64 10)) rec PT.nil s) fun x2 s =>
 opt (gval false x2) fun x3 => opt2 (orUndef x3 (some (a0, s)) s) fun x4 s =>
 opt (gval false x2) fun x5 => opt2 (orUndef x5 (oIdxS (.v x4) (.v (.int .i64 4)) rec PT.nil s) s) fun x6 s =>
 opt (gval false x2) fun x7 => opt2 (orUndef x7 (oBin (int2 (cmpO neI)) (.v x6) (.v (.int .u8 45)) rec PT.nil s) s) fun x8 s =>
 opt2 (oPick (.v x2) (.v (.bool true)) (.v x8) rec PT.nil s) fun x9 s =>
 opt (gval false x9) fun x10 => opt2 (orUndef x10 (some (a0, s)) s) fun x11 s =>
 opt (gval false x9) fun x12 => opt2 (orUndef x12 (oIdxS (.v x11) (.v (.int .i64 7)) rec PT.nil s) s) fun x13 s =>
 opt (gval false x9) fun x14 => opt2 (orUndef x14 (oBin (int2 (cmpO neI)) (.v x13) (.v (.int .u8 45)) rec PT.nil s) s) fun x15 s =>
 opt2 (oPick (.v x9) (.v (.bool true)) (.v x15) rec PT.nil s) fun x16 s =>
 condV x16
 (some (oneOf [(.int .i64 0), (.bool false)], s))
 (opt2 (rU (oMov (.v a0) rec PT.nil ⟨s.heap, s.next, 0, 0⟩) PT.nil s none) fun x17 m17 =>
 (fun s => opt2 (rU (oSliceS (.v x17) none (some (.v (.int .i64 4))) rec PT.nil ⟨s.heap, s.next, 0, 0⟩) PT.nil s none) fun x18 m18 =>
 (fun s => opt2 (rU (rec 27 [x18] ⟨s.heap, s.next, 0, 0⟩) PT.nil s none) fun x19 m19 =>
 (fun s => opt2 (rU (oMov (.v a0) rec PT.nil ⟨s.heap, s.next, 0, 0⟩) PT.nil s none) fun x20 m20 =>
 (fun s => opt2 (rU (oSliceS (.v x20) (some (.v (.int .i64 5))) (some (.v (.int .i64 7))) rec PT.nil ⟨s.heap, s.next, 0, 0⟩) PT.nil s none) fun x21 m21 =>
 (fun s => opt2 (rU (rec 27 [x21] ⟨s.heap, s.next, 0, 0⟩) PT.nil s none) fun x22 m22 =>
 (fun s => opt2 (rU (oMov (.v a0) rec PT.nil ⟨s.heap, s.next, 0, 0⟩) PT.nil s none) fun x23 m23 =>
 (fun s => opt2 (rU (oSliceS (.v x23) (some (.v (.int .i64 8))) none rec PT.nil ⟨s.heap, s.next, 0, 0⟩) PT.nil s none) fun x24 m24 =>
 (fun s => opt2 (rU (rec 27 [x24] ⟨s.heap, s.next, 0, 0⟩) PT.nil s none) fun x25 m25 =>
 (fun s => opt2 (rU (rec 11 [x19, x22, x25] ⟨s.heap, s.next, 0, 0⟩) PT.nil s none) fun x26 m26 =>
 (fun s => opt2 (rU (oExtract (.v x26) 0 rec PT.nil ⟨s.heap, s.next, 0, 0⟩) PT.nil s none) fun x27 m27 =>
 (fun s => opt2 (rU (oExtract (.v x26) 1 rec PT.nil ⟨s.heap, s.next, 0, 0⟩) PT.nil s none) fun x28 m28 =>
 (fun s => opt2 (rU (oMov (.v x27) rec PT.nil ⟨s.heap, s.next, 0, 0⟩) PT.nil s none) fun x29 m29 =>
 (fun s => opt2 (rU (oMov (.v x28) rec PT.nil ⟨s.heap, s.next, 0, 0⟩) PT.nil s none) fun x30 m30 =>
 (fun s => bif apartAll [m17.1, m18.1, m19.1, m20.1, m21.1, m22.1, m23.1, m24.1, m25.1, m26.1, m27.1, m28.1, m29.1, m30.1] [(0, 3), (1, 3), (2, 3), (0, 4), (1, 4), (2, 4), (0, 6), (1, 6), (2, 6), (3, 6), (4, 6), (5, 6), (0, 7), (1, 7), (2, 7), (3, 7), (4, 7), (5, 7), (10, 11)] then some (oneOf [x29, x30], s) else none) m30.2) m29.2) m28.2) m27.2) m26.2) m25.2) m24.2) m23.2) m22.2) m21.2) m20.2) m19.2) m18.2) m17.2)
theorem d13 (rec : Rec) (N : Nat) (a0 : Value) (s : St) : callF rec N c13 [a0] s = D13 rec N a0 s := by
  rw [call_f _ _ _ _ _ rfl]
  simp (maxSteps := 4000000) only [c13, x_reg, reg_n, reg_c, reg1_u, reg1_g, op2_cons, op2_bif, x_seq, x_ops, x_skip, x_ret, x_exit, x_cond, x_block, x_loop, ops_c, ops_n, op1_u, op1_gj, op2_op2, op2_op, op2_s, op2_cond, thenX_n, thenX_e, thenX_r, blkX_n, blkX_r, blkX_e, finX_r, finX_n, res_n, res_t, mov_f, op_s, Nat.beq_refl, cond_true]
  first | done | kernel_rfl
def D14_l0 (rec : Rec) (N : Nat) (fs : Frm) (s : St) : OutX := opt2 (oBin (int2 (cmpO ltI)) (.v (orU (fs.get t2))) (.v (.int .i64 2199)) rec PT.nil s) fun x1 s =>
 opt (gval true x1) fun x2 => opt2 (orUndef x2 (some ((orU (fs.get t2)), s)) s) fun x3 s =>
 opt (gval true x1) fun x4 => opt2 (orUndef x4 (oBin (int2 addO) (.v x3) (.v (.int .i64 1)) rec PT.nil s) s) fun x5 s =>
 opt (gval true x1) fun x6 => opt2 (orUndef x6 (rec 26 [x5] s) s) fun x7 s =>
 opt (gval true x1) fun x8 => opt2 (orUndef x8 (some ((orU (fs.get t0)), s)) s) fun x9 s =>
 opt (gval true x1) fun x10 => opt2 (orUndef x10 (oBin (int2 (cmpO leI)) (.v x7) (.v x9) rec PT.nil s) s) fun x11 s =>
 opt2 (oPick (.v x1) (.v x11) (.v (.bool false)) rec PT.nil s) fun x12 s =>
 condV x12
 (opt2 (oBin (int2 addO) (.v (orU (fs.get t2))) (.v (.int .i64 1)) rec PT.nil s) fun x13 s =>
 some (.norm, (PT.put x13 t2 (PT.put x13 t19 (PT.put (orU (fs.get t2)) t18 (PT.put x12 t17 (PT.put x11 t16 (PT.put x9 t15 (PT.put x7 t14 (PT.put x5 t13 (PT.put x3 t12 (PT.put x1 t11 (PT.put x1 t10 (PT.put (orU (fs.get t2)) t9 fs)))))))))))), s))
 (some ((.exit 0), (PT.put x12 t17 (PT.put x11 t16 (PT.put x9 t15 (PT.put x7 t14 (PT.put x5 t13 (PT.put x3 t12 (PT.put x1 t11 (PT.put x1 t10 (PT.put (orU (fs.get t2)) t9 fs))))))))), s))
theorem d14_l0 (rec : Rec) (N : Nat) (fs : Frm) (s : St) : c14_l0 rec N fs s = D14_l0 rec N fs s := by
  simp (maxSteps := 4000000) only [c14_l0, call_f, lenN, x_reg, reg_n, reg_c, reg1_u, reg1_g, op2_cons, op2_bif, x_seq, x_ops, x_skip, x_ret, x_exit, x_cond, x_block, x_loop, ops_c, ops_n, op1_u, op1_gj, op2_op2, op2_op, op2_s, op2_cond, thenX_n, thenX_e, thenX_r, blkX_n, blkX_r, blkX_e, finX_r, finX_n, res_n, res_t, mov_f, op_s, Nat.beq_refl, cond_true]
  first | done | kernel_rfl
def D14_l1 (rec : Rec) (N : Nat) (fs : Frm) (s : St) : OutX := opt2 (rec 17 [(orU (fs.get t2)), (orU (fs.get t3))] s) fun x1 s =>
 opt2 (oBin (int2 (cmpO geI)) (.v (orU (fs.get t0))) (.v x1) rec PT.nil s) fun x2 s =>
 condV x2
 (opt2 (rec 17 [(orU (fs.get t2)), (orU (fs.get t3))] s) fun x3 s =>
 opt2 (oBin (int2 subO) (.v (orU (fs.get t0))) (.v x3) rec PT.nil s) fun x4 s =>
 opt2 (oBin (int2 addO) (.v (orU (fs.get t3))) (.v (.int .i64 1)) rec PT.nil s) fun x5 s =>
 some (.norm, (PT.put x5 t3 (PT.put x5 t35 (PT.put (orU (fs.get t3)) t34 (PT.put x4 t0 (PT.put x4 t33 (PT.put x3 t32 (PT.put (orU (fs.get t3)) t31 (PT.put (orU (fs.get t2)) t30 (PT.put (orU (fs.get t0)) t29 (PT.put x2 t28 (PT.put x1 t27 (PT.put (orU (fs.get t3)) t26 (PT.put (orU (fs.get t2)) t25 (PT.put (orU (fs.get t0)) t24 fs)))))))))))))), s))
 (some ((.exit 2), (PT.put x2 t28 (PT.put x1 t27 (PT.put (orU (fs.get t3)) t26 (PT.put (orU (fs.get t2)) t25 (PT.put (orU (fs.get t0)) t24 fs))))), s))
theorem d14_l1 (rec : Rec) (N : Nat) (fs : Frm) (s : St) : c14_l1 rec N fs s = D14_l1 rec N fs s := by
  simp (maxSteps := 4000000) only [c14_l1, call_f, lenN, x_reg, reg_n, reg_c, reg1_u, reg1_g, op2_cons, op2_bif, x_seq, x_ops, x_skip, x_ret, x_exit, x_cond, x_block, x_loop, ops_c, ops_n, op1_u, op1_gj, op2_op2, op2_op, op2_s, op2_cond, thenX_n, thenX_e, thenX_r, blkX_n, blkX_r, blkX_e, finX_r, finX_n, res_n, res_t, mov_f, op_s, Nat.beq_refl, cond_true]
  first | done | kernel_rfl
def D14_r0 (rec : Rec) (N : Nat) (fs : Frm) (s : St) : OutX := opt2 (oBin (int2 addO) (.v (orU (fs.get t0))) (.v (.int .i64 1)) rec PT.nil s) fun x1 s =>
 some (.ret, (PT.put (.bool true) t5 (PT.put x1 t4 (PT.put (orU (fs.get t3)) t3 (PT.put (orU (fs.get t2)) t2 (PT.put x1 t39 (PT.put (orU (fs.get t0)) t38 (PT.put (orU (fs.get t3)) t37 (PT.put (orU (fs.get t2)) t36 fs)))))))), s)
theorem d14_r0 (rec : Rec) (N : Nat) (fs : Frm) (s : St) : c14_r0 rec N fs s = D14_r0 rec N fs s := by
  simp (maxSteps := 4000000) only [c14_r0, call_f, lenN, x_reg, reg_n, reg_c, reg1_u, reg1_g, op2_cons, op2_bif, x_seq, x_ops, x_skip, x_ret, x_exit, x_cond, x_block, x_loop, ops_c, ops_n, op1_u, op1_gj, op2_op2, op2_op, op2_s, op2_cond, thenX_n, thenX_e, thenX_r, blkX_n, blkX_r, blkX_e, finX_r, finX_n, res_n, res_t, mov_f, op_s, Nat.beq_refl, cond_true]
  first | done | kernel_rfl
def D14_r1 (rec : Rec) (N : Nat) (fs : Frm) (s : St) : OutX := opt2 (rec 26 [(orU (fs.get t2))] s) fun x1 s =>
 opt2 (oBin (int2 subO) (.v (orU (fs.get t0))) (.v x1) rec PT.nil s) fun x2 s =>
 opt2 (loopF (c14_l1 rec N) N (PT.put (.int .i64 1) t3 (PT.put x2 t0 (PT.put x2 t23 (PT.put x1 t22 (PT.put (orU (fs.get t2)) t21 (PT.put (orU (fs.get t0)) t20 fs)))))) s) fun e r => opt2 (blkX 2 e r) fun e r => thenX (c14_r0 rec N) e r
theorem d14_r1 (rec : Rec) (N : Nat) (fs : Frm) (s : St) : c14_r1 rec N fs s = D14_r1 rec N fs s := by
  simp (maxSteps := 4000000) only [c14_r1, call_f, lenN, x_reg, reg_n, reg_c, reg1_u, reg1_g, op2_cons, op2_bif, x_seq, x_ops, x_skip, x_ret, x_exit, x_cond, x_block, x_loop, ops_c, ops_n, op1_u, op1_gj, op2_op2, op2_op, op2_s, op2_cond, thenX_n, thenX_e, thenX_r, blkX_n, blkX_r, blkX_e, finX_r, finX_n, res_n, res_t, mov_f, op_s, Nat.beq_refl, cond_true]
  first | done | kernel_rfl
def D14 (rec : Rec) (N : Nat) (a0 : Value) (s : St) : Out := opt2 (rec 28 [a0] s) fun x1 s =>
 opt2 (oNot (.v x1) rec PT.nil s) fun x2 s =>
 condV x2
 (some (oneOf [(.int .i64 0), (.int .i64 0), (.int .i64 0), (.bool false)], s))
 (opt2 (loopF (c14_l0 rec N) N (PT.put (.int .i64 1900) t2 (PT.put x2 t8 (PT.put x1 t7 (PT.put a0 t6 (PT.put (.bool false) t5 (PT.put (.int .i64 0) t4 (PT.put (.int .i64 0) t3 (PT.put (.int .i64 0) t2 (PT.put a0 t0 PT.nil))))))))) s) fun e r => opt2 (blkX 0 e r) fun e r => opt2 (thenX (c14_r1 rec N) e r) fun e r => finX [.tmp t2, .tmp t3, .tmp t4, .tmp t5] e r)
theorem d14 (rec : Rec) (N : Nat) (a0 : Value) (s : St) : callF rec N c14 [a0] s = D14 rec N a0 s := by
  rw [call_f _ _ _ _ _ rfl]
  simp (maxSteps := 4000000) only [c14, x_reg, reg_n, reg_c, reg1_u, reg1_g, op2_cons, op2_bif, x_seq, x_ops, x_skip, x_ret, x_exit, x_cond, x_block, x_loop, ops_c, ops_n, op1_u, op1_gj, op2_op2, op2_op, op2_s, op2_cond, thenX_n, thenX_e, thenX_r, blkX_n, blkX_r, blkX_e, finX_r, finX_n, res_n, res_t, mov_f, op_s, Nat.beq_refl, cond_true]
  first | done | kernel_rfl
def D15 (rec : Rec) (N : Nat) (a0 : Value) (s : St) : Out := opt2 (rec 14 [a0] s) fun x1 s =>
 opt2 (oExtract (.v x1) 0 rec PT.nil s) fun x2 s =>
 opt2 (oExtract (.v x1) 1 rec PT.nil s) fun x3 s =>
 opt2 (oExtract (.v x1) 2 rec PT.nil s) fun x4 s =>
 opt2 (oExtract (.v x1) 3 rec PT.nil s) fun x5 s =>
 opt2 (oNot (.v x5) rec PT.nil s) fun x6 s =>
 condV x6
 (some (oneOf [(.string ⟨⟨[]⟩⟩)], s))
 (opt2 (rec 29 [x2, (.int .i64 4)] s) fun x7 s =>
 opt2 (oBin (str2 catO) (.v x7) (.v (.string ⟨⟨[45]⟩⟩)) rec PT.nil s) fun x8 s =>
 opt2 (rec 29 [x3, (.int .i64 2)] s) fun x9 s =>
 opt2 (oBin (str2 catO) (.v x8) (.v x9) rec PT.nil s) fun x10 s =>
 opt2 (oBin (str2 catO) (.v x10) (.v (.string ⟨⟨[45]⟩⟩)) rec PT.nil s) fun x11 s =>
 opt2 (rec 29 [x4, (.int .i64 2)] s) fun x12 s =>
 opt2 (oBin (str2 catO) (.v x11) (.v x12) rec PT.nil s) fun x13 s =>
 some (oneOf [x13], s))
theorem d15 (rec : Rec) (N : Nat) (a0 : Value) (s : St) : callF rec N c15 [a0] s = D15 rec N a0 s := by
  rw [call_f _ _ _ _ _ rfl]
  simp (maxSteps := 4000000) only [c15, x_reg, reg_n, reg_c, reg1_u, reg1_g, op2_cons, op2_bif, x_seq, x_ops, x_skip, x_ret, x_exit, x_cond, x_block, x_loop, ops_c, ops_n, op1_u, op1_gj, op2_op2, op2_op, op2_s, op2_cond, thenX_n, thenX_e, thenX_r, blkX_n, blkX_r, blkX_e, finX_r, finX_n, res_n, res_t, mov_f, op_s, Nat.beq_refl, cond_true]
  first | done | kernel_rfl
def D16 (rec : Rec) (N : Nat) (a0 : Value) (s : St) : Out := opt2 (rec 28 [a0] s) fun x1 s =>
 opt2 (oNot (.v x1) rec PT.nil s) fun x2 s =>
 condV x2
 (some (oneOf [(.int .i64 (-1))], s))
 (opt2 (oBin (int2 remO) (.v a0) (.v (.int .i64 7)) rec PT.nil s) fun x3 s =>
 some (oneOf [x3], s))
theorem d16 (rec : Rec) (N : Nat) (a0 : Value) (s : St) : callF rec N c16 [a0] s = D16 rec N a0 s := by
  rw [call_f _ _ _ _ _ rfl]
  simp (maxSteps := 4000000) only [c16, x_reg, reg_n, reg_c, reg1_u, reg1_g, op2_cons, op2_bif, x_seq, x_ops, x_skip, x_ret, x_exit, x_cond, x_block, x_loop, ops_c, ops_n, op1_u, op1_gj, op2_op2, op2_op, op2_s, op2_cond, thenX_n, thenX_e, thenX_r, blkX_n, blkX_r, blkX_e, finX_r, finX_n, res_n, res_t, mov_f, op_s, Nat.beq_refl, cond_true]
  first | done | kernel_rfl
def D17 (rec : Rec) (N : Nat) (a0 : Value) (a1 : Value) (s : St) : Out := opt2 (oBin (int2 (cmpO eqI)) (.v a1) (.v (.int .i64 2)) rec PT.nil s) fun x1 s =>
 condV x1
 (opt2 (rec 22 [a0] s) fun x2 s =>
 condV x2
 (some (oneOf [(.int .i64 29)], s))
 (some (oneOf [(.int .i64 28)], s)))
 (opt2 (oBin (int2 (cmpO eqI)) (.v a1) (.v (.int .i64 4)) rec PT.nil s) fun x3 s =>
 condV x3
 (condV x3
 (some (oneOf [(.int .i64 30)], s))
 (opt2 (oBin (int2 (cmpO eqI)) (.v a1) (.v (.int .i64 1)) rec PT.nil s) fun x4 s =>
 condV x4
 (condV x4
 (some (oneOf [(.int .i64 31)], s))
 (some (oneOf [(.int .i64 0)], s)))
 (opt2 (oBin (int2 (cmpO eqI)) (.v a1) (.v (.int .i64 3)) rec PT.nil s) fun x5 s =>
 condV x5
 (condV x5
 (some (oneOf [(.int .i64 31)], s))
 (some (oneOf [(.int .i64 0)], s)))
 (opt2 (oBin (int2 (cmpO eqI)) (.v a1) (.v (.int .i64 5)) rec PT.nil s) fun x6 s =>
 condV x6
 (condV x6
 (some (oneOf [(.int .i64 31)], s))
 (some (oneOf [(.int .i64 0)], s)))
 (opt2 (oBin (int2 (cmpO eqI)) (.v a1) (.v (.int .i64 7)) rec PT.nil s) fun x7 s =>
 condV x7
 (condV x7
 (some (oneOf [(.int .i64 31)], s))
 (some (oneOf [(.int .i64 0)], s)))
 (opt2 (oBin (int2 (cmpO eqI)) (.v a1) (.v (.int .i64 8)) rec PT.nil s) fun x8 s =>
 condV x8
 (condV x8
 (some (oneOf [(.int .i64 31)], s))
 (some (oneOf [(.int .i64 0)], s)))
 (opt2 (oBin (int2 (cmpO eqI)) (.v a1) (.v (.int .i64 10)) rec PT.nil s) fun x9 s =>
 condV x9
 (condV x9
 (some (oneOf [(.int .i64 31)], s))
 (some (oneOf [(.int .i64 0)], s)))
 (opt2 (oBin (int2 (cmpO eqI)) (.v a1) (.v (.int .i64 12)) rec PT.nil s) fun x10 s =>
 condV x10
 (some (oneOf [(.int .i64 31)], s))
 (some (oneOf [(.int .i64 0)], s))))))))))
 (opt2 (oBin (int2 (cmpO eqI)) (.v a1) (.v (.int .i64 6)) rec PT.nil s) fun x11 s =>
 condV x11
 (condV x11
 (some (oneOf [(.int .i64 30)], s))
 (opt2 (oBin (int2 (cmpO eqI)) (.v a1) (.v (.int .i64 1)) rec PT.nil s) fun x12 s =>
 condV x12
 (condV x12
 (some (oneOf [(.int .i64 31)], s))
 (some (oneOf [(.int .i64 0)], s)))
 (opt2 (oBin (int2 (cmpO eqI)) (.v a1) (.v (.int .i64 3)) rec PT.nil s) fun x13 s =>
 condV x13
 (condV x13
 (some (oneOf [(.int .i64 31)], s))
 (some (oneOf [(.int .i64 0)], s)))
 (opt2 (oBin (int2 (cmpO eqI)) (.v a1) (.v (.int .i64 5)) rec PT.nil s) fun x14 s =>
 condV x14
 (condV x14
 (some (oneOf [(.int .i64 31)], s))
 (some (oneOf [(.int .i64 0)], s)))
 (opt2 (oBin (int2 (cmpO eqI)) (.v a1) (.v (.int .i64 7)) rec PT.nil s) fun x15 s =>
 condV x15
 (condV x15
 (some (oneOf [(.int .i64 31)], s))
 (some (oneOf [(.int .i64 0)], s)))
 (opt2 (oBin (int2 (cmpO eqI)) (.v a1) (.v (.int .i64 8)) rec PT.nil s) fun x16 s =>
 condV x16
 (condV x16
 (some (oneOf [(.int .i64 31)], s))
 (some (oneOf [(.int .i64 0)], s)))
 (opt2 (oBin (int2 (cmpO eqI)) (.v a1) (.v (.int .i64 10)) rec PT.nil s) fun x17 s =>
 condV x17
 (condV x17
 (some (oneOf [(.int .i64 31)], s))
 (some (oneOf [(.int .i64 0)], s)))
 (opt2 (oBin (int2 (cmpO eqI)) (.v a1) (.v (.int .i64 12)) rec PT.nil s) fun x18 s =>
 condV x18
 (some (oneOf [(.int .i64 31)], s))
 (some (oneOf [(.int .i64 0)], s))))))))))
 (opt2 (oBin (int2 (cmpO eqI)) (.v a1) (.v (.int .i64 9)) rec PT.nil s) fun x19 s =>
 condV x19
 (condV x19
 (some (oneOf [(.int .i64 30)], s))
 (opt2 (oBin (int2 (cmpO eqI)) (.v a1) (.v (.int .i64 1)) rec PT.nil s) fun x20 s =>
 condV x20
 (condV x20
 (some (oneOf [(.int .i64 31)], s))
 (some (oneOf [(.int .i64 0)], s)))
 (opt2 (oBin (int2 (cmpO eqI)) (.v a1) (.v (.int .i64 3)) rec PT.nil s) fun x21 s =>
 condV x21
 (condV x21
 (some (oneOf [(.int .i64 31)], s))
 (some (oneOf [(.int .i64 0)], s)))
 (opt2 (oBin (int2 (cmpO eqI)) (.v a1) (.v (.int .i64 5)) rec PT.nil s) fun x22 s =>
 condV x22
 (condV x22
 (some (oneOf [(.int .i64 31)], s))
 (some (oneOf [(.int .i64 0)], s)))
 (opt2 (oBin (int2 (cmpO eqI)) (.v a1) (.v (.int .i64 7)) rec PT.nil s) fun x23 s =>
 condV x23
 (condV x23
 (some (oneOf [(.int .i64 31)], s))
 (some (oneOf [(.int .i64 0)], s)))
 (opt2 (oBin (int2 (cmpO eqI)) (.v a1) (.v (.int .i64 8)) rec PT.nil s) fun x24 s =>
 condV x24
 (condV x24
 (some (oneOf [(.int .i64 31)], s))
 (some (oneOf [(.int .i64 0)], s)))
 (opt2 (oBin (int2 (cmpO eqI)) (.v a1) (.v (.int .i64 10)) rec PT.nil s) fun x25 s =>
 condV x25
 (condV x25
 (some (oneOf [(.int .i64 31)], s))
 (some (oneOf [(.int .i64 0)], s)))
 (opt2 (oBin (int2 (cmpO eqI)) (.v a1) (.v (.int .i64 12)) rec PT.nil s) fun x26 s =>
 condV x26
 (some (oneOf [(.int .i64 31)], s))
 (some (oneOf [(.int .i64 0)], s))))))))))
 (opt2 (oBin (int2 (cmpO eqI)) (.v a1) (.v (.int .i64 11)) rec PT.nil s) fun x27 s =>
 condV x27
 (some (oneOf [(.int .i64 30)], s))
 (opt2 (oBin (int2 (cmpO eqI)) (.v a1) (.v (.int .i64 1)) rec PT.nil s) fun x28 s =>
 condV x28
 (condV x28
 (some (oneOf [(.int .i64 31)], s))
 (some (oneOf [(.int .i64 0)], s)))
 (opt2 (oBin (int2 (cmpO eqI)) (.v a1) (.v (.int .i64 3)) rec PT.nil s) fun x29 s =>
 condV x29
 (condV x29
 (some (oneOf [(.int .i64 31)], s))
 (some (oneOf [(.int .i64 0)], s)))
 (opt2 (oBin (int2 (cmpO eqI)) (.v a1) (.v (.int .i64 5)) rec PT.nil s) fun x30 s =>
 condV x30
 (condV x30
 (some (oneOf [(.int .i64 31)], s))
 (some (oneOf [(.int .i64 0)], s)))
 (opt2 (oBin (int2 (cmpO eqI)) (.v a1) (.v (.int .i64 7)) rec PT.nil s) fun x31 s =>
 condV x31
 (condV x31
 (some (oneOf [(.int .i64 31)], s))
 (some (oneOf [(.int .i64 0)], s)))
 (opt2 (oBin (int2 (cmpO eqI)) (.v a1) (.v (.int .i64 8)) rec PT.nil s) fun x32 s =>
 condV x32
 (condV x32
 (some (oneOf [(.int .i64 31)], s))
 (some (oneOf [(.int .i64 0)], s)))
 (opt2 (oBin (int2 (cmpO eqI)) (.v a1) (.v (.int .i64 10)) rec PT.nil s) fun x33 s =>
 condV x33
 (condV x33
 (some (oneOf [(.int .i64 31)], s))
 (some (oneOf [(.int .i64 0)], s)))
 (opt2 (oBin (int2 (cmpO eqI)) (.v a1) (.v (.int .i64 12)) rec PT.nil s) fun x34 s =>
 condV x34
 (some (oneOf [(.int .i64 31)], s))
 (some (oneOf [(.int .i64 0)], s)))))))))))))
theorem d17 (rec : Rec) (N : Nat) (a0 : Value) (a1 : Value) (s : St) : callF rec N c17 [a0, a1] s = D17 rec N a0 a1 s := by
  rw [call_f _ _ _ _ _ rfl]
  simp (maxSteps := 4000000) only [c17, x_reg, reg_n, reg_c, reg1_u, reg1_g, op2_cons, op2_bif, x_seq, x_ops, x_skip, x_ret, x_exit, x_cond, x_block, x_loop, ops_c, ops_n, op1_u, op1_gj, op2_op2, op2_op, op2_s, op2_cond, thenX_n, thenX_e, thenX_r, blkX_n, blkX_r, blkX_e, finX_r, finX_n, res_n, res_t, mov_f, op_s, Nat.beq_refl, cond_true]
  first | done | kernel_rfl
def D18_l0 (rec : Rec) (N : Nat) (fs : Frm) (s : St) : OutX := opt2 (rec 23 [(orU (fs.get t6))] s) fun x1 s =>
 condV x1
 (opt2 (oBin (int2 (cmpO ltI)) (.v (orU (fs.get t0))) (.v (.int .i64 366)) rec PT.nil s) fun x2 s =>
 condV x2
 (some ((.exit 0), (PT.put x2 t19 (PT.put (.int .i64 366) t18 (PT.put (orU (fs.get t0)) t17 (PT.put (.int .i64 366) t7 (PT.put x1 t16 (PT.put (orU (fs.get t6)) t15 (PT.put (.int .i64 365) t7 fs))))))), s))
 (opt2 (oBin (int2 subO) (.v (orU (fs.get t0))) (.v (.int .i64 366)) rec PT.nil s) fun x3 s =>
 opt2 (oBin (int2 addO) (.v (orU (fs.get t6))) (.v (.int .i64 1)) rec PT.nil s) fun x4 s =>
 some (.norm, (PT.put x4 t6 (PT.put x4 t24 (PT.put (orU (fs.get t6)) t23 (PT.put x3 t0 (PT.put x3 t22 (PT.put (.int .i64 366) t21 (PT.put (orU (fs.get t0)) t20 (PT.put x2 t19 (PT.put (.int .i64 366) t18 (PT.put (orU (fs.get t0)) t17 (PT.put (.int .i64 366) t7 (PT.put x1 t16 (PT.put (orU (fs.get t6)) t15 (PT.put (.int .i64 365) t7 fs)))))))))))))), s)))
 (opt2 (oBin (int2 (cmpO ltI)) (.v (orU (fs.get t0))) (.v (.int .i64 365)) rec PT.nil s) fun x5 s =>
 condV x5
 (some ((.exit 0), (PT.put x5 t19 (PT.put (.int .i64 365) t18 (PT.put (orU (fs.get t0)) t17 (PT.put x1 t16 (PT.put (orU (fs.get t6)) t15 (PT.put (.int .i64 365) t7 fs)))))), s))
 (opt2 (oBin (int2 subO) (.v (orU (fs.get t0))) (.v (.int .i64 365)) rec PT.nil s) fun x6 s =>
 opt2 (oBin (int2 addO) (.v (orU (fs.get t6))) (.v (.int .i64 1)) rec PT.nil s) fun x7 s =>
 some (.norm, (PT.put x7 t6 (PT.put x7 t24 (PT.put (orU (fs.get t6)) t23 (PT.put x6 t0 (PT.put x6 t22 (PT.put (.int .i64 365) t21 (PT.put (orU (fs.get t0)) t20 (PT.put x5 t19 (PT.put (.int .i64 365) t18 (PT.put (orU (fs.get t0)) t17 (PT.put x1 t16 (PT.put (orU (fs.get t6)) t15 (PT.put (.int .i64 365) t7 fs))))))))))))), s)))
theorem d18_l0 (rec : Rec) (N : Nat) (fs : Frm) (s : St) : c18_l0 rec N fs s = D18_l0 rec N fs s := by
  simp (maxSteps := 4000000) only [c18_l0, call_f, lenN, x_reg, reg_n, reg_c, reg1_u, reg1_g, op2_cons, op2_bif, x_seq, x_ops, x_skip, x_ret, x_exit, x_cond, x_block, x_loop, ops_c, ops_n, op1_u, op1_gj, op2_op2, op2_op, op2_s, op2_cond, thenX_n, thenX_e, thenX_r, blkX_n, blkX_r, blkX_e, finX_r, finX_n, res_n, res_t, mov_f, op_s, Nat.beq_refl, cond_true]
  first | done | kernel_rfl
def D18_l1 (rec : Rec) (N : Nat) (fs : Frm) (s : St) : OutX := opt2 (rec 24 [(orU (fs.get t6)), (orU (fs.get t8))] s) fun x1 s =>
 opt2 (oBin (int2 (cmpO geI)) (.v (orU (fs.get t0))) (.v x1) rec PT.nil s) fun x2 s =>
 condV x2
 (opt2 (rec 24 [(orU (fs.get t6)), (orU (fs.get t8))] s) fun x3 s =>
 opt2 (oBin (int2 subO) (.v (orU (fs.get t0))) (.v x3) rec PT.nil s) fun x4 s =>
 opt2 (oBin (int2 addO) (.v (orU (fs.get t8))) (.v (.int .i64 1)) rec PT.nil s) fun x5 s =>
 some (.norm, (PT.put x5 t8 (PT.put x5 t36 (PT.put (orU (fs.get t8)) t35 (PT.put x4 t0 (PT.put x4 t34 (PT.put x3 t33 (PT.put (orU (fs.get t8)) t32 (PT.put (orU (fs.get t6)) t31 (PT.put (orU (fs.get t0)) t30 (PT.put x2 t29 (PT.put x1 t28 (PT.put (orU (fs.get t8)) t27 (PT.put (orU (fs.get t6)) t26 (PT.put (orU (fs.get t0)) t25 fs)))))))))))))), s))
 (some ((.exit 2), (PT.put x2 t29 (PT.put x1 t28 (PT.put (orU (fs.get t8)) t27 (PT.put (orU (fs.get t6)) t26 (PT.put (orU (fs.get t0)) t25 fs))))), s))
theorem d18_l1 (rec : Rec) (N : Nat) (fs : Frm) (s : St) : c18_l1 rec N fs s = D18_l1 rec N fs s := by
  simp (maxSteps := 4000000) only [c18_l1, call_f, lenN, x_reg, reg_n, reg_c, reg1_u, reg1_g, op2_cons, op2_bif, x_seq, x_ops, x_skip, x_ret, x_exit, x_cond, x_block, x_loop, ops_c, ops_n, op1_u, op1_gj, op2_op2, op2_op, op2_s, op2_cond, thenX_n, thenX_e, thenX_r, blkX_n, blkX_r, blkX_e, finX_r, finX_n, res_n, res_t, mov_f, op_s, Nat.beq_refl, cond_true]
  first | done | kernel_rfl
def D18_r0 (rec : Rec) (N : Nat) (fs : Frm) (s : St) : OutX := opt2 (oBin (int2 addO) (.v (orU (fs.get t0))) (.v (.int .i64 1)) rec PT.nil s) fun x1 s =>
 some (.ret, (PT.put (.bool true) t5 (PT.put x1 t4 (PT.put (orU (fs.get t8)) t3 (PT.put (orU (fs.get t6)) t2 (PT.put x1 t40 (PT.put (orU (fs.get t0)) t39 (PT.put (orU (fs.get t8)) t38 (PT.put (orU (fs.get t6)) t37 fs)))))))), s)
theorem d18_r0 (rec : Rec) (N : Nat) (fs : Frm) (s : St) : c18_r0 rec N fs s = D18_r0 rec N fs s := by
  simp (maxSteps := 4000000) only [c18_r0, call_f, lenN, x_reg, reg_n, reg_c, reg1_u, reg1_g, op2_cons, op2_bif, x_seq, x_ops, x_skip, x_ret, x_exit, x_cond, x_block, x_loop, ops_c, ops_n, op1_u, op1_gj, op2_op2, op2_op, op2_s, op2_cond, thenX_n, thenX_e, thenX_r, blkX_n, blkX_r, blkX_e, finX_r, finX_n, res_n, res_t, mov_f, op_s, Nat.beq_refl, cond_true]
  first | done | kernel_rfl
def D18_r1 (rec : Rec) (N : Nat) (fs : Frm) (s : St) : OutX := opt2 (loopF (c18_l1 rec N) N (PT.put (.int .i64 1) t8 fs) s) fun e r => opt2 (blkX 2 e r) fun e r => thenX (c18_r0 rec N) e r
theorem d18_r1 (rec : Rec) (N : Nat) (fs : Frm) (s : St) : c18_r1 rec N fs s = D18_r1 rec N fs s := by
  simp (maxSteps := 4000000) only [c18_r1, call_f, lenN, x_reg, reg_n, reg_c, reg1_u, reg1_g, op2_cons, op2_bif, x_seq, x_ops, x_skip, x_ret, x_exit, x_cond, x_block, x_loop, ops_c, ops_n, op1_u, op1_gj, op2_op2, op2_op, op2_s, op2_cond, thenX_n, thenX_e, thenX_r, blkX_n, blkX_r, blkX_e, finX_r, finX_n, res_n, res_t, mov_f, op_s, Nat.beq_refl, cond_true]
  first | done | kernel_rfl
def D18 (rec : Rec) (N : Nat) (a0 : Value) (s : St) : Out := opt2 (oBin (int2 (cmpO ltI)) (.v a0) (.v (.int .i64 0)) rec PT.nil s) fun x1 s =>
 opt (gval false x1) fun x2 => opt2 (orUndef x2 (some (a0, s)) s) fun x3 s =>
 opt (gval false x1) fun x4 => opt2 (orUndef x4 (oBin (int2 (cmpO gtI)) (.v x3) (.v (.int .i64 109572)) rec PT.nil s) s) fun x5 s =>
 opt2 (oPick (.v x1) (.v (.bool true)) (.v x5) rec PT.nil s) fun x6 s =>
 condV x6
 (some (oneOf [(.int .i64 0), (.int .i64 0), (.int .i64 0), (.bool false)], s))
 (opt2 (loopF (c18_l0 rec N) N (PT.put (.int .i64 1900) t6 (PT.put x6 t14 (PT.put x5 t13 (PT.put x3 t12 (PT.put x1 t11 (PT.put x1 t10 (PT.put a0 t9 (PT.put (.bool false) t5 (PT.put (.int .i64 0) t4 (PT.put (.int .i64 0) t3 (PT.put (.int .i64 0) t2 (PT.put a0 t0 PT.nil)))))))))))) s) fun e r => opt2 (blkX 0 e r) fun e r => opt2 (thenX (c18_r1 rec N) e r) fun e r => finX [.tmp t2, .tmp t3, .tmp t4, .tmp t5] e r)
theorem d18 (rec : Rec) (N : Nat) (a0 : Value) (s : St) : callF rec N c18 [a0] s = D18 rec N a0 s := by
  rw [call_f _ _ _ _ _ rfl]
  simp (maxSteps := 4000000) only [c18, x_reg, reg_n, reg_c, reg1_u, reg1_g, op2_cons, op2_bif, x_seq, x_ops, x_skip, x_ret, x_exit, x_cond, x_block, x_loop, ops_c, ops_n, op1_u, op1_gj, op2_op2, op2_op, op2_s, op2_cond, thenX_n, thenX_e, thenX_r, blkX_n, blkX_r, blkX_e, finX_r, finX_n, res_n, res_t, mov_f, op_s, Nat.beq_refl, cond_true]
  first | done | kernel_rfl
def D19_l0 (rec : Rec) (N : Nat) (fs : Frm) (s : St) : OutX := opt2 (oBin (int2 (cmpO ltI)) (.v (orU (fs.get t9))) (.v (orU (fs.get t0))) rec PT.nil s) fun x1 s =>
 condV x1
 (opt2 (oBin (int2 addO) (.v (orU (fs.get t8))) (.v (.int .i64 365)) rec PT.nil s) fun x2 s =>
 opt2 (rec 23 [(orU (fs.get t9))] s) fun x3 s =>
 condV x3
 (opt2 (oBin (int2 addO) (.v x2) (.v (.int .i64 1)) rec PT.nil s) fun x4 s =>
 opt2 (oBin (int2 addO) (.v (orU (fs.get t9))) (.v (.int .i64 1)) rec PT.nil s) fun x5 s =>
 some (.norm, (PT.put x5 t9 (PT.put x5 t40 (PT.put (orU (fs.get t9)) t39 (PT.put x4 t8 (PT.put x4 t46 (PT.put x2 t45 (PT.put x3 t44 (PT.put (orU (fs.get t9)) t43 (PT.put x2 t8 (PT.put x2 t42 (PT.put (orU (fs.get t8)) t41 (PT.put x1 t38 (PT.put (orU (fs.get t0)) t37 (PT.put (orU (fs.get t9)) t36 fs)))))))))))))), s))
 (opt2 (oBin (int2 addO) (.v (orU (fs.get t9))) (.v (.int .i64 1)) rec PT.nil s) fun x6 s =>
 some (.norm, (PT.put x6 t9 (PT.put x6 t40 (PT.put (orU (fs.get t9)) t39 (PT.put x3 t44 (PT.put (orU (fs.get t9)) t43 (PT.put x2 t8 (PT.put x2 t42 (PT.put (orU (fs.get t8)) t41 (PT.put x1 t38 (PT.put (orU (fs.get t0)) t37 (PT.put (orU (fs.get t9)) t36 fs))))))))))), s)))
 (some ((.exit 0), (PT.put x1 t38 (PT.put (orU (fs.get t0)) t37 (PT.put (orU (fs.get t9)) t36 fs))), s))
theorem d19_l0 (rec : Rec) (N : Nat) (fs : Frm) (s : St) : c19_l0 rec N fs s = D19_l0 rec N fs s := by
  simp (maxSteps := 4000000) only [c19_l0, call_f, lenN, x_reg, reg_n, reg_c, reg1_u, reg1_g, op2_cons, op2_bif, x_seq, x_ops, x_skip, x_ret, x_exit, x_cond, x_block, x_loop, ops_c, ops_n, op1_u, op1_gj, op2_op2, op2_op, op2_s, op2_cond, thenX_n, thenX_e, thenX_r, blkX_n, blkX_r, blkX_e, finX_r, finX_n, res_n, res_t, mov_f, op_s, Nat.beq_refl, cond_true]
  first | done | kernel_rfl
def D19_l1 (rec : Rec) (N : Nat) (fs : Frm) (s : St) : OutX := opt2 (oBin (int2 (cmpO ltI)) (.v (orU (fs.get t10))) (.v (orU (fs.get t1))) rec PT.nil s) fun x1 s =>
 condV x1
 (opt2 (rec 24 [(orU (fs.get t0)), (orU (fs.get t10))] s) fun x2 s =>
 opt2 (oBin (int2 addO) (.v (orU (fs.get t8))) (.v x2) rec PT.nil s) fun x3 s =>
 opt2 (oBin (int2 addO) (.v (orU (fs.get t10))) (.v (.int .i64 1)) rec PT.nil s) fun x4 s =>
 some (.norm, (PT.put x4 t10 (PT.put x4 t51 (PT.put (orU (fs.get t10)) t50 (PT.put x3 t8 (PT.put x3 t56 (PT.put x2 t55 (PT.put (orU (fs.get t10)) t54 (PT.put (orU (fs.get t0)) t53 (PT.put (orU (fs.get t8)) t52 (PT.put x1 t49 (PT.put (orU (fs.get t1)) t48 (PT.put (orU (fs.get t10)) t47 fs)))))))))))), s))
 (some ((.exit 2), (PT.put x1 t49 (PT.put (orU (fs.get t1)) t48 (PT.put (orU (fs.get t10)) t47 fs))), s))
theorem d19_l1 (rec : Rec) (N : Nat) (fs : Frm) (s : St) : c19_l1 rec N fs s = D19_l1 rec N fs s := by
  simp (maxSteps := 4000000) only [c19_l1, call_f, lenN, x_reg, reg_n, reg_c, reg1_u, reg1_g, op2_cons, op2_bif, x_seq, x_ops, x_skip, x_ret, x_exit, x_cond, x_block, x_loop, ops_c, ops_n, op1_u, op1_gj, op2_op2, op2_op, op2_s, op2_cond, thenX_n, thenX_e, thenX_r, blkX_n, blkX_r, blkX_e, finX_r, finX_n, res_n, res_t, mov_f, op_s, Nat.beq_refl, cond_true]
  first | done | kernel_rfl
def D19_r0 (rec : Rec) (N : Nat) (fs : Frm) (s : St) : OutX := opt2 (oBin (int2 addO) (.v (orU (fs.get t8))) (.v (orU (fs.get t2))) rec PT.nil s) fun x1 s =>
 opt2 (oBin (int2 subO) (.v x1) (.v (.int .i64 1)) rec PT.nil s) fun x2 s =>
 some (.ret, (PT.put (.bool true) t7 (PT.put x2 t6 (PT.put x2 t60 (PT.put x1 t59 (PT.put (orU (fs.get t2)) t58 (PT.put (orU (fs.get t8)) t57 fs)))))), s)
theorem d19_r0 (rec : Rec) (N : Nat) (fs : Frm) (s : St) : c19_r0 rec N fs s = D19_r0 rec N fs s := by
  simp (maxSteps := 4000000) only [c19_r0, call_f, lenN, x_reg, reg_n, reg_c, reg1_u, reg1_g, op2_cons, op2_bif, x_seq, x_ops, x_skip, x_ret, x_exit, x_cond, x_block, x_loop, ops_c, ops_n, op1_u, op1_gj, op2_op2, op2_op, op2_s, op2_cond, thenX_n, thenX_e, thenX_r, blkX_n, blkX_r, blkX_e, finX_r, finX_n, res_n, res_t, mov_f, op_s, Nat.beq_refl, cond_true]
  first | done | kernel_rfl
def D19_r1 (rec : Rec) (N : Nat) (fs : Frm) (s : St) : OutX := opt2 (loopF (c19_l1 rec N) N (PT.put (.int .i64 1) t10 fs) s) fun e r => opt2 (blkX 2 e r) fun e r => thenX (c19_r0 rec N) e r
theorem d19_r1 (rec : Rec) (N : Nat) (fs : Frm) (s : St) : c19_r1 rec N fs s = D19_r1 rec N fs s := by
  simp (maxSteps := 4000000) only [c19_r1, call_f, lenN, x_reg, reg_n, reg_c, reg1_u, reg1_g, op2_cons, op2_bif, x_seq, x_ops, x_skip, x_ret, x_exit, x_cond, x_block, x_loop, ops_c, ops_n, op1_u, op1_gj, op2_op2, op2_op, op2_s, op2_cond, thenX_n, thenX_e, thenX_r, blkX_n, blkX_r, blkX_e, finX_r, finX_n, res_n, res_t, mov_f, op_s, Nat.beq_refl, cond_true]
  first | done | kernel_rfl
def D19 (rec : Rec) (N : Nat) (a0 : Value) (a1 : Value) (a2 : Value) (s : St) : Out := opt2 (oBin (int2 (cmpO ltI)) (.v a0) (.v (.int .i64 1900)) rec PT.nil s) fun x1 s =>
 opt (gval false x1) fun x2 => opt2 (orUndef x2 (some (a0, s)) s) fun x3 s =>
 opt (gval false x1) fun x4 => opt2 (orUndef x4 (oBin (int2 (cmpO gtI)) (.v x3) (.v (.int .i64 2199)) rec PT.nil s) s) fun x5 s =>
 opt2 (oPick (.v x1) (.v (.bool true)) (.v x5) rec PT.nil s) fun x6 s =>
 opt (gval false x6) fun x7 => opt2 (orUndef x7 (some (a1, s)) s) fun x8 s =>
 opt (gval false x6) fun x9 => opt2 (orUndef x9 (oBin (int2 (cmpO ltI)) (.v x8) (.v (.int .i64 1)) rec PT.nil s) s) fun x10 s =>
 opt2 (oPick (.v x6) (.v (.bool true)) (.v x10) rec PT.nil s) fun x11 s =>
 opt (gval false x11) fun x12 => opt2 (orUndef x12 (some (a1, s)) s) fun x13 s =>
 opt (gval false x11) fun x14 => opt2 (orUndef x14 (oBin (int2 (cmpO gtI)) (.v x13) (.v (.int .i64 12)) rec PT.nil s) s) fun x15 s =>
 opt2 (oPick (.v x11) (.v (.bool true)) (.v x15) rec PT.nil s) fun x16 s =>
 opt (gval false x16) fun x17 => opt2 (orUndef x17 (some (a2, s)) s) fun x18 s =>
 opt (gval false x16) fun x19 => opt2 (orUndef x19 (oBin (int2 (cmpO ltI)) (.v x18) (.v (.int .i64 1)) rec PT.nil s) s) fun x20 s =>
 opt2 (oPick (.v x16) (.v (.bool true)) (.v x20) rec PT.nil s) fun x21 s =>
 opt (gval false x21) fun x22 => opt2 (orUndef x22 (some (a2, s)) s) fun x23 s =>
 opt (gval false x21) fun x24 => opt2 (orUndef x24 (some (a0, s)) s) fun x25 s =>
 opt (gval false x21) fun x26 => opt2 (orUndef x26 (some (a1, s)) s) fun x27 s =>
 opt (gval false x21) fun x28 => opt2 (orUndef x28 (rec 24 [x25, x27] s) s) fun x29 s =>
 opt (gval false x21) fun x30 => opt2 (orUndef x30 (oBin (int2 (cmpO gtI)) (.v x23) (.v x29) rec PT.nil s) s) fun x31 s =>
 opt2 (oPick (.v x21) (.v (.bool true)) (.v x31) rec PT.nil s) fun x32 s =>
 condV x32
 (some (oneOf [(.int .i64 0), (.bool false)], s))
 (opt2 (loopF (c19_l0 rec N) N (PT.put (.int .i64 1900) t9 (PT.put (.int .i64 0) t8 (PT.put x32 t35 (PT.put x31 t34 (PT.put x29 t33 (PT.put x27 t32 (PT.put x25 t31 (PT.put x23 t30 (PT.put x21 t29 (PT.put x21 t28 (PT.put x20 t27 (PT.put x18 t26 (PT.put x16 t25 (PT.put x16 t24 (PT.put x15 t23 (PT.put x13 t22 (PT.put x11 t21 (PT.put x11 t20 (PT.put x10 t19 (PT.put x8 t18 (PT.put x6 t17 (PT.put x6 t16 (PT.put x5 t15 (PT.put x3 t14 (PT.put x1 t13 (PT.put x1 t12 (PT.put a0 t11 (PT.put (.bool false) t7 (PT.put (.int .i64 0) t6 (PT.put a2 t2 (PT.put a1 t1 (PT.put a0 t0 PT.nil)))))))))))))))))))))))))))))))) s) fun e r => opt2 (blkX 0 e r) fun e r => opt2 (thenX (c19_r1 rec N) e r) fun e r => finX [.tmp t6, .tmp t7] e r)
theorem d19 (rec : Rec) (N : Nat) (a0 : Value) (a1 : Value) (a2 : Value) (s : St) : callF rec N c19 [a0, a1, a2] s = D19 rec N a0 a1 a2 s := by
  rw [call_f _ _ _ _ _ rfl]
  simp (maxSteps := 4000000) only [c19, x_reg, reg_n, reg_c, reg1_u, reg1_g, op2_cons, op2_bif, x_seq, x_ops, x_skip, x_ret, x_exit, x_cond, x_block, x_loop, ops_c, ops_n, op1_u, op1_gj, op2_op2, op2_op, op2_s, op2_cond, thenX_n, thenX_e, thenX_r, blkX_n, blkX_r, blkX_e, finX_r, finX_n, res_n, res_t, mov_f, op_s, Nat.beq_refl, cond_true]
  first | done | kernel_rfl
def D20 (rec : Rec) (N : Nat) (a0 : Value) (a1 : Value) (s : St) : Out := opt2 (rec 18 [a0] s) fun x1 s =>
 opt2 (oExtract (.v x1) 0 rec PT.nil s) fun x2 s =>
 opt2 (oExtract (.v x1) 1 rec PT.nil s) fun x3 s =>
 opt2 (oExtract (.v x1) 2 rec PT.nil s) fun x4 s =>
 opt2 (oExtract (.v x1) 3 rec PT.nil s) fun x5 s =>
 opt2 (oNot (.v x5) rec PT.nil s) fun x6 s =>
 opt (gval false x6) fun x7 => opt2 (orUndef x7 (some (a1, s)) s) fun x8 s =>
 opt (gval false x6) fun x9 => opt2 (orUndef x9 (oBin (int2 (cmpO gtI)) (.v x8) (.v (.int .i64 4000)) rec PT.nil s) s) fun x10 s =>
 opt2 (oPick (.v x6) (.v (.bool true)) (.v x10) rec PT.nil s) fun x11 s =>
 opt (gval false x11) fun x12 => opt2 (orUndef x12 (some (a1, s)) s) fun x13 s =>
 opt (gval false x11) fun x14 => opt2 (orUndef x14 (oBin (int2 (cmpO ltI)) (.v x13) (.v (.int .i64 (-4000))) rec PT.nil s) s) fun x15 s =>
 opt2 (oPick (.v x11) (.v (.bool true)) (.v x15) rec PT.nil s) fun x16 s =>
 condV x16
 (some (oneOf [(.int .i64 0), (.bool false)], s))
 (opt2 (oBin (int2 mulO) (.v (.int .i64 12)) (.v x2) rec PT.nil s) fun x17 s =>
 opt2 (oBin (int2 addO) (.v x17) (.v x3) rec PT.nil s) fun x18 s =>
 opt2 (oBin (int2 subO) (.v x18) (.v (.int .i64 1)) rec PT.nil s) fun x19 s =>
 opt2 (oBin (int2 addO) (.v x19) (.v a1) rec PT.nil s) fun x20 s =>
 opt2 (oBin (int2 quoO) (.v x20) (.v (.int .i64 12)) rec PT.nil s) fun x21 s =>
 opt2 (oBin (int2 remO) (.v x20) (.v (.int .i64 12)) rec PT.nil s) fun x22 s =>
 opt2 (oBin (int2 addO) (.v x22) (.v (.int .i64 1)) rec PT.nil s) fun x23 s =>
 opt2 (rec 24 [x21, x23] s) fun x24 s =>
 opt2 (oBin (int2 (cmpO gtI)) (.v x4) (.v x24) rec PT.nil s) fun x25 s =>
 condV x25
 (opt2 (rec 24 [x21, x23] s) fun x26 s =>
 opt2 (rec 19 [x21, x23, x26] s) fun x27 s =>
 opt2 (oExtract (.v x27) 0 rec PT.nil s) fun x28 s =>
 opt2 (oExtract (.v x27) 1 rec PT.nil s) fun x29 s =>
 some (oneOf [x28, x29], s))
 (opt2 (rec 19 [x21, x23, x4] s) fun x30 s =>
 opt2 (oExtract (.v x30) 0 rec PT.nil s) fun x31 s =>
 opt2 (oExtract (.v x30) 1 rec PT.nil s) fun x32 s =>
 some (oneOf [x31, x32], s)))
theorem d20 (rec : Rec) (N : Nat) (a0 : Value) (a1 : Value) (s : St) : callF rec N c20 [a0, a1] s = D20 rec N a0 a1 s := by
  rw [call_f _ _ _ _ _ rfl]
  simp (maxSteps := 4000000) only [c20, x_reg, reg_n, reg_c, reg1_u, reg1_g, op2_cons, op2_bif, x_seq, x_ops, x_skip, x_ret, x_exit, x_cond, x_block, x_loop, ops_c, ops_n, op1_u, op1_gj, op2_op2, op2_op, op2_s, op2_cond, thenX_n, thenX_e, thenX_r, blkX_n, blkX_r, blkX_e, finX_r, finX_n, res_n, res_t, mov_f, op_s, Nat.beq_refl, cond_true]
  first | done | kernel_rfl
def D21 (rec : Rec) (N : Nat) (a0 : Value) (s : St) : Out := opt2 (rec 18 [a0] s) fun x1 s =>
 opt2 (oExtract (.v x1) 0 rec PT.nil s) fun x2 s =>
 opt2 (oExtract (.v x1) 1 rec PT.nil s) fun x3 s =>
 opt2 (oExtract (.v x1) 2 rec PT.nil s) fun x4 s =>
 opt2 (oExtract (.v x1) 3 rec PT.nil s) fun x5 s =>
 opt2 (oNot (.v x5) rec PT.nil s) fun x6 s =>
 condV x6
 (some (oneOf [(.string ⟨⟨[]⟩⟩)], s))
 (opt2 (oBin (int2 quoO) (.v x2) (.v (.int .i64 100)) rec PT.nil s) fun x7 s =>
 opt2 (rec 30 [x7] s) fun x8 s =>
 opt2 (rec 30 [x2] s) fun x9 s =>
 opt2 (oBin (str2 catO) (.v x8) (.v x9) rec PT.nil s) fun x10 s =>
 opt2 (oBin (str2 catO) (.v x10) (.v (.string ⟨⟨[45]⟩⟩)) rec PT.nil s) fun x11 s =>
 opt2 (rec 30 [x3] s) fun x12 s =>
 opt2 (oBin (str2 catO) (.v x11) (.v x12) rec PT.nil s) fun x13 s =>
 opt2 (oBin (str2 catO) (.v x13) (.v (.string ⟨⟨[45]⟩⟩)) rec PT.nil s) fun x14 s =>
 opt2 (rec 30 [x4] s) fun x15 s =>
 opt2 (oBin (str2 catO) (.v x14) (.v x15) rec PT.nil s) fun x16 s =>
 some (oneOf [x16], s))
theorem d21 (rec : Rec) (N : Nat) (a0 : Value) (s : St) : callF rec N c21 [a0] s = D21 rec N a0 s := by
  rw [call_f _ _ _ _ _ rfl]
  simp (maxSteps := 4000000) only [c21, x_reg, reg_n, reg_c, reg1_u, reg1_g, op2_cons, op2_bif, x_seq, x_ops, x_skip, x_ret, x_exit, x_cond, x_block, x_loop, ops_c, ops_n, op1_u, op1_gj, op2_op2, op2_op, op2_s, op2_cond, thenX_n, thenX_e, thenX_r, blkX_n, blkX_r, blkX_e, finX_r, finX_n, res_n, res_t, mov_f, op_s, Nat.beq_refl, cond_true]
  first | done | kernel_rfl
def D22 (rec : Rec) (N : Nat) (a0 : Value) (s : St) : Out := opt2 (oBin (int2 remO) (.v a0) (.v (.int .i64 4)) rec PT.nil s) fun x1 s =>
 opt2 (oBin (int2 (cmpO eqI)) (.v x1) (.v (.int .i64 0)) rec PT.nil s) fun x2 s =>
 opt (gval true x2) fun x3 => opt2 (orUndef x3 (some (a0, s)) s) fun x4 s =>
 opt (gval true x2) fun x5 => opt2 (orUndef x5 (oBin (int2 remO) (.v x4) (.v (.int .i64 100)) rec PT.nil s) s) fun x6 s =>
 opt (gval true x2) fun x7 => opt2 (orUndef x7 (oBin (int2 (cmpO neI)) (.v x6) (.v (.int .i64 0)) rec PT.nil s) s) fun x8 s =>
 opt2 (oPick (.v x2) (.v x8) (.v (.bool false)) rec PT.nil s) fun x9 s =>
 opt (gval false x9) fun x10 => opt2 (orUndef x10 (some (a0, s)) s) fun x11 s =>
 opt (gval false x9) fun x12 => opt2 (orUndef x12 (oBin (int2 remO) (.v x11) (.v (.int .i64 400)) rec PT.nil s) s) fun x13 s =>
 opt (gval false x9) fun x14 => opt2 (orUndef x14 (oBin (int2 (cmpO eqI)) (.v x13) (.v (.int .i64 0)) rec PT.nil s) s) fun x15 s =>
 opt2 (oPick (.v x9) (.v (.bool true)) (.v x15) rec PT.nil s) fun x16 s =>
 some (oneOf [x16], s)
theorem d22 (rec : Rec) (N : Nat) (a0 : Value) (s : St) : callF rec N c22 [a0] s = D22 rec N a0 s := by
  rw [call_f _ _ _ _ _ rfl]
  simp (maxSteps := 4000000) only [c22, x_reg, reg_n, reg_c, reg1_u, reg1_g, op2_cons, op2_bif, x_seq, x_ops, x_skip, x_ret, x_exit, x_cond, x_block, x_loop, ops_c, ops_n, op1_u, op1_gj, op2_op2, op2_op, op2_s, op2_cond, thenX_n, thenX_e, thenX_r, blkX_n, blkX_r, blkX_e, finX_r, finX_n, res_n, res_t, mov_f, op_s, Nat.beq_refl, cond_true]
  first | done | kernel_rfl
def D23 (rec : Rec) (N : Nat) (a0 : Value) (s : St) : Out := opt2 (oBin (int2 remO) (.v a0) (.v (.int .i64 4)) rec PT.nil s) fun x1 s =>
 opt2 (oBin (int2 (cmpO eqI)) (.v x1) (.v (.int .i64 0)) rec PT.nil s) fun x2 s =>
 opt (gval true x2) fun x3 => opt2 (orUndef x3 (some (a0, s)) s) fun x4 s =>
 opt (gval true x2) fun x5 => opt2 (orUndef x5 (oBin (int2 remO) (.v x4) (.v (.int .i64 100)) rec PT.nil s) s) fun x6 s =>
 opt (gval true x2) fun x7 => opt2 (orUndef x7 (oBin (int2 (cmpO neI)) (.v x6) (.v (.int .i64 0)) rec PT.nil s) s) fun x8 s =>
 opt2 (oPick (.v x2) (.v x8) (.v (.bool false)) rec PT.nil s) fun x9 s =>
 opt (gval false x9) fun x10 => opt2 (orUndef x10 (some (a0, s)) s) fun x11 s =>
 opt (gval false x9) fun x12 => opt2 (orUndef x12 (oBin (int2 remO) (.v x11) (.v (.int .i64 400)) rec PT.nil s) s) fun x13 s =>
 opt (gval false x9) fun x14 => opt2 (orUndef x14 (oBin (int2 (cmpO eqI)) (.v x13) (.v (.int .i64 0)) rec PT.nil s) s) fun x15 s =>
 opt2 (oPick (.v x9) (.v (.bool true)) (.v x15) rec PT.nil s) fun x16 s =>
 some (oneOf [x16], s)
theorem d23 (rec : Rec) (N : Nat) (a0 : Value) (s : St) : callF rec N c23 [a0] s = D23 rec N a0 s := by
  rw [call_f _ _ _ _ _ rfl]
  simp (maxSteps := 4000000) only [c23, x_reg, reg_n, reg_c, reg1_u, reg1_g, op2_cons, op2_bif, x_seq, x_ops, x_skip, x_ret, x_exit, x_cond, x_block, x_loop, ops_c, ops_n, op1_u, op1_gj, op2_op2, op2_op, op2_s, op2_cond, thenX_n, thenX_e, thenX_r, blkX_n, blkX_r, blkX_e, finX_r, finX_n, res_n, res_t, mov_f, op_s, Nat.beq_refl, cond_true]
  first | done | kernel_rfl
def D24 (rec : Rec) (N : Nat) (a0 : Value) (a1 : Value) (s : St) : Out := opt2 (oBin (int2 (cmpO eqI)) (.v a1) (.v (.int .i64 1)) rec PT.nil s) fun x1 s =>
 condV x1
 (condV x1
 (some (oneOf [(.int .i64 31)], s))
 (opt2 (oBin (int2 (cmpO eqI)) (.v a1) (.v (.int .i64 4)) rec PT.nil s) fun x2 s =>
 condV x2
 (condV x2
 (some (oneOf [(.int .i64 30)], s))
 (opt2 (oBin (int2 (cmpO eqI)) (.v a1) (.v (.int .i64 2)) rec PT.nil s) fun x3 s =>
 condV x3
 (opt2 (rec 23 [a0] s) fun x4 s =>
 condV x4
 (some (oneOf [(.int .i64 29)], s))
 (some (oneOf [(.int .i64 28)], s)))
 (some (oneOf [(.int .i64 0)], s))))
 (opt2 (oBin (int2 (cmpO eqI)) (.v a1) (.v (.int .i64 6)) rec PT.nil s) fun x5 s =>
 condV x5
 (condV x5
 (some (oneOf [(.int .i64 30)], s))
 (opt2 (oBin (int2 (cmpO eqI)) (.v a1) (.v (.int .i64 2)) rec PT.nil s) fun x6 s =>
 condV x6
 (opt2 (rec 23 [a0] s) fun x7 s =>
 condV x7
 (some (oneOf [(.int .i64 29)], s))
 (some (oneOf [(.int .i64 28)], s)))
 (some (oneOf [(.int .i64 0)], s))))
 (opt2 (oBin (int2 (cmpO eqI)) (.v a1) (.v (.int .i64 9)) rec PT.nil s) fun x8 s =>
 condV x8
 (condV x8
 (some (oneOf [(.int .i64 30)], s))
 (opt2 (oBin (int2 (cmpO eqI)) (.v a1) (.v (.int .i64 2)) rec PT.nil s) fun x9 s =>
 condV x9
 (opt2 (rec 23 [a0] s) fun x10 s =>
 condV x10
 (some (oneOf [(.int .i64 29)], s))
 (some (oneOf [(.int .i64 28)], s)))
 (some (oneOf [(.int .i64 0)], s))))
 (opt2 (oBin (int2 (cmpO eqI)) (.v a1) (.v (.int .i64 11)) rec PT.nil s) fun x11 s =>
 condV x11
 (some (oneOf [(.int .i64 30)], s))
 (opt2 (oBin (int2 (cmpO eqI)) (.v a1) (.v (.int .i64 2)) rec PT.nil s) fun x12 s =>
 condV x12
 (opt2 (rec 23 [a0] s) fun x13 s =>
 condV x13
 (some (oneOf [(.int .i64 29)], s))
 (some (oneOf [(.int .i64 28)], s)))
 (some (oneOf [(.int .i64 0)], s))))))))
 (opt2 (oBin (int2 (cmpO eqI)) (.v a1) (.v (.int .i64 3)) rec PT.nil s) fun x14 s =>
 condV x14
 (condV x14
 (some (oneOf [(.int .i64 31)], s))
 (opt2 (oBin (int2 (cmpO eqI)) (.v a1) (.v (.int .i64 4)) rec PT.nil s) fun x15 s =>
 condV x15
 (condV x15
 (some (oneOf [(.int .i64 30)], s))
 (opt2 (oBin (int2 (cmpO eqI)) (.v a1) (.v (.int .i64 2)) rec PT.nil s) fun x16 s =>
 condV x16
 (opt2 (rec 23 [a0] s) fun x17 s =>
 condV x17
 (some (oneOf [(.int .i64 29)], s))
 (some (oneOf [(.int .i64 28)], s)))
 (some (oneOf [(.int .i64 0)], s))))
 (opt2 (oBin (int2 (cmpO eqI)) (.v a1) (.v (.int .i64 6)) rec PT.nil s) fun x18 s =>
 condV x18
 (condV x18
 (some (oneOf [(.int .i64 30)], s))
 (opt2 (oBin (int2 (cmpO eqI)) (.v a1) (.v (.int .i64 2)) rec PT.nil s) fun x19 s =>
 condV x19
 (opt2 (rec 23 [a0] s) fun x20 s =>
 condV x20
 (some (oneOf [(.int .i64 29)], s))
 (some (oneOf [(.int .i64 28)], s)))
 (some (oneOf [(.int .i64 0)], s))))
 (opt2 (oBin (int2 (cmpO eqI)) (.v a1) (.v (.int .i64 9)) rec PT.nil s) fun x21 s =>
 condV x21
 (condV x21
 (some (oneOf [(.int .i64 30)], s))
 (opt2 (oBin (int2 (cmpO eqI)) (.v a1) (.v (.int .i64 2)) rec PT.nil s) fun x22 s =>
 condV x22
 (opt2 (rec 23 [a0] s) fun x23 s =>
 condV x23
 (some (oneOf [(.int .i64 29)], s))
 (some (oneOf [(.int .i64 28)], s)))
 (some (oneOf [(.int .i64 0)], s))))
 (opt2 (oBin (int2 (cmpO eqI)) (.v a1) (.v (.int .i64 11)) rec PT.nil s) fun x24 s =>
 condV x24
 (some (oneOf [(.int .i64 30)], s))
 (opt2 (oBin (int2 (cmpO eqI)) (.v a1) (.v (.int .i64 2)) rec PT.nil s) fun x25 s =>
 condV x25
 (opt2 (rec 23 [a0] s) fun x26 s =>
 condV x26
 (some (oneOf [(.int .i64 29)], s))
 (some (oneOf [(.int .i64 28)], s)))
 (some (oneOf [(.int .i64 0)], s))))))))
 (opt2 (oBin (int2 (cmpO eqI)) (.v a1) (.v (.int .i64 5)) rec PT.nil s) fun x27 s =>
 condV x27
 (condV x27
 (some (oneOf [(.int .i64 31)], s))
 (opt2 (oBin (int2 (cmpO eqI)) (.v a1) (.v (.int .i64 4)) rec PT.nil s) fun x28 s =>
 condV x28
 (condV x28
 (some (oneOf [(.int .i64 30)], s))
 (opt2 (oBin (int2 (cmpO eqI)) (.v a1) (.v (.int .i64 2)) rec PT.nil s) fun x29 s =>
 condV x29
 (opt2 (rec 23 [a0] s) fun x30 s =>
 condV x30
 (some (oneOf [(.int .i64 29)], s))
 (some (oneOf [(.int .i64 28)], s)))
 (some (oneOf [(.int .i64 0)], s))))
 (opt2 (oBin (int2 (cmpO eqI)) (.v a1) (.v (.int .i64 6)) rec PT.nil s) fun x31 s =>
 condV x31
 (condV x31
 (some (oneOf [(.int .i64 30)], s))
 (opt2 (oBin (int2 (cmpO eqI)) (.v a1) (.v (.int .i64 2)) rec PT.nil s) fun x32 s =>
 condV x32
 (opt2 (rec 23 [a0] s) fun x33 s =>
 condV x33
 (some (oneOf [(.int .i64 29)], s))
 (some (oneOf [(.int .i64 28)], s)))
 (some (oneOf [(.int .i64 0)], s))))
 (opt2 (oBin (int2 (cmpO eqI)) (.v a1) (.v (.int .i64 9)) rec PT.nil s) fun x34 s =>
 condV x34
 (condV x34
 (some (oneOf [(.int .i64 30)], s))
 (opt2 (oBin (int2 (cmpO eqI)) (.v a1) (.v (.int .i64 2)) rec PT.nil s) fun x35 s =>
 condV x35
 (opt2 (rec 23 [a0] s) fun x36 s =>
 condV x36
 (some (oneOf [(.int .i64 29)], s))
 (some (oneOf [(.int .i64 28)], s)))
 (some (oneOf [(.int .i64 0)], s))))
 (opt2 (oBin (int2 (cmpO eqI)) (.v a1) (.v (.int .i64 11)) rec PT.nil s) fun x37 s =>
 condV x37
 (some (oneOf [(.int .i64 30)], s))
 (opt2 (oBin (int2 (cmpO eqI)) (.v a1) (.v (.int .i64 2)) rec PT.nil s) fun x38 s =>
 condV x38
 (opt2 (rec 23 [a0] s) fun x39 s =>
 condV x39
 (some (oneOf [(.int .i64 29)], s))
 (some (oneOf [(.int .i64 28)], s)))
 (some (oneOf [(.int .i64 0)], s))))))))
 (opt2 (oBin (int2 (cmpO eqI)) (.v a1) (.v (.int .i64 7)) rec PT.nil s) fun x40 s =>
 condV x40
 (condV x40
 (some (oneOf [(.int .i64 31)], s))
 (opt2 (oBin (int2 (cmpO eqI)) (.v a1) (.v (.int .i64 4)) rec PT.nil s) fun x41 s =>
 condV x41
 (condV x41
 (some (oneOf [(.int .i64 30)], s))
 (opt2 (oBin (int2 (cmpO eqI)) (.v a1) (.v (.int .i64 2)) rec PT.nil s) fun x42 s =>
 condV x42
 (opt2 (rec 23 [a0] s) fun x43 s =>
 condV x43
 (some (oneOf [(.int .i64 29)], s))
 (some (oneOf [(.int .i64 28)], s)))
 (some (oneOf [(.int .i64 0)], s))))
 (opt2 (oBin (int2 (cmpO eqI)) (.v a1) (.v (.int .i64 6)) rec PT.nil s) fun x44 s =>
 condV x44
 (condV x44
 (some (oneOf [(.int .i64 30)], s))
 (opt2 (oBin (int2 (cmpO eqI)) (.v a1) (.v (.int .i64 2)) rec PT.nil s) fun x45 s =>
 condV x45
 (opt2 (rec 23 [a0] s) fun x46 s =>
 condV x46
 (some (oneOf [(.int .i64 29)], s))
 (some (oneOf [(.int .i64 28)], s)))
 (some (oneOf [(.int .i64 0)], s))))
 (opt2 (oBin (int2 (cmpO eqI)) (.v a1) (.v (.int .i64 9)) rec PT.nil s) fun x47 s =>
 condV x47
 (condV x47
 (some (oneOf [(.int .i64 30)], s))
 (opt2 (oBin (int2 (cmpO eqI)) (.v a1) (.v (.int .i64 2)) rec PT.nil s) fun x48 s =>
 condV x48
 (opt2 (rec 23 [a0] s) fun x49 s =>
 condV x49
 (some (oneOf [(.int .i64 29)], s))
 (some (oneOf [(.int .i64 28)], s)))
 (some (oneOf [(.int .i64 0)], s))))
 (opt2 (oBin (int2 (cmpO eqI)) (.v a1) (.v (.int .i64 11)) rec PT.nil s) fun x50 s =>
 condV x50
 (some (oneOf [(.int .i64 30)], s))
 (opt2 (oBin (int2 (cmpO eqI)) (.v a1) (.v (.int .i64 2)) rec PT.nil s) fun x51 s =>
 condV x51
 (opt2 (rec 23 [a0] s) fun x52 s =>
 condV x52
 (some (oneOf [(.int .i64 29)], s))
 (some (oneOf [(.int .i64 28)], s)))
 (some (oneOf [(.int .i64 0)], s))))))))
 (opt2 (oBin (int2 (cmpO eqI)) (.v a1) (.v (.int .i64 8)) rec PT.nil s) fun x53 s =>
 condV x53
 (condV x53
 (some (oneOf [(.int .i64 31)], s))
 (opt2 (oBin (int2 (cmpO eqI)) (.v a1) (.v (.int .i64 4)) rec PT.nil s) fun x54 s =>
 condV x54
 (condV x54
 (some (oneOf [(.int .i64 30)], s))
 (opt2 (oBin (int2 (cmpO eqI)) (.v a1) (.v (.int .i64 2)) rec PT.nil s) fun x55 s =>
 condV x55
 (opt2 (rec 23 [a0] s) fun x56 s =>
 condV x56
 (some (oneOf [(.int .i64 29)], s))
 (some (oneOf [(.int .i64 28)], s)))
 (some (oneOf [(.int .i64 0)], s))))
 (opt2 (oBin (int2 (cmpO eqI)) (.v a1) (.v (.int .i64 6)) rec PT.nil s) fun x57 s =>
 condV x57
 (condV x57
 (some (oneOf [(.int .i64 30)], s))
 (opt2 (oBin (int2 (cmpO eqI)) (.v a1) (.v (.int .i64 2)) rec PT.nil s) fun x58 s =>
 condV x58
 (opt2 (rec 23 [a0] s) fun x59 s =>
 condV x59
 (some (oneOf [(.int .i64 29)], s))
 (some (oneOf [(.int .i64 28)], s)))
 (some (oneOf [(.int .i64 0)], s))))
 (opt2 (oBin (int2 (cmpO eqI)) (.v a1) (.v (.int .i64 9)) rec PT.nil s) fun x60 s =>
 condV x60
 (condV x60
 (some (oneOf [(.int .i64 30)], s))
 (opt2 (oBin (int2 (cmpO eqI)) (.v a1) (.v (.int .i64 2)) rec PT.nil s) fun x61 s =>
 condV x61
 (opt2 (rec 23 [a0] s) fun x62 s =>
 condV x62
 (some (oneOf [(.int .i64 29)], s))
 (some (oneOf [(.int .i64 28)], s)))
 (some (oneOf [(.int .i64 0)], s))))
 (opt2 (oBin (int2 (cmpO eqI)) (.v a1) (.v (.int .i64 11)) rec PT.nil s) fun x63 s =>
 condV x63
 (some (oneOf [(.int .i64 30)], s))
 (opt2 (oBin (int2 (cmpO eqI)) (.v a1) (.v (.int .i64 2)) rec PT.nil s) fun x64 s =>
 condV x64
 (opt2 (rec 23 [a0] s) fun x65 s =>
 condV x65
 (some (oneOf [(.int .i64 29)], s))
 (some (oneOf [(.int .i64 28)], s)))
 (some (oneOf [(.int .i64 0)], s))))))))
 (opt2 (oBin (int2 (cmpO eqI)) (.v a1) (.v (.int .i64 10)) rec PT.nil s) fun x66 s =>
 condV x66
 (condV x66
 (some (oneOf [(.int .i64 31)], s))
 (opt2 (oBin (int2 (cmpO eqI)) (.v a1) (.v (.int .i64 4)) rec PT.nil s) fun x67 s =>
 condV x67
 (condV x67
 (some (oneOf [(.int .i64 30)], s))
 (opt2 (oBin (int2 (cmpO eqI)) (.v a1) (.v (.int .i64 2)) rec PT.nil s) fun x68 s =>
 condV x68
 (opt2 (rec 23 [a0] s) fun x69 s =>
 condV x69
 (some (oneOf [(.int .i64 29)], s))
 (some (oneOf [(.int .i64 28)], s)))
 (some (oneOf [(.int .i64 0)], s))))
 (opt2 (oBin (int2 (cmpO eqI)) (.v a1) (.v (.int .i64 6)) rec PT.nil s) fun x70 s =>
 condV x70
 (condV x70
 (some (oneOf [(.int .i64 30)], s))
 (opt2 (oBin (int2 (cmpO eqI)) (.v a1) (.v (.int .i64 2)) rec PT.nil s) fun x71 s =>
 condV x71
 (opt2 (rec 23 [a0] s) fun x72 s =>
 condV x72
 (some (oneOf [(.int .i64 29)], s))
 (some (oneOf [(.int .i64 28)], s)))
 (some (oneOf [(.int .i64 0)], s))))
 (opt2 (oBin (int2 (cmpO eqI)) (.v a1) (.v (.int .i64 9)) rec PT.nil s) fun x73 s =>
 condV x73
 (condV x73
 (some (oneOf [(.int .i64 30)], s))
 (opt2 (oBin (int2 (cmpO eqI)) (.v a1) (.v (.int .i64 2)) rec PT.nil s) fun x74 s =>
 condV x74
 (opt2 (rec 23 [a0] s) fun x75 s =>
 condV x75
 (some (oneOf [(.int .i64 29)], s))
 (some (oneOf [(.int .i64 28)], s)))
 (some (oneOf [(.int .i64 0)], s))))
 (opt2 (oBin (int2 (cmpO eqI)) (.v a1) (.v (.int .i64 11)) rec PT.nil s) fun x76 s =>
 condV x76
 (some (oneOf [(.int .i64 30)], s))
 (opt2 (oBin (int2 (cmpO eqI)) (.v a1) (.v (.int .i64 2)) rec PT.nil s) fun x77 s =>
 condV x77
 (opt2 (rec 23 [a0] s) fun x78 s =>
 condV x78
 (some (oneOf [(.int .i64 29)], s))
 (some (oneOf [(.int .i64 28)], s)))
 (some (oneOf [(.int .i64 0)], s))))))))
 (opt2 (oBin (int2 (cmpO eqI)) (.v a1) (.v (.int .i64 12)) rec PT.nil s) fun x79 s =>
 condV x79
 (some (oneOf [(.int .i64 31)], s))
 (opt2 (oBin (int2 (cmpO eqI)) (.v a1) (.v (.int .i64 4)) rec PT.nil s) fun x80 s =>
 condV x80
 (condV x80
 (some (oneOf [(.int .i64 30)], s))
 (opt2 (oBin (int2 (cmpO eqI)) (.v a1) (.v (.int .i64 2)) rec PT.nil s) fun x81 s =>
 condV x81
 (opt2 (rec 23 [a0] s) fun x82 s =>
 condV x82
 (some (oneOf [(.int .i64 29)], s))
 (some (oneOf [(.int .i64 28)], s)))
 (some (oneOf [(.int .i64 0)], s))))
 (opt2 (oBin (int2 (cmpO eqI)) (.v a1) (.v (.int .i64 6)) rec PT.nil s) fun x83 s =>
 condV x83
 (condV x83
 (some (oneOf [(.int .i64 30)], s))
 (opt2 (oBin (int2 (cmpO eqI)) (.v a1) (.v (.int .i64 2)) rec PT.nil s) fun x84 s =>
 condV x84
 (opt2 (rec 23 [a0] s) fun x85 s =>
 condV x85
 (some (oneOf [(.int .i64 29)], s))
 (some (oneOf [(.int .i64 28)], s)))
 (some (oneOf [(.int .i64 0)], s))))
 (opt2 (oBin (int2 (cmpO eqI)) (.v a1) (.v (.int .i64 9)) rec PT.nil s) fun x86 s =>
 condV x86
 (condV x86
 (some (oneOf [(.int .i64 30)], s))
 (opt2 (oBin (int2 (cmpO eqI)) (.v a1) (.v (.int .i64 2)) rec PT.nil s) fun x87 s =>
 condV x87
 (opt2 (rec 23 [a0] s) fun x88 s =>
 condV x88
 (some (oneOf [(.int .i64 29)], s))
 (some (oneOf [(.int .i64 28)], s)))
 (some (oneOf [(.int .i64 0)], s))))
 (opt2 (oBin (int2 (cmpO eqI)) (.v a1) (.v (.int .i64 11)) rec PT.nil s) fun x89 s =>
 condV x89
 (some (oneOf [(.int .i64 30)], s))
 (opt2 (oBin (int2 (cmpO eqI)) (.v a1) (.v (.int .i64 2)) rec PT.nil s) fun x90 s =>
 condV x90
 (opt2 (rec 23 [a0] s) fun x91 s =>
 condV x91
 (some (oneOf [(.int .i64 29)], s))
 (some (oneOf [(.int .i64 28)], s)))
 (some (oneOf [(.int .i64 0)], s)))))))))))))
theorem d24 (rec : Rec) (N : Nat) (a0 : Value) (a1 : Value) (s : St) : callF rec N c24 [a0, a1] s = D24 rec N a0 a1 s := by
  rw [call_f _ _ _ _ _ rfl]
  simp (maxSteps := 4000000) only [c24, x_reg, reg_n, reg_c, reg1_u, reg1_g, op2_cons, op2_bif, x_seq, x_ops, x_skip, x_ret, x_exit, x_cond, x_block, x_loop, ops_c, ops_n, op1_u, op1_gj, op2_op2, op2_op, op2_s, op2_cond, thenX_n, thenX_e, thenX_r, blkX_n, blkX_r, blkX_e, finX_r, finX_n, res_n, res_t, mov_f, op_s, Nat.beq_refl, cond_true]
  first | done | kernel_rfl
def D25_l0 (rec : Rec) (N : Nat) (fs : Frm) (s : St) : OutX := opt2 (oBin (int2 (cmpO ltI)) (.v (orU (fs.get t5))) (.v (.int .i64 10)) rec PT.nil s) fun x1 s =>
 condV x1
 (opt2 (oBin (int2 (cmpO eqI)) (.v (orU (fs.get t5))) (.v (.int .i64 4)) rec PT.nil s) fun x2 s =>
 opt (gval false x2) fun x3 => opt2 (orUndef x3 (some ((orU (fs.get t5)), s)) s) fun x4 s =>
 opt (gval false x2) fun x5 => opt2 (orUndef x5 (oBin (int2 (cmpO eqI)) (.v x4) (.v (.int .i64 7)) rec PT.nil s) s) fun x6 s =>
 opt2 (oPick (.v x2) (.v (.bool true)) (.v x6) rec PT.nil s) fun x7 s =>
 condV x7
 (opt2 (oBin (int2 addO) (.v (orU (fs.get t5))) (.v (.int .i64 1)) rec PT.nil s) fun x8 s =>
 some (.norm, (PT.put x8 t5 (PT.put x8 t24 (PT.put (orU (fs.get t5)) t23 (PT.put x7 t30 (PT.put x6 t29 (PT.put x4 t28 (PT.put x2 t27 (PT.put x2 t26 (PT.put (orU (fs.get t5)) t25 (PT.put x1 t22 (PT.put (orU (fs.get t5)) t21 fs))))))))))), s))
 (opt2 (oIdxS (.v (orU (fs.get t0))) (.v (orU (fs.get t5))) rec PT.nil s) fun x9 s =>
 opt2 (oBin (int2 (cmpO ltI)) (.v x9) (.v (.int .u8 48)) rec PT.nil s) fun x10 s =>
 opt (gval false x10) fun x11 => opt2 (orUndef x11 (some ((orU (fs.get t0)), s)) s) fun x12 s =>
 opt (gval false x10) fun x13 => opt2 (orUndef x13 (some ((orU (fs.get t5)), s)) s) fun x14 s =>
 opt (gval false x10) fun x15 => opt2 (orUndef x15 (oIdxS (.v x12) (.v x14) rec PT.nil s) s) fun x16 s =>
 opt (gval false x10) fun x17 => opt2 (orUndef x17 (oBin (int2 (cmpO gtI)) (.v x16) (.v (.int .u8 57)) rec PT.nil s) s) fun x18 s =>
 opt2 (oPick (.v x10) (.v (.bool true)) (.v x18) rec PT.nil s) fun x19 s =>
 condV x19
 (some (.ret, (PT.put (.bool false) t3 (PT.put (.int .i64 0) t2 (PT.put x19 t40 (PT.put x18 t39 (PT.put x16 t38 (PT.put x14 t37 (PT.put x12 t36 (PT.put x10 t35 (PT.put x10 t34 (PT.put x9 t33 (PT.put (orU (fs.get t5)) t32 (PT.put (orU (fs.get t0)) t31 (PT.put x7 t30 (PT.put x6 t29 (PT.put x4 t28 (PT.put x2 t27 (PT.put x2 t26 (PT.put (orU (fs.get t5)) t25 (PT.put x1 t22 (PT.put (orU (fs.get t5)) t21 fs)))))))))))))))))))), s))
 (opt2 (oBin (int2 (cmpO gtI)) (.v (orU (fs.get t5))) (.v (.int .i64 4)) rec PT.nil s) fun x20 s =>
 condV x20
 (opt2 (oBin (int2 (cmpO gtI)) (.v (orU (fs.get t5))) (.v (.int .i64 7)) rec PT.nil s) fun x21 s =>
 condV x21
 (opt2 (rU (oMov (.v (orU (fs.get t4))) rec PT.nil ⟨s.heap, s.next, 0, 0⟩) PT.nil s none) fun x22 m22 =>
 (fun s => opt2 (rU (oMov (.v (.int .i64 2)) rec PT.nil ⟨s.heap, s.next, 0, 0⟩) PT.nil s none) fun x23 m23 =>
 (fun s => opt2 (rU (oMov (.v (orU (fs.get t4))) rec PT.nil ⟨s.heap, s.next, 0, 0⟩) PT.nil s none) fun x24 m24 =>
 (fun s => opt2 (rU (oMov (.v (.int .i64 2)) rec PT.nil ⟨s.heap, s.next, 0, 0⟩) PT.nil s none) fun x25 m25 =>
 (fun s => opt2 (rU (oIdxAddrL 1 (.v x24) (.v x25) rec PT.nil ⟨s.heap, s.next, 0, 0⟩) PT.nil s none) fun x26 m26 =>
 (fun s => opt2 (rU (oLoad1 (.v x26) rec PT.nil ⟨s.heap, s.next, 0, 0⟩) PT.nil s (some (.v x26))) fun x27 m27 =>
 (fun s => opt2 (rU (oBin (int2 mulO) (.v (.int .i64 10)) (.v x27) rec PT.nil ⟨s.heap, s.next, 0, 0⟩) PT.nil s none) fun x28 m28 =>
 (fun s => opt2 (rU (oMov (.v (orU (fs.get t0))) rec PT.nil ⟨s.heap, s.next, 0, 0⟩) PT.nil s none) fun x29 m29 =>
 (fun s => opt2 (rU (oMov (.v (orU (fs.get t5))) rec PT.nil ⟨s.heap, s.next, 0, 0⟩) PT.nil s none) fun x30 m30 =>
 (fun s => opt2 (rU (oIdxS (.v x29) (.v x30) rec PT.nil ⟨s.heap, s.next, 0, 0⟩) PT.nil s none) fun x31 m31 =>
 (fun s => opt2 (rU (oBin (int2 subO) (.v x31) (.v (.int .u8 48)) rec PT.nil ⟨s.heap, s.next, 0, 0⟩) PT.nil s none) fun x32 m32 =>
 (fun s => opt2 (rU (oConv .i64 (.v x32) rec PT.nil ⟨s.heap, s.next, 0, 0⟩) PT.nil s none) fun x33 m33 =>
 (fun s => opt2 (rU (oBin (int2 addO) (.v x28) (.v x33) rec PT.nil ⟨s.heap, s.next, 0, 0⟩) PT.nil s none) fun x34 m34 =>
 (fun s => opt2 (rU (oIdxAddrL 1 (.v x22) (.v x23) rec PT.nil ⟨s.heap, s.next, 0, 0⟩) PT.nil s none) fun x35 m35 =>
 (fun s => opt2 (rU (oStore 1 (.v x35) (.v x34) rec PT.nil ⟨s.heap, s.next, 0, 0⟩) PT.nil s none) fun x36 m36 =>
 (fun s => bif apartAll [m22.1, m23.1, m24.1, m25.1, m26.1, m27.1, m28.1, m29.1, m30.1, m31.1, m32.1, m33.1, m34.1, m35.1, m36.1] [(0, 1), (0, 2), (1, 2), (0, 3), (1, 3), (2, 3), (0, 4), (1, 4), (0, 5), (1, 5), (0, 6), (1, 6), (0, 7), (1, 7), (2, 7), (3, 7), (4, 7), (5, 7), (6, 7), (0, 8), (1, 8), (2, 8), (3, 8), (4, 8), (5, 8), (6, 8), (7, 8), (0, 9), (1, 9), (2, 9), (3, 9), (4, 9), (5, 9), (6, 9), (0, 10), (1, 10), (2, 10), (3, 10), (4, 10), (5, 10), (6, 10), (0, 11), (1, 11), (2, 11), (3, 11), (4, 11), (5, 11), (6, 11), (0, 12), (1, 12)] then opt2 (oBin (int2 addO) (.v (orU (fs.get t5))) (.v (.int .i64 1)) rec PT.nil s) fun x37 s =>
 some (.norm, (PT.put x37 t5 (PT.put x37 t24 (PT.put (orU (fs.get t5)) t23 (PT.put x35 t58 (PT.put x34 t57 (PT.put x33 t56 (PT.put x32 t55 (PT.put x31 t54 (PT.put x30 t53 (PT.put x29 t52 (PT.put x28 t51 (PT.put x27 t50 (PT.put x26 t49 (PT.put x25 t48 (PT.put x24 t47 (PT.put x23 t46 (PT.put x22 t45 (PT.put (.int .i64 2) t6 (PT.put x21 t44 (PT.put (orU (fs.get t5)) t43 (PT.put (.int .i64 1) t6 (PT.put x20 t42 (PT.put (orU (fs.get t5)) t41 (PT.put (.int .i64 0) t6 (PT.put x19 t40 (PT.put x18 t39 (PT.put x16 t38 (PT.put x14 t37 (PT.put x12 t36 (PT.put x10 t35 (PT.put x10 t34 (PT.put x9 t33 (PT.put (orU (fs.get t5)) t32 (PT.put (orU (fs.get t0)) t31 (PT.put x7 t30 (PT.put x6 t29 (PT.put x4 t28 (PT.put x2 t27 (PT.put x2 t26 (PT.put (orU (fs.get t5)) t25 (PT.put x1 t22 (PT.put (orU (fs.get t5)) t21 fs)))))))))))))))))))))))))))))))))))))))))), s) else none) m36.2) m35.2) m34.2) m33.2) m32.2) m31.2) m30.2) m29.2) m28.2) m27.2) m26.2) m25.2) m24.2) m23.2) m22.2)
 (opt2 (rU (oMov (.v (orU (fs.get t4))) rec PT.nil ⟨s.heap, s.next, 0, 0⟩) PT.nil s none) fun x38 m38 =>
 (fun s => opt2 (rU (oMov (.v (.int .i64 1)) rec PT.nil ⟨s.heap, s.next, 0, 0⟩) PT.nil s none) fun x39 m39 =>
 (fun s => opt2 (rU (oMov (.v (orU (fs.get t4))) rec PT.nil ⟨s.heap, s.next, 0, 0⟩) PT.nil s none) fun x40 m40 =>
 (fun s => opt2 (rU (oMov (.v (.int .i64 1)) rec PT.nil ⟨s.heap, s.next, 0, 0⟩) PT.nil s none) fun x41 m41 =>
 (fun s => opt2 (rU (oIdxAddrL 1 (.v x40) (.v x41) rec PT.nil ⟨s.heap, s.next, 0, 0⟩) PT.nil s none) fun x42 m42 =>
 (fun s => opt2 (rU (oLoad1 (.v x42) rec PT.nil ⟨s.heap, s.next, 0, 0⟩) PT.nil s (some (.v x42))) fun x43 m43 =>
 (fun s => opt2 (rU (oBin (int2 mulO) (.v (.int .i64 10)) (.v x43) rec PT.nil ⟨s.heap, s.next, 0, 0⟩) PT.nil s none) fun x44 m44 =>
 (fun s => opt2 (rU (oMov (.v (orU (fs.get t0))) rec PT.nil ⟨s.heap, s.next, 0, 0⟩) PT.nil s none) fun x45 m45 =>
 (fun s => opt2 (rU (oMov (.v (orU (fs.get t5))) rec PT.nil ⟨s.heap, s.next, 0, 0⟩) PT.nil s none) fun x46 m46 =>
 (fun s => opt2 (rU (oIdxS (.v x45) (.v x46) rec PT.nil ⟨s.heap, s.next, 0, 0⟩) PT.nil s none) fun x47 m47 =>
 (fun s => opt2 (rU (oBin (int2 subO) (.v x47) (.v (.int .u8 48)) rec PT.nil ⟨s.heap, s.next, 0, 0⟩) PT.nil s none) fun x48 m48 =>
 (fun s => opt2 (rU (oConv .i64 (.v x48) rec PT.nil ⟨s.heap, s.next, 0, 0⟩) PT.nil s none) fun x49 m49 =>
 (fun s => opt2 (rU (oBin (int2 addO) (.v x44) (.v x49) rec PT.nil ⟨s.heap, s.next, 0, 0⟩) PT.nil s none) fun x50 m50 =>
 (fun s => opt2 (rU (oIdxAddrL 1 (.v x38) (.v x39) rec PT.nil ⟨s.heap, s.next, 0, 0⟩) PT.nil s none) fun x51 m51 =>
 (fun s => opt2 (rU (oStore 1 (.v x51) (.v x50) rec PT.nil ⟨s.heap, s.next, 0, 0⟩) PT.nil s none) fun x52 m52 =>
 (fun s => bif apartAll [m38.1, m39.1, m40.1, m41.1, m42.1, m43.1, m44.1, m45.1, m46.1, m47.1, m48.1, m49.1, m50.1, m51.1, m52.1] [(0, 1), (0, 2), (1, 2), (0, 3), (1, 3), (2, 3), (0, 4), (1, 4), (0, 5), (1, 5), (0, 6), (1, 6), (0, 7), (1, 7), (2, 7), (3, 7), (4, 7), (5, 7), (6, 7), (0, 8), (1, 8), (2, 8), (3, 8), (4, 8), (5, 8), (6, 8), (7, 8), (0, 9), (1, 9), (2, 9), (3, 9), (4, 9), (5, 9), (6, 9), (0, 10), (1, 10), (2, 10), (3, 10), (4, 10), (5, 10), (6, 10), (0, 11), (1, 11), (2, 11), (3, 11), (4, 11), (5, 11), (6, 11), (0, 12), (1, 12)] then opt2 (oBin (int2 addO) (.v (orU (fs.get t5))) (.v (.int .i64 1)) rec PT.nil s) fun x53 s =>
 some (.norm, (PT.put x53 t5 (PT.put x53 t24 (PT.put (orU (fs.get t5)) t23 (PT.put x51 t58 (PT.put x50 t57 (PT.put x49 t56 (PT.put x48 t55 (PT.put x47 t54 (PT.put x46 t53 (PT.put x45 t52 (PT.put x44 t51 (PT.put x43 t50 (PT.put x42 t49 (PT.put x41 t48 (PT.put x40 t47 (PT.put x39 t46 (PT.put x38 t45 (PT.put x21 t44 (PT.put (orU (fs.get t5)) t43 (PT.put (.int .i64 1) t6 (PT.put x20 t42 (PT.put (orU (fs.get t5)) t41 (PT.put (.int .i64 0) t6 (PT.put x19 t40 (PT.put x18 t39 (PT.put x16 t38 (PT.put x14 t37 (PT.put x12 t36 (PT.put x10 t35 (PT.put x10 t34 (PT.put x9 t33 (PT.put (orU (fs.get t5)) t32 (PT.put (orU (fs.get t0)) t31 (PT.put x7 t30 (PT.put x6 t29 (PT.put x4 t28 (PT.put x2 t27 (PT.put x2 t26 (PT.put (orU (fs.get t5)) t25 (PT.put x1 t22 (PT.put (orU (fs.get t5)) t21 fs))))))))))))))))))))))))))))))))))))))))), s) else none) m52.2) m51.2) m50.2) m49.2) m48.2) m47.2) m46.2) m45.2) m44.2) m43.2) m42.2) m41.2) m40.2) m39.2) m38.2))
 (opt2 (oBin (int2 (cmpO gtI)) (.v (orU (fs.get t5))) (.v (.int .i64 7)) rec PT.nil s) fun x54 s =>
 condV x54
 (opt2 (rU (oMov (.v (orU (fs.get t4))) rec PT.nil ⟨s.heap, s.next, 0, 0⟩) PT.nil s none) fun x55 m55 =>
 (fun s => opt2 (rU (oMov (.v (.int .i64 2)) rec PT.nil ⟨s.heap, s.next, 0, 0⟩) PT.nil s none) fun x56 m56 =>
 (fun s => opt2 (rU (oMov (.v (orU (fs.get t4))) rec PT.nil ⟨s.heap, s.next, 0, 0⟩) PT.nil s none) fun x57 m57 =>
 (fun s => opt2 (rU (oMov (.v (.int .i64 2)) rec PT.nil ⟨s.heap, s.next, 0, 0⟩) PT.nil s none) fun x58 m58 =>
 (fun s => opt2 (rU (oIdxAddrL 1 (.v x57) (.v x58) rec PT.nil ⟨s.heap, s.next, 0, 0⟩) PT.nil s none) fun x59 m59 =>
 (fun s => opt2 (rU (oLoad1 (.v x59) rec PT.nil ⟨s.heap, s.next, 0, 0⟩) PT.nil s (some (.v x59))) fun x60 m60 =>
 (fun s => opt2 (rU (oBin (int2 mulO) (.v (.int .i64 10)) (.v x60) rec PT.nil ⟨s.heap, s.next, 0, 0⟩) PT.nil s none) fun x61 m61 =>
 (fun s => opt2 (rU (oMov (.v (orU (fs.get t0))) rec PT.nil ⟨s.heap, s.next, 0, 0⟩) PT.nil s none) fun x62 m62 =>
 (fun s => opt2 (rU (oMov (.v (orU (fs.get t5))) rec PT.nil ⟨s.heap, s.next, 0, 0⟩) PT.nil s none) fun x63 m63 =>
 (fun s => opt2 (rU (oIdxS (.v x62) (.v x63) rec PT.nil ⟨s.heap, s.next, 0, 0⟩) PT.nil s none) fun x64 m64 =>
 (fun s => opt2 (rU (oBin (int2 subO) (.v x64) (.v (.int .u8 48)) rec PT.nil ⟨s.heap, s.next, 0, 0⟩) PT.nil s none) fun x65 m65 =>
 (fun s => opt2 (rU (oConv .i64 (.v x65) rec PT.nil ⟨s.heap, s.next, 0, 0⟩) PT.nil s none) fun x66 m66 =>
 (fun s => opt2 (rU (oBin (int2 addO) (.v x61) (.v x66) rec PT.nil ⟨s.heap, s.next, 0, 0⟩) PT.nil s none) fun x67 m67 =>
 (fun s => opt2 (rU (oIdxAddrL 1 (.v x55) (.v x56) rec PT.nil ⟨s.heap, s.next, 0, 0⟩) PT.nil s none) fun x68 m68 =>
 (fun s => opt2 (rU (oStore 1 (.v x68) (.v x67) rec PT.nil ⟨s.heap, s.next, 0, 0⟩) PT.nil s none) fun x69 m69 =>
 (fun s => bif apartAll [m55.1, m56.1, m57.1, m58.1, m59.1, m60.1, m61.1, m62.1, m63.1, m64.1, m65.1, m66.1, m67.1, m68.1, m69.1] [(0, 1), (0, 2), (1, 2), (0, 3), (1, 3), (2, 3), (0, 4), (1, 4), (0, 5), (1, 5), (0, 6), (1, 6), (0, 7), (1, 7), (2, 7), (3, 7), (4, 7), (5, 7), (6, 7), (0, 8), (1, 8), (2, 8), (3, 8), (4, 8), (5, 8), (6, 8), (7, 8), (0, 9), (1, 9), (2, 9), (3, 9), (4, 9), (5, 9), (6, 9), (0, 10), (1, 10), (2, 10), (3, 10), (4, 10), (5, 10), (6, 10), (0, 11), (1, 11), (2, 11), (3, 11), (4, 11), (5, 11), (6, 11), (0, 12), (1, 12)] then opt2 (oBin (int2 addO) (.v (orU (fs.get t5))) (.v (.int .i64 1)) rec PT.nil s) fun x70 s =>
 some (.norm, (PT.put x70 t5 (PT.put x70 t24 (PT.put (orU (fs.get t5)) t23 (PT.put x68 t58 (PT.put x67 t57 (PT.put x66 t56 (PT.put x65 t55 (PT.put x64 t54 (PT.put x63 t53 (PT.put x62 t52 (PT.put x61 t51 (PT.put x60 t50 (PT.put x59 t49 (PT.put x58 t48 (PT.put x57 t47 (PT.put x56 t46 (PT.put x55 t45 (PT.put (.int .i64 2) t6 (PT.put x54 t44 (PT.put (orU (fs.get t5)) t43 (PT.put x20 t42 (PT.put (orU (fs.get t5)) t41 (PT.put (.int .i64 0) t6 (PT.put x19 t40 (PT.put x18 t39 (PT.put x16 t38 (PT.put x14 t37 (PT.put x12 t36 (PT.put x10 t35 (PT.put x10 t34 (PT.put x9 t33 (PT.put (orU (fs.get t5)) t32 (PT.put (orU (fs.get t0)) t31 (PT.put x7 t30 (PT.put x6 t29 (PT.put x4 t28 (PT.put x2 t27 (PT.put x2 t26 (PT.put (orU (fs.get t5)) t25 (PT.put x1 t22 (PT.put (orU (fs.get t5)) t21 fs))))))))))))))))))))))))))))))))))))))))), s) else none) m69.2) m68.2) m67.2) m66.2) m65.2) m64.2) m63.2) m62.2) m61.2) m60.2) m59.2) m58.2) m57.2) m56.2) m55.2)
 (opt2 (rU (oMov (.v (orU (fs.get t4))) rec PT.nil ⟨s.heap, s.next, 0, 0⟩) PT.nil s none) fun x71 m71 =>
 (fun s => opt2 (rU (oMov (.v (.int .i64 0)) rec PT.nil ⟨s.heap, s.next, 0, 0⟩) PT.nil s none) fun x72 m72 =>
 (fun s => opt2 (rU (oMov (.v (orU (fs.get t4))) rec PT.nil ⟨s.heap, s.next, 0, 0⟩) PT.nil s none) fun x73 m73 =>
 (fun s => opt2 (rU (oMov (.v (.int .i64 0)) rec PT.nil ⟨s.heap, s.next, 0, 0⟩) PT.nil s none) fun x74 m74 =>
 (fun s => opt2 (rU (oIdxAddrL 1 (.v x73) (.v x74) rec PT.nil ⟨s.heap, s.next, 0, 0⟩) PT.nil s none) fun x75 m75 =>
 (fun s => opt2 (rU (oLoad1 (.v x75) rec PT.nil ⟨s.heap, s.next, 0, 0⟩) PT.nil s (some (.v x75))) fun x76 m76 =>
 (fun s => opt2 (rU (oBin (int2 mulO) (.v (.int .i64 10)) (.v x76) rec PT.nil ⟨s.heap, s.next, 0, 0⟩) PT.nil s none) fun x77 m77 =>
 (fun s => opt2 (rU (oMov (.v (orU (fs.get t0))) rec PT.nil ⟨s.heap, s.next, 0, 0⟩) PT.nil s none) fun x78 m78 =>
 (fun s => opt2 (rU (oMov (.v (orU (fs.get t5))) rec PT.nil ⟨s.heap, s.next, 0, 0⟩) PT.nil s none) fun x79 m79 =>
 (fun s => opt2 (rU (oIdxS (.v x78) (.v x79) rec PT.nil ⟨s.heap, s.next, 0, 0⟩) PT.nil s none) fun x80 m80 =>
 (fun s => opt2 (rU (oBin (int2 subO) (.v x80) (.v (.int .u8 48)) rec PT.nil ⟨s.heap, s.next, 0, 0⟩) PT.nil s none) fun x81 m81 =>
 (fun s => opt2 (rU (oConv .i64 (.v x81) rec PT.nil ⟨s.heap, s.next, 0, 0⟩) PT.nil s none) fun x82 m82 =>
 (fun s => opt2 (rU (oBin (int2 addO) (.v x77) (.v x82) rec PT.nil ⟨s.heap, s.next, 0, 0⟩) PT.nil s none) fun x83 m83 =>
 (fun s => opt2 (rU (oIdxAddrL 1 (.v x71) (.v x72) rec PT.nil ⟨s.heap, s.next, 0, 0⟩) PT.nil s none) fun x84 m84 =>
 (fun s => opt2 (rU (oStore 1 (.v x84) (.v x83) rec PT.nil ⟨s.heap, s.next, 0, 0⟩) PT.nil s none) fun x85 m85 =>
 (fun s => bif apartAll [m71.1, m72.1, m73.1, m74.1, m75.1, m76.1, m77.1, m78.1, m79.1, m80.1, m81.1, m82.1, m83.1, m84.1, m85.1] [(0, 1), (0, 2), (1, 2), (0, 3), (1, 3), (2, 3), (0, 4), (1, 4), (0, 5), (1, 5), (0, 6), (1, 6), (0, 7), (1, 7), (2, 7), (3, 7), (4, 7), (5, 7), (6, 7), (0, 8), (1, 8), (2, 8), (3, 8), (4, 8), (5, 8), (6, 8), (7, 8), (0, 9), (1, 9), (2, 9), (3, 9), (4, 9), (5, 9), (6, 9), (0, 10), (1, 10), (2, 10), (3, 10), (4, 10), (5, 10), (6, 10), (0, 11), (1, 11), (2, 11), (3, 11), (4, 11), (5, 11), (6, 11), (0, 12), (1, 12)] then opt2 (oBin (int2 addO) (.v (orU (fs.get t5))) (.v (.int .i64 1)) rec PT.nil s) fun x86 s =>
 some (.norm, (PT.put x86 t5 (PT.put x86 t24 (PT.put (orU (fs.get t5)) t23 (PT.put x84 t58 (PT.put x83 t57 (PT.put x82 t56 (PT.put x81 t55 (PT.put x80 t54 (PT.put x79 t53 (PT.put x78 t52 (PT.put x77 t51 (PT.put x76 t50 (PT.put x75 t49 (PT.put x74 t48 (PT.put x73 t47 (PT.put x72 t46 (PT.put x71 t45 (PT.put x54 t44 (PT.put (orU (fs.get t5)) t43 (PT.put x20 t42 (PT.put (orU (fs.get t5)) t41 (PT.put (.int .i64 0) t6 (PT.put x19 t40 (PT.put x18 t39 (PT.put x16 t38 (PT.put x14 t37 (PT.put x12 t36 (PT.put x10 t35 (PT.put x10 t34 (PT.put x9 t33 (PT.put (orU (fs.get t5)) t32 (PT.put (orU (fs.get t0)) t31 (PT.put x7 t30 (PT.put x6 t29 (PT.put x4 t28 (PT.put x2 t27 (PT.put x2 t26 (PT.put (orU (fs.get t5)) t25 (PT.put x1 t22 (PT.put (orU (fs.get t5)) t21 fs)))))))))))))))))))))))))))))))))))))))), s) else none) m85.2) m84.2) m83.2) m82.2) m81.2) m80.2) m79.2) m78.2) m77.2) m76.2) m75.2) m74.2) m73.2) m72.2) m71.2)))))
 (some ((.exit 0), (PT.put x1 t22 (PT.put (orU (fs.get t5)) t21 fs)), s))
theorem d25_l0 (rec : Rec) (N : Nat) (fs : Frm) (s : St) : c25_l0 rec N fs s = D25_l0 rec N fs s := by
  simp (maxSteps := 4000000) only [c25_l0, call_f, lenN, x_reg, reg_n, reg_c, reg1_u, reg1_g, op2_cons, op2_bif, x_seq, x_ops, x_skip, x_ret, x_exit, x_cond, x_block, x_loop, ops_c, ops_n, op1_u, op1_gj, op2_op2, op2_op, op2_s, op2_cond, thenX_n, thenX_e, thenX_r, blkX_n, blkX_r, blkX_e, finX_r, finX_n, res_n, res_t, mov_f, op_s, Nat.beq_refl, cond_true]
  first | done | kernel_rfl
def D25_r0 (rec : Rec) (N : Nat) (fs : Frm) (s : St) : OutX := opt2 (rU (oMov (.v (orU (fs.get t4))) rec PT.nil ⟨s.heap, s.next, 0, 0⟩) PT.nil s none) fun x1 m1 =>
 (fun s => opt2 (rU (oIdxAddrL 1 (.v x1) (.v (.int .i64 0)) rec PT.nil ⟨s.heap, s.next, 0, 0⟩) PT.nil s none) fun x2 m2 =>
 (fun s => opt2 (rU (oLoad1 (.v x2) rec PT.nil ⟨s.heap, s.next, 0, 0⟩) PT.nil s (some (.v x2))) fun x3 m3 =>
 (fun s => opt2 (rU (oMov (.v (orU (fs.get t4))) rec PT.nil ⟨s.heap, s.next, 0, 0⟩) PT.nil s none) fun x4 m4 =>
 (fun s => opt2 (rU (oIdxAddrL 1 (.v x4) (.v (.int .i64 1)) rec PT.nil ⟨s.heap, s.next, 0, 0⟩) PT.nil s none) fun x5 m5 =>
 (fun s => opt2 (rU (oLoad1 (.v x5) rec PT.nil ⟨s.heap, s.next, 0, 0⟩) PT.nil s (some (.v x5))) fun x6 m6 =>
 (fun s => opt2 (rU (oMov (.v (orU (fs.get t4))) rec PT.nil ⟨s.heap, s.next, 0, 0⟩) PT.nil s none) fun x7 m7 =>
 (fun s => opt2 (rU (oIdxAddrL 1 (.v x7) (.v (.int .i64 2)) rec PT.nil ⟨s.heap, s.next, 0, 0⟩) PT.nil s none) fun x8 m8 =>
 (fun s => opt2 (rU (oLoad1 (.v x8) rec PT.nil ⟨s.heap, s.next, 0, 0⟩) PT.nil s (some (.v x8))) fun x9 m9 =>
 (fun s => opt2 (rU (rec 19 [x3, x6, x9] ⟨s.heap, s.next, 0, 0⟩) PT.nil s none) fun x10 m10 =>
 (fun s => opt2 (rU (oExtract (.v x10) 0 rec PT.nil ⟨s.heap, s.next, 0, 0⟩) PT.nil s none) fun x11 m11 =>
 (fun s => opt2 (rU (oExtract (.v x10) 1 rec PT.nil ⟨s.heap, s.next, 0, 0⟩) PT.nil s none) fun x12 m12 =>
 (fun s => opt2 (rU (oMov (.v x11) rec PT.nil ⟨s.heap, s.next, 0, 0⟩) PT.nil s none) fun x13 m13 =>
 (fun s => opt2 (rU (oMov (.v x12) rec PT.nil ⟨s.heap, s.next, 0, 0⟩) PT.nil s none) fun x14 m14 =>
 (fun s => bif apartAll [m1.1, m2.1, m3.1, m4.1, m5.1, m6.1, m7.1, m8.1, m9.1, m10.1, m11.1, m12.1, m13.1, m14.1] [(0, 3), (1, 3), (2, 3), (0, 4), (1, 4), (2, 4), (0, 5), (1, 5), (2, 5), (0, 6), (1, 6), (2, 6), (3, 6), (4, 6), (5, 6), (0, 7), (1, 7), (2, 7), (3, 7), (4, 7), (5, 7), (0, 8), (1, 8), (2, 8), (3, 8), (4, 8), (5, 8), (10, 11)] then some (.ret, (PT.put x14 t3 (PT.put x13 t2 (PT.put x12 t70 (PT.put x11 t69 (PT.put x10 t68 (PT.put x9 t67 (PT.put x8 t66 (PT.put x7 t65 (PT.put x6 t64 (PT.put x5 t63 (PT.put x4 t62 (PT.put x3 t61 (PT.put x2 t60 (PT.put x1 t59 fs)))))))))))))), s) else none) m14.2) m13.2) m12.2) m11.2) m10.2) m9.2) m8.2) m7.2) m6.2) m5.2) m4.2) m3.2) m2.2) m1.2
theorem d25_r0 (rec : Rec) (N : Nat) (fs : Frm) (s : St) : c25_r0 rec N fs s = D25_r0 rec N fs s := by
  simp (maxSteps := 4000000) only [c25_r0, call_f, lenN, x_reg, reg_n, reg_c, reg1_u, reg1_g, op2_cons, op2_bif, x_seq, x_ops, x_skip, x_ret, x_exit, x_cond, x_block, x_loop, ops_c, ops_n, op1_u, op1_gj, op2_op2, op2_op, op2_s, op2_cond, thenX_n, thenX_e, thenX_r, blkX_n, blkX_r, blkX_e, finX_r, finX_n, res_n, res_t, mov_f, op_s, Nat.beq_refl, cond_true]
  first | done | kernel_rfl
def D25 (rec : Rec) (N : Nat) (a0 : Value) (s : St) : Out := opt2 (oLenS (.v a0) rec PT.nil s) fun x1 s =>
 opt2 (oBin (int2 (cmpO neI)) (.v x1) (.v (.int .i64 10)) rec PT.nil s) fun x2 s =>
 opt (gval false x2) fun x3 => opt2 (orUndef x3 (some (a0, s)) s) fun x4 s =>
 opt (gval false x2) fun x5 => opt2 (orUndef x5 (oIdxS (.v x4) (.v (.int .i64 4)) rec PT.nil s) s) fun x6 s =>
 opt (gval false x2) fun x7 => opt2 (orUndef x7 (oBin (int2 (cmpO neI)) (.v x6) (.v (.int .u8 45)) rec PT.nil s) s) fun x8 s =>
 opt2 (oPick (.v x2) (.v (.bool true)) (.v x8) rec PT.nil s) fun x9 s =>
 opt (gval false x9) fun x10 => opt2 (orUndef x10 (some (a0, s)) s) fun x11 s =>
 opt (gval false x9) fun x12 => opt2 (orUndef x12 (oIdxS (.v x11) (.v (.int .i64 7)) rec PT.nil s) s) fun x13 s =>
 opt (gval false x9) fun x14 => opt2 (orUndef x14 (oBin (int2 (cmpO neI)) (.v x13) (.v (.int .u8 45)) rec PT.nil s) s) fun x15 s =>
 opt2 (oPick (.v x9) (.v (.bool true)) (.v x15) rec PT.nil s) fun x16 s =>
 condV x16
 (some (oneOf [(.int .i64 0), (.bool false)], s))
 (opt2 (oBuildSlice 3 [(.int .i64 0), (.int .i64 0), (.int .i64 0)] [(0, 1, (.v (.int .i64 0))), (1, 1, (.v (.int .i64 0))), (2, 1, (.v (.int .i64 0)))] rec PT.nil s) fun x17 s =>
 opt2 (loopF (c25_l0 rec N) N (PT.put (.int .i64 0) t5 (PT.put x17 t4 (PT.put x17 t20 (PT.put x16 t19 (PT.put x15 t18 (PT.put x13 t17 (PT.put x11 t16 (PT.put x9 t15 (PT.put x9 t14 (PT.put x8 t13 (PT.put x6 t12 (PT.put x4 t11 (PT.put x2 t10 (PT.put x2 t9 (PT.put x1 t8 (PT.put a0 t7 (PT.put (.bool false) t3 (PT.put (.int .i64 0) t2 (PT.put a0 t0 PT.nil))))))))))))))))))) s) fun e r => opt2 (blkX 0 e r) fun e r => opt2 (thenX (c25_r0 rec N) e r) fun e r => finX [.tmp t2, .tmp t3] e r)
theorem d25 (rec : Rec) (N : Nat) (a0 : Value) (s : St) : callF rec N c25 [a0] s = D25 rec N a0 s := by
  rw [call_f _ _ _ _ _ rfl]
  simp (maxSteps := 4000000) only [c25, x_reg, reg_n, reg_c, reg1_u, reg1_g, op2_cons, op2_bif, x_seq, x_ops, x_skip, x_ret, x_exit, x_cond, x_block, x_loop, ops_c, ops_n, op1_u, op1_gj, op2_op2, op2_op, op2_s, op2_cond, thenX_n, thenX_e, thenX_r, blkX_n, blkX_r, blkX_e, finX_r, finX_n, res_n, res_t, mov_f, op_s, Nat.beq_refl, cond_true]
  first | done | kernel_rfl
def D26 (rec : Rec) (N : Nat) (a0 : Value) (s : St) : Out := opt2 (oBin (int2 subO) (.v a0) (.v (.int .i64 1900)) rec PT.nil s) fun x1 s =>
 opt2 (oBin (int2 subO) (.v a0) (.v (.int .i64 1)) rec PT.nil s) fun x2 s =>
 opt2 (oBin (int2 quoO) (.v x2) (.v (.int .i64 4)) rec PT.nil s) fun x3 s =>
 opt2 (oBin (int2 subO) (.v x3) (.v (.int .i64 474)) rec PT.nil s) fun x4 s =>
 opt2 (oBin (int2 subO) (.v a0) (.v (.int .i64 1)) rec PT.nil s) fun x5 s =>
 opt2 (oBin (int2 quoO) (.v x5) (.v (.int .i64 100)) rec PT.nil s) fun x6 s =>
 opt2 (oBin (int2 subO) (.v x6) (.v (.int .i64 18)) rec PT.nil s) fun x7 s =>
 opt2 (oBin (int2 subO) (.v x4) (.v x7) rec PT.nil s) fun x8 s =>
 opt2 (oBin (int2 subO) (.v a0) (.v (.int .i64 1)) rec PT.nil s) fun x9 s =>
 opt2 (oBin (int2 quoO) (.v x9) (.v (.int .i64 400)) rec PT.nil s) fun x10 s =>
 opt2 (oBin (int2 subO) (.v x10) (.v (.int .i64 4)) rec PT.nil s) fun x11 s =>
 opt2 (oBin (int2 addO) (.v x8) (.v x11) rec PT.nil s) fun x12 s =>
 opt2 (oBin (int2 mulO) (.v x1) (.v (.int .i64 365)) rec PT.nil s) fun x13 s =>
 opt2 (oBin (int2 addO) (.v x13) (.v x12) rec PT.nil s) fun x14 s =>
 some (oneOf [x14], s)
theorem d26 (rec : Rec) (N : Nat) (a0 : Value) (s : St) : callF rec N c26 [a0] s = D26 rec N a0 s := by
  rw [call_f _ _ _ _ _ rfl]
  simp (maxSteps := 4000000) only [c26, x_reg, reg_n, reg_c, reg1_u, reg1_g, op2_cons, op2_bif, x_seq, x_ops, x_skip, x_ret, x_exit, x_cond, x_block, x_loop, ops_c, ops_n, op1_u, op1_gj, op2_op2, op2_op, op2_s, op2_cond, thenX_n, thenX_e, thenX_r, blkX_n, blkX_r, blkX_e, finX_r, finX_n, res_n, res_t, mov_f, op_s, Nat.beq_refl, cond_true]
  first | done | kernel_rfl
def D27_l0 (rec : Rec) (N : Nat) (fs : Frm) (s : St) : OutX := opt2 (oBin (int2 (cmpO ltI)) (.v (orU (fs.get t9))) (.v (orU (fs.get t8))) rec PT.nil s) fun x1 s =>
 condV x1
 (opt2 (oIdxAddrL 1 (.v (orU (fs.get t7))) (.v (orU (fs.get t9))) rec PT.nil s) fun x2 s =>
 opt2 (oLoad1 (.v x2) rec PT.nil s) fun x3 s =>
 opt2 (oBin (int2 (cmpO ltI)) (.v x3) (.v (.int .u8 48)) rec PT.nil s) fun x4 s =>
 opt (gval false x4) fun x5 => opt2 (orUndef x5 (some (x3, s)) s) fun x6 s =>
 opt (gval false x4) fun x7 => opt2 (orUndef x7 (oBin (int2 (cmpO gtI)) (.v x6) (.v (.int .u8 57)) rec PT.nil s) s) fun x8 s =>
 opt2 (oPick (.v x4) (.v (.bool true)) (.v x8) rec PT.nil s) fun x9 s =>
 condV x9
 (some (.ret, (PT.put (.int .i64 (-1)) t2 (PT.put x9 t18 (PT.put x8 t17 (PT.put x6 t16 (PT.put x4 t15 (PT.put x4 t14 (PT.put x3 t13 (PT.put x3 t5 (PT.put x3 t12 (PT.put x2 t11 (PT.put x1 t10 fs))))))))))), s))
 (opt2 (oBin (int2 mulO) (.v (orU (fs.get t3))) (.v (.int .i64 10)) rec PT.nil s) fun x10 s =>
 opt2 (oBin (int2 subO) (.v x3) (.v (.int .u8 48)) rec PT.nil s) fun x11 s =>
 opt2 (oConv .i64 (.v x11) rec PT.nil s) fun x12 s =>
 opt2 (oBin (int2 addO) (.v x10) (.v x12) rec PT.nil s) fun x13 s =>
 opt2 (oBin (int2 addO) (.v (orU (fs.get t9))) (.v (.int .i64 1)) rec PT.nil s) fun x14 s =>
 some (.norm, (PT.put x14 t9 (PT.put x14 t25 (PT.put x13 t3 (PT.put x13 t24 (PT.put x12 t23 (PT.put x11 t22 (PT.put x3 t21 (PT.put x10 t20 (PT.put (orU (fs.get t3)) t19 (PT.put x9 t18 (PT.put x8 t17 (PT.put x6 t16 (PT.put x4 t15 (PT.put x4 t14 (PT.put x3 t13 (PT.put x3 t5 (PT.put x3 t12 (PT.put x2 t11 (PT.put x1 t10 fs))))))))))))))))))), s)))
 (some ((.exit 0), (PT.put x1 t10 fs), s))
theorem d27_l0 (rec : Rec) (N : Nat) (fs : Frm) (s : St) : c27_l0 rec N fs s = D27_l0 rec N fs s := by
  simp (maxSteps := 4000000) only [c27_l0, call_f, lenN, x_reg, reg_n, reg_c, reg1_u, reg1_g, op2_cons, op2_bif, x_seq, x_ops, x_skip, x_ret, x_exit, x_cond, x_block, x_loop, ops_c, ops_n, op1_u, op1_gj, op2_op2, op2_op, op2_s, op2_cond, thenX_n, thenX_e, thenX_r, blkX_n, blkX_r, blkX_e, finX_r, finX_n, res_n, res_t, mov_f, op_s, Nat.beq_refl, cond_true]
  first | done | kernel_rfl
def D27_r0 (rec : Rec) (N : Nat) (fs : Frm) (s : St) : OutX := some (.ret, (PT.put (orU (fs.get t3)) t2 (PT.put (orU (fs.get t3)) t26 fs)), s)
theorem d27_r0 (rec : Rec) (N : Nat) (fs : Frm) (s : St) : c27_r0 rec N fs s = D27_r0 rec N fs s := by
  simp (maxSteps := 4000000) only [c27_r0, call_f, lenN, x_reg, reg_n, reg_c, reg1_u, reg1_g, op2_cons, op2_bif, x_seq, x_ops, x_skip, x_ret, x_exit, x_cond, x_block, x_loop, ops_c, ops_n, op1_u, op1_gj, op2_op2, op2_op, op2_s, op2_cond, thenX_n, thenX_e, thenX_r, blkX_n, blkX_r, blkX_e, finX_r, finX_n, res_n, res_t, mov_f, op_s, Nat.beq_refl, cond_true]
  first | done | kernel_rfl
def D27 (rec : Rec) (N : Nat) (a0 : Value) (s : St) : Out := opt2 (oStrBytes (.v a0) rec PT.nil s) fun x1 s =>
 opt2 (oLenL (.v x1) rec PT.nil s) fun x2 s =>
 opt2 (loopF (c27_l0 rec N) N (PT.put (.int .i64 0) t9 (PT.put x2 t8 (PT.put x1 t7 (PT.put a0 t6 (PT.put (.int .i64 0) t3 (PT.put (.int .i64 0) t2 (PT.put a0 t0 PT.nil))))))) s) fun e r => opt2 (blkX 0 e r) fun e r => opt2 (thenX (c27_r0 rec N) e r) fun e r => finX [.tmp t2] e r
theorem d27 (rec : Rec) (N : Nat) (a0 : Value) (s : St) : callF rec N c27 [a0] s = D27 rec N a0 s := by
  rw [call_f _ _ _ _ _ rfl]
  simp (maxSteps := 4000000) only [c27, x_reg, reg_n, reg_c, reg1_u, reg1_g, op2_cons, op2_bif, x_seq, x_ops, x_skip, x_ret, x_exit, x_cond, x_block, x_loop, ops_c, ops_n, op1_u, op1_gj, op2_op2, op2_op, op2_s, op2_cond, thenX_n, thenX_e, thenX_r, blkX_n, blkX_r, blkX_e, finX_r, finX_n, res_n, res_t, mov_f, op_s, Nat.beq_refl, cond_true]
  first | done | kernel_rfl
def D28 (rec : Rec) (N : Nat) (a0 : Value) (s : St) : Out := opt2 (oBin (int2 (cmpO geI)) (.v a0) (.v (.int .i64 0)) rec PT.nil s) fun x1 s =>
 opt (gval true x1) fun x2 => opt2 (orUndef x2 (some (a0, s)) s) fun x3 s =>
 opt (gval true x1) fun x4 => opt2 (orUndef x4 (oBin (int2 (cmpO leI)) (.v x3) (.v (.int .i64 109572)) rec PT.nil s) s) fun x5 s =>
 opt2 (oPick (.v x1) (.v x5) (.v (.bool false)) rec PT.nil s) fun x6 s =>
 some (oneOf [x6], s)
theorem d28 (rec : Rec) (N : Nat) (a0 : Value) (s : St) : callF rec N c28 [a0] s = D28 rec N a0 s := by
  rw [call_f _ _ _ _ _ rfl]
  simp (maxSteps := 4000000) only [c28, x_reg, reg_n, reg_c, reg1_u, reg1_g, op2_cons, op2_bif, x_seq, x_ops, x_skip, x_ret, x_exit, x_cond, x_block, x_loop, ops_c, ops_n, op1_u, op1_gj, op2_op2, op2_op, op2_s, op2_cond, thenX_n, thenX_e, thenX_r, blkX_n, blkX_r, blkX_e, finX_r, finX_n, res_n, res_t, mov_f, op_s, Nat.beq_refl, cond_true]
  first | done | kernel_rfl
def D29_l0 (rec : Rec) (N : Nat) (fs : Frm) (s : St) : OutX := opt2 (oLenS (.v (orU (fs.get t5))) rec PT.nil s) fun x1 s =>
 opt2 (oBin (int2 (cmpO ltI)) (.v x1) (.v (orU (fs.get t1))) rec PT.nil s) fun x2 s =>
 condV x2
 (opt2 (oBin (str2 catO) (.v (.string ⟨⟨[48]⟩⟩)) (.v (orU (fs.get t5))) rec PT.nil s) fun x3 s =>
 some (.norm, (PT.put x3 t5 (PT.put x3 t13 (PT.put (orU (fs.get t5)) t12 (PT.put x2 t11 (PT.put (orU (fs.get t1)) t10 (PT.put x1 t9 (PT.put (orU (fs.get t5)) t8 fs))))))), s))
 (some ((.exit 0), (PT.put x2 t11 (PT.put (orU (fs.get t1)) t10 (PT.put x1 t9 (PT.put (orU (fs.get t5)) t8 fs)))), s))
theorem d29_l0 (rec : Rec) (N : Nat) (fs : Frm) (s : St) : c29_l0 rec N fs s = D29_l0 rec N fs s := by
  simp (maxSteps := 4000000) only [c29_l0, call_f, lenN, x_reg, reg_n, reg_c, reg1_u, reg1_g, op2_cons, op2_bif, x_seq, x_ops, x_skip, x_ret, x_exit, x_cond, x_block, x_loop, ops_c, ops_n, op1_u, op1_gj, op2_op2, op2_op, op2_s, op2_cond, thenX_n, thenX_e, thenX_r, blkX_n, blkX_r, blkX_e, finX_r, finX_n, res_n, res_t, mov_f, op_s, Nat.beq_refl, cond_true]
  first | done | kernel_rfl
def D29_r0 (rec : Rec) (N : Nat) (fs : Frm) (s : St) : OutX := some (.ret, (PT.put (orU (fs.get t5)) t4 (PT.put (orU (fs.get t5)) t14 fs)), s)
theorem d29_r0 (rec : Rec) (N : Nat) (fs : Frm) (s : St) : c29_r0 rec N fs s = D29_r0 rec N fs s := by
  simp (maxSteps := 4000000) only [c29_r0, call_f, lenN, x_reg, reg_n, reg_c, reg1_u, reg1_g, op2_cons, op2_bif, x_seq, x_ops, x_skip, x_ret, x_exit, x_cond, x_block, x_loop, ops_c, ops_n, op1_u, op1_gj, op2_op2, op2_op, op2_s, op2_cond, thenX_n, thenX_e, thenX_r, blkX_n, blkX_r, blkX_e, finX_r, finX_n, res_n, res_t, mov_f, op_s, Nat.beq_refl, cond_true]
  first | done | kernel_rfl
def D29 (rec : Rec) (N : Nat) (a0 : Value) (a1 : Value) (s : St) : Out := opt2 (rec 31 [a0] s) fun x1 s =>
 opt2 (loopF (c29_l0 rec N) N (PT.put x1 t5 (PT.put x1 t7 (PT.put a0 t6 (PT.put (.string ⟨⟨[]⟩⟩) t4 (PT.put a1 t1 (PT.put a0 t0 PT.nil)))))) s) fun e r => opt2 (blkX 0 e r) fun e r => opt2 (thenX (c29_r0 rec N) e r) fun e r => finX [.tmp t4] e r
theorem d29 (rec : Rec) (N : Nat) (a0 : Value) (a1 : Value) (s : St) : callF rec N c29 [a0, a1] s = D29 rec N a0 a1 s := by
  rw [call_f _ _ _ _ _ rfl]
  simp (maxSteps := 4000000) only [c29, x_reg, reg_n, reg_c, reg1_u, reg1_g, op2_cons, op2_bif, x_seq, x_ops, x_skip, x_ret, x_exit, x_cond, x_block, x_loop, ops_c, ops_n, op1_u, op1_gj, op2_op2, op2_op, op2_s, op2_cond, thenX_n, thenX_e, thenX_r, blkX_n, blkX_r, blkX_e, finX_r, finX_n, res_n, res_t, mov_f, op_s, Nat.beq_refl, cond_true]
  first | done | kernel_rfl
def D30 (rec : Rec) (N : Nat) (a0 : Value) (s : St) : Out := opt2 (oBin (int2 quoO) (.v a0) (.v (.int .i64 10)) rec PT.nil s) fun x1 s =>
 opt2 (oBin (int2 remO) (.v x1) (.v (.int .i64 10)) rec PT.nil s) fun x2 s =>
 opt2 (oBin (int2 addO) (.v (.int .i64 48)) (.v x2) rec PT.nil s) fun x3 s =>
 opt2 (oConv .u8 (.v x3) rec PT.nil s) fun x4 s =>
 opt2 (oBin (int2 remO) (.v a0) (.v (.int .i64 10)) rec PT.nil s) fun x5 s =>
 opt2 (oBin (int2 addO) (.v (.int .i64 48)) (.v x5) rec PT.nil s) fun x6 s =>
 opt2 (oConv .u8 (.v x6) rec PT.nil s) fun x7 s =>
 opt2 (oBuildSlice 2 [(.int .u8 0), (.int .u8 0)] [(0, 1, (.v x4)), (1, 1, (.v x7))] rec PT.nil s) fun x8 s =>
 opt2 (oBytesStr (.v x8) rec PT.nil s) fun x9 s =>
 some (oneOf [x9], s)
theorem d30 (rec : Rec) (N : Nat) (a0 : Value) (s : St) : callF rec N c30 [a0] s = D30 rec N a0 s := by
  rw [call_f _ _ _ _ _ rfl]
  simp (maxSteps := 4000000) only [c30, x_reg, reg_n, reg_c, reg1_u, reg1_g, op2_cons, op2_bif, x_seq, x_ops, x_skip, x_ret, x_exit, x_cond, x_block, x_loop, ops_c, ops_n, op1_u, op1_gj, op2_op2, op2_op, op2_s, op2_cond, thenX_n, thenX_e, thenX_r, blkX_n, blkX_r, blkX_e, finX_r, finX_n, res_n, res_t, mov_f, op_s, Nat.beq_refl, cond_true]
  first | done | kernel_rfl
end
end Go.Proofs.YtdfmhjbmenfaeaaDoor.AbsCalD
