import Derived.Test.YtikdjhlcbkkkfaaAbsLexOE
import Derived.Test.YtikdjhlcbkkkfaaAbsZL
namespace Go.Proofs.Ytikdjhlcbkkkfaa.AbsLexO
open Go Go.Abs Go.Proofs
set_option maxRecDepth 100000
set_option linter.unusedVariables false
set_option linter.unusedSimpArgs false
noncomputable section
-- c5
def D5_q0 (rec : Rec) (fs : Frm) (s : St) : Option (Frm × St) := opt (gval false (orU (fs.get t37))) fun x1 => opt2 (orUndef x1 (oBin (int2 (cmpO eqI)) (.v (orU (fs.get t38))) (.v (.int .i64 5)) rec PT.nil s) s) fun x2 s =>
 opt (gval false (orU (fs.get t37))) fun x3 => opt2 (orUndef x3 (oMov (.v x2) rec PT.nil s) s) fun x4 s =>
 opt (gval true x4) fun x5 => opt2 (orUndef x5 (oMov (.v (orU (fs.get t1))) rec PT.nil s) s) fun x6 s =>
 opt (gval true x4) fun x7 => opt2 (orUndef x7 (oBin (int2 (cmpO gtI)) (.v x6) (.v (.int .i64 109572)) rec PT.nil s) s) fun x8 s =>
 opt (gval false (orU (fs.get t37))) fun x9 => opt2 (orUndef x9 (oPick (.v x4) (.v x8) (.v (.bool false)) rec PT.nil s) s) fun x10 s =>
 opt2 (oPick (.v (orU (fs.get t37))) (.v (.bool true)) (.v x10) rec PT.nil s) fun x11 s =>
 some ((PT.put x11 t44 (PT.put x10 t43 (PT.put x8 t42 (PT.put x6 t41 (PT.put x4 t40 (PT.put x2 t39 fs)))))), s)
set_option maxHeartbeats 4000000 in
theorem d5_q0 (rec : Rec) (fs : Frm) (s : St) : runOps rec c5_q0 fs s = D5_q0 rec fs s := by
  simp (maxSteps := 4000000) only [c5_q0, ops_c, ops_n, op1_u, op1_gj, rq_c, rq_n, opQ_u, opQ_g, op2_op2, op2_op, op2_s]
  first | done | kernel_rfl
def D5_q1 (rec : Rec) (fs : Frm) (s : St) : Option (Frm × St) := opt (gval true (orU (fs.get t24))) fun x1 => opt2 (orUndef x1 (oMov (.v (orU (fs.get t1))) rec PT.nil s) s) fun x2 s =>
 opt (gval true (orU (fs.get t24))) fun x3 => opt2 (orUndef x3 (oBin (int2 (cmpO gtI)) (.v x2) (.v (.int .i64 4503599627370496)) rec PT.nil s) s) fun x4 s =>
 opt (gval false (orU (fs.get t21))) fun x5 => opt2 (orUndef x5 (oPick (.v (orU (fs.get t24))) (.v x4) (.v (.bool false)) rec PT.nil s) s) fun x6 s =>
 opt2 (oPick (.v (orU (fs.get t21))) (.v (.bool true)) (.v x6) rec PT.nil s) fun x7 s =>
 opt2 (oMov (.v x7) rec PT.nil s) fun x8 s =>
 opt (gval false x8) fun x9 => opt2 (orUndef x9 (oMov (.v (orU (fs.get t0))) rec PT.nil s) s) fun x10 s =>
 opt (gval false x8) fun x11 => opt2 (orUndef x11 (oBin (int2 (cmpO eqI)) (.v x10) (.v (.int .i64 4)) rec PT.nil s) s) fun x12 s =>
 opt (gval false x8) fun x13 => opt2 (orUndef x13 (oMov (.v x12) rec PT.nil s) s) fun x14 s =>
 opt (gval true x14) fun x15 => opt2 (orUndef x15 (oMov (.v (orU (fs.get t1))) rec PT.nil s) s) fun x16 s =>
 opt (gval true x14) fun x17 => opt2 (orUndef x17 (oBin (int2 (cmpO gtI)) (.v x16) (.v (.int .i64 1000000000000)) rec PT.nil s) s) fun x18 s =>
 opt (gval false x8) fun x19 => opt2 (orUndef x19 (oPick (.v x14) (.v x18) (.v (.bool false)) rec PT.nil s) s) fun x20 s =>
 opt2 (oPick (.v x8) (.v (.bool true)) (.v x20) rec PT.nil s) fun x21 s =>
 opt2 (oMov (.v x21) rec PT.nil s) fun x22 s =>
 opt (gval false x22) fun x23 => opt2 (orUndef x23 (oMov (.v (orU (fs.get t0))) rec PT.nil s) s) fun x24 s =>
 runOps rec c5_q0 (PT.put x24 t38 (PT.put x22 t37 (PT.put x21 t36 (PT.put x20 t35 (PT.put x18 t34 (PT.put x16 t33 (PT.put x14 t32 (PT.put x12 t31 (PT.put x10 t30 (PT.put x8 t29 (PT.put x7 t28 (PT.put x6 t27 (PT.put x4 t26 (PT.put x2 t25 fs)))))))))))))) s
set_option maxHeartbeats 4000000 in
theorem d5_q1 (rec : Rec) (fs : Frm) (s : St) : runOps rec c5_q1 fs s = D5_q1 rec fs s := by
  simp (maxSteps := 4000000) only [c5_q1, ops_c, ops_n, op1_u, op1_gj, rq_c, rq_n, opQ_u, opQ_g, op2_op2, op2_op, op2_s]
  first | done | kernel_rfl
def D5_q2 (rec : Rec) (fs : Frm) (s : St) : Option (Frm × St) := opt (gval true (orU (fs.get t61))) fun x1 => opt2 (orUndef x1 (oMov (.v (orU (fs.get t1))) rec PT.nil s) s) fun x2 s =>
 opt (gval true (orU (fs.get t61))) fun x3 => opt2 (orUndef x3 (oBuild [(.int .i64 0), (.string ⟨⟨[]⟩⟩), (.int .i64 0), (.int .i64 0)] [(0, 1, (.v (orU (fs.get t66)))), (1, 1, (.v (orU (fs.get t67)))), (2, 1, (.v x2))] rec PT.nil s) s) fun x4 s =>
 opt (gval true (orU (fs.get t61))) fun x5 => opt2 (orUndef x5 (oEqs false [(0, eqN), (1, eqT), (2, eqN), (3, eqN)] (.v (orU (fs.get t64))) (.v x4) rec PT.nil s) s) fun x6 s =>
 opt2 (oPick (.v (orU (fs.get t61))) (.v x6) (.v (.bool false)) rec PT.nil s) fun x7 s =>
 opt2 (oMov (.v x7) rec PT.nil s) fun x8 s =>
 some ((PT.put x8 t4 (PT.put x7 t71 (PT.put x6 t70 (PT.put x4 t69 (PT.put x2 t68 fs))))), s)
set_option maxHeartbeats 4000000 in
theorem d5_q2 (rec : Rec) (fs : Frm) (s : St) : runOps rec c5_q2 fs s = D5_q2 rec fs s := by
  simp (maxSteps := 4000000) only [c5_q2, ops_c, ops_n, op1_u, op1_gj, rq_c, rq_n, opQ_u, opQ_g, op2_op2, op2_op, op2_s]
  first | done | kernel_rfl
def D5_j0 (rec : Rec) (N : Nat) (fs : Frm) (s : St) : OutX := condV (orU (fs.get t44))
 (opt2 (oMov (.v (.bool true)) rec PT.nil s) fun x1 s =>
 some (.ret, (PT.put x1 t4 fs), s))
 (some (.norm, fs, s))
set_option maxHeartbeats 4000000 in
theorem d5_j0 (rec : Rec) (N : Nat) (fs : Frm) (s : St) : c5_j0 rec N fs s = D5_j0 rec N fs s := by
  simp (maxSteps := 4000000) only [c5_j0, lenN, x_seq, x_ops, x_skip, x_ret, x_exit, x_cond, x_block, x_loop, ops_c, ops_n, op1_u, op1_gj, rq_c, rq_n, opQ_u, opQ_g, op2_op2, op2_op, op2_s, op2_cond, thenX_n, thenX_e, thenX_r, blkX_n, blkX_r, blkX_e, finX_r, finX_n, res_n, res_t, op_s, Nat.beq_refl, cond_true]
  first | done | kernel_rfl
def D5_j1 (rec : Rec) (N : Nat) (fs : Frm) (s : St) : OutX := opt2 (oMov (.v (orU (fs.get t0))) rec PT.nil s) fun x1 s =>
 opt2 (oMov (.v (orU (fs.get t1))) rec PT.nil s) fun x2 s =>
 opt2 (rec 11 [x1, x2] s) fun x3 s =>
 opt2 (oMov (.v x3) rec PT.nil s) fun x4 s =>
 opt2 (oMov (.v x4) rec PT.nil s) fun x5 s =>
 opt2 (rec 9 [x5] s) fun x6 s =>
 opt2 (oMov (.v x6) rec PT.nil s) fun x7 s =>
 opt2 (oExtract (.v x7) 0 rec PT.nil s) fun x8 s =>
 opt2 (oExtract (.v x7) 1 rec PT.nil s) fun x9 s =>
 opt2 (oExtract (.v x7) 2 rec PT.nil s) fun x10 s =>
 opt2 (oMov (.v x8) rec PT.nil s) fun x11 s =>
 opt2 (oMov (.v x9) rec PT.nil s) fun x12 s =>
 opt2 (oMov (.v x10) rec PT.nil s) fun x13 s =>
 opt2 (oMov (.v x13) rec PT.nil s) fun x14 s =>
 opt2 (oBin (int2 (cmpO eqI)) (.v x14) (.v (.int .i64 0)) rec PT.nil s) fun x15 s =>
 opt2 (oMov (.v x15) rec PT.nil s) fun x16 s =>
 opt (gval true x16) fun x17 => opt2 (orUndef x17 (oMov (.v x11) rec PT.nil s) s) fun x18 s =>
 opt (gval true x16) fun x19 => opt2 (orUndef x19 (oLenL (.v x18) rec PT.nil s) s) fun x20 s =>
 opt (gval true x16) fun x21 => opt2 (orUndef x21 (oBin (int2 (cmpO eqI)) (.v x20) (.v (.int .i64 2)) rec PT.nil s) s) fun x22 s =>
 opt2 (oPick (.v x16) (.v x22) (.v (.bool false)) rec PT.nil s) fun x23 s =>
 opt2 (oMov (.v x23) rec PT.nil s) fun x24 s =>
 opt (gval true x24) fun x25 => opt2 (orUndef x25 (oMov (.v x11) rec PT.nil s) s) fun x26 s =>
 opt (gval true x24) fun x27 => opt2 (orUndef x27 (oIdxAddrL 4 (.v x26) (.v (.int .i64 0)) rec PT.nil s) s) fun x28 s =>
 opt (gval true x24) fun x29 => opt2 (orUndef x29 (oLoadN 4 (.v x28) rec PT.nil s) s) fun x30 s =>
 opt (gval true x24) fun x31 => opt2 (orUndef x31 (oMov (.v (orU (fs.get t0))) rec PT.nil s) s) fun x32 s =>
 opt (gval true x24) fun x33 => opt2 (orUndef x33 (oBin (int2 addO) (.v x32) (.v (.int .i64 1)) rec PT.nil s) s) fun x34 s =>
 opt (gval true x24) fun x35 => opt2 (orUndef x35 (oMov (.v x4) rec PT.nil s) s) fun x36 s =>
 opt2 (runOps rec c5_q2 (PT.put x36 t67 (PT.put x34 t66 (PT.put x32 t65 (PT.put x30 t64 (PT.put x28 t63 (PT.put x26 t62 (PT.put x24 t61 (PT.put x23 t60 (PT.put x22 t59 (PT.put x20 t58 (PT.put x18 t57 (PT.put x16 t56 (PT.put x15 t55 (PT.put x14 t54 (PT.put x13 t8 (PT.put x12 t7 (PT.put x11 t6 (PT.put x10 t53 (PT.put x9 t52 (PT.put x8 t51 (PT.put x7 t48 (PT.put x6 t50 (PT.put x5 t49 (PT.put x4 t5 (PT.put x3 t47 (PT.put x2 t46 (PT.put x1 t45 fs))))))))))))))))))))))))))) s) fun fs s =>
 some (.ret, fs, s)
set_option maxHeartbeats 4000000 in
theorem d5_j1 (rec : Rec) (N : Nat) (fs : Frm) (s : St) : c5_j1 rec N fs s = D5_j1 rec N fs s := by
  simp (maxSteps := 4000000) only [c5_j1, lenN, x_seq, x_ops, x_skip, x_ret, x_exit, x_cond, x_block, x_loop, ops_c, ops_n, op1_u, op1_gj, rq_c, rq_n, opQ_u, opQ_g, op2_op2, op2_op, op2_s, op2_cond, thenX_n, thenX_e, thenX_r, blkX_n, blkX_r, blkX_e, finX_r, finX_n, res_n, res_t, op_s, Nat.beq_refl, cond_true]
  first | done | kernel_rfl
def D5 (rec : Rec) (N : Nat) (a0 : Value) (a1 : Value) (s : St) : Out := opt2 (oMov (.v (.bool false)) rec PT.nil s) fun x1 s =>
 opt2 (rec 8 [] s) fun x2 s =>
 opt2 (oNot (.v x2) rec PT.nil s) fun x3 s =>
 condV x3
 (opt2 (oMov (.v (.bool false)) rec PT.nil s) fun x4 s =>
 some (oneOf [x4], s))
 (opt2 (oMov (.v a0) rec PT.nil s) fun x5 s =>
 opt2 (oBin (int2 (cmpO ltI)) (.v x5) (.v (.int .i64 2)) rec PT.nil s) fun x6 s =>
 opt2 (oMov (.v x6) rec PT.nil s) fun x7 s =>
 opt (gval false x7) fun x8 => opt2 (orUndef x8 (oMov (.v a0) rec PT.nil s) s) fun x9 s =>
 opt (gval false x7) fun x10 => opt2 (orUndef x10 (oBin (int2 (cmpO gtI)) (.v x9) (.v (.int .i64 5)) rec PT.nil s) s) fun x11 s =>
 opt2 (oPick (.v x7) (.v (.bool true)) (.v x11) rec PT.nil s) fun x12 s =>
 opt2 (oMov (.v x12) rec PT.nil s) fun x13 s =>
 opt (gval false x13) fun x14 => opt2 (orUndef x14 (oMov (.v a1) rec PT.nil s) s) fun x15 s =>
 opt (gval false x13) fun x16 => opt2 (orUndef x16 (oBin (int2 (cmpO ltI)) (.v x15) (.v (.int .i64 0)) rec PT.nil s) s) fun x17 s =>
 opt2 (oPick (.v x13) (.v (.bool true)) (.v x17) rec PT.nil s) fun x18 s =>
 opt2 (oMov (.v x18) rec PT.nil s) fun x19 s =>
 opt (gval false x19) fun x20 => opt2 (orUndef x20 (oMov (.v a0) rec PT.nil s) s) fun x21 s =>
 opt (gval false x19) fun x22 => opt2 (orUndef x22 (oBin (int2 (cmpO ltI)) (.v x21) (.v (.int .i64 4)) rec PT.nil s) s) fun x23 s =>
 opt (gval false x19) fun x24 => opt2 (orUndef x24 (oMov (.v x23) rec PT.nil s) s) fun x25 s =>
 opt2 (runOps rec c5_q1 (PT.put x25 t24 (PT.put x23 t23 (PT.put x21 t22 (PT.put x19 t21 (PT.put x18 t20 (PT.put x17 t19 (PT.put x15 t18 (PT.put x13 t17 (PT.put x12 t16 (PT.put x11 t15 (PT.put x9 t14 (PT.put x7 t13 (PT.put x6 t12 (PT.put x5 t11 (PT.put x3 t10 (PT.put x2 t9 (PT.put x1 t4 (PT.put a1 t1 (PT.put a0 t0 PT.nil))))))))))))))))))) s) fun fs s =>
 opt2 (c5_j0 rec N fs s) fun e r => opt2 (thenX (c5_j1 rec N) e r) fun e r => finX [.tmp t4] e r)
set_option maxHeartbeats 4000000 in
theorem d5 (rec : Rec) (N : Nat) (a0 : Value) (a1 : Value) (s : St) : callF rec N c5 [a0, a1] s = D5 rec N a0 a1 s := by
  rw [call_f _ _ _ _ _ rfl]
  simp (maxSteps := 4000000) only [c5, lenN, x_seq, x_ops, x_skip, x_ret, x_exit, x_cond, x_block, x_loop, ops_c, ops_n, op1_u, op1_gj, rq_c, rq_n, opQ_u, opQ_g, op2_op2, op2_op, op2_s, op2_cond, thenX_n, thenX_e, thenX_r, blkX_n, blkX_r, blkX_e, finX_r, finX_n, res_n, res_t, op_s, Nat.beq_refl, cond_true]
  first | done | kernel_rfl
def Q5_q2 (rec : Rec) (N : Nat) (k : Value × Value × Value × Value × Value) (s : St) : Out := opt (gval true k.2.1) fun x1 => opt2 (orUndef x1 (some (k.1, s)) s) fun x2 s =>
 opt (gval true k.2.1) fun x3 => opt2 (orUndef x3 (oBuild [(.int .i64 0), (.string ⟨⟨[]⟩⟩), (.int .i64 0), (.int .i64 0)] [(0, 1, (.v k.2.2.2.1)), (1, 1, (.v k.2.2.2.2)), (2, 1, (.v x2))] rec PT.nil s) s) fun x4 s =>
 opt (gval true k.2.1) fun x5 => opt2 (orUndef x5 (oEqs false [(0, eqN), (1, eqT), (2, eqN), (3, eqN)] (.v k.2.2.1) (.v x4) rec PT.nil s) s) fun x6 s =>
 opt2 (oPick (.v k.2.1) (.v x6) (.v (.bool false)) rec PT.nil s) fun x7 s =>
 some (oneOf [x7], s)
set_option maxHeartbeats 4000000 in
theorem j5_q2 (rec : Rec) (N : Nat) (fs : Frm) (s : St) : opt2 (runOps rec c5_q2 fs s) (fun fs s => some (oneOf [(orU (fs.get t4))], s)) = Q5_q2 rec N (orU (fs.get t1), orU (fs.get t61), orU (fs.get t64), orU (fs.get t66), orU (fs.get t67)) s := by
  rw [d5_q2]
  unfold D5_q2 Q5_q2
  simp (maxSteps := 4000000) only [thenX_n, thenX_e, thenX_r, x_exit, x_skip, x_ret, blkX_n, blkX_r, blkX_e, finX_r, finX_n, res_n, res_t, op2_op2, op2_op, op2_s, op2_cond, op2_bf, mov_v]
  first | done | kernel_rfl
def J5_j1 (rec : Rec) (N : Nat) (k : Value × Value) (s : St) : Out := opt2 (rec 11 [k.1, k.2] s) fun x1 s =>
 opt2 (rec 9 [x1] s) fun x2 s =>
 opt2 (oExtract (.v x2) 0 rec PT.nil s) fun x3 s =>
 opt2 (oExtract (.v x2) 1 rec PT.nil s) fun x4 s =>
 opt2 (oExtract (.v x2) 2 rec PT.nil s) fun x5 s =>
 opt2 (oBin (int2 (cmpO eqI)) (.v x5) (.v (.int .i64 0)) rec PT.nil s) fun x6 s =>
 opt (gval true x6) fun x7 => opt2 (orUndef x7 (some (x3, s)) s) fun x8 s =>
 opt (gval true x6) fun x9 => opt2 (orUndef x9 (oLenL (.v x8) rec PT.nil s) s) fun x10 s =>
 opt (gval true x6) fun x11 => opt2 (orUndef x11 (oBin (int2 (cmpO eqI)) (.v x10) (.v (.int .i64 2)) rec PT.nil s) s) fun x12 s =>
 opt2 (oPick (.v x6) (.v x12) (.v (.bool false)) rec PT.nil s) fun x13 s =>
 opt (gval true x13) fun x14 => opt2 (orUndef x14 (some (x3, s)) s) fun x15 s =>
 opt (gval true x13) fun x16 => opt2 (orUndef x16 (oIdxAddrL 4 (.v x15) (.v (.int .i64 0)) rec PT.nil s) s) fun x17 s =>
 opt (gval true x13) fun x18 => opt2 (orUndef x18 (oLoadN 4 (.v x17) rec PT.nil s) s) fun x19 s =>
 opt (gval true x13) fun x20 => opt2 (orUndef x20 (some (k.1, s)) s) fun x21 s =>
 opt (gval true x13) fun x22 => opt2 (orUndef x22 (oBin (int2 addO) (.v x21) (.v (.int .i64 1)) rec PT.nil s) s) fun x23 s =>
 opt (gval true x13) fun x24 => opt2 (orUndef x24 (some (x1, s)) s) fun x25 s =>
 Q5_q2 rec N (k.2, x13, x19, x23, x25) s
set_option maxHeartbeats 4000000 in
theorem j5_j1 (rec : Rec) (N : Nat) (fs : Frm) (s : St) : opt2 (c5_j1 rec N fs s) (fun e r => finX [.tmp t4] e r) = J5_j1 rec N (orU (fs.get t0), orU (fs.get t1)) s := by
  rw [d5_j1]
  unfold D5_j1 J5_j1
  simp (maxSteps := 4000000) only [thenX_n, thenX_e, thenX_r, x_exit, x_skip, x_ret, blkX_n, blkX_r, blkX_e, finX_r, finX_n, res_n, res_t, op2_op2, op2_op, op2_s, op2_cond, op2_bf, mov_v, j5_q2 rec N]
  first | done | kernel_rfl
def J5_j0 (rec : Rec) (N : Nat) (k : Value × Value × Value) (s : St) : Out := condV k.2.2
 (some (oneOf [(.bool true)], s))
 (J5_j1 rec N (k.1, k.2.1) s)
set_option maxHeartbeats 4000000 in
theorem j5_j0 (rec : Rec) (N : Nat) (fs : Frm) (s : St) : opt2 (c5_j0 rec N fs s) (fun e r => opt2 (thenX (c5_j1 rec N) e r) fun e r => finX [.tmp t4] e r) = J5_j0 rec N (orU (fs.get t0), orU (fs.get t1), orU (fs.get t44)) s := by
  rw [d5_j0]
  unfold D5_j0 J5_j0
  simp (maxSteps := 4000000) only [thenX_n, thenX_e, thenX_r, x_exit, x_skip, x_ret, blkX_n, blkX_r, blkX_e, finX_r, finX_n, res_n, res_t, op2_op2, op2_op, op2_s, op2_cond, op2_bf, mov_v, j5_j1 rec N]
  first | done | kernel_rfl
def Q5_q0 (rec : Rec) (N : Nat) (k : Value × Value × Value × Value) (s : St) : Out := opt (gval false k.2.2.1) fun x1 => opt2 (orUndef x1 (oBin (int2 (cmpO eqI)) (.v k.2.2.2) (.v (.int .i64 5)) rec PT.nil s) s) fun x2 s =>
 opt (gval false k.2.2.1) fun x3 => opt2 (orUndef x3 (some (x2, s)) s) fun x4 s =>
 opt (gval true x4) fun x5 => opt2 (orUndef x5 (some (k.2.1, s)) s) fun x6 s =>
 opt (gval true x4) fun x7 => opt2 (orUndef x7 (oBin (int2 (cmpO gtI)) (.v x6) (.v (.int .i64 109572)) rec PT.nil s) s) fun x8 s =>
 opt (gval false k.2.2.1) fun x9 => opt2 (orUndef x9 (oPick (.v x4) (.v x8) (.v (.bool false)) rec PT.nil s) s) fun x10 s =>
 opt2 (oPick (.v k.2.2.1) (.v (.bool true)) (.v x10) rec PT.nil s) fun x11 s =>
 J5_j0 rec N (k.1, k.2.1, x11) s
set_option maxHeartbeats 4000000 in
theorem j5_q0 (rec : Rec) (N : Nat) (fs : Frm) (s : St) : opt2 (runOps rec c5_q0 fs s) (fun fs s => opt2 (c5_j0 rec N fs s) fun e r => opt2 (thenX (c5_j1 rec N) e r) fun e r => finX [.tmp t4] e r) = Q5_q0 rec N (orU (fs.get t0), orU (fs.get t1), orU (fs.get t37), orU (fs.get t38)) s := by
  rw [d5_q0]
  unfold D5_q0 Q5_q0
  simp (maxSteps := 4000000) only [thenX_n, thenX_e, thenX_r, x_exit, x_skip, x_ret, blkX_n, blkX_r, blkX_e, finX_r, finX_n, res_n, res_t, op2_op2, op2_op, op2_s, op2_cond, op2_bf, mov_v, j5_j0 rec N]
  first | done | kernel_rfl
def Q5_q1 (rec : Rec) (N : Nat) (k : Value × Value × Value × Value) (s : St) : Out := opt (gval true k.2.2.2) fun x1 => opt2 (orUndef x1 (some (k.2.1, s)) s) fun x2 s =>
 opt (gval true k.2.2.2) fun x3 => opt2 (orUndef x3 (oBin (int2 (cmpO gtI)) (.v x2) (.v (.int .i64 4503599627370496)) rec PT.nil s) s) fun x4 s =>
 opt (gval false k.2.2.1) fun x5 => opt2 (orUndef x5 (oPick (.v k.2.2.2) (.v x4) (.v (.bool false)) rec PT.nil s) s) fun x6 s =>
 opt2 (oPick (.v k.2.2.1) (.v (.bool true)) (.v x6) rec PT.nil s) fun x7 s =>
 opt (gval false x7) fun x8 => opt2 (orUndef x8 (some (k.1, s)) s) fun x9 s =>
 opt (gval false x7) fun x10 => opt2 (orUndef x10 (oBin (int2 (cmpO eqI)) (.v x9) (.v (.int .i64 4)) rec PT.nil s) s) fun x11 s =>
 opt (gval false x7) fun x12 => opt2 (orUndef x12 (some (x11, s)) s) fun x13 s =>
 opt (gval true x13) fun x14 => opt2 (orUndef x14 (some (k.2.1, s)) s) fun x15 s =>
 opt (gval true x13) fun x16 => opt2 (orUndef x16 (oBin (int2 (cmpO gtI)) (.v x15) (.v (.int .i64 1000000000000)) rec PT.nil s) s) fun x17 s =>
 opt (gval false x7) fun x18 => opt2 (orUndef x18 (oPick (.v x13) (.v x17) (.v (.bool false)) rec PT.nil s) s) fun x19 s =>
 opt2 (oPick (.v x7) (.v (.bool true)) (.v x19) rec PT.nil s) fun x20 s =>
 opt (gval false x20) fun x21 => opt2 (orUndef x21 (some (k.1, s)) s) fun x22 s =>
 Q5_q0 rec N (k.1, k.2.1, x20, x22) s
set_option maxHeartbeats 4000000 in
theorem j5_q1 (rec : Rec) (N : Nat) (fs : Frm) (s : St) : opt2 (runOps rec c5_q1 fs s) (fun fs s => opt2 (c5_j0 rec N fs s) fun e r => opt2 (thenX (c5_j1 rec N) e r) fun e r => finX [.tmp t4] e r) = Q5_q1 rec N (orU (fs.get t0), orU (fs.get t1), orU (fs.get t21), orU (fs.get t24)) s := by
  rw [d5_q1]
  unfold D5_q1 Q5_q1
  simp (maxSteps := 4000000) only [thenX_n, thenX_e, thenX_r, x_exit, x_skip, x_ret, blkX_n, blkX_r, blkX_e, finX_r, finX_n, res_n, res_t, op2_op2, op2_op, op2_s, op2_cond, op2_bf, mov_v, j5_q0 rec N]
  first | done | kernel_rfl
def F5 (rec : Rec) (N : Nat) (a0 : Value) (a1 : Value) (s : St) : Out := opt2 (rec 8 [] s) fun x1 s =>
 opt2 (oNot (.v x1) rec PT.nil s) fun x2 s =>
 condV x2
 (some (oneOf [(.bool false)], s))
 (opt2 (oBin (int2 (cmpO ltI)) (.v a0) (.v (.int .i64 2)) rec PT.nil s) fun x3 s =>
 opt (gval false x3) fun x4 => opt2 (orUndef x4 (some (a0, s)) s) fun x5 s =>
 opt (gval false x3) fun x6 => opt2 (orUndef x6 (oBin (int2 (cmpO gtI)) (.v x5) (.v (.int .i64 5)) rec PT.nil s) s) fun x7 s =>
 opt2 (oPick (.v x3) (.v (.bool true)) (.v x7) rec PT.nil s) fun x8 s =>
 opt (gval false x8) fun x9 => opt2 (orUndef x9 (some (a1, s)) s) fun x10 s =>
 opt (gval false x8) fun x11 => opt2 (orUndef x11 (oBin (int2 (cmpO ltI)) (.v x10) (.v (.int .i64 0)) rec PT.nil s) s) fun x12 s =>
 opt2 (oPick (.v x8) (.v (.bool true)) (.v x12) rec PT.nil s) fun x13 s =>
 opt (gval false x13) fun x14 => opt2 (orUndef x14 (some (a0, s)) s) fun x15 s =>
 opt (gval false x13) fun x16 => opt2 (orUndef x16 (oBin (int2 (cmpO ltI)) (.v x15) (.v (.int .i64 4)) rec PT.nil s) s) fun x17 s =>
 opt (gval false x13) fun x18 => opt2 (orUndef x18 (some (x17, s)) s) fun x19 s =>
 Q5_q1 rec N (a0, a1, x13, x19) s)
theorem f5 (rec : Rec) (N : Nat) (a0 : Value) (a1 : Value) (s : St) : callF rec N c5 [a0, a1] s = F5 rec N a0 a1 s := by
  rw [d5]
  unfold D5 F5
  simp (maxSteps := 4000000) only [mov_v, op2_s, j5_q1 rec N]
  first | done | kernel_rfl
-- c9
def D9_l0 (rec : Rec) (N : Nat) (fs : Frm) (s : St) : OutX := opt2 (oMov (.v (orU (fs.get t6))) rec PT.nil s) fun x1 s =>
 opt2 (oMov (.v (orU (fs.get t0))) rec PT.nil s) fun x2 s =>
 opt2 (oLenS (.v x2) rec PT.nil s) fun x3 s =>
 opt2 (oBin (int2 (cmpO ltI)) (.v x1) (.v x3) rec PT.nil s) fun x4 s =>
 condV x4
 (opt2 (oMov (.v (orU (fs.get t0))) rec PT.nil s) fun x5 s =>
 opt2 (oMov (.v (orU (fs.get t6))) rec PT.nil s) fun x6 s =>
 opt2 (oSliceS (.v x5) (some (.v x6)) none rec PT.nil s) fun x7 s =>
 opt2 (rec 15 [x7] s) fun x8 s =>
 opt2 (oNew [(.int .i64 0), (.string ⟨⟨[]⟩⟩), (.int .i64 0), (.int .i64 0)] rec PT.nil s) fun x9 s =>
 opt2 (oStore 4 (.v x9) (.v x8) rec PT.nil s) fun x10 s =>
 opt2 (oFieldAddr 0 (.v x9) rec PT.nil s) fun x11 s =>
 opt2 (oLoad1 (.v x11) rec PT.nil s) fun x12 s =>
 opt2 (oBin (int2 (cmpO eqI)) (.v x12) (.v (.int .i64 0)) rec PT.nil s) fun x13 s =>
 condV x13
 (opt2 (oMov (.v (orU (fs.get t6))) rec PT.nil s) fun x14 s =>
 opt2 (oMov (.v (.slice none 0 0)) rec PT.nil s) fun x15 s =>
 opt2 (oMov (.v x14) rec PT.nil s) fun x16 s =>
 opt2 (oMov (.v (.int .i64 7)) rec PT.nil s) fun x17 s =>
 some (.ret, (PT.put x17 t4 (PT.put x16 t3 (PT.put x15 t2 (PT.put x14 t30 (PT.put x13 t29 (PT.put x12 t28 (PT.put x11 t27 (PT.put x9 t7 (PT.put x8 t26 (PT.put x7 t25 (PT.put x6 t24 (PT.put x5 t23 (PT.put x4 t16 (PT.put x3 t15 (PT.put x2 t14 (PT.put x1 t13 fs)))))))))))))))), s))
 (opt2 (oMov (.v (orU (fs.get t6))) rec PT.nil s) fun x18 s =>
 opt2 (oFieldAddr 3 (.v x9) rec PT.nil s) fun x19 s =>
 opt2 (oStore 1 (.v x19) (.v x18) rec PT.nil s) fun x20 s =>
 opt2 (oMov (.v (orU (fs.get t5))) rec PT.nil s) fun x21 s =>
 opt2 (oLoadN 4 (.v x9) rec PT.nil s) fun x22 s =>
 opt2 (oBuildSlice 1 [(.int .i64 0), (.string ⟨⟨[]⟩⟩), (.int .i64 0), (.int .i64 0)] [(0, 4, (.v x22))] rec PT.nil s) fun x23 s =>
 opt2 (oAppend 4 40 (.v x21) (.v x23) rec PT.nil s) fun x24 s =>
 opt2 (oMov (.v x24) rec PT.nil s) fun x25 s =>
 opt2 (oMov (.v (orU (fs.get t6))) rec PT.nil s) fun x26 s =>
 opt2 (oFieldAddr 1 (.v x9) rec PT.nil s) fun x27 s =>
 opt2 (oLoad1 (.v x27) rec PT.nil s) fun x28 s =>
 opt2 (oLenS (.v x28) rec PT.nil s) fun x29 s =>
 opt2 (oBin (int2 addO) (.v x26) (.v x29) rec PT.nil s) fun x30 s =>
 opt2 (oMov (.v x30) rec PT.nil s) fun x31 s =>
 opt2 (oMov (.v x31) rec PT.nil s) fun x32 s =>
 opt2 (oMov (.v (orU (fs.get t0))) rec PT.nil s) fun x33 s =>
 opt2 (oMov (.v x31) rec PT.nil s) fun x34 s =>
 opt2 (oSliceS (.v x33) (some (.v x34)) none rec PT.nil s) fun x35 s =>
 opt2 (rec 14 [x35] s) fun x36 s =>
 opt2 (oBin (int2 addO) (.v x32) (.v x36) rec PT.nil s) fun x37 s =>
 opt2 (oMov (.v x37) rec PT.nil s) fun x38 s =>
 some (.norm, (PT.put x38 t6 (PT.put x37 t22 (PT.put x36 t21 (PT.put x35 t20 (PT.put x34 t19 (PT.put x33 t18 (PT.put x32 t17 (PT.put x31 t6 (PT.put x30 t41 (PT.put x29 t40 (PT.put x28 t39 (PT.put x27 t38 (PT.put x26 t37 (PT.put x25 t5 (PT.put x24 t36 (PT.put x23 t35 (PT.put x22 t34 (PT.put x21 t33 (PT.put x19 t32 (PT.put x18 t31 (PT.put x13 t29 (PT.put x12 t28 (PT.put x11 t27 (PT.put x9 t7 (PT.put x8 t26 (PT.put x7 t25 (PT.put x6 t24 (PT.put x5 t23 (PT.put x4 t16 (PT.put x3 t15 (PT.put x2 t14 (PT.put x1 t13 fs)))))))))))))))))))))))))))))))), s)))
 (some ((.exit 0), (PT.put x4 t16 (PT.put x3 t15 (PT.put x2 t14 (PT.put x1 t13 fs)))), s))
set_option maxHeartbeats 4000000 in
theorem d9_l0 (rec : Rec) (N : Nat) (fs : Frm) (s : St) : c9_l0 rec N fs s = D9_l0 rec N fs s := by
  simp (maxSteps := 4000000) only [c9_l0, lenN, x_seq, x_ops, x_skip, x_ret, x_exit, x_cond, x_block, x_loop, ops_c, ops_n, op1_u, op1_gj, rq_c, rq_n, opQ_u, opQ_g, op2_op2, op2_op, op2_s, op2_cond, thenX_n, thenX_e, thenX_r, blkX_n, blkX_r, blkX_e, finX_r, finX_n, res_n, res_t, op_s, Nat.beq_refl, cond_true]
  first | done | kernel_rfl
def D9_r0 (rec : Rec) (N : Nat) (fs : Frm) (s : St) : OutX := opt2 (oMov (.v (orU (fs.get t5))) rec PT.nil s) fun x1 s =>
 opt2 (oMov (.v (orU (fs.get t0))) rec PT.nil s) fun x2 s =>
 opt2 (oLenS (.v x2) rec PT.nil s) fun x3 s =>
 opt2 (oBuild [(.int .i64 0), (.string ⟨⟨[]⟩⟩), (.int .i64 0), (.int .i64 0)] [(3, 1, (.v x3))] rec PT.nil s) fun x4 s =>
 opt2 (oBuildSlice 1 [(.int .i64 0), (.string ⟨⟨[]⟩⟩), (.int .i64 0), (.int .i64 0)] [(0, 4, (.v x4))] rec PT.nil s) fun x5 s =>
 opt2 (oAppend 4 40 (.v x1) (.v x5) rec PT.nil s) fun x6 s =>
 opt2 (oMov (.v x6) rec PT.nil s) fun x7 s =>
 opt2 (oMov (.v (.int .i64 0)) rec PT.nil s) fun x8 s =>
 opt2 (oMov (.v (.int .i64 0)) rec PT.nil s) fun x9 s =>
 some (.ret, (PT.put x9 t4 (PT.put x8 t3 (PT.put x7 t2 (PT.put x6 t47 (PT.put x5 t46 (PT.put x4 t45 (PT.put x3 t44 (PT.put x2 t43 (PT.put x1 t42 fs))))))))), s)
set_option maxHeartbeats 4000000 in
theorem d9_r0 (rec : Rec) (N : Nat) (fs : Frm) (s : St) : c9_r0 rec N fs s = D9_r0 rec N fs s := by
  simp (maxSteps := 4000000) only [c9_r0, lenN, x_seq, x_ops, x_skip, x_ret, x_exit, x_cond, x_block, x_loop, ops_c, ops_n, op1_u, op1_gj, rq_c, rq_n, opQ_u, opQ_g, op2_op2, op2_op, op2_s, op2_cond, thenX_n, thenX_e, thenX_r, blkX_n, blkX_r, blkX_e, finX_r, finX_n, res_n, res_t, op_s, Nat.beq_refl, cond_true]
  first | done | kernel_rfl
def D9 (rec : Rec) (N : Nat) (a0 : Value) (s : St) : Out := opt2 (oMov (.v (.slice none 0 0)) rec PT.nil s) fun x1 s =>
 opt2 (oMov (.v (.int .i64 0)) rec PT.nil s) fun x2 s =>
 opt2 (oMov (.v (.int .i64 0)) rec PT.nil s) fun x3 s =>
 opt2 (oMov (.v a0) rec PT.nil s) fun x4 s =>
 opt2 (oLenS (.v x4) rec PT.nil s) fun x5 s =>
 opt2 (oBin (int2 (cmpO gtI)) (.v x5) (.v (.int .i64 8192)) rec PT.nil s) fun x6 s =>
 condV x6
 (opt2 (oMov (.v (.slice none 0 0)) rec PT.nil s) fun x7 s =>
 opt2 (oMov (.v (.int .i64 0)) rec PT.nil s) fun x8 s =>
 opt2 (oMov (.v (.int .i64 2)) rec PT.nil s) fun x9 s =>
 some (oneOf [x7, x8, x9], s))
 (opt2 (oMov (.v (.slice none 0 0)) rec PT.nil s) fun x10 s =>
 opt2 (oMov (.v a0) rec PT.nil s) fun x11 s =>
 opt2 (rec 14 [x11] s) fun x12 s =>
 opt2 (oMov (.v x12) rec PT.nil s) fun x13 s =>
 opt2 (loopF (c9_l0 rec N) N (PT.put x13 t6 (PT.put x12 t12 (PT.put x11 t11 (PT.put x10 t5 (PT.put x6 t10 (PT.put x5 t9 (PT.put x4 t8 (PT.put x3 t4 (PT.put x2 t3 (PT.put x1 t2 (PT.put a0 t0 PT.nil))))))))))) s) fun e r => opt2 (blkX 0 e r) fun e r => opt2 (thenX (c9_r0 rec N) e r) fun e r => finX [.tmp t2, .tmp t3, .tmp t4] e r)
set_option maxHeartbeats 4000000 in
theorem d9 (rec : Rec) (N : Nat) (a0 : Value) (s : St) : callF rec N c9 [a0] s = D9 rec N a0 s := by
  rw [call_f _ _ _ _ _ rfl]
  simp (maxSteps := 4000000) only [c9, lenN, x_seq, x_ops, x_skip, x_ret, x_exit, x_cond, x_block, x_loop, ops_c, ops_n, op1_u, op1_gj, rq_c, rq_n, opQ_u, opQ_g, op2_op2, op2_op, op2_s, op2_cond, thenX_n, thenX_e, thenX_r, blkX_n, blkX_r, blkX_e, finX_r, finX_n, res_n, res_t, op_s, Nat.beq_refl, cond_true]
  first | done | kernel_rfl
def J9_r0 (rec : Rec) (N : Nat) (k : Value × Value) (s : St) : Out := opt2 (oLenS (.v k.1) rec PT.nil s) fun x1 s =>
 opt2 (oBuild [(.int .i64 0), (.string ⟨⟨[]⟩⟩), (.int .i64 0), (.int .i64 0)] [(3, 1, (.v x1))] rec PT.nil s) fun x2 s =>
 opt2 (oBuildSlice 1 [(.int .i64 0), (.string ⟨⟨[]⟩⟩), (.int .i64 0), (.int .i64 0)] [(0, 4, (.v x2))] rec PT.nil s) fun x3 s =>
 opt2 (oAppend 4 40 (.v k.2) (.v x3) rec PT.nil s) fun x4 s =>
 some (oneOf [x4, (.int .i64 0), (.int .i64 0)], s)
set_option maxHeartbeats 4000000 in
theorem j9_r0 (rec : Rec) (N : Nat) (fs : Frm) (s : St) : opt2 (c9_r0 rec N fs s) (fun e r => finX [.tmp t2, .tmp t3, .tmp t4] e r) = J9_r0 rec N (orU (fs.get t0), orU (fs.get t5)) s := by
  rw [d9_r0]
  unfold D9_r0 J9_r0
  simp (maxSteps := 4000000) only [thenX_n, thenX_e, thenX_r, x_exit, x_skip, x_ret, blkX_n, blkX_r, blkX_e, finX_r, finX_n, res_n, res_t, op2_op2, op2_op, op2_s, op2_cond, op2_bf, mov_v]
  first | done | kernel_rfl
def B9_l0 (rec : Rec) (N : Nat) (k : Value) (v : Value × Value × Value × Value × Value) (s : St) : OutV (Value × Value × Value × Value × Value) := opt2 (oLenS (.v k) rec PT.nil s) fun x1 s =>
 opt2 (oBin (int2 (cmpO ltI)) (.v v.2.2.2.2) (.v x1) rec PT.nil s) fun x2 s =>
 condV x2
 (opt2 (oSliceS (.v k) (some (.v v.2.2.2.2)) none rec PT.nil s) fun x3 s =>
 opt2 (rec 15 [x3] s) fun x4 s =>
 opt2 (oNew [(.int .i64 0), (.string ⟨⟨[]⟩⟩), (.int .i64 0), (.int .i64 0)] rec PT.nil s) fun x5 s =>
 opt2 (oStore 4 (.v x5) (.v x4) rec PT.nil s) fun x6 s =>
 opt2 (oFieldAddr 0 (.v x5) rec PT.nil s) fun x7 s =>
 opt2 (oLoad1 (.v x7) rec PT.nil s) fun x8 s =>
 opt2 (oBin (int2 (cmpO eqI)) (.v x8) (.v (.int .i64 0)) rec PT.nil s) fun x9 s =>
 condV x9
 (some (.ret, (((.slice none 0 0), v.2.2.2.2, (.int .i64 7), v.2.2.2.1, v.2.2.2.2), s)))
 (opt2 (oFieldAddr 3 (.v x5) rec PT.nil s) fun x10 s =>
 opt2 (oStore 1 (.v x10) (.v v.2.2.2.2) rec PT.nil s) fun x11 s =>
 opt2 (oLoadN 4 (.v x5) rec PT.nil s) fun x12 s =>
 opt2 (oBuildSlice 1 [(.int .i64 0), (.string ⟨⟨[]⟩⟩), (.int .i64 0), (.int .i64 0)] [(0, 4, (.v x12))] rec PT.nil s) fun x13 s =>
 opt2 (oAppend 4 40 (.v v.2.2.2.1) (.v x13) rec PT.nil s) fun x14 s =>
 opt2 (oFieldAddr 1 (.v x5) rec PT.nil s) fun x15 s =>
 opt2 (oLoad1 (.v x15) rec PT.nil s) fun x16 s =>
 opt2 (oLenS (.v x16) rec PT.nil s) fun x17 s =>
 opt2 (oBin (int2 addO) (.v v.2.2.2.2) (.v x17) rec PT.nil s) fun x18 s =>
 opt2 (oSliceS (.v k) (some (.v x18)) none rec PT.nil s) fun x19 s =>
 opt2 (rec 14 [x19] s) fun x20 s =>
 opt2 (oBin (int2 addO) (.v x18) (.v x20) rec PT.nil s) fun x21 s =>
 some (.norm, ((v.1, v.2.1, v.2.2.1, x14, x21), s))))
 (some ((.exit 0), ((v.1, v.2.1, v.2.2.1, v.2.2.2.1, v.2.2.2.2), s)))
set_option maxHeartbeats 4000000 in
theorem s9_l0 (rec : Rec) (N : Nat) (fs : Frm) (s : St) : opt2 (c9_l0 rec N fs s) (fun e r => some (e, (((orU (r.1.get t2), orU (r.1.get t3), orU (r.1.get t4), orU (r.1.get t5), orU (r.1.get t6)), (orU (r.1.get t0))), r.2))) = opt2 (B9_l0 rec N (orU (fs.get t0)) (orU (fs.get t2), orU (fs.get t3), orU (fs.get t4), orU (fs.get t5), orU (fs.get t6)) s) fun e r => some (e, ((r.1, (orU (fs.get t0))), r.2)) := by
  rw [d9_l0]
  unfold D9_l0 B9_l0
  simp (maxSteps := 4000000) only [op2_op2, op2_op, op2_s, op2_cond, op2_bf, mov_v]
  first | done | kernel_rfl
def C9_l0 (rec : Rec) (N : Nat) (k : Value) (e : AExit) (r : (Value × Value × Value × Value × Value) × St) : Out := (fun s => exV (fun i => bif Nat.beq i 0 then (J9_r0 rec N (k, r.1.2.2.2.1) s)
 else (none))
 (some (oneOf [r.1.1, r.1.2.1, r.1.2.2.1], s)) e) r.2
theorem j9_l0 (rec : Rec) (N : Nat) (fs : Frm) (s : St) : opt2 (loopF (c9_l0 rec N) N fs s) (fun e r => opt2 (blkX 0 e r) fun e r => opt2 (thenX (c9_r0 rec N) e r) fun e r => finX [.tmp t2, .tmp t3, .tmp t4] e r) = opt2 (loopV (B9_l0 rec N (orU (fs.get t0))) N (orU (fs.get t2), orU (fs.get t3), orU (fs.get t4), orU (fs.get t5), orU (fs.get t6)) s) (C9_l0 rec N (orU (fs.get t0))) := by
  refine loop_j (fun fs => (orU (fs.get t2), orU (fs.get t3), orU (fs.get t4), orU (fs.get t5), orU (fs.get t6))) (fun fs => (orU (fs.get t0))) (B9_l0 rec N) (c9_l0 rec N) (s9_l0 rec N) (fun e r => opt2 (blkX 0 e r) fun e r => opt2 (thenX (c9_r0 rec N) e r) fun e r => finX [.tmp t2, .tmp t3, .tmp t4] e r) (C9_l0 rec N) ?_ ?_ N fs s
  · intro i fs s
    unfold C9_l0
    simp (maxSteps := 4000000) only [thenX_n, thenX_e, thenX_r, x_exit, x_skip, x_ret, blkX_n, blkX_r, blkX_e, finX_r, finX_n, res_n, res_t, exV_e, exV_r, op2_op2, op2_op, op2_s, op2_cond, op2_bf, mov_v, j9_r0 rec N]
    first | done | kernel_rfl
  · intro fs s
    unfold C9_l0
    simp (maxSteps := 4000000) only [thenX_n, thenX_e, thenX_r, x_exit, x_skip, x_ret, blkX_n, blkX_r, blkX_e, finX_r, finX_n, res_n, res_t, exV_e, exV_r, op2_op2, op2_op, op2_s, op2_cond, op2_bf, mov_v, j9_r0 rec N]
    first | done | kernel_rfl
def F9 (rec : Rec) (N : Nat) (a0 : Value) (s : St) : Out := opt2 (oLenS (.v a0) rec PT.nil s) fun x1 s =>
 opt2 (oBin (int2 (cmpO gtI)) (.v x1) (.v (.int .i64 8192)) rec PT.nil s) fun x2 s =>
 condV x2
 (some (oneOf [(.slice none 0 0), (.int .i64 0), (.int .i64 2)], s))
 (opt2 (rec 14 [a0] s) fun x3 s =>
 opt2 (loopV (B9_l0 rec N a0) N ((.slice none 0 0), (.int .i64 0), (.int .i64 0), (.slice none 0 0), x3) s) (C9_l0 rec N a0))
theorem f9 (rec : Rec) (N : Nat) (a0 : Value) (s : St) : callF rec N c9 [a0] s = F9 rec N a0 s := by
  rw [d9]
  unfold D9 F9
  simp (maxSteps := 4000000) only [mov_v, op2_s, j9_l0 rec N]
  first | done | kernel_rfl
-- c11
def D11 (rec : Rec) (N : Nat) (a0 : Value) (a1 : Value) (s : St) : Out := opt2 (oMov (.v (.string ⟨⟨[]⟩⟩)) rec PT.nil s) fun x1 s =>
 opt2 (oMov (.v a1) rec PT.nil s) fun x2 s =>
 opt2 (oBin (int2 (cmpO ltI)) (.v x2) (.v (.int .i64 0)) rec PT.nil s) fun x3 s =>
 opt2 (oMov (.v x3) rec PT.nil s) fun x4 s =>
 opt (gval true x4) fun x5 => opt2 (orUndef x5 (oMov (.v a0) rec PT.nil s) s) fun x6 s =>
 opt (gval true x4) fun x7 => opt2 (orUndef x7 (oBin (int2 (cmpO neI)) (.v x6) (.v (.int .i64 1)) rec PT.nil s) s) fun x8 s =>
 opt2 (oPick (.v x4) (.v x8) (.v (.bool false)) rec PT.nil s) fun x9 s =>
 opt2 (oMov (.v x9) rec PT.nil s) fun x10 s =>
 opt (gval true x10) fun x11 => opt2 (orUndef x11 (oMov (.v a0) rec PT.nil s) s) fun x12 s =>
 opt (gval true x10) fun x13 => opt2 (orUndef x13 (oBin (int2 (cmpO neI)) (.v x12) (.v (.int .i64 5)) rec PT.nil s) s) fun x14 s =>
 opt2 (oPick (.v x10) (.v x14) (.v (.bool false)) rec PT.nil s) fun x15 s =>
 condV x15
 (opt2 (oMov (.v a0) rec PT.nil s) fun x16 s =>
 opt2 (oMov (.v a1) rec PT.nil s) fun x17 s =>
 opt2 (oNeg (.v x17) rec PT.nil s) fun x18 s =>
 opt2 (rec 11 [x16, x18] s) fun x19 s =>
 opt2 (oBin (str2 catO) (.v (.string ⟨⟨[45]⟩⟩)) (.v x19) rec PT.nil s) fun x20 s =>
 opt2 (oMov (.v x20) rec PT.nil s) fun x21 s =>
 some (oneOf [x21], s))
 (opt2 (oMov (.v a0) rec PT.nil s) fun x22 s =>
 opt2 (oBin (int2 (cmpO eqI)) (.v x22) (.v (.int .i64 1)) rec PT.nil s) fun x23 s =>
 opt2 (oMov (.v x23) rec PT.nil s) fun x24 s =>
 condV x24
 (opt2 (oMov (.v a1) rec PT.nil s) fun x25 s =>
 opt2 (oBin (int2 (cmpO eqI)) (.v x25) (.v (.int .i64 0)) rec PT.nil s) fun x26 s =>
 condV x26
 (opt2 (oMov (.v (.string ⟨⟨[102, 97, 108, 115, 101]⟩⟩)) rec PT.nil s) fun x27 s =>
 some (oneOf [x27], s))
 (opt2 (oMov (.v (.string ⟨⟨[116, 114, 117, 101]⟩⟩)) rec PT.nil s) fun x28 s =>
 some (oneOf [x28], s)))
 (opt2 (oBin (int2 (cmpO eqI)) (.v x22) (.v (.int .i64 2)) rec PT.nil s) fun x29 s =>
 opt2 (oMov (.v x29) rec PT.nil s) fun x30 s =>
 condV x30
 (opt2 (oMov (.v a1) rec PT.nil s) fun x31 s =>
 opt2 (rec 22 [x31] s) fun x32 s =>
 opt2 (oMov (.v x32) rec PT.nil s) fun x33 s =>
 some (oneOf [x33], s))
 (opt2 (oBin (int2 (cmpO eqI)) (.v x22) (.v (.int .i64 3)) rec PT.nil s) fun x34 s =>
 opt2 (oMov (.v x34) rec PT.nil s) fun x35 s =>
 condV x35
 (opt2 (oMov (.v a1) rec PT.nil s) fun x36 s =>
 opt2 (oBin (int2 quoO) (.v x36) (.v (.int .i64 100)) rec PT.nil s) fun x37 s =>
 opt2 (rec 22 [x37] s) fun x38 s =>
 opt2 (oBin (str2 catO) (.v (.string ⟨⟨[36]⟩⟩)) (.v x38) rec PT.nil s) fun x39 s =>
 opt2 (oBin (str2 catO) (.v x39) (.v (.string ⟨⟨[46]⟩⟩)) rec PT.nil s) fun x40 s =>
 opt2 (oMov (.v a1) rec PT.nil s) fun x41 s =>
 opt2 (oBin (int2 remO) (.v x41) (.v (.int .i64 100)) rec PT.nil s) fun x42 s =>
 opt2 (rec 23 [x42, (.int .i64 2)] s) fun x43 s =>
 opt2 (oBin (str2 catO) (.v x40) (.v x43) rec PT.nil s) fun x44 s =>
 opt2 (oMov (.v x44) rec PT.nil s) fun x45 s =>
 some (oneOf [x45], s))
 (opt2 (oBin (int2 (cmpO eqI)) (.v x22) (.v (.int .i64 4)) rec PT.nil s) fun x46 s =>
 opt2 (oMov (.v x46) rec PT.nil s) fun x47 s =>
 condV x47
 (opt2 (oMov (.v a1) rec PT.nil s) fun x48 s =>
 opt2 (oBin (int2 quoO) (.v x48) (.v (.int .i64 10000)) rec PT.nil s) fun x49 s =>
 opt2 (rec 22 [x49] s) fun x50 s =>
 opt2 (oBin (str2 catO) (.v x50) (.v (.string ⟨⟨[46]⟩⟩)) rec PT.nil s) fun x51 s =>
 opt2 (oMov (.v a1) rec PT.nil s) fun x52 s =>
 opt2 (oBin (int2 remO) (.v x52) (.v (.int .i64 10000)) rec PT.nil s) fun x53 s =>
 opt2 (rec 23 [x53, (.int .i64 4)] s) fun x54 s =>
 opt2 (oBin (str2 catO) (.v x51) (.v x54) rec PT.nil s) fun x55 s =>
 opt2 (oBin (str2 catO) (.v x55) (.v (.string ⟨⟨[37]⟩⟩)) rec PT.nil s) fun x56 s =>
 opt2 (oMov (.v x56) rec PT.nil s) fun x57 s =>
 some (oneOf [x57], s))
 (opt2 (oMov (.v a1) rec PT.nil s) fun x58 s =>
 opt2 (rec 24 [x58] s) fun x59 s =>
 opt2 (oMov (.v x59) rec PT.nil s) fun x60 s =>
 some (oneOf [x60], s))))))
set_option maxHeartbeats 4000000 in
theorem d11 (rec : Rec) (N : Nat) (a0 : Value) (a1 : Value) (s : St) : callF rec N c11 [a0, a1] s = D11 rec N a0 a1 s := by
  rw [call_f _ _ _ _ _ rfl]
  simp (maxSteps := 4000000) only [c11, lenN, x_seq, x_ops, x_skip, x_ret, x_exit, x_cond, x_block, x_loop, ops_c, ops_n, op1_u, op1_gj, rq_c, rq_n, opQ_u, opQ_g, op2_op2, op2_op, op2_s, op2_cond, thenX_n, thenX_e, thenX_r, blkX_n, blkX_r, blkX_e, finX_r, finX_n, res_n, res_t, op_s, Nat.beq_refl, cond_true]
  first | done | kernel_rfl
def F11 (rec : Rec) (N : Nat) (a0 : Value) (a1 : Value) (s : St) : Out := opt2 (oBin (int2 (cmpO ltI)) (.v a1) (.v (.int .i64 0)) rec PT.nil s) fun x1 s =>
 opt (gval true x1) fun x2 => opt2 (orUndef x2 (some (a0, s)) s) fun x3 s =>
 opt (gval true x1) fun x4 => opt2 (orUndef x4 (oBin (int2 (cmpO neI)) (.v x3) (.v (.int .i64 1)) rec PT.nil s) s) fun x5 s =>
 opt2 (oPick (.v x1) (.v x5) (.v (.bool false)) rec PT.nil s) fun x6 s =>
 opt (gval true x6) fun x7 => opt2 (orUndef x7 (some (a0, s)) s) fun x8 s =>
 opt (gval true x6) fun x9 => opt2 (orUndef x9 (oBin (int2 (cmpO neI)) (.v x8) (.v (.int .i64 5)) rec PT.nil s) s) fun x10 s =>
 opt2 (oPick (.v x6) (.v x10) (.v (.bool false)) rec PT.nil s) fun x11 s =>
 condV x11
 (opt2 (oNeg (.v a1) rec PT.nil s) fun x12 s =>
 opt2 (rec 11 [a0, x12] s) fun x13 s =>
 opt2 (oBin (str2 catO) (.v (.string ⟨⟨[45]⟩⟩)) (.v x13) rec PT.nil s) fun x14 s =>
 some (oneOf [x14], s))
 (opt2 (oBin (int2 (cmpO eqI)) (.v a0) (.v (.int .i64 1)) rec PT.nil s) fun x15 s =>
 condV x15
 (opt2 (oBin (int2 (cmpO eqI)) (.v a1) (.v (.int .i64 0)) rec PT.nil s) fun x16 s =>
 condV x16
 (some (oneOf [(.string ⟨⟨[102, 97, 108, 115, 101]⟩⟩)], s))
 (some (oneOf [(.string ⟨⟨[116, 114, 117, 101]⟩⟩)], s)))
 (opt2 (oBin (int2 (cmpO eqI)) (.v a0) (.v (.int .i64 2)) rec PT.nil s) fun x17 s =>
 condV x17
 (opt2 (rec 22 [a1] s) fun x18 s =>
 some (oneOf [x18], s))
 (opt2 (oBin (int2 (cmpO eqI)) (.v a0) (.v (.int .i64 3)) rec PT.nil s) fun x19 s =>
 condV x19
 (opt2 (oBin (int2 quoO) (.v a1) (.v (.int .i64 100)) rec PT.nil s) fun x20 s =>
 opt2 (rec 22 [x20] s) fun x21 s =>
 opt2 (oBin (str2 catO) (.v (.string ⟨⟨[36]⟩⟩)) (.v x21) rec PT.nil s) fun x22 s =>
 opt2 (oBin (str2 catO) (.v x22) (.v (.string ⟨⟨[46]⟩⟩)) rec PT.nil s) fun x23 s =>
 opt2 (oBin (int2 remO) (.v a1) (.v (.int .i64 100)) rec PT.nil s) fun x24 s =>
 opt2 (rec 23 [x24, (.int .i64 2)] s) fun x25 s =>
 opt2 (oBin (str2 catO) (.v x23) (.v x25) rec PT.nil s) fun x26 s =>
 some (oneOf [x26], s))
 (opt2 (oBin (int2 (cmpO eqI)) (.v a0) (.v (.int .i64 4)) rec PT.nil s) fun x27 s =>
 condV x27
 (opt2 (oBin (int2 quoO) (.v a1) (.v (.int .i64 10000)) rec PT.nil s) fun x28 s =>
 opt2 (rec 22 [x28] s) fun x29 s =>
 opt2 (oBin (str2 catO) (.v x29) (.v (.string ⟨⟨[46]⟩⟩)) rec PT.nil s) fun x30 s =>
 opt2 (oBin (int2 remO) (.v a1) (.v (.int .i64 10000)) rec PT.nil s) fun x31 s =>
 opt2 (rec 23 [x31, (.int .i64 4)] s) fun x32 s =>
 opt2 (oBin (str2 catO) (.v x30) (.v x32) rec PT.nil s) fun x33 s =>
 opt2 (oBin (str2 catO) (.v x33) (.v (.string ⟨⟨[37]⟩⟩)) rec PT.nil s) fun x34 s =>
 some (oneOf [x34], s))
 (opt2 (rec 24 [a1] s) fun x35 s =>
 some (oneOf [x35], s))))))
set_option maxHeartbeats 4000000 in
theorem f11 (rec : Rec) (N : Nat) (a0 : Value) (a1 : Value) (s : St) : callF rec N c11 [a0, a1] s = F11 rec N a0 a1 s := by
  rw [d11]
  unfold D11 F11
  first
    | done
    | rfl
    | (simp (maxSteps := 4000000) only [mov_v, op2_s]; first | done | kernel_rfl)
    | kernel_rfl
-- c12
def D12_j0 (rec : Rec) (N : Nat) (fs : Frm) (s : St) : OutX := condV (orU (fs.get t4))
 (opt2 (oMov (.v (.bool true)) rec PT.nil s) fun x1 s =>
 some (.ret, (PT.put x1 t2 fs), s))
 (some (.norm, fs, s))
set_option maxHeartbeats 4000000 in
theorem d12_j0 (rec : Rec) (N : Nat) (fs : Frm) (s : St) : c12_j0 rec N fs s = D12_j0 rec N fs s := by
  simp (maxSteps := 4000000) only [c12_j0, lenN, x_seq, x_ops, x_skip, x_ret, x_exit, x_cond, x_block, x_loop, ops_c, ops_n, op1_u, op1_gj, rq_c, rq_n, opQ_u, opQ_g, op2_op2, op2_op, op2_s, op2_cond, thenX_n, thenX_e, thenX_r, blkX_n, blkX_r, blkX_e, finX_r, finX_n, res_n, res_t, op_s, Nat.beq_refl, cond_true]
  first | done | kernel_rfl
def D12_j1 (rec : Rec) (N : Nat) (fs : Frm) (s : St) : OutX := opt2 (oMov (.v (.bool false)) rec PT.nil s) fun x1 s =>
 some (.ret, (PT.put x1 t2 fs), s)
set_option maxHeartbeats 4000000 in
theorem d12_j1 (rec : Rec) (N : Nat) (fs : Frm) (s : St) : c12_j1 rec N fs s = D12_j1 rec N fs s := by
  simp (maxSteps := 4000000) only [c12_j1, lenN, x_seq, x_ops, x_skip, x_ret, x_exit, x_cond, x_block, x_loop, ops_c, ops_n, op1_u, op1_gj, rq_c, rq_n, opQ_u, opQ_g, op2_op2, op2_op, op2_s, op2_cond, thenX_n, thenX_e, thenX_r, blkX_n, blkX_r, blkX_e, finX_r, finX_n, res_n, res_t, op_s, Nat.beq_refl, cond_true]
  first | done | kernel_rfl
def D12 (rec : Rec) (N : Nat) (a0 : Value) (s : St) : Out := opt2 (oMov (.v (.bool false)) rec PT.nil s) fun x1 s =>
 opt2 (oMov (.v a0) rec PT.nil s) fun x2 s =>
 opt2 (oBin (str2 (cmpS eqBytes)) (.v x2) (.v (.string ⟨⟨[105, 110, 112, 117, 116]⟩⟩)) rec PT.nil s) fun x3 s =>
 opt2 (oMov (.v x3) rec PT.nil s) fun x4 s =>
 condV x4
 (opt2 (c12_j0 rec N (PT.put x4 t4 (PT.put x3 t5 (PT.put x2 t3 (PT.put x1 t2 (PT.put a0 t0 PT.nil))))) s) fun e r => opt2 (blkX 0 e r) fun e r => opt2 (thenX (c12_j1 rec N) e r) fun e r => finX [.tmp t2] e r)
 (opt2 (oBin (str2 (cmpS eqBytes)) (.v x2) (.v (.string ⟨⟨[114, 117, 108, 101]⟩⟩)) rec PT.nil s) fun x5 s =>
 opt2 (oMov (.v x5) rec PT.nil s) fun x6 s =>
 condV x6
 (opt2 (c12_j0 rec N (PT.put x6 t4 (PT.put x5 t6 (PT.put x4 t4 (PT.put x3 t5 (PT.put x2 t3 (PT.put x1 t2 (PT.put a0 t0 PT.nil))))))) s) fun e r => opt2 (blkX 0 e r) fun e r => opt2 (thenX (c12_j1 rec N) e r) fun e r => finX [.tmp t2] e r)
 (opt2 (oBin (str2 (cmpS eqBytes)) (.v x2) (.v (.string ⟨⟨[116, 97, 98, 108, 101]⟩⟩)) rec PT.nil s) fun x7 s =>
 opt2 (oMov (.v x7) rec PT.nil s) fun x8 s =>
 condV x8
 (opt2 (c12_j0 rec N (PT.put x8 t4 (PT.put x7 t7 (PT.put x6 t4 (PT.put x5 t6 (PT.put x4 t4 (PT.put x3 t5 (PT.put x2 t3 (PT.put x1 t2 (PT.put a0 t0 PT.nil))))))))) s) fun e r => opt2 (blkX 0 e r) fun e r => opt2 (thenX (c12_j1 rec N) e r) fun e r => finX [.tmp t2] e r)
 (opt2 (oBin (str2 (cmpS eqBytes)) (.v x2) (.v (.string ⟨⟨[98, 111, 111, 108]⟩⟩)) rec PT.nil s) fun x9 s =>
 opt2 (oMov (.v x9) rec PT.nil s) fun x10 s =>
 condV x10
 (opt2 (c12_j0 rec N (PT.put x10 t4 (PT.put x9 t8 (PT.put x8 t4 (PT.put x7 t7 (PT.put x6 t4 (PT.put x5 t6 (PT.put x4 t4 (PT.put x3 t5 (PT.put x2 t3 (PT.put x1 t2 (PT.put a0 t0 PT.nil))))))))))) s) fun e r => opt2 (blkX 0 e r) fun e r => opt2 (thenX (c12_j1 rec N) e r) fun e r => finX [.tmp t2] e r)
 (opt2 (oBin (str2 (cmpS eqBytes)) (.v x2) (.v (.string ⟨⟨[99, 111, 117, 110, 116]⟩⟩)) rec PT.nil s) fun x11 s =>
 opt2 (oMov (.v x11) rec PT.nil s) fun x12 s =>
 condV x12
 (opt2 (c12_j0 rec N (PT.put x12 t4 (PT.put x11 t9 (PT.put x10 t4 (PT.put x9 t8 (PT.put x8 t4 (PT.put x7 t7 (PT.put x6 t4 (PT.put x5 t6 (PT.put x4 t4 (PT.put x3 t5 (PT.put x2 t3 (PT.put x1 t2 (PT.put a0 t0 PT.nil))))))))))))) s) fun e r => opt2 (blkX 0 e r) fun e r => opt2 (thenX (c12_j1 rec N) e r) fun e r => finX [.tmp t2] e r)
 (opt2 (oBin (str2 (cmpS eqBytes)) (.v x2) (.v (.string ⟨⟨[109, 111, 110, 101, 121]⟩⟩)) rec PT.nil s) fun x13 s =>
 opt2 (oMov (.v x13) rec PT.nil s) fun x14 s =>
 condV x14
 (opt2 (c12_j0 rec N (PT.put x14 t4 (PT.put x13 t10 (PT.put x12 t4 (PT.put x11 t9 (PT.put x10 t4 (PT.put x9 t8 (PT.put x8 t4 (PT.put x7 t7 (PT.put x6 t4 (PT.put x5 t6 (PT.put x4 t4 (PT.put x3 t5 (PT.put x2 t3 (PT.put x1 t2 (PT.put a0 t0 PT.nil))))))))))))))) s) fun e r => opt2 (blkX 0 e r) fun e r => opt2 (thenX (c12_j1 rec N) e r) fun e r => finX [.tmp t2] e r)
 (opt2 (oBin (str2 (cmpS eqBytes)) (.v x2) (.v (.string ⟨⟨[114, 97, 116, 101]⟩⟩)) rec PT.nil s) fun x15 s =>
 opt2 (oMov (.v x15) rec PT.nil s) fun x16 s =>
 condV x16
 (opt2 (c12_j0 rec N (PT.put x16 t4 (PT.put x15 t11 (PT.put x14 t4 (PT.put x13 t10 (PT.put x12 t4 (PT.put x11 t9 (PT.put x10 t4 (PT.put x9 t8 (PT.put x8 t4 (PT.put x7 t7 (PT.put x6 t4 (PT.put x5 t6 (PT.put x4 t4 (PT.put x3 t5 (PT.put x2 t3 (PT.put x1 t2 (PT.put a0 t0 PT.nil))))))))))))))))) s) fun e r => opt2 (blkX 0 e r) fun e r => opt2 (thenX (c12_j1 rec N) e r) fun e r => finX [.tmp t2] e r)
 (opt2 (oBin (str2 (cmpS eqBytes)) (.v x2) (.v (.string ⟨⟨[100, 97, 116, 101]⟩⟩)) rec PT.nil s) fun x17 s =>
 opt2 (oMov (.v x17) rec PT.nil s) fun x18 s =>
 condV x18
 (opt2 (c12_j0 rec N (PT.put x18 t4 (PT.put x17 t12 (PT.put x16 t4 (PT.put x15 t11 (PT.put x14 t4 (PT.put x13 t10 (PT.put x12 t4 (PT.put x11 t9 (PT.put x10 t4 (PT.put x9 t8 (PT.put x8 t4 (PT.put x7 t7 (PT.put x6 t4 (PT.put x5 t6 (PT.put x4 t4 (PT.put x3 t5 (PT.put x2 t3 (PT.put x1 t2 (PT.put a0 t0 PT.nil))))))))))))))))))) s) fun e r => opt2 (blkX 0 e r) fun e r => opt2 (thenX (c12_j1 rec N) e r) fun e r => finX [.tmp t2] e r)
 (opt2 (oBin (str2 (cmpS eqBytes)) (.v x2) (.v (.string ⟨⟨[109, 111, 110, 101, 121, 115]⟩⟩)) rec PT.nil s) fun x19 s =>
 opt2 (oMov (.v x19) rec PT.nil s) fun x20 s =>
 condV x20
 (opt2 (c12_j0 rec N (PT.put x20 t4 (PT.put x19 t13 (PT.put x18 t4 (PT.put x17 t12 (PT.put x16 t4 (PT.put x15 t11 (PT.put x14 t4 (PT.put x13 t10 (PT.put x12 t4 (PT.put x11 t9 (PT.put x10 t4 (PT.put x9 t8 (PT.put x8 t4 (PT.put x7 t7 (PT.put x6 t4 (PT.put x5 t6 (PT.put x4 t4 (PT.put x3 t5 (PT.put x2 t3 (PT.put x1 t2 (PT.put a0 t0 PT.nil))))))))))))))))))))) s) fun e r => opt2 (blkX 0 e r) fun e r => opt2 (thenX (c12_j1 rec N) e r) fun e r => finX [.tmp t2] e r)
 (opt2 (oBin (str2 (cmpS eqBytes)) (.v x2) (.v (.string ⟨⟨[105, 102]⟩⟩)) rec PT.nil s) fun x21 s =>
 opt2 (oMov (.v x21) rec PT.nil s) fun x22 s =>
 condV x22
 (opt2 (c12_j0 rec N (PT.put x22 t4 (PT.put x21 t14 (PT.put x20 t4 (PT.put x19 t13 (PT.put x18 t4 (PT.put x17 t12 (PT.put x16 t4 (PT.put x15 t11 (PT.put x14 t4 (PT.put x13 t10 (PT.put x12 t4 (PT.put x11 t9 (PT.put x10 t4 (PT.put x9 t8 (PT.put x8 t4 (PT.put x7 t7 (PT.put x6 t4 (PT.put x5 t6 (PT.put x4 t4 (PT.put x3 t5 (PT.put x2 t3 (PT.put x1 t2 (PT.put a0 t0 PT.nil))))))))))))))))))))))) s) fun e r => opt2 (blkX 0 e r) fun e r => opt2 (thenX (c12_j1 rec N) e r) fun e r => finX [.tmp t2] e r)
 (opt2 (oBin (str2 (cmpS eqBytes)) (.v x2) (.v (.string ⟨⟨[116, 104, 101, 110]⟩⟩)) rec PT.nil s) fun x23 s =>
 opt2 (oMov (.v x23) rec PT.nil s) fun x24 s =>
 condV x24
 (opt2 (c12_j0 rec N (PT.put x24 t4 (PT.put x23 t15 (PT.put x22 t4 (PT.put x21 t14 (PT.put x20 t4 (PT.put x19 t13 (PT.put x18 t4 (PT.put x17 t12 (PT.put x16 t4 (PT.put x15 t11 (PT.put x14 t4 (PT.put x13 t10 (PT.put x12 t4 (PT.put x11 t9 (PT.put x10 t4 (PT.put x9 t8 (PT.put x8 t4 (PT.put x7 t7 (PT.put x6 t4 (PT.put x5 t6 (PT.put x4 t4 (PT.put x3 t5 (PT.put x2 t3 (PT.put x1 t2 (PT.put a0 t0 PT.nil))))))))))))))))))))))))) s) fun e r => opt2 (blkX 0 e r) fun e r => opt2 (thenX (c12_j1 rec N) e r) fun e r => finX [.tmp t2] e r)
 (opt2 (oBin (str2 (cmpS eqBytes)) (.v x2) (.v (.string ⟨⟨[101, 108, 115, 101]⟩⟩)) rec PT.nil s) fun x25 s =>
 opt2 (oMov (.v x25) rec PT.nil s) fun x26 s =>
 condV x26
 (opt2 (c12_j0 rec N (PT.put x26 t4 (PT.put x25 t16 (PT.put x24 t4 (PT.put x23 t15 (PT.put x22 t4 (PT.put x21 t14 (PT.put x20 t4 (PT.put x19 t13 (PT.put x18 t4 (PT.put x17 t12 (PT.put x16 t4 (PT.put x15 t11 (PT.put x14 t4 (PT.put x13 t10 (PT.put x12 t4 (PT.put x11 t9 (PT.put x10 t4 (PT.put x9 t8 (PT.put x8 t4 (PT.put x7 t7 (PT.put x6 t4 (PT.put x5 t6 (PT.put x4 t4 (PT.put x3 t5 (PT.put x2 t3 (PT.put x1 t2 (PT.put a0 t0 PT.nil))))))))))))))))))))))))))) s) fun e r => opt2 (blkX 0 e r) fun e r => opt2 (thenX (c12_j1 rec N) e r) fun e r => finX [.tmp t2] e r)
 (opt2 (oBin (str2 (cmpS eqBytes)) (.v x2) (.v (.string ⟨⟨[97, 110, 100]⟩⟩)) rec PT.nil s) fun x27 s =>
 opt2 (oMov (.v x27) rec PT.nil s) fun x28 s =>
 condV x28
 (opt2 (c12_j0 rec N (PT.put x28 t4 (PT.put x27 t17 (PT.put x26 t4 (PT.put x25 t16 (PT.put x24 t4 (PT.put x23 t15 (PT.put x22 t4 (PT.put x21 t14 (PT.put x20 t4 (PT.put x19 t13 (PT.put x18 t4 (PT.put x17 t12 (PT.put x16 t4 (PT.put x15 t11 (PT.put x14 t4 (PT.put x13 t10 (PT.put x12 t4 (PT.put x11 t9 (PT.put x10 t4 (PT.put x9 t8 (PT.put x8 t4 (PT.put x7 t7 (PT.put x6 t4 (PT.put x5 t6 (PT.put x4 t4 (PT.put x3 t5 (PT.put x2 t3 (PT.put x1 t2 (PT.put a0 t0 PT.nil))))))))))))))))))))))))))))) s) fun e r => opt2 (blkX 0 e r) fun e r => opt2 (thenX (c12_j1 rec N) e r) fun e r => finX [.tmp t2] e r)
 (opt2 (oBin (str2 (cmpS eqBytes)) (.v x2) (.v (.string ⟨⟨[111, 114]⟩⟩)) rec PT.nil s) fun x29 s =>
 opt2 (oMov (.v x29) rec PT.nil s) fun x30 s =>
 condV x30
 (opt2 (c12_j0 rec N (PT.put x30 t4 (PT.put x29 t18 (PT.put x28 t4 (PT.put x27 t17 (PT.put x26 t4 (PT.put x25 t16 (PT.put x24 t4 (PT.put x23 t15 (PT.put x22 t4 (PT.put x21 t14 (PT.put x20 t4 (PT.put x19 t13 (PT.put x18 t4 (PT.put x17 t12 (PT.put x16 t4 (PT.put x15 t11 (PT.put x14 t4 (PT.put x13 t10 (PT.put x12 t4 (PT.put x11 t9 (PT.put x10 t4 (PT.put x9 t8 (PT.put x8 t4 (PT.put x7 t7 (PT.put x6 t4 (PT.put x5 t6 (PT.put x4 t4 (PT.put x3 t5 (PT.put x2 t3 (PT.put x1 t2 (PT.put a0 t0 PT.nil))))))))))))))))))))))))))))))) s) fun e r => opt2 (blkX 0 e r) fun e r => opt2 (thenX (c12_j1 rec N) e r) fun e r => finX [.tmp t2] e r)
 (opt2 (oBin (str2 (cmpS eqBytes)) (.v x2) (.v (.string ⟨⟨[110, 111, 116]⟩⟩)) rec PT.nil s) fun x31 s =>
 opt2 (oMov (.v x31) rec PT.nil s) fun x32 s =>
 condV x32
 (opt2 (c12_j0 rec N (PT.put x32 t4 (PT.put x31 t19 (PT.put x30 t4 (PT.put x29 t18 (PT.put x28 t4 (PT.put x27 t17 (PT.put x26 t4 (PT.put x25 t16 (PT.put x24 t4 (PT.put x23 t15 (PT.put x22 t4 (PT.put x21 t14 (PT.put x20 t4 (PT.put x19 t13 (PT.put x18 t4 (PT.put x17 t12 (PT.put x16 t4 (PT.put x15 t11 (PT.put x14 t4 (PT.put x13 t10 (PT.put x12 t4 (PT.put x11 t9 (PT.put x10 t4 (PT.put x9 t8 (PT.put x8 t4 (PT.put x7 t7 (PT.put x6 t4 (PT.put x5 t6 (PT.put x4 t4 (PT.put x3 t5 (PT.put x2 t3 (PT.put x1 t2 (PT.put a0 t0 PT.nil))))))))))))))))))))))))))))))))) s) fun e r => opt2 (blkX 0 e r) fun e r => opt2 (thenX (c12_j1 rec N) e r) fun e r => finX [.tmp t2] e r)
 (opt2 (oBin (str2 (cmpS eqBytes)) (.v x2) (.v (.string ⟨⟨[109, 105, 110]⟩⟩)) rec PT.nil s) fun x33 s =>
 opt2 (oMov (.v x33) rec PT.nil s) fun x34 s =>
 condV x34
 (opt2 (c12_j0 rec N (PT.put x34 t4 (PT.put x33 t20 (PT.put x32 t4 (PT.put x31 t19 (PT.put x30 t4 (PT.put x29 t18 (PT.put x28 t4 (PT.put x27 t17 (PT.put x26 t4 (PT.put x25 t16 (PT.put x24 t4 (PT.put x23 t15 (PT.put x22 t4 (PT.put x21 t14 (PT.put x20 t4 (PT.put x19 t13 (PT.put x18 t4 (PT.put x17 t12 (PT.put x16 t4 (PT.put x15 t11 (PT.put x14 t4 (PT.put x13 t10 (PT.put x12 t4 (PT.put x11 t9 (PT.put x10 t4 (PT.put x9 t8 (PT.put x8 t4 (PT.put x7 t7 (PT.put x6 t4 (PT.put x5 t6 (PT.put x4 t4 (PT.put x3 t5 (PT.put x2 t3 (PT.put x1 t2 (PT.put a0 t0 PT.nil))))))))))))))))))))))))))))))))))) s) fun e r => opt2 (blkX 0 e r) fun e r => opt2 (thenX (c12_j1 rec N) e r) fun e r => finX [.tmp t2] e r)
 (opt2 (oBin (str2 (cmpS eqBytes)) (.v x2) (.v (.string ⟨⟨[109, 97, 120]⟩⟩)) rec PT.nil s) fun x35 s =>
 opt2 (oMov (.v x35) rec PT.nil s) fun x36 s =>
 condV x36
 (opt2 (c12_j0 rec N (PT.put x36 t4 (PT.put x35 t21 (PT.put x34 t4 (PT.put x33 t20 (PT.put x32 t4 (PT.put x31 t19 (PT.put x30 t4 (PT.put x29 t18 (PT.put x28 t4 (PT.put x27 t17 (PT.put x26 t4 (PT.put x25 t16 (PT.put x24 t4 (PT.put x23 t15 (PT.put x22 t4 (PT.put x21 t14 (PT.put x20 t4 (PT.put x19 t13 (PT.put x18 t4 (PT.put x17 t12 (PT.put x16 t4 (PT.put x15 t11 (PT.put x14 t4 (PT.put x13 t10 (PT.put x12 t4 (PT.put x11 t9 (PT.put x10 t4 (PT.put x9 t8 (PT.put x8 t4 (PT.put x7 t7 (PT.put x6 t4 (PT.put x5 t6 (PT.put x4 t4 (PT.put x3 t5 (PT.put x2 t3 (PT.put x1 t2 (PT.put a0 t0 PT.nil))))))))))))))))))))))))))))))))))))) s) fun e r => opt2 (blkX 0 e r) fun e r => opt2 (thenX (c12_j1 rec N) e r) fun e r => finX [.tmp t2] e r)
 (opt2 (oBin (str2 (cmpS eqBytes)) (.v x2) (.v (.string ⟨⟨[115, 117, 109]⟩⟩)) rec PT.nil s) fun x37 s =>
 opt2 (oMov (.v x37) rec PT.nil s) fun x38 s =>
 condV x38
 (opt2 (c12_j0 rec N (PT.put x38 t4 (PT.put x37 t22 (PT.put x36 t4 (PT.put x35 t21 (PT.put x34 t4 (PT.put x33 t20 (PT.put x32 t4 (PT.put x31 t19 (PT.put x30 t4 (PT.put x29 t18 (PT.put x28 t4 (PT.put x27 t17 (PT.put x26 t4 (PT.put x25 t16 (PT.put x24 t4 (PT.put x23 t15 (PT.put x22 t4 (PT.put x21 t14 (PT.put x20 t4 (PT.put x19 t13 (PT.put x18 t4 (PT.put x17 t12 (PT.put x16 t4 (PT.put x15 t11 (PT.put x14 t4 (PT.put x13 t10 (PT.put x12 t4 (PT.put x11 t9 (PT.put x10 t4 (PT.put x9 t8 (PT.put x8 t4 (PT.put x7 t7 (PT.put x6 t4 (PT.put x5 t6 (PT.put x4 t4 (PT.put x3 t5 (PT.put x2 t3 (PT.put x1 t2 (PT.put a0 t0 PT.nil))))))))))))))))))))))))))))))))))))))) s) fun e r => opt2 (blkX 0 e r) fun e r => opt2 (thenX (c12_j1 rec N) e r) fun e r => finX [.tmp t2] e r)
 (opt2 (oBin (str2 (cmpS eqBytes)) (.v x2) (.v (.string ⟨⟨[105, 110]⟩⟩)) rec PT.nil s) fun x39 s =>
 opt2 (oMov (.v x39) rec PT.nil s) fun x40 s =>
 condV x40
 (opt2 (c12_j0 rec N (PT.put x40 t4 (PT.put x39 t23 (PT.put x38 t4 (PT.put x37 t22 (PT.put x36 t4 (PT.put x35 t21 (PT.put x34 t4 (PT.put x33 t20 (PT.put x32 t4 (PT.put x31 t19 (PT.put x30 t4 (PT.put x29 t18 (PT.put x28 t4 (PT.put x27 t17 (PT.put x26 t4 (PT.put x25 t16 (PT.put x24 t4 (PT.put x23 t15 (PT.put x22 t4 (PT.put x21 t14 (PT.put x20 t4 (PT.put x19 t13 (PT.put x18 t4 (PT.put x17 t12 (PT.put x16 t4 (PT.put x15 t11 (PT.put x14 t4 (PT.put x13 t10 (PT.put x12 t4 (PT.put x11 t9 (PT.put x10 t4 (PT.put x9 t8 (PT.put x8 t4 (PT.put x7 t7 (PT.put x6 t4 (PT.put x5 t6 (PT.put x4 t4 (PT.put x3 t5 (PT.put x2 t3 (PT.put x1 t2 (PT.put a0 t0 PT.nil))))))))))))))))))))))))))))))))))))))))) s) fun e r => opt2 (blkX 0 e r) fun e r => opt2 (thenX (c12_j1 rec N) e r) fun e r => finX [.tmp t2] e r)
 (opt2 (oBin (str2 (cmpS eqBytes)) (.v x2) (.v (.string ⟨⟨[108, 101, 110]⟩⟩)) rec PT.nil s) fun x41 s =>
 opt2 (oMov (.v x41) rec PT.nil s) fun x42 s =>
 condV x42
 (opt2 (c12_j0 rec N (PT.put x42 t4 (PT.put x41 t24 (PT.put x40 t4 (PT.put x39 t23 (PT.put x38 t4 (PT.put x37 t22 (PT.put x36 t4 (PT.put x35 t21 (PT.put x34 t4 (PT.put x33 t20 (PT.put x32 t4 (PT.put x31 t19 (PT.put x30 t4 (PT.put x29 t18 (PT.put x28 t4 (PT.put x27 t17 (PT.put x26 t4 (PT.put x25 t16 (PT.put x24 t4 (PT.put x23 t15 (PT.put x22 t4 (PT.put x21 t14 (PT.put x20 t4 (PT.put x19 t13 (PT.put x18 t4 (PT.put x17 t12 (PT.put x16 t4 (PT.put x15 t11 (PT.put x14 t4 (PT.put x13 t10 (PT.put x12 t4 (PT.put x11 t9 (PT.put x10 t4 (PT.put x9 t8 (PT.put x8 t4 (PT.put x7 t7 (PT.put x6 t4 (PT.put x5 t6 (PT.put x4 t4 (PT.put x3 t5 (PT.put x2 t3 (PT.put x1 t2 (PT.put a0 t0 PT.nil))))))))))))))))))))))))))))))))))))))))))) s) fun e r => opt2 (blkX 0 e r) fun e r => opt2 (thenX (c12_j1 rec N) e r) fun e r => finX [.tmp t2] e r)
 (opt2 (oBin (str2 (cmpS eqBytes)) (.v x2) (.v (.string ⟨⟨[97, 116]⟩⟩)) rec PT.nil s) fun x43 s =>
 opt2 (oMov (.v x43) rec PT.nil s) fun x44 s =>
 condV x44
 (opt2 (c12_j0 rec N (PT.put x44 t4 (PT.put x43 t25 (PT.put x42 t4 (PT.put x41 t24 (PT.put x40 t4 (PT.put x39 t23 (PT.put x38 t4 (PT.put x37 t22 (PT.put x36 t4 (PT.put x35 t21 (PT.put x34 t4 (PT.put x33 t20 (PT.put x32 t4 (PT.put x31 t19 (PT.put x30 t4 (PT.put x29 t18 (PT.put x28 t4 (PT.put x27 t17 (PT.put x26 t4 (PT.put x25 t16 (PT.put x24 t4 (PT.put x23 t15 (PT.put x22 t4 (PT.put x21 t14 (PT.put x20 t4 (PT.put x19 t13 (PT.put x18 t4 (PT.put x17 t12 (PT.put x16 t4 (PT.put x15 t11 (PT.put x14 t4 (PT.put x13 t10 (PT.put x12 t4 (PT.put x11 t9 (PT.put x10 t4 (PT.put x9 t8 (PT.put x8 t4 (PT.put x7 t7 (PT.put x6 t4 (PT.put x5 t6 (PT.put x4 t4 (PT.put x3 t5 (PT.put x2 t3 (PT.put x1 t2 (PT.put a0 t0 PT.nil))))))))))))))))))))))))))))))))))))))))))))) s) fun e r => opt2 (blkX 0 e r) fun e r => opt2 (thenX (c12_j1 rec N) e r) fun e r => finX [.tmp t2] e r)
 (opt2 (oBin (str2 (cmpS eqBytes)) (.v x2) (.v (.string ⟨⟨[116, 114, 117, 101]⟩⟩)) rec PT.nil s) fun x45 s =>
 opt2 (oMov (.v x45) rec PT.nil s) fun x46 s =>
 condV x46
 (opt2 (c12_j0 rec N (PT.put x46 t4 (PT.put x45 t26 (PT.put x44 t4 (PT.put x43 t25 (PT.put x42 t4 (PT.put x41 t24 (PT.put x40 t4 (PT.put x39 t23 (PT.put x38 t4 (PT.put x37 t22 (PT.put x36 t4 (PT.put x35 t21 (PT.put x34 t4 (PT.put x33 t20 (PT.put x32 t4 (PT.put x31 t19 (PT.put x30 t4 (PT.put x29 t18 (PT.put x28 t4 (PT.put x27 t17 (PT.put x26 t4 (PT.put x25 t16 (PT.put x24 t4 (PT.put x23 t15 (PT.put x22 t4 (PT.put x21 t14 (PT.put x20 t4 (PT.put x19 t13 (PT.put x18 t4 (PT.put x17 t12 (PT.put x16 t4 (PT.put x15 t11 (PT.put x14 t4 (PT.put x13 t10 (PT.put x12 t4 (PT.put x11 t9 (PT.put x10 t4 (PT.put x9 t8 (PT.put x8 t4 (PT.put x7 t7 (PT.put x6 t4 (PT.put x5 t6 (PT.put x4 t4 (PT.put x3 t5 (PT.put x2 t3 (PT.put x1 t2 (PT.put a0 t0 PT.nil))))))))))))))))))))))))))))))))))))))))))))))) s) fun e r => opt2 (blkX 0 e r) fun e r => opt2 (thenX (c12_j1 rec N) e r) fun e r => finX [.tmp t2] e r)
 (opt2 (oBin (str2 (cmpS eqBytes)) (.v x2) (.v (.string ⟨⟨[102, 97, 108, 115, 101]⟩⟩)) rec PT.nil s) fun x47 s =>
 opt2 (oMov (.v x47) rec PT.nil s) fun x48 s =>
 opt2 (c12_j0 rec N (PT.put x48 t4 (PT.put x47 t27 (PT.put x46 t4 (PT.put x45 t26 (PT.put x44 t4 (PT.put x43 t25 (PT.put x42 t4 (PT.put x41 t24 (PT.put x40 t4 (PT.put x39 t23 (PT.put x38 t4 (PT.put x37 t22 (PT.put x36 t4 (PT.put x35 t21 (PT.put x34 t4 (PT.put x33 t20 (PT.put x32 t4 (PT.put x31 t19 (PT.put x30 t4 (PT.put x29 t18 (PT.put x28 t4 (PT.put x27 t17 (PT.put x26 t4 (PT.put x25 t16 (PT.put x24 t4 (PT.put x23 t15 (PT.put x22 t4 (PT.put x21 t14 (PT.put x20 t4 (PT.put x19 t13 (PT.put x18 t4 (PT.put x17 t12 (PT.put x16 t4 (PT.put x15 t11 (PT.put x14 t4 (PT.put x13 t10 (PT.put x12 t4 (PT.put x11 t9 (PT.put x10 t4 (PT.put x9 t8 (PT.put x8 t4 (PT.put x7 t7 (PT.put x6 t4 (PT.put x5 t6 (PT.put x4 t4 (PT.put x3 t5 (PT.put x2 t3 (PT.put x1 t2 (PT.put a0 t0 PT.nil))))))))))))))))))))))))))))))))))))))))))))))))) s) fun e r => opt2 (blkX 0 e r) fun e r => opt2 (thenX (c12_j1 rec N) e r) fun e r => finX [.tmp t2] e r))))))))))))))))))))))
set_option maxHeartbeats 4000000 in
theorem d12 (rec : Rec) (N : Nat) (a0 : Value) (s : St) : callF rec N c12 [a0] s = D12 rec N a0 s := by
  rw [call_f _ _ _ _ _ rfl]
  simp (maxSteps := 4000000) only [c12, lenN, x_seq, x_ops, x_skip, x_ret, x_exit, x_cond, x_block, x_loop, ops_c, ops_n, op1_u, op1_gj, rq_c, rq_n, opQ_u, opQ_g, op2_op2, op2_op, op2_s, op2_cond, thenX_n, thenX_e, thenX_r, blkX_n, blkX_r, blkX_e, finX_r, finX_n, res_n, res_t, op_s, Nat.beq_refl, cond_true]
  first | done | kernel_rfl
def J12_j1 (rec : Rec) (N : Nat) (k : Unit) (s : St) : Out := some (oneOf [(.bool false)], s)
set_option maxHeartbeats 4000000 in
theorem j12_j1 (rec : Rec) (N : Nat) (fs : Frm) (s : St) : opt2 (c12_j1 rec N fs s) (fun e r => finX [.tmp t2] e r) = J12_j1 rec N () s := by
  rw [d12_j1]
  unfold D12_j1 J12_j1
  simp (maxSteps := 4000000) only [thenX_n, thenX_e, thenX_r, x_exit, x_skip, x_ret, blkX_n, blkX_r, blkX_e, finX_r, finX_n, res_n, res_t, op2_op2, op2_op, op2_s, op2_cond, op2_bf, mov_v]
  first | done | kernel_rfl
def J12_j0 (rec : Rec) (N : Nat) (k : Value) (s : St) : Out := condV k
 (some (oneOf [(.bool true)], s))
 (J12_j1 rec N () s)
set_option maxHeartbeats 4000000 in
theorem j12_j0 (rec : Rec) (N : Nat) (fs : Frm) (s : St) : opt2 (c12_j0 rec N fs s) (fun e r => opt2 (blkX 0 e r) fun e r => opt2 (thenX (c12_j1 rec N) e r) fun e r => finX [.tmp t2] e r) = J12_j0 rec N (orU (fs.get t4)) s := by
  rw [d12_j0]
  unfold D12_j0 J12_j0
  simp (maxSteps := 4000000) only [thenX_n, thenX_e, thenX_r, x_exit, x_skip, x_ret, blkX_n, blkX_r, blkX_e, finX_r, finX_n, res_n, res_t, op2_op2, op2_op, op2_s, op2_cond, op2_bf, mov_v, j12_j1 rec N]
  first | done | kernel_rfl
def F12 (rec : Rec) (N : Nat) (a0 : Value) (s : St) : Out := opt2 (oBin (str2 (cmpS eqBytes)) (.v a0) (.v (.string ⟨⟨[105, 110, 112, 117, 116]⟩⟩)) rec PT.nil s) fun x1 s =>
 condV x1
 (J12_j0 rec N x1 s)
 (opt2 (oBin (str2 (cmpS eqBytes)) (.v a0) (.v (.string ⟨⟨[114, 117, 108, 101]⟩⟩)) rec PT.nil s) fun x2 s =>
 condV x2
 (J12_j0 rec N x2 s)
 (opt2 (oBin (str2 (cmpS eqBytes)) (.v a0) (.v (.string ⟨⟨[116, 97, 98, 108, 101]⟩⟩)) rec PT.nil s) fun x3 s =>
 condV x3
 (J12_j0 rec N x3 s)
 (opt2 (oBin (str2 (cmpS eqBytes)) (.v a0) (.v (.string ⟨⟨[98, 111, 111, 108]⟩⟩)) rec PT.nil s) fun x4 s =>
 condV x4
 (J12_j0 rec N x4 s)
 (opt2 (oBin (str2 (cmpS eqBytes)) (.v a0) (.v (.string ⟨⟨[99, 111, 117, 110, 116]⟩⟩)) rec PT.nil s) fun x5 s =>
 condV x5
 (J12_j0 rec N x5 s)
 (opt2 (oBin (str2 (cmpS eqBytes)) (.v a0) (.v (.string ⟨⟨[109, 111, 110, 101, 121]⟩⟩)) rec PT.nil s) fun x6 s =>
 condV x6
 (J12_j0 rec N x6 s)
 (opt2 (oBin (str2 (cmpS eqBytes)) (.v a0) (.v (.string ⟨⟨[114, 97, 116, 101]⟩⟩)) rec PT.nil s) fun x7 s =>
 condV x7
 (J12_j0 rec N x7 s)
 (opt2 (oBin (str2 (cmpS eqBytes)) (.v a0) (.v (.string ⟨⟨[100, 97, 116, 101]⟩⟩)) rec PT.nil s) fun x8 s =>
 condV x8
 (J12_j0 rec N x8 s)
 (opt2 (oBin (str2 (cmpS eqBytes)) (.v a0) (.v (.string ⟨⟨[109, 111, 110, 101, 121, 115]⟩⟩)) rec PT.nil s) fun x9 s =>
 condV x9
 (J12_j0 rec N x9 s)
 (opt2 (oBin (str2 (cmpS eqBytes)) (.v a0) (.v (.string ⟨⟨[105, 102]⟩⟩)) rec PT.nil s) fun x10 s =>
 condV x10
 (J12_j0 rec N x10 s)
 (opt2 (oBin (str2 (cmpS eqBytes)) (.v a0) (.v (.string ⟨⟨[116, 104, 101, 110]⟩⟩)) rec PT.nil s) fun x11 s =>
 condV x11
 (J12_j0 rec N x11 s)
 (opt2 (oBin (str2 (cmpS eqBytes)) (.v a0) (.v (.string ⟨⟨[101, 108, 115, 101]⟩⟩)) rec PT.nil s) fun x12 s =>
 condV x12
 (J12_j0 rec N x12 s)
 (opt2 (oBin (str2 (cmpS eqBytes)) (.v a0) (.v (.string ⟨⟨[97, 110, 100]⟩⟩)) rec PT.nil s) fun x13 s =>
 condV x13
 (J12_j0 rec N x13 s)
 (opt2 (oBin (str2 (cmpS eqBytes)) (.v a0) (.v (.string ⟨⟨[111, 114]⟩⟩)) rec PT.nil s) fun x14 s =>
 condV x14
 (J12_j0 rec N x14 s)
 (opt2 (oBin (str2 (cmpS eqBytes)) (.v a0) (.v (.string ⟨⟨[110, 111, 116]⟩⟩)) rec PT.nil s) fun x15 s =>
 condV x15
 (J12_j0 rec N x15 s)
 (opt2 (oBin (str2 (cmpS eqBytes)) (.v a0) (.v (.string ⟨⟨[109, 105, 110]⟩⟩)) rec PT.nil s) fun x16 s =>
 condV x16
 (J12_j0 rec N x16 s)
 (opt2 (oBin (str2 (cmpS eqBytes)) (.v a0) (.v (.string ⟨⟨[109, 97, 120]⟩⟩)) rec PT.nil s) fun x17 s =>
 condV x17
 (J12_j0 rec N x17 s)
 (opt2 (oBin (str2 (cmpS eqBytes)) (.v a0) (.v (.string ⟨⟨[115, 117, 109]⟩⟩)) rec PT.nil s) fun x18 s =>
 condV x18
 (J12_j0 rec N x18 s)
 (opt2 (oBin (str2 (cmpS eqBytes)) (.v a0) (.v (.string ⟨⟨[105, 110]⟩⟩)) rec PT.nil s) fun x19 s =>
 condV x19
 (J12_j0 rec N x19 s)
 (opt2 (oBin (str2 (cmpS eqBytes)) (.v a0) (.v (.string ⟨⟨[108, 101, 110]⟩⟩)) rec PT.nil s) fun x20 s =>
 condV x20
 (J12_j0 rec N x20 s)
 (opt2 (oBin (str2 (cmpS eqBytes)) (.v a0) (.v (.string ⟨⟨[97, 116]⟩⟩)) rec PT.nil s) fun x21 s =>
 condV x21
 (J12_j0 rec N x21 s)
 (opt2 (oBin (str2 (cmpS eqBytes)) (.v a0) (.v (.string ⟨⟨[116, 114, 117, 101]⟩⟩)) rec PT.nil s) fun x22 s =>
 condV x22
 (J12_j0 rec N x22 s)
 (opt2 (oBin (str2 (cmpS eqBytes)) (.v a0) (.v (.string ⟨⟨[102, 97, 108, 115, 101]⟩⟩)) rec PT.nil s) fun x23 s =>
 J12_j0 rec N x23 s))))))))))))))))))))))
theorem f12 (rec : Rec) (N : Nat) (a0 : Value) (s : St) : callF rec N c12 [a0] s = F12 rec N a0 s := by
  rw [d12]
  unfold D12 F12
  simp (maxSteps := 4000000) only [mov_v, op2_s, j12_j0 rec N]
  first | done | kernel_rfl
-- c13
def D13_l0 (rec : Rec) (N : Nat) (fs : Frm) (s : St) : OutX := opt2 (oMov (.v (orU (fs.get t4))) rec PT.nil s) fun x1 s =>
 opt2 (oMov (.v (orU (fs.get t3))) rec PT.nil s) fun x2 s =>
 opt2 (oLenL (.v x2) rec PT.nil s) fun x3 s =>
 opt2 (oBin (int2 (cmpO ltI)) (.v x1) (.v x3) rec PT.nil s) fun x4 s =>
 condV x4
 (opt2 (oMov (.v (orU (fs.get t3))) rec PT.nil s) fun x5 s =>
 opt2 (oMov (.v (orU (fs.get t4))) rec PT.nil s) fun x6 s =>
 opt2 (oIdxAddrL 1 (.v x5) (.v x6) rec PT.nil s) fun x7 s =>
 opt2 (oLoad1 (.v x7) rec PT.nil s) fun x8 s =>
 opt2 (oMov (.v (orU (fs.get t0))) rec PT.nil s) fun x9 s =>
 opt2 (oBin (str2 (cmpS eqBytes)) (.v x8) (.v x9) rec PT.nil s) fun x10 s =>
 condV x10
 (opt2 (oMov (.v (.bool true)) rec PT.nil s) fun x11 s =>
 some (.ret, (PT.put x11 t2 (PT.put x10 t17 (PT.put x9 t16 (PT.put x8 t15 (PT.put x7 t14 (PT.put x6 t13 (PT.put x5 t12 (PT.put x4 t9 (PT.put x3 t8 (PT.put x2 t7 (PT.put x1 t6 fs))))))))))), s))
 (opt2 (oMov (.v (orU (fs.get t4))) rec PT.nil s) fun x12 s =>
 opt2 (oBin (int2 addO) (.v x12) (.v (.int .i64 1)) rec PT.nil s) fun x13 s =>
 opt2 (oMov (.v x13) rec PT.nil s) fun x14 s =>
 some (.norm, (PT.put x14 t4 (PT.put x13 t11 (PT.put x12 t10 (PT.put x10 t17 (PT.put x9 t16 (PT.put x8 t15 (PT.put x7 t14 (PT.put x6 t13 (PT.put x5 t12 (PT.put x4 t9 (PT.put x3 t8 (PT.put x2 t7 (PT.put x1 t6 fs))))))))))))), s)))
 (some ((.exit 0), (PT.put x4 t9 (PT.put x3 t8 (PT.put x2 t7 (PT.put x1 t6 fs)))), s))
set_option maxHeartbeats 4000000 in
theorem d13_l0 (rec : Rec) (N : Nat) (fs : Frm) (s : St) : c13_l0 rec N fs s = D13_l0 rec N fs s := by
  simp (maxSteps := 4000000) only [c13_l0, lenN, x_seq, x_ops, x_skip, x_ret, x_exit, x_cond, x_block, x_loop, ops_c, ops_n, op1_u, op1_gj, rq_c, rq_n, opQ_u, opQ_g, op2_op2, op2_op, op2_s, op2_cond, thenX_n, thenX_e, thenX_r, blkX_n, blkX_r, blkX_e, finX_r, finX_n, res_n, res_t, op_s, Nat.beq_refl, cond_true]
  first | done | kernel_rfl
def D13_r0 (rec : Rec) (N : Nat) (fs : Frm) (s : St) : OutX := opt2 (oMov (.v (.bool false)) rec PT.nil s) fun x1 s =>
 some (.ret, (PT.put x1 t2 fs), s)
set_option maxHeartbeats 4000000 in
theorem d13_r0 (rec : Rec) (N : Nat) (fs : Frm) (s : St) : c13_r0 rec N fs s = D13_r0 rec N fs s := by
  simp (maxSteps := 4000000) only [c13_r0, lenN, x_seq, x_ops, x_skip, x_ret, x_exit, x_cond, x_block, x_loop, ops_c, ops_n, op1_u, op1_gj, rq_c, rq_n, opQ_u, opQ_g, op2_op2, op2_op, op2_s, op2_cond, thenX_n, thenX_e, thenX_r, blkX_n, blkX_r, blkX_e, finX_r, finX_n, res_n, res_t, op_s, Nat.beq_refl, cond_true]
  first | done | kernel_rfl
def D13 (rec : Rec) (N : Nat) (a0 : Value) (s : St) : Out := opt2 (oMov (.v (.bool false)) rec PT.nil s) fun x1 s =>
 opt2 (oBuildSlice 23 (rep 23 [(.string ⟨⟨[]⟩⟩)]) [(0, 1, (.v (.string ⟨⟨[105, 110, 112, 117, 116]⟩⟩))), (1, 1, (.v (.string ⟨⟨[114, 117, 108, 101]⟩⟩))), (2, 1, (.v (.string ⟨⟨[116, 97, 98, 108, 101]⟩⟩))), (3, 1, (.v (.string ⟨⟨[98, 111, 111, 108]⟩⟩))), (4, 1, (.v (.string ⟨⟨[99, 111, 117, 110, 116]⟩⟩))), (5, 1, (.v (.string ⟨⟨[109, 111, 110, 101, 121]⟩⟩))), (6, 1, (.v (.string ⟨⟨[114, 97, 116, 101]⟩⟩))), (7, 1, (.v (.string ⟨⟨[100, 97, 116, 101]⟩⟩))), (8, 1, (.v (.string ⟨⟨[109, 111, 110, 101, 121, 115]⟩⟩))), (9, 1, (.v (.string ⟨⟨[105, 102]⟩⟩))), (10, 1, (.v (.string ⟨⟨[116, 104, 101, 110]⟩⟩))), (11, 1, (.v (.string ⟨⟨[101, 108, 115, 101]⟩⟩))), (12, 1, (.v (.string ⟨⟨[97, 110, 100]⟩⟩))), (13, 1, (.v (.string ⟨⟨[111, 114]⟩⟩))), (14, 1, (.v (.string ⟨⟨[110, 111, 116]⟩⟩))), (15, 1, (.v (.string ⟨⟨[109, 105, 110]⟩⟩))), (16, 1, (.v (.string ⟨⟨[109, 97, 120]⟩⟩))), (17, 1, (.v (.string ⟨⟨[115, 117, 109]⟩⟩))), (18, 1, (.v (.string ⟨⟨[105, 110]⟩⟩))), (19, 1, (.v (.string ⟨⟨[108, 101, 110]⟩⟩))), (20, 1, (.v (.string ⟨⟨[97, 116]⟩⟩))), (21, 1, (.v (.string ⟨⟨[116, 114, 117, 101]⟩⟩))), (22, 1, (.v (.string ⟨⟨[102, 97, 108, 115, 101]⟩⟩)))] rec PT.nil s) fun x2 s =>
 opt2 (oMov (.v x2) rec PT.nil s) fun x3 s =>
 opt2 (oMov (.v (.int .i64 0)) rec PT.nil s) fun x4 s =>
 opt2 (loopF (c13_l0 rec N) N (PT.put x4 t4 (PT.put x3 t3 (PT.put x2 t5 (PT.put x1 t2 (PT.put a0 t0 PT.nil))))) s) fun e r => opt2 (blkX 0 e r) fun e r => opt2 (thenX (c13_r0 rec N) e r) fun e r => finX [.tmp t2] e r
set_option maxHeartbeats 4000000 in
theorem d13 (rec : Rec) (N : Nat) (a0 : Value) (s : St) : callF rec N c13 [a0] s = D13 rec N a0 s := by
  rw [call_f _ _ _ _ _ rfl]
  simp (maxSteps := 4000000) only [c13, lenN, x_seq, x_ops, x_skip, x_ret, x_exit, x_cond, x_block, x_loop, ops_c, ops_n, op1_u, op1_gj, rq_c, rq_n, opQ_u, opQ_g, op2_op2, op2_op, op2_s, op2_cond, thenX_n, thenX_e, thenX_r, blkX_n, blkX_r, blkX_e, finX_r, finX_n, res_n, res_t, op_s, Nat.beq_refl, cond_true]
  first | done | kernel_rfl
def J13_r0 (rec : Rec) (N : Nat) (k : Unit) (s : St) : Out := some (oneOf [(.bool false)], s)
set_option maxHeartbeats 4000000 in
theorem j13_r0 (rec : Rec) (N : Nat) (fs : Frm) (s : St) : opt2 (c13_r0 rec N fs s) (fun e r => finX [.tmp t2] e r) = J13_r0 rec N () s := by
  rw [d13_r0]
  unfold D13_r0 J13_r0
  simp (maxSteps := 4000000) only [thenX_n, thenX_e, thenX_r, x_exit, x_skip, x_ret, blkX_n, blkX_r, blkX_e, finX_r, finX_n, res_n, res_t, op2_op2, op2_op, op2_s, op2_cond, op2_bf, mov_v]
  first | done | kernel_rfl
def B13_l0 (rec : Rec) (N : Nat) (k : Value × Value) (v : Value × Value) (s : St) : OutV (Value × Value) := opt2 (oLenL (.v k.2) rec PT.nil s) fun x1 s =>
 opt2 (oBin (int2 (cmpO ltI)) (.v v.2) (.v x1) rec PT.nil s) fun x2 s =>
 condV x2
 (opt2 (oIdxAddrL 1 (.v k.2) (.v v.2) rec PT.nil s) fun x3 s =>
 opt2 (oLoad1 (.v x3) rec PT.nil s) fun x4 s =>
 opt2 (oBin (str2 (cmpS eqBytes)) (.v x4) (.v k.1) rec PT.nil s) fun x5 s =>
 condV x5
 (some (.ret, (((.bool true), v.2), s)))
 (opt2 (oBin (int2 addO) (.v v.2) (.v (.int .i64 1)) rec PT.nil s) fun x6 s =>
 some (.norm, ((v.1, x6), s))))
 (some ((.exit 0), ((v.1, v.2), s)))
set_option maxHeartbeats 4000000 in
theorem s13_l0 (rec : Rec) (N : Nat) (fs : Frm) (s : St) : opt2 (c13_l0 rec N fs s) (fun e r => some (e, (((orU (r.1.get t2), orU (r.1.get t4)), (orU (r.1.get t0), orU (r.1.get t3))), r.2))) = opt2 (B13_l0 rec N (orU (fs.get t0), orU (fs.get t3)) (orU (fs.get t2), orU (fs.get t4)) s) fun e r => some (e, ((r.1, (orU (fs.get t0), orU (fs.get t3))), r.2)) := by
  rw [d13_l0]
  unfold D13_l0 B13_l0
  simp (maxSteps := 4000000) only [op2_op2, op2_op, op2_s, op2_cond, op2_bf, mov_v]
  first | done | kernel_rfl
def C13_l0 (rec : Rec) (N : Nat) (k : Value × Value) (e : AExit) (r : (Value × Value) × St) : Out := (fun s => exV (fun i => bif Nat.beq i 0 then (J13_r0 rec N () s)
 else (none))
 (some (oneOf [r.1.1], s)) e) r.2
theorem j13_l0 (rec : Rec) (N : Nat) (fs : Frm) (s : St) : opt2 (loopF (c13_l0 rec N) N fs s) (fun e r => opt2 (blkX 0 e r) fun e r => opt2 (thenX (c13_r0 rec N) e r) fun e r => finX [.tmp t2] e r) = opt2 (loopV (B13_l0 rec N (orU (fs.get t0), orU (fs.get t3))) N (orU (fs.get t2), orU (fs.get t4)) s) (C13_l0 rec N (orU (fs.get t0), orU (fs.get t3))) := by
  refine loop_j (fun fs => (orU (fs.get t2), orU (fs.get t4))) (fun fs => (orU (fs.get t0), orU (fs.get t3))) (B13_l0 rec N) (c13_l0 rec N) (s13_l0 rec N) (fun e r => opt2 (blkX 0 e r) fun e r => opt2 (thenX (c13_r0 rec N) e r) fun e r => finX [.tmp t2] e r) (C13_l0 rec N) ?_ ?_ N fs s
  · intro i fs s
    unfold C13_l0
    simp (maxSteps := 4000000) only [thenX_n, thenX_e, thenX_r, x_exit, x_skip, x_ret, blkX_n, blkX_r, blkX_e, finX_r, finX_n, res_n, res_t, exV_e, exV_r, op2_op2, op2_op, op2_s, op2_cond, op2_bf, mov_v, j13_r0 rec N]
    first | done | kernel_rfl
  · intro fs s
    unfold C13_l0
    simp (maxSteps := 4000000) only [thenX_n, thenX_e, thenX_r, x_exit, x_skip, x_ret, blkX_n, blkX_r, blkX_e, finX_r, finX_n, res_n, res_t, exV_e, exV_r, op2_op2, op2_op, op2_s, op2_cond, op2_bf, mov_v, j13_r0 rec N]
    first | done | kernel_rfl
def F13 (rec : Rec) (N : Nat) (a0 : Value) (s : St) : Out := opt2 (oBuildSlice 23 (rep 23 [(.string ⟨⟨[]⟩⟩)]) [(0, 1, (.v (.string ⟨⟨[105, 110, 112, 117, 116]⟩⟩))), (1, 1, (.v (.string ⟨⟨[114, 117, 108, 101]⟩⟩))), (2, 1, (.v (.string ⟨⟨[116, 97, 98, 108, 101]⟩⟩))), (3, 1, (.v (.string ⟨⟨[98, 111, 111, 108]⟩⟩))), (4, 1, (.v (.string ⟨⟨[99, 111, 117, 110, 116]⟩⟩))), (5, 1, (.v (.string ⟨⟨[109, 111, 110, 101, 121]⟩⟩))), (6, 1, (.v (.string ⟨⟨[114, 97, 116, 101]⟩⟩))), (7, 1, (.v (.string ⟨⟨[100, 97, 116, 101]⟩⟩))), (8, 1, (.v (.string ⟨⟨[109, 111, 110, 101, 121, 115]⟩⟩))), (9, 1, (.v (.string ⟨⟨[105, 102]⟩⟩))), (10, 1, (.v (.string ⟨⟨[116, 104, 101, 110]⟩⟩))), (11, 1, (.v (.string ⟨⟨[101, 108, 115, 101]⟩⟩))), (12, 1, (.v (.string ⟨⟨[97, 110, 100]⟩⟩))), (13, 1, (.v (.string ⟨⟨[111, 114]⟩⟩))), (14, 1, (.v (.string ⟨⟨[110, 111, 116]⟩⟩))), (15, 1, (.v (.string ⟨⟨[109, 105, 110]⟩⟩))), (16, 1, (.v (.string ⟨⟨[109, 97, 120]⟩⟩))), (17, 1, (.v (.string ⟨⟨[115, 117, 109]⟩⟩))), (18, 1, (.v (.string ⟨⟨[105, 110]⟩⟩))), (19, 1, (.v (.string ⟨⟨[108, 101, 110]⟩⟩))), (20, 1, (.v (.string ⟨⟨[97, 116]⟩⟩))), (21, 1, (.v (.string ⟨⟨[116, 114, 117, 101]⟩⟩))), (22, 1, (.v (.string ⟨⟨[102, 97, 108, 115, 101]⟩⟩)))] rec PT.nil s) fun x1 s =>
 opt2 (loopV (B13_l0 rec N (a0, x1)) N ((.bool false), (.int .i64 0)) s) (C13_l0 rec N (a0, x1))
theorem f13 (rec : Rec) (N : Nat) (a0 : Value) (s : St) : callF rec N c13 [a0] s = F13 rec N a0 s := by
  rw [d13]
  unfold D13 F13
  simp (maxSteps := 4000000) only [mov_v, op2_s, j13_l0 rec N]
  first | done | kernel_rfl
-- c14
def D14_l0 (rec : Rec) (N : Nat) (fs : Frm) (s : St) : OutX := opt2 (oMov (.v (orU (fs.get t3))) rec PT.nil s) fun x1 s =>
 opt2 (oMov (.v (orU (fs.get t0))) rec PT.nil s) fun x2 s =>
 opt2 (oLenS (.v x2) rec PT.nil s) fun x3 s =>
 opt2 (oBin (int2 (cmpO ltI)) (.v x1) (.v x3) rec PT.nil s) fun x4 s =>
 condV x4
 (opt2 (oMov (.v (orU (fs.get t0))) rec PT.nil s) fun x5 s =>
 opt2 (oMov (.v (orU (fs.get t3))) rec PT.nil s) fun x6 s =>
 opt2 (oIdxS (.v x5) (.v x6) rec PT.nil s) fun x7 s =>
 opt2 (oMov (.v x7) rec PT.nil s) fun x8 s =>
 opt2 (oMov (.v x8) rec PT.nil s) fun x9 s =>
 opt2 (oBin (int2 (cmpO eqI)) (.v x9) (.v (.int .u8 32)) rec PT.nil s) fun x10 s =>
 opt2 (oMov (.v x10) rec PT.nil s) fun x11 s =>
 opt (gval false x11) fun x12 => opt2 (orUndef x12 (oMov (.v x8) rec PT.nil s) s) fun x13 s =>
 opt (gval false x11) fun x14 => opt2 (orUndef x14 (oBin (int2 (cmpO eqI)) (.v x13) (.v (.int .u8 9)) rec PT.nil s) s) fun x15 s =>
 opt2 (oPick (.v x11) (.v (.bool true)) (.v x15) rec PT.nil s) fun x16 s =>
 opt2 (oMov (.v x16) rec PT.nil s) fun x17 s =>
 opt (gval false x17) fun x18 => opt2 (orUndef x18 (oMov (.v x8) rec PT.nil s) s) fun x19 s =>
 opt (gval false x17) fun x20 => opt2 (orUndef x20 (oBin (int2 (cmpO eqI)) (.v x19) (.v (.int .u8 10)) rec PT.nil s) s) fun x21 s =>
 opt2 (oPick (.v x17) (.v (.bool true)) (.v x21) rec PT.nil s) fun x22 s =>
 opt2 (oMov (.v x22) rec PT.nil s) fun x23 s =>
 opt (gval false x23) fun x24 => opt2 (orUndef x24 (oMov (.v x8) rec PT.nil s) s) fun x25 s =>
 opt (gval false x23) fun x26 => opt2 (orUndef x26 (oBin (int2 (cmpO eqI)) (.v x25) (.v (.int .u8 13)) rec PT.nil s) s) fun x27 s =>
 opt2 (oPick (.v x23) (.v (.bool true)) (.v x27) rec PT.nil s) fun x28 s =>
 opt2 (oMov (.v x28) rec PT.nil s) fun x29 s =>
 condV x29
 (opt2 (oMov (.v (orU (fs.get t3))) rec PT.nil s) fun x30 s =>
 opt2 (oBin (int2 addO) (.v x30) (.v (.int .i64 1)) rec PT.nil s) fun x31 s =>
 opt2 (oMov (.v x31) rec PT.nil s) fun x32 s =>
 some (.norm, (PT.put x32 t3 (PT.put x31 t28 (PT.put x30 t27 (PT.put x29 t12 (PT.put x28 t26 (PT.put x27 t25 (PT.put x25 t24 (PT.put x23 t23 (PT.put x22 t22 (PT.put x21 t21 (PT.put x19 t20 (PT.put x17 t19 (PT.put x16 t18 (PT.put x15 t17 (PT.put x13 t16 (PT.put x11 t15 (PT.put x10 t14 (PT.put x9 t13 (PT.put x8 t4 (PT.put x7 t11 (PT.put x6 t10 (PT.put x5 t9 (PT.put x4 t8 (PT.put x3 t7 (PT.put x2 t6 (PT.put x1 t5 fs)))))))))))))))))))))))))), s))
 (opt2 (oMov (.v x8) rec PT.nil s) fun x33 s =>
 opt2 (oBin (int2 (cmpO eqI)) (.v x33) (.v (.int .u8 35)) rec PT.nil s) fun x34 s =>
 opt2 (oMov (.v x34) rec PT.nil s) fun x35 s =>
 condV x35
 (opt2 (oMov (.v (orU (fs.get t3))) rec PT.nil s) fun x36 s =>
 opt2 (oMov (.v (orU (fs.get t0))) rec PT.nil s) fun x37 s =>
 opt2 (oMov (.v (orU (fs.get t3))) rec PT.nil s) fun x38 s =>
 opt2 (oSliceS (.v x37) (some (.v x38)) none rec PT.nil s) fun x39 s =>
 opt2 (rec 25 [x39, (.func (.func 26) #[] #[])] s) fun x40 s =>
 opt2 (oBin (int2 addO) (.v x36) (.v x40) rec PT.nil s) fun x41 s =>
 opt2 (oMov (.v x41) rec PT.nil s) fun x42 s =>
 some (.norm, (PT.put x42 t3 (PT.put x41 t37 (PT.put x40 t36 (PT.put x39 t35 (PT.put x38 t34 (PT.put x37 t33 (PT.put x36 t32 (PT.put x35 t29 (PT.put x34 t31 (PT.put x33 t30 (PT.put x29 t12 (PT.put x28 t26 (PT.put x27 t25 (PT.put x25 t24 (PT.put x23 t23 (PT.put x22 t22 (PT.put x21 t21 (PT.put x19 t20 (PT.put x17 t19 (PT.put x16 t18 (PT.put x15 t17 (PT.put x13 t16 (PT.put x11 t15 (PT.put x10 t14 (PT.put x9 t13 (PT.put x8 t4 (PT.put x7 t11 (PT.put x6 t10 (PT.put x5 t9 (PT.put x4 t8 (PT.put x3 t7 (PT.put x2 t6 (PT.put x1 t5 fs))))))))))))))))))))))))))))))))), s))
 (some ((.exit 0), (PT.put x35 t29 (PT.put x34 t31 (PT.put x33 t30 (PT.put x29 t12 (PT.put x28 t26 (PT.put x27 t25 (PT.put x25 t24 (PT.put x23 t23 (PT.put x22 t22 (PT.put x21 t21 (PT.put x19 t20 (PT.put x17 t19 (PT.put x16 t18 (PT.put x15 t17 (PT.put x13 t16 (PT.put x11 t15 (PT.put x10 t14 (PT.put x9 t13 (PT.put x8 t4 (PT.put x7 t11 (PT.put x6 t10 (PT.put x5 t9 (PT.put x4 t8 (PT.put x3 t7 (PT.put x2 t6 (PT.put x1 t5 fs)))))))))))))))))))))))))), s))))
 (some ((.exit 0), (PT.put x4 t8 (PT.put x3 t7 (PT.put x2 t6 (PT.put x1 t5 fs)))), s))
set_option maxHeartbeats 4000000 in
theorem d14_l0 (rec : Rec) (N : Nat) (fs : Frm) (s : St) : c14_l0 rec N fs s = D14_l0 rec N fs s := by
  simp (maxSteps := 4000000) only [c14_l0, lenN, x_seq, x_ops, x_skip, x_ret, x_exit, x_cond, x_block, x_loop, ops_c, ops_n, op1_u, op1_gj, rq_c, rq_n, opQ_u, opQ_g, op2_op2, op2_op, op2_s, op2_cond, thenX_n, thenX_e, thenX_r, blkX_n, blkX_r, blkX_e, finX_r, finX_n, res_n, res_t, op_s, Nat.beq_refl, cond_true]
  first | done | kernel_rfl
def D14_r0 (rec : Rec) (N : Nat) (fs : Frm) (s : St) : OutX := opt2 (oMov (.v (orU (fs.get t3))) rec PT.nil s) fun x1 s =>
 opt2 (oMov (.v x1) rec PT.nil s) fun x2 s =>
 some (.ret, (PT.put x2 t2 (PT.put x1 t38 fs)), s)
set_option maxHeartbeats 4000000 in
theorem d14_r0 (rec : Rec) (N : Nat) (fs : Frm) (s : St) : c14_r0 rec N fs s = D14_r0 rec N fs s := by
  simp (maxSteps := 4000000) only [c14_r0, lenN, x_seq, x_ops, x_skip, x_ret, x_exit, x_cond, x_block, x_loop, ops_c, ops_n, op1_u, op1_gj, rq_c, rq_n, opQ_u, opQ_g, op2_op2, op2_op, op2_s, op2_cond, thenX_n, thenX_e, thenX_r, blkX_n, blkX_r, blkX_e, finX_r, finX_n, res_n, res_t, op_s, Nat.beq_refl, cond_true]
  first | done | kernel_rfl
def D14 (rec : Rec) (N : Nat) (a0 : Value) (s : St) : Out := opt2 (oMov (.v (.int .i64 0)) rec PT.nil s) fun x1 s =>
 opt2 (oMov (.v (.int .i64 0)) rec PT.nil s) fun x2 s =>
 opt2 (loopF (c14_l0 rec N) N (PT.put x2 t3 (PT.put x1 t2 (PT.put a0 t0 PT.nil))) s) fun e r => opt2 (blkX 0 e r) fun e r => opt2 (thenX (c14_r0 rec N) e r) fun e r => finX [.tmp t2] e r
set_option maxHeartbeats 4000000 in
theorem d14 (rec : Rec) (N : Nat) (a0 : Value) (s : St) : callF rec N c14 [a0] s = D14 rec N a0 s := by
  rw [call_f _ _ _ _ _ rfl]
  simp (maxSteps := 4000000) only [c14, lenN, x_seq, x_ops, x_skip, x_ret, x_exit, x_cond, x_block, x_loop, ops_c, ops_n, op1_u, op1_gj, rq_c, rq_n, opQ_u, opQ_g, op2_op2, op2_op, op2_s, op2_cond, thenX_n, thenX_e, thenX_r, blkX_n, blkX_r, blkX_e, finX_r, finX_n, res_n, res_t, op_s, Nat.beq_refl, cond_true]
  first | done | kernel_rfl
def J14_r0 (rec : Rec) (N : Nat) (k : Value) (s : St) : Out := some (oneOf [k], s)
set_option maxHeartbeats 4000000 in
theorem j14_r0 (rec : Rec) (N : Nat) (fs : Frm) (s : St) : opt2 (c14_r0 rec N fs s) (fun e r => finX [.tmp t2] e r) = J14_r0 rec N (orU (fs.get t3)) s := by
  rw [d14_r0]
  unfold D14_r0 J14_r0
  simp (maxSteps := 4000000) only [thenX_n, thenX_e, thenX_r, x_exit, x_skip, x_ret, blkX_n, blkX_r, blkX_e, finX_r, finX_n, res_n, res_t, op2_op2, op2_op, op2_s, op2_cond, op2_bf, mov_v]
  first | done | kernel_rfl
def B14_l0 (rec : Rec) (N : Nat) (k : Value × Value) (v : Value) (s : St) : OutV (Value) := opt2 (oLenS (.v k.1) rec PT.nil s) fun x1 s =>
 opt2 (oBin (int2 (cmpO ltI)) (.v v) (.v x1) rec PT.nil s) fun x2 s =>
 condV x2
 (opt2 (oIdxS (.v k.1) (.v v) rec PT.nil s) fun x3 s =>
 opt2 (oBin (int2 (cmpO eqI)) (.v x3) (.v (.int .u8 32)) rec PT.nil s) fun x4 s =>
 opt (gval false x4) fun x5 => opt2 (orUndef x5 (some (x3, s)) s) fun x6 s =>
 opt (gval false x4) fun x7 => opt2 (orUndef x7 (oBin (int2 (cmpO eqI)) (.v x6) (.v (.int .u8 9)) rec PT.nil s) s) fun x8 s =>
 opt2 (oPick (.v x4) (.v (.bool true)) (.v x8) rec PT.nil s) fun x9 s =>
 opt (gval false x9) fun x10 => opt2 (orUndef x10 (some (x3, s)) s) fun x11 s =>
 opt (gval false x9) fun x12 => opt2 (orUndef x12 (oBin (int2 (cmpO eqI)) (.v x11) (.v (.int .u8 10)) rec PT.nil s) s) fun x13 s =>
 opt2 (oPick (.v x9) (.v (.bool true)) (.v x13) rec PT.nil s) fun x14 s =>
 opt (gval false x14) fun x15 => opt2 (orUndef x15 (some (x3, s)) s) fun x16 s =>
 opt (gval false x14) fun x17 => opt2 (orUndef x17 (oBin (int2 (cmpO eqI)) (.v x16) (.v (.int .u8 13)) rec PT.nil s) s) fun x18 s =>
 opt2 (oPick (.v x14) (.v (.bool true)) (.v x18) rec PT.nil s) fun x19 s =>
 condV x19
 (opt2 (oBin (int2 addO) (.v v) (.v (.int .i64 1)) rec PT.nil s) fun x20 s =>
 some (.norm, (x20, s)))
 (opt2 (oBin (int2 (cmpO eqI)) (.v x3) (.v (.int .u8 35)) rec PT.nil s) fun x21 s =>
 condV x21
 (opt2 (oSliceS (.v k.1) (some (.v v)) none rec PT.nil s) fun x22 s =>
 opt2 (rec 25 [x22, (.func (.func 26) #[] #[])] s) fun x23 s =>
 opt2 (oBin (int2 addO) (.v v) (.v x23) rec PT.nil s) fun x24 s =>
 some (.norm, (x24, s)))
 (some ((.exit 0), (v, s)))))
 (some ((.exit 0), (v, s)))
set_option maxHeartbeats 4000000 in
theorem s14_l0 (rec : Rec) (N : Nat) (fs : Frm) (s : St) : opt2 (c14_l0 rec N fs s) (fun e r => some (e, (((orU (r.1.get t3)), (orU (r.1.get t0), orU (r.1.get t2))), r.2))) = opt2 (B14_l0 rec N (orU (fs.get t0), orU (fs.get t2)) (orU (fs.get t3)) s) fun e r => some (e, ((r.1, (orU (fs.get t0), orU (fs.get t2))), r.2)) := by
  rw [d14_l0]
  unfold D14_l0 B14_l0
  simp (maxSteps := 4000000) only [op2_op2, op2_op, op2_s, op2_cond, op2_bf, mov_v]
  first | done | kernel_rfl
def C14_l0 (rec : Rec) (N : Nat) (k : Value × Value) (e : AExit) (r : (Value) × St) : Out := (fun s => exV (fun i => bif Nat.beq i 0 then (J14_r0 rec N r.1 s)
 else (none))
 (some (oneOf [k.2], s)) e) r.2
theorem j14_l0 (rec : Rec) (N : Nat) (fs : Frm) (s : St) : opt2 (loopF (c14_l0 rec N) N fs s) (fun e r => opt2 (blkX 0 e r) fun e r => opt2 (thenX (c14_r0 rec N) e r) fun e r => finX [.tmp t2] e r) = opt2 (loopV (B14_l0 rec N (orU (fs.get t0), orU (fs.get t2))) N (orU (fs.get t3)) s) (C14_l0 rec N (orU (fs.get t0), orU (fs.get t2))) := by
  refine loop_j (fun fs => (orU (fs.get t3))) (fun fs => (orU (fs.get t0), orU (fs.get t2))) (B14_l0 rec N) (c14_l0 rec N) (s14_l0 rec N) (fun e r => opt2 (blkX 0 e r) fun e r => opt2 (thenX (c14_r0 rec N) e r) fun e r => finX [.tmp t2] e r) (C14_l0 rec N) ?_ ?_ N fs s
  · intro i fs s
    unfold C14_l0
    simp (maxSteps := 4000000) only [thenX_n, thenX_e, thenX_r, x_exit, x_skip, x_ret, blkX_n, blkX_r, blkX_e, finX_r, finX_n, res_n, res_t, exV_e, exV_r, op2_op2, op2_op, op2_s, op2_cond, op2_bf, mov_v, j14_r0 rec N]
    first | done | kernel_rfl
  · intro fs s
    unfold C14_l0
    simp (maxSteps := 4000000) only [thenX_n, thenX_e, thenX_r, x_exit, x_skip, x_ret, blkX_n, blkX_r, blkX_e, finX_r, finX_n, res_n, res_t, exV_e, exV_r, op2_op2, op2_op, op2_s, op2_cond, op2_bf, mov_v, j14_r0 rec N]
    first | done | kernel_rfl
def F14 (rec : Rec) (N : Nat) (a0 : Value) (s : St) : Out := opt2 (loopV (B14_l0 rec N (a0, (.int .i64 0))) N (.int .i64 0) s) (C14_l0 rec N (a0, (.int .i64 0)))
theorem f14 (rec : Rec) (N : Nat) (a0 : Value) (s : St) : callF rec N c14 [a0] s = F14 rec N a0 s := by
  rw [d14]
  unfold D14 F14
  simp (maxSteps := 4000000) only [mov_v, op2_s, j14_l0 rec N]
  first | done | kernel_rfl
-- c15
def D15_j0 (rec : Rec) (N : Nat) (fs : Frm) (s : St) : OutX := opt2 (oFieldAddr 1 (.v (orU (fs.get t3))) rec PT.nil s) fun x1 s =>
 opt2 (oLoad1 (.v x1) rec PT.nil s) fun x2 s =>
 opt2 (oLenS (.v x2) rec PT.nil s) fun x3 s =>
 opt2 (oBin (int2 (cmpO gtI)) (.v x3) (.v (.int .i64 32)) rec PT.nil s) fun x4 s =>
 condV x4
 (opt2 (oBuild [(.int .i64 0), (.string ⟨⟨[]⟩⟩), (.int .i64 0), (.int .i64 0)] [] rec PT.nil s) fun x5 s =>
 opt2 (oStore 4 (.v (orU (fs.get t2))) (.v x5) rec PT.nil s) fun x6 s =>
 some (.ret, (PT.put x5 t27 (PT.put x4 t26 (PT.put x3 t25 (PT.put x2 t24 (PT.put x1 t23 fs))))), s))
 (opt2 (oLoadN 4 (.v (orU (fs.get t3))) rec PT.nil s) fun x7 s =>
 opt2 (oStore 4 (.v (orU (fs.get t2))) (.v x7) rec PT.nil s) fun x8 s =>
 some (.ret, (PT.put x7 t28 (PT.put x4 t26 (PT.put x3 t25 (PT.put x2 t24 (PT.put x1 t23 fs))))), s))
set_option maxHeartbeats 4000000 in
theorem d15_j0 (rec : Rec) (N : Nat) (fs : Frm) (s : St) : c15_j0 rec N fs s = D15_j0 rec N fs s := by
  simp (maxSteps := 4000000) only [c15_j0, lenN, x_seq, x_ops, x_skip, x_ret, x_exit, x_cond, x_block, x_loop, ops_c, ops_n, op1_u, op1_gj, rq_c, rq_n, opQ_u, opQ_g, op2_op2, op2_op, op2_s, op2_cond, thenX_n, thenX_e, thenX_r, blkX_n, blkX_r, blkX_e, finX_r, finX_n, res_n, res_t, op_s, Nat.beq_refl, cond_true]
  first | done | kernel_rfl
def D15_l0 (rec : Rec) (N : Nat) (fs : Frm) (s : St) : OutX := opt2 (oBin (int2 (cmpO ltI)) (.v (orU (fs.get t41))) (.v (orU (fs.get t40))) rec PT.nil s) fun x1 s =>
 condV x1
 (opt2 (oIdxAddrL 1 (.v (orU (fs.get t39))) (.v (orU (fs.get t41))) rec PT.nil s) fun x2 s =>
 opt2 (oLoad1 (.v x2) rec PT.nil s) fun x3 s =>
 opt2 (oMov (.v x3) rec PT.nil s) fun x4 s =>
 opt2 (oMov (.v (orU (fs.get t0))) rec PT.nil s) fun x5 s =>
 opt2 (oMov (.v x4) rec PT.nil s) fun x6 s =>
 opt2 (rec 31 [x5, x6] s) fun x7 s =>
 opt2 (oMov (.v x7) rec PT.nil s) fun x8 s =>
 opt2 (oExtract (.v x8) 0 rec PT.nil s) fun x9 s =>
 opt2 (oExtract (.v x8) 1 rec PT.nil s) fun x10 s =>
 opt2 (oMov (.v x9) rec PT.nil s) fun x11 s =>
 opt2 (oMov (.v x10) rec PT.nil s) fun x12 s =>
 opt2 (oMov (.v x11) rec PT.nil s) fun x13 s =>
 opt2 (oBin (int2 (cmpO gtI)) (.v x13) (.v (.int .i64 0)) rec PT.nil s) fun x14 s =>
 condV x14
 (opt2 (oMov (.v (orU (fs.get t0))) rec PT.nil s) fun x15 s =>
 opt2 (oMov (.v x4) rec PT.nil s) fun x16 s =>
 opt2 (rec 29 [x15, x16] s) fun x17 s =>
 opt2 (oStore 4 (.v (orU (fs.get t2))) (.v x17) rec PT.nil s) fun x18 s =>
 some (.ret, (PT.put x17 t55 (PT.put x16 t54 (PT.put x15 t53 (PT.put x14 t52 (PT.put x13 t51 (PT.put x12 t7 (PT.put x11 t6 (PT.put x10 t50 (PT.put x9 t49 (PT.put x8 t45 (PT.put x7 t48 (PT.put x6 t47 (PT.put x5 t46 (PT.put x4 t5 (PT.put x3 t44 (PT.put x2 t43 (PT.put x1 t42 fs))))))))))))))))), s))
 (opt2 (oBin (int2 addO) (.v (orU (fs.get t41))) (.v (.int .i64 1)) rec PT.nil s) fun x19 s =>
 opt2 (oMov (.v x19) rec PT.nil s) fun x20 s =>
 some (.norm, (PT.put x20 t41 (PT.put x19 t56 (PT.put x14 t52 (PT.put x13 t51 (PT.put x12 t7 (PT.put x11 t6 (PT.put x10 t50 (PT.put x9 t49 (PT.put x8 t45 (PT.put x7 t48 (PT.put x6 t47 (PT.put x5 t46 (PT.put x4 t5 (PT.put x3 t44 (PT.put x2 t43 (PT.put x1 t42 fs)))))))))))))))), s)))
 (some ((.exit 1), (PT.put x1 t42 fs), s))
set_option maxHeartbeats 4000000 in
theorem d15_l0 (rec : Rec) (N : Nat) (fs : Frm) (s : St) : c15_l0 rec N fs s = D15_l0 rec N fs s := by
  simp (maxSteps := 4000000) only [c15_l0, lenN, x_seq, x_ops, x_skip, x_ret, x_exit, x_cond, x_block, x_loop, ops_c, ops_n, op1_u, op1_gj, rq_c, rq_n, opQ_u, opQ_g, op2_op2, op2_op, op2_s, op2_cond, thenX_n, thenX_e, thenX_r, blkX_n, blkX_r, blkX_e, finX_r, finX_n, res_n, res_t, op_s, Nat.beq_refl, cond_true]
  first | done | kernel_rfl
def D15_l1 (rec : Rec) (N : Nat) (fs : Frm) (s : St) : OutX := opt2 (oBin (int2 (cmpO ltI)) (.v (orU (fs.get t59))) (.v (orU (fs.get t58))) rec PT.nil s) fun x1 s =>
 condV x1
 (opt2 (oIdxAddrL 1 (.v (orU (fs.get t57))) (.v (orU (fs.get t59))) rec PT.nil s) fun x2 s =>
 opt2 (oLoad1 (.v x2) rec PT.nil s) fun x3 s =>
 opt2 (oMov (.v x3) rec PT.nil s) fun x4 s =>
 opt2 (oMov (.v (orU (fs.get t0))) rec PT.nil s) fun x5 s =>
 opt2 (oMov (.v x4) rec PT.nil s) fun x6 s =>
 opt2 (rec 33 [x5, x6] s) fun x7 s =>
 condV x7
 (opt2 (oMov (.v x4) rec PT.nil s) fun x8 s =>
 opt2 (oBuild [(.int .i64 0), (.string ⟨⟨[]⟩⟩), (.int .i64 0), (.int .i64 0)] [(0, 1, (.v (.int .i64 7))), (1, 1, (.v x8))] rec PT.nil s) fun x9 s =>
 opt2 (oStore 4 (.v (orU (fs.get t2))) (.v x9) rec PT.nil s) fun x10 s =>
 some (.ret, (PT.put x9 t67 (PT.put x8 t66 (PT.put x7 t65 (PT.put x6 t64 (PT.put x5 t63 (PT.put x4 t9 (PT.put x3 t62 (PT.put x2 t61 (PT.put x1 t60 fs))))))))), s))
 (opt2 (oBin (int2 addO) (.v (orU (fs.get t59))) (.v (.int .i64 1)) rec PT.nil s) fun x11 s =>
 opt2 (oMov (.v x11) rec PT.nil s) fun x12 s =>
 some (.norm, (PT.put x12 t59 (PT.put x11 t68 (PT.put x7 t65 (PT.put x6 t64 (PT.put x5 t63 (PT.put x4 t9 (PT.put x3 t62 (PT.put x2 t61 (PT.put x1 t60 fs))))))))), s)))
 (some ((.exit 3), (PT.put x1 t60 fs), s))
set_option maxHeartbeats 4000000 in
theorem d15_l1 (rec : Rec) (N : Nat) (fs : Frm) (s : St) : c15_l1 rec N fs s = D15_l1 rec N fs s := by
  simp (maxSteps := 4000000) only [c15_l1, lenN, x_seq, x_ops, x_skip, x_ret, x_exit, x_cond, x_block, x_loop, ops_c, ops_n, op1_u, op1_gj, rq_c, rq_n, opQ_u, opQ_g, op2_op2, op2_op, op2_s, op2_cond, thenX_n, thenX_e, thenX_r, blkX_n, blkX_r, blkX_e, finX_r, finX_n, res_n, res_t, op_s, Nat.beq_refl, cond_true]
  first | done | kernel_rfl
def D15_r0 (rec : Rec) (N : Nat) (fs : Frm) (s : St) : OutX := opt2 (oBuild [(.int .i64 0), (.string ⟨⟨[]⟩⟩), (.int .i64 0), (.int .i64 0)] [] rec PT.nil s) fun x1 s =>
 opt2 (oStore 4 (.v (orU (fs.get t2))) (.v x1) rec PT.nil s) fun x2 s =>
 some (.ret, (PT.put x1 t69 fs), s)
set_option maxHeartbeats 4000000 in
theorem d15_r0 (rec : Rec) (N : Nat) (fs : Frm) (s : St) : c15_r0 rec N fs s = D15_r0 rec N fs s := by
  simp (maxSteps := 4000000) only [c15_r0, lenN, x_seq, x_ops, x_skip, x_ret, x_exit, x_cond, x_block, x_loop, ops_c, ops_n, op1_u, op1_gj, rq_c, rq_n, opQ_u, opQ_g, op2_op2, op2_op, op2_s, op2_cond, thenX_n, thenX_e, thenX_r, blkX_n, blkX_r, blkX_e, finX_r, finX_n, res_n, res_t, op_s, Nat.beq_refl, cond_true]
  first | done | kernel_rfl
def D15_r1 (rec : Rec) (N : Nat) (fs : Frm) (s : St) : OutX := opt2 (rec 32 [] s) fun x1 s =>
 opt2 (oLenL (.v x1) rec PT.nil s) fun x2 s =>
 opt2 (oMov (.v (.int .i64 0)) rec PT.nil s) fun x3 s =>
 opt2 (loopF (c15_l1 rec N) N (PT.put x3 t59 (PT.put x2 t58 (PT.put x1 t57 fs))) s) fun e r => opt2 (blkX 3 e r) fun e r => thenX (c15_r0 rec N) e r
set_option maxHeartbeats 4000000 in
theorem d15_r1 (rec : Rec) (N : Nat) (fs : Frm) (s : St) : c15_r1 rec N fs s = D15_r1 rec N fs s := by
  simp (maxSteps := 4000000) only [c15_r1, lenN, x_seq, x_ops, x_skip, x_ret, x_exit, x_cond, x_block, x_loop, ops_c, ops_n, op1_u, op1_gj, rq_c, rq_n, opQ_u, opQ_g, op2_op2, op2_op, op2_s, op2_cond, thenX_n, thenX_e, thenX_r, blkX_n, blkX_r, blkX_e, finX_r, finX_n, res_n, res_t, op_s, Nat.beq_refl, cond_true]
  first | done | kernel_rfl
def D15 (rec : Rec) (N : Nat) (a0 : Value) (s : St) : Out := opt2 (oNew [(.int .i64 0), (.string ⟨⟨[]⟩⟩), (.int .i64 0), (.int .i64 0)] rec PT.nil s) fun x1 s =>
 opt2 (oMov (.v a0) rec PT.nil s) fun x2 s =>
 opt2 (oIdxS (.v x2) (.v (.int .i64 0)) rec PT.nil s) fun x3 s =>
 opt2 (rec 27 [x3] s) fun x4 s =>
 opt2 (oMov (.v x4) rec PT.nil s) fun x5 s =>
 condV x5
 (opt2 (oMov (.v a0) rec PT.nil s) fun x6 s =>
 opt2 (oMov (.v a0) rec PT.nil s) fun x7 s =>
 opt2 (rec 25 [x7, (.func (.func 28) #[] #[])] s) fun x8 s =>
 opt2 (oSliceS (.v x6) none (some (.v x8)) rec PT.nil s) fun x9 s =>
 opt2 (oBuild [(.int .i64 0), (.string ⟨⟨[]⟩⟩), (.int .i64 0), (.int .i64 0)] [(0, 1, (.v (.int .i64 1))), (1, 1, (.v x9))] rec PT.nil s) fun x10 s =>
 opt2 (oNew [(.int .i64 0), (.string ⟨⟨[]⟩⟩), (.int .i64 0), (.int .i64 0)] rec PT.nil s) fun x11 s =>
 opt2 (oStore 4 (.v x11) (.v x10) rec PT.nil s) fun x12 s =>
 opt2 (oFieldAddr 1 (.v x11) rec PT.nil s) fun x13 s =>
 opt2 (oLoad1 (.v x13) rec PT.nil s) fun x14 s =>
 opt2 (rec 12 [x14] s) fun x15 s =>
 condV x15
 (opt2 (oFieldAddr 0 (.v x11) rec PT.nil s) fun x16 s =>
 opt2 (oStore 1 (.v x16) (.v (.int .i64 2)) rec PT.nil s) fun x17 s =>
 opt2 (c15_j0 rec N (PT.put x16 t22 (PT.put x15 t21 (PT.put x14 t20 (PT.put x13 t19 (PT.put x11 t3 (PT.put x10 t18 (PT.put x9 t17 (PT.put x8 t16 (PT.put x7 t15 (PT.put x6 t14 (PT.put x5 t10 (PT.put x4 t13 (PT.put x3 t12 (PT.put x2 t11 (PT.put x1 t2 (PT.put a0 t0 PT.nil)))))))))))))))) s) fun e r => opt2 (blkX 0 e r) fun e r => opt2 (thenX (c15_r1 rec N) e r) fun e r => finX [.cell t2 (some 4)] e r)
 (opt2 (c15_j0 rec N (PT.put x15 t21 (PT.put x14 t20 (PT.put x13 t19 (PT.put x11 t3 (PT.put x10 t18 (PT.put x9 t17 (PT.put x8 t16 (PT.put x7 t15 (PT.put x6 t14 (PT.put x5 t10 (PT.put x4 t13 (PT.put x3 t12 (PT.put x2 t11 (PT.put x1 t2 (PT.put a0 t0 PT.nil))))))))))))))) s) fun e r => opt2 (blkX 0 e r) fun e r => opt2 (thenX (c15_r1 rec N) e r) fun e r => finX [.cell t2 (some 4)] e r))
 (opt2 (oMov (.v a0) rec PT.nil s) fun x18 s =>
 opt2 (oIdxS (.v x18) (.v (.int .i64 0)) rec PT.nil s) fun x19 s =>
 opt2 (oBin (int2 (cmpO eqI)) (.v x19) (.v (.int .u8 36)) rec PT.nil s) fun x20 s =>
 opt2 (oMov (.v x20) rec PT.nil s) fun x21 s =>
 condV x21
 (opt2 (oMov (.v a0) rec PT.nil s) fun x22 s =>
 opt2 (rec 29 [x22, (.int .i64 4)] s) fun x23 s =>
 opt2 (oStore 4 (.v x1) (.v x23) rec PT.nil s) fun x24 s =>
 finX [.cell t2 (some 4)] .ret ((PT.put x23 t34 (PT.put x22 t33 (PT.put x21 t29 (PT.put x20 t32 (PT.put x19 t31 (PT.put x18 t30 (PT.put x5 t10 (PT.put x4 t13 (PT.put x3 t12 (PT.put x2 t11 (PT.put x1 t2 (PT.put a0 t0 PT.nil)))))))))))), s))
 (opt2 (oMov (.v a0) rec PT.nil s) fun x25 s =>
 opt2 (oIdxS (.v x25) (.v (.int .i64 0)) rec PT.nil s) fun x26 s =>
 opt2 (rec 30 [x26] s) fun x27 s =>
 opt2 (oMov (.v x27) rec PT.nil s) fun x28 s =>
 condV x28
 (opt2 (oBuildSlice 3 [(.int .i64 0), (.int .i64 0), (.int .i64 0)] [(0, 1, (.v (.int .i64 6))), (1, 1, (.v (.int .i64 5))), (2, 1, (.v (.int .i64 3)))] rec PT.nil s) fun x29 s =>
 opt2 (oLenL (.v x29) rec PT.nil s) fun x30 s =>
 opt2 (oMov (.v (.int .i64 0)) rec PT.nil s) fun x31 s =>
 opt2 (loopF (c15_l0 rec N) N (PT.put x31 t41 (PT.put x30 t40 (PT.put x29 t39 (PT.put x28 t35 (PT.put x27 t38 (PT.put x26 t37 (PT.put x25 t36 (PT.put x21 t29 (PT.put x20 t32 (PT.put x19 t31 (PT.put x18 t30 (PT.put x5 t10 (PT.put x4 t13 (PT.put x3 t12 (PT.put x2 t11 (PT.put x1 t2 (PT.put a0 t0 PT.nil))))))))))))))))) s) fun e r => opt2 (blkX 1 e r) fun e r => opt2 (blkX 0 e r) fun e r => opt2 (thenX (c15_r1 rec N) e r) fun e r => finX [.cell t2 (some 4)] e r)
 (opt2 (c15_r1 rec N (PT.put x28 t35 (PT.put x27 t38 (PT.put x26 t37 (PT.put x25 t36 (PT.put x21 t29 (PT.put x20 t32 (PT.put x19 t31 (PT.put x18 t30 (PT.put x5 t10 (PT.put x4 t13 (PT.put x3 t12 (PT.put x2 t11 (PT.put x1 t2 (PT.put a0 t0 PT.nil)))))))))))))) s) fun e r => finX [.cell t2 (some 4)] e r)))
set_option maxHeartbeats 4000000 in
theorem d15 (rec : Rec) (N : Nat) (a0 : Value) (s : St) : callF rec N c15 [a0] s = D15 rec N a0 s := by
  rw [call_f _ _ _ _ _ rfl]
  simp (maxSteps := 4000000) only [c15, lenN, x_seq, x_ops, x_skip, x_ret, x_exit, x_cond, x_block, x_loop, ops_c, ops_n, op1_u, op1_gj, rq_c, rq_n, opQ_u, opQ_g, op2_op2, op2_op, op2_s, op2_cond, thenX_n, thenX_e, thenX_r, blkX_n, blkX_r, blkX_e, finX_r, finX_n, res_n, res_t, op_s, Nat.beq_refl, cond_true]
  first | done | kernel_rfl
def J15_j0 (rec : Rec) (N : Nat) (k : Value × Value) (s : St) : Out := opt2 (oFieldAddr 1 (.v k.2) rec PT.nil s) fun x1 s =>
 opt2 (oLoad1 (.v x1) rec PT.nil s) fun x2 s =>
 opt2 (oLenS (.v x2) rec PT.nil s) fun x3 s =>
 opt2 (oBin (int2 (cmpO gtI)) (.v x3) (.v (.int .i64 32)) rec PT.nil s) fun x4 s =>
 condV x4
 (opt2 (oBuild [(.int .i64 0), (.string ⟨⟨[]⟩⟩), (.int .i64 0), (.int .i64 0)] [] rec PT.nil s) fun x5 s =>
 opt2 (oStore 4 (.v k.1) (.v x5) rec PT.nil s) fun x6 s =>
 finX [.cell t2 (some 4)] .ret ((PT.put k.1 t2 PT.nil), s))
 (opt2 (oLoadN 4 (.v k.2) rec PT.nil s) fun x7 s =>
 opt2 (oStore 4 (.v k.1) (.v x7) rec PT.nil s) fun x8 s =>
 finX [.cell t2 (some 4)] .ret ((PT.put k.1 t2 PT.nil), s))
set_option maxHeartbeats 4000000 in
theorem j15_j0 (rec : Rec) (N : Nat) (fs : Frm) (s : St) : opt2 (c15_j0 rec N fs s) (fun e r => opt2 (blkX 0 e r) fun e r => opt2 (thenX (c15_r1 rec N) e r) fun e r => finX [.cell t2 (some 4)] e r) = J15_j0 rec N (orU (fs.get t2), orU (fs.get t3)) s := by
  rw [d15_j0]
  unfold D15_j0 J15_j0
  simp (maxSteps := 4000000) only [thenX_n, thenX_e, thenX_r, x_exit, x_skip, x_ret, blkX_n, blkX_r, blkX_e, finX_r, finX_n, res_n, res_t, op2_op2, op2_op, op2_s, op2_cond, op2_bf, mov_v]
  first | done | kernel_rfl
def J15_r0 (rec : Rec) (N : Nat) (k : Value) (s : St) : Out := opt2 (oBuild [(.int .i64 0), (.string ⟨⟨[]⟩⟩), (.int .i64 0), (.int .i64 0)] [] rec PT.nil s) fun x1 s =>
 opt2 (oStore 4 (.v k) (.v x1) rec PT.nil s) fun x2 s =>
 finX [.cell t2 (some 4)] .ret ((PT.put k t2 PT.nil), s)
set_option maxHeartbeats 4000000 in
theorem j15_r0 (rec : Rec) (N : Nat) (fs : Frm) (s : St) : opt2 (c15_r0 rec N fs s) (fun e r => finX [.cell t2 (some 4)] e r) = J15_r0 rec N (orU (fs.get t2)) s := by
  rw [d15_r0]
  unfold D15_r0 J15_r0
  simp (maxSteps := 4000000) only [thenX_n, thenX_e, thenX_r, x_exit, x_skip, x_ret, blkX_n, blkX_r, blkX_e, finX_r, finX_n, res_n, res_t, op2_op2, op2_op, op2_s, op2_cond, op2_bf, mov_v]
  first | done | kernel_rfl
def B15_l1 (rec : Rec) (N : Nat) (k : Value × Value × Value × Value) (v : Value) (s : St) : OutV (Value) := opt2 (oBin (int2 (cmpO ltI)) (.v v) (.v k.2.2.2) rec PT.nil s) fun x1 s =>
 condV x1
 (opt2 (oIdxAddrL 1 (.v k.2.2.1) (.v v) rec PT.nil s) fun x2 s =>
 opt2 (oLoad1 (.v x2) rec PT.nil s) fun x3 s =>
 opt2 (rec 33 [k.1, x3] s) fun x4 s =>
 condV x4
 (opt2 (oBuild [(.int .i64 0), (.string ⟨⟨[]⟩⟩), (.int .i64 0), (.int .i64 0)] [(0, 1, (.v (.int .i64 7))), (1, 1, (.v x3))] rec PT.nil s) fun x5 s =>
 opt2 (oStore 4 (.v k.2.1) (.v x5) rec PT.nil s) fun x6 s =>
 some (.ret, (v, s)))
 (opt2 (oBin (int2 addO) (.v v) (.v (.int .i64 1)) rec PT.nil s) fun x7 s =>
 some (.norm, (x7, s))))
 (some ((.exit 3), (v, s)))
set_option maxHeartbeats 4000000 in
theorem s15_l1 (rec : Rec) (N : Nat) (fs : Frm) (s : St) : opt2 (c15_l1 rec N fs s) (fun e r => some (e, (((orU (r.1.get t59)), (orU (r.1.get t0), orU (r.1.get t2), orU (r.1.get t57), orU (r.1.get t58))), r.2))) = opt2 (B15_l1 rec N (orU (fs.get t0), orU (fs.get t2), orU (fs.get t57), orU (fs.get t58)) (orU (fs.get t59)) s) fun e r => some (e, ((r.1, (orU (fs.get t0), orU (fs.get t2), orU (fs.get t57), orU (fs.get t58))), r.2)) := by
  rw [d15_l1]
  unfold D15_l1 B15_l1
  simp (maxSteps := 4000000) only [op2_op2, op2_op, op2_s, op2_cond, op2_bf, mov_v]
  first | done | kernel_rfl
def C15_l1 (rec : Rec) (N : Nat) (k : Value × Value × Value × Value) (e : AExit) (r : (Value) × St) : Out := (fun s => exV (fun i => bif Nat.beq i 3 then (J15_r0 rec N k.2.1 s)
 else (none))
 (finX [.cell t2 (some 4)] .ret ((PT.put k.2.1 t2 PT.nil), s)) e) r.2
theorem j15_l1 (rec : Rec) (N : Nat) (fs : Frm) (s : St) : opt2 (loopF (c15_l1 rec N) N fs s) (fun e r => opt2 (blkX 3 e r) fun e r => opt2 (thenX (c15_r0 rec N) e r) fun e r => finX [.cell t2 (some 4)] e r) = opt2 (loopV (B15_l1 rec N (orU (fs.get t0), orU (fs.get t2), orU (fs.get t57), orU (fs.get t58))) N (orU (fs.get t59)) s) (C15_l1 rec N (orU (fs.get t0), orU (fs.get t2), orU (fs.get t57), orU (fs.get t58))) := by
  refine loop_j (fun fs => (orU (fs.get t59))) (fun fs => (orU (fs.get t0), orU (fs.get t2), orU (fs.get t57), orU (fs.get t58))) (B15_l1 rec N) (c15_l1 rec N) (s15_l1 rec N) (fun e r => opt2 (blkX 3 e r) fun e r => opt2 (thenX (c15_r0 rec N) e r) fun e r => finX [.cell t2 (some 4)] e r) (C15_l1 rec N) ?_ ?_ N fs s
  · intro i fs s
    unfold C15_l1
    simp (maxSteps := 4000000) only [thenX_n, thenX_e, thenX_r, x_exit, x_skip, x_ret, blkX_n, blkX_r, blkX_e, finX_r, finX_n, res_n, res_t, exV_e, exV_r, op2_op2, op2_op, op2_s, op2_cond, op2_bf, mov_v, j15_r0 rec N]
    first | done | kernel_rfl
  · intro fs s
    unfold C15_l1
    simp (maxSteps := 4000000) only [thenX_n, thenX_e, thenX_r, x_exit, x_skip, x_ret, blkX_n, blkX_r, blkX_e, finX_r, finX_n, res_n, res_t, exV_e, exV_r, op2_op2, op2_op, op2_s, op2_cond, op2_bf, mov_v, j15_r0 rec N]
    first | done | kernel_rfl
def J15_r1 (rec : Rec) (N : Nat) (k : Value × Value) (s : St) : Out := opt2 (rec 32 [] s) fun x1 s =>
 opt2 (oLenL (.v x1) rec PT.nil s) fun x2 s =>
 opt2 (loopV (B15_l1 rec N (k.1, k.2, x1, x2)) N (.int .i64 0) s) (C15_l1 rec N (k.1, k.2, x1, x2))
set_option maxHeartbeats 4000000 in
theorem j15_r1 (rec : Rec) (N : Nat) (fs : Frm) (s : St) : opt2 (c15_r1 rec N fs s) (fun e r => finX [.cell t2 (some 4)] e r) = J15_r1 rec N (orU (fs.get t0), orU (fs.get t2)) s := by
  rw [d15_r1]
  unfold D15_r1 J15_r1
  simp (maxSteps := 4000000) only [thenX_n, thenX_e, thenX_r, x_exit, x_skip, x_ret, blkX_n, blkX_r, blkX_e, finX_r, finX_n, res_n, res_t, op2_op2, op2_op, op2_s, op2_cond, op2_bf, mov_v, j15_l1 rec N]
  first | done | kernel_rfl
def B15_l0 (rec : Rec) (N : Nat) (k : Value × Value × Value × Value) (v : Value) (s : St) : OutV (Value) := opt2 (oBin (int2 (cmpO ltI)) (.v v) (.v k.2.2.2) rec PT.nil s) fun x1 s =>
 condV x1
 (opt2 (oIdxAddrL 1 (.v k.2.2.1) (.v v) rec PT.nil s) fun x2 s =>
 opt2 (oLoad1 (.v x2) rec PT.nil s) fun x3 s =>
 opt2 (rec 31 [k.1, x3] s) fun x4 s =>
 opt2 (oExtract (.v x4) 0 rec PT.nil s) fun x5 s =>
 opt2 (oExtract (.v x4) 1 rec PT.nil s) fun x6 s =>
 opt2 (oBin (int2 (cmpO gtI)) (.v x5) (.v (.int .i64 0)) rec PT.nil s) fun x7 s =>
 condV x7
 (opt2 (rec 29 [k.1, x3] s) fun x8 s =>
 opt2 (oStore 4 (.v k.2.1) (.v x8) rec PT.nil s) fun x9 s =>
 some (.ret, (v, s)))
 (opt2 (oBin (int2 addO) (.v v) (.v (.int .i64 1)) rec PT.nil s) fun x10 s =>
 some (.norm, (x10, s))))
 (some ((.exit 1), (v, s)))
set_option maxHeartbeats 4000000 in
theorem s15_l0 (rec : Rec) (N : Nat) (fs : Frm) (s : St) : opt2 (c15_l0 rec N fs s) (fun e r => some (e, (((orU (r.1.get t41)), (orU (r.1.get t0), orU (r.1.get t2), orU (r.1.get t39), orU (r.1.get t40))), r.2))) = opt2 (B15_l0 rec N (orU (fs.get t0), orU (fs.get t2), orU (fs.get t39), orU (fs.get t40)) (orU (fs.get t41)) s) fun e r => some (e, ((r.1, (orU (fs.get t0), orU (fs.get t2), orU (fs.get t39), orU (fs.get t40))), r.2)) := by
  rw [d15_l0]
  unfold D15_l0 B15_l0
  simp (maxSteps := 4000000) only [op2_op2, op2_op, op2_s, op2_cond, op2_bf, mov_v]
  first | done | kernel_rfl
def C15_l0 (rec : Rec) (N : Nat) (k : Value × Value × Value × Value) (e : AExit) (r : (Value) × St) : Out := (fun s => exV (fun i => bif Nat.beq i 1 then (J15_r1 rec N (k.1, k.2.1) s)
 else (bif Nat.beq i 0 then (J15_r1 rec N (k.1, k.2.1) s)
 else (none)))
 (finX [.cell t2 (some 4)] .ret ((PT.put k.2.1 t2 PT.nil), s)) e) r.2
theorem j15_l0 (rec : Rec) (N : Nat) (fs : Frm) (s : St) : opt2 (loopF (c15_l0 rec N) N fs s) (fun e r => opt2 (blkX 1 e r) fun e r => opt2 (blkX 0 e r) fun e r => opt2 (thenX (c15_r1 rec N) e r) fun e r => finX [.cell t2 (some 4)] e r) = opt2 (loopV (B15_l0 rec N (orU (fs.get t0), orU (fs.get t2), orU (fs.get t39), orU (fs.get t40))) N (orU (fs.get t41)) s) (C15_l0 rec N (orU (fs.get t0), orU (fs.get t2), orU (fs.get t39), orU (fs.get t40))) := by
  refine loop_j (fun fs => (orU (fs.get t41))) (fun fs => (orU (fs.get t0), orU (fs.get t2), orU (fs.get t39), orU (fs.get t40))) (B15_l0 rec N) (c15_l0 rec N) (s15_l0 rec N) (fun e r => opt2 (blkX 1 e r) fun e r => opt2 (blkX 0 e r) fun e r => opt2 (thenX (c15_r1 rec N) e r) fun e r => finX [.cell t2 (some 4)] e r) (C15_l0 rec N) ?_ ?_ N fs s
  · intro i fs s
    unfold C15_l0
    simp (maxSteps := 4000000) only [thenX_n, thenX_e, thenX_r, x_exit, x_skip, x_ret, blkX_n, blkX_r, blkX_e, finX_r, finX_n, res_n, res_t, exV_e, exV_r, op2_op2, op2_op, op2_s, op2_cond, op2_bf, mov_v, j15_r1 rec N]
    first | done | kernel_rfl
  · intro fs s
    unfold C15_l0
    simp (maxSteps := 4000000) only [thenX_n, thenX_e, thenX_r, x_exit, x_skip, x_ret, blkX_n, blkX_r, blkX_e, finX_r, finX_n, res_n, res_t, exV_e, exV_r, op2_op2, op2_op, op2_s, op2_cond, op2_bf, mov_v, j15_r1 rec N]
    first | done | kernel_rfl
def F15 (rec : Rec) (N : Nat) (a0 : Value) (s : St) : Out := opt2 (oNew [(.int .i64 0), (.string ⟨⟨[]⟩⟩), (.int .i64 0), (.int .i64 0)] rec PT.nil s) fun x1 s =>
 opt2 (oIdxS (.v a0) (.v (.int .i64 0)) rec PT.nil s) fun x2 s =>
 opt2 (rec 27 [x2] s) fun x3 s =>
 condV x3
 (opt2 (rec 25 [a0, (.func (.func 28) #[] #[])] s) fun x4 s =>
 opt2 (oSliceS (.v a0) none (some (.v x4)) rec PT.nil s) fun x5 s =>
 opt2 (oBuild [(.int .i64 0), (.string ⟨⟨[]⟩⟩), (.int .i64 0), (.int .i64 0)] [(0, 1, (.v (.int .i64 1))), (1, 1, (.v x5))] rec PT.nil s) fun x6 s =>
 opt2 (oNew [(.int .i64 0), (.string ⟨⟨[]⟩⟩), (.int .i64 0), (.int .i64 0)] rec PT.nil s) fun x7 s =>
 opt2 (oStore 4 (.v x7) (.v x6) rec PT.nil s) fun x8 s =>
 opt2 (oFieldAddr 1 (.v x7) rec PT.nil s) fun x9 s =>
 opt2 (oLoad1 (.v x9) rec PT.nil s) fun x10 s =>
 opt2 (rec 12 [x10] s) fun x11 s =>
 condV x11
 (opt2 (oFieldAddr 0 (.v x7) rec PT.nil s) fun x12 s =>
 opt2 (oStore 1 (.v x12) (.v (.int .i64 2)) rec PT.nil s) fun x13 s =>
 J15_j0 rec N (x1, x7) s)
 (J15_j0 rec N (x1, x7) s))
 (opt2 (oIdxS (.v a0) (.v (.int .i64 0)) rec PT.nil s) fun x14 s =>
 opt2 (oBin (int2 (cmpO eqI)) (.v x14) (.v (.int .u8 36)) rec PT.nil s) fun x15 s =>
 condV x15
 (opt2 (rec 29 [a0, (.int .i64 4)] s) fun x16 s =>
 opt2 (oStore 4 (.v x1) (.v x16) rec PT.nil s) fun x17 s =>
 finX [.cell t2 (some 4)] .ret ((PT.put x1 t2 PT.nil), s))
 (opt2 (oIdxS (.v a0) (.v (.int .i64 0)) rec PT.nil s) fun x18 s =>
 opt2 (rec 30 [x18] s) fun x19 s =>
 condV x19
 (opt2 (oBuildSlice 3 [(.int .i64 0), (.int .i64 0), (.int .i64 0)] [(0, 1, (.v (.int .i64 6))), (1, 1, (.v (.int .i64 5))), (2, 1, (.v (.int .i64 3)))] rec PT.nil s) fun x20 s =>
 opt2 (oLenL (.v x20) rec PT.nil s) fun x21 s =>
 opt2 (loopV (B15_l0 rec N (a0, x1, x20, x21)) N (.int .i64 0) s) (C15_l0 rec N (a0, x1, x20, x21)))
 (J15_r1 rec N (a0, x1) s)))
theorem f15 (rec : Rec) (N : Nat) (a0 : Value) (s : St) : callF rec N c15 [a0] s = F15 rec N a0 s := by
  rw [d15]
  unfold D15 F15
  simp (maxSteps := 4000000) only [mov_v, op2_s, j15_j0 rec N, j15_l0 rec N, j15_r1 rec N]
  first | done | kernel_rfl
end
end Go.Proofs.Ytikdjhlcbkkkfaa.AbsLexO
