import Derived.Test.YtdnedangfnincaaAbsAccOE
import Derived.Test.YtdnedangfnincaaAbsZL
namespace Go.Proofs.Ytdnedangfnincaa.AbsAccO
open Go Go.Abs Go.Proofs
set_option maxRecDepth 100000
set_option linter.unusedVariables false
set_option linter.unusedSimpArgs false
noncomputable section
-- c7
def D7_q0 (rec : Rec) (fs : Frm) (s : St) : Option (Frm × St) := opt2 (oMov (.v (orU (fs.get t35))) rec PT.nil s) fun x1 s =>
 opt (gval false x1) fun x2 => opt2 (orUndef x2 (oMov (.v (orU (fs.get t2))) rec PT.nil s) s) fun x3 s =>
 opt (gval false x1) fun x4 => opt2 (orUndef x4 (oLenL (.v x3) rec PT.nil s) s) fun x5 s =>
 opt (gval false x1) fun x6 => opt2 (orUndef x6 (oBin (int2 (cmpO gtI)) (.v x5) (.v (.int .i64 30)) rec PT.nil s) s) fun x7 s =>
 opt2 (oPick (.v x1) (.v (.bool true)) (.v x7) rec PT.nil s) fun x8 s =>
 opt2 (oMov (.v x8) rec PT.nil s) fun x9 s =>
 opt (gval false x9) fun x10 => opt2 (orUndef x10 (oMov (.v (orU (fs.get t3))) rec PT.nil s) s) fun x11 s =>
 opt (gval false x9) fun x12 => opt2 (orUndef x12 (oBin (int2 (cmpO ltI)) (.v x11) (.v (.int .i64 0)) rec PT.nil s) s) fun x13 s =>
 opt2 (oPick (.v x9) (.v (.bool true)) (.v x13) rec PT.nil s) fun x14 s =>
 opt2 (oMov (.v x14) rec PT.nil s) fun x15 s =>
 opt (gval false x15) fun x16 => opt2 (orUndef x16 (oMov (.v (orU (fs.get t3))) rec PT.nil s) s) fun x17 s =>
 opt (gval false x15) fun x18 => opt2 (orUndef x18 (oBin (int2 (cmpO gtI)) (.v x17) (.v (.int .i64 109572)) rec PT.nil s) s) fun x19 s =>
 opt2 (oPick (.v x15) (.v (.bool true)) (.v x19) rec PT.nil s) fun x20 s =>
 some ((PT.put x20 t48 (PT.put x19 t47 (PT.put x17 t46 (PT.put x15 t45 (PT.put x14 t44 (PT.put x13 t43 (PT.put x11 t42 (PT.put x9 t41 (PT.put x8 t40 (PT.put x7 t39 (PT.put x5 t38 (PT.put x3 t37 (PT.put x1 t36 fs))))))))))))), s)
set_option maxHeartbeats 4000000 in
theorem d7_q0 (rec : Rec) (fs : Frm) (s : St) : runOps rec c7_q0 fs s = D7_q0 rec fs s := by
  simp (maxSteps := 4000000) only [c7_q0, ops_c, ops_n, op1_u, op1_gj, rq_c, rq_n, opQ_u, opQ_g, op2_op2, op2_op, op2_s]
  first | done | kernel_rfl
def D7_q1 (rec : Rec) (fs : Frm) (s : St) : Option (Frm × St) := opt2 (oPick (.v (orU (fs.get t122))) (.v (orU (fs.get t126))) (.v (.bool false)) rec PT.nil s) fun x1 s =>
 opt2 (oMov (.v x1) rec PT.nil s) fun x2 s =>
 opt (gval true x2) fun x3 => opt2 (orUndef x3 (oMov (.v (orU (fs.get t17))) rec PT.nil s) s) fun x4 s =>
 opt (gval true x2) fun x5 => opt2 (orUndef x5 (rec 33 [x4] s) s) fun x6 s =>
 opt (gval true x2) fun x7 => opt2 (orUndef x7 (oField none 1 (.v x6) rec PT.nil s) s) fun x8 s =>
 opt (gval true x2) fun x9 => opt2 (orUndef x9 (oBin (int2 (cmpO eqI)) (.v x8) (.v (.int .u64 0)) rec PT.nil s) s) fun x10 s =>
 opt2 (oPick (.v x2) (.v x10) (.v (.bool false)) rec PT.nil s) fun x11 s =>
 opt2 (oMov (.v x11) rec PT.nil s) fun x12 s =>
 some ((PT.put x12 t8 (PT.put x11 t133 (PT.put x10 t132 (PT.put x8 t131 (PT.put x6 t130 (PT.put x4 t129 (PT.put x2 t128 (PT.put x1 t127 fs)))))))), s)
set_option maxHeartbeats 4000000 in
theorem d7_q1 (rec : Rec) (fs : Frm) (s : St) : runOps rec c7_q1 fs s = D7_q1 rec fs s := by
  simp (maxSteps := 4000000) only [c7_q1, ops_c, ops_n, op1_u, op1_gj, rq_c, rq_n, opQ_u, opQ_g, op2_op2, op2_op, op2_s]
  first | done | kernel_rfl
def D7_q2 (rec : Rec) (fs : Frm) (s : St) : Option (Frm × St) := opt (gval true (orU (fs.get t109))) fun x1 => opt2 (orUndef x1 (rec 33 [(orU (fs.get t112))] s) s) fun x2 s =>
 opt (gval true (orU (fs.get t109))) fun x3 => opt2 (orUndef x3 (oEqs false [(0, eqN), (1, eqN)] (.v (orU (fs.get t111))) (.v x2) rec PT.nil s) s) fun x4 s =>
 opt2 (oPick (.v (orU (fs.get t109))) (.v x4) (.v (.bool false)) rec PT.nil s) fun x5 s =>
 opt2 (oMov (.v x5) rec PT.nil s) fun x6 s =>
 opt (gval true x6) fun x7 => opt2 (orUndef x7 (oMov (.v (orU (fs.get t10))) rec PT.nil s) s) fun x8 s =>
 opt (gval true x6) fun x9 => opt2 (orUndef x9 (rec 30 [x8] s) s) fun x10 s =>
 opt (gval true x6) fun x11 => opt2 (orUndef x11 (oMov (.v (orU (fs.get t3))) rec PT.nil s) s) fun x12 s =>
 opt (gval true x6) fun x13 => opt2 (orUndef x13 (oBin (int2 (cmpO eqI)) (.v x10) (.v x12) rec PT.nil s) s) fun x14 s =>
 opt2 (oPick (.v x6) (.v x14) (.v (.bool false)) rec PT.nil s) fun x15 s =>
 opt2 (oMov (.v x15) rec PT.nil s) fun x16 s =>
 opt (gval true x16) fun x17 => opt2 (orUndef x17 (oMov (.v (orU (fs.get t17))) rec PT.nil s) s) fun x18 s =>
 opt (gval true x16) fun x19 => opt2 (orUndef x19 (rec 33 [x18] s) s) fun x20 s =>
 opt (gval true x16) fun x21 => opt2 (orUndef x21 (oField none 0 (.v x20) rec PT.nil s) s) fun x22 s =>
 opt (gval true x16) fun x23 => opt2 (orUndef x23 (oBin (int2 (cmpO eqI)) (.v x22) (.v (.int .i64 0)) rec PT.nil s) s) fun x24 s =>
 runOps rec c7_q1 (PT.put x24 t126 (PT.put x22 t125 (PT.put x20 t124 (PT.put x18 t123 (PT.put x16 t122 (PT.put x15 t121 (PT.put x14 t120 (PT.put x12 t119 (PT.put x10 t118 (PT.put x8 t117 (PT.put x6 t116 (PT.put x5 t115 (PT.put x4 t114 (PT.put x2 t113 fs)))))))))))))) s
set_option maxHeartbeats 4000000 in
theorem d7_q2 (rec : Rec) (fs : Frm) (s : St) : runOps rec c7_q2 fs s = D7_q2 rec fs s := by
  simp (maxSteps := 4000000) only [c7_q2, ops_c, ops_n, op1_u, op1_gj, rq_c, rq_n, opQ_u, opQ_g, op2_op2, op2_op, op2_s]
  first | done | kernel_rfl
def D7_j0 (rec : Rec) (N : Nat) (fs : Frm) (s : St) : OutX := condV (orU (fs.get t48))
 (opt2 (oMov (.v (.bool true)) rec PT.nil s) fun x1 s =>
 some (.ret, (PT.put x1 t8 fs), s))
 (some (.norm, fs, s))
set_option maxHeartbeats 4000000 in
theorem d7_j0 (rec : Rec) (N : Nat) (fs : Frm) (s : St) : c7_j0 rec N fs s = D7_j0 rec N fs s := by
  simp (maxSteps := 4000000) only [c7_j0, lenN, x_seq, x_ops, x_skip, x_ret, x_exit, x_cond, x_block, x_loop, ops_c, ops_n, op1_u, op1_gj, rq_c, rq_n, opQ_u, opQ_g, op2_op2, op2_op, op2_s, op2_cond, thenX_n, thenX_e, thenX_r, blkX_n, blkX_r, blkX_e, finX_r, finX_n, res_n, res_t, op_s, Nat.beq_refl, cond_true]
  first | done | kernel_rfl
def D7_l0 (rec : Rec) (N : Nat) (fs : Frm) (s : St) : OutX := opt2 (oMov (.v (orU (fs.get t14))) rec PT.nil s) fun x1 s =>
 opt2 (oMov (.v (orU (fs.get t2))) rec PT.nil s) fun x2 s =>
 opt2 (oLenL (.v x2) rec PT.nil s) fun x3 s =>
 opt2 (oBin (int2 (cmpO ltI)) (.v x1) (.v x3) rec PT.nil s) fun x4 s =>
 condV x4
 (opt2 (oMov (.v (orU (fs.get t2))) rec PT.nil s) fun x5 s =>
 opt2 (oMov (.v (orU (fs.get t14))) rec PT.nil s) fun x6 s =>
 opt2 (oIdxAddrL 1 (.v x5) (.v x6) rec PT.nil s) fun x7 s =>
 opt2 (oLoad1 (.v x7) rec PT.nil s) fun x8 s =>
 opt2 (oMov (.v (orU (fs.get t3))) rec PT.nil s) fun x9 s =>
 opt2 (oBin (int2 (cmpO leI)) (.v x8) (.v x9) rec PT.nil s) fun x10 s =>
 condV x10
 (opt2 (oMov (.v (orU (fs.get t10))) rec PT.nil s) fun x11 s =>
 opt2 (oMov (.v (orU (fs.get t9))) rec PT.nil s) fun x12 s =>
 opt2 (oMov (.v (orU (fs.get t2))) rec PT.nil s) fun x13 s =>
 opt2 (oMov (.v (orU (fs.get t14))) rec PT.nil s) fun x14 s =>
 opt2 (oIdxAddrL 1 (.v x13) (.v x14) rec PT.nil s) fun x15 s =>
 opt2 (oLoad1 (.v x15) rec PT.nil s) fun x16 s =>
 opt2 (rec 13 [x11, x12, x16] s) fun x17 s =>
 opt2 (oMov (.v (orU (fs.get t14))) rec PT.nil s) fun x18 s =>
 opt2 (oBin (int2 addO) (.v x18) (.v (.int .i64 1)) rec PT.nil s) fun x19 s =>
 opt2 (oMov (.v x19) rec PT.nil s) fun x20 s =>
 some (.norm, (PT.put x20 t14 (PT.put x19 t68 (PT.put x18 t67 (PT.put x17 t81 (PT.put x16 t80 (PT.put x15 t79 (PT.put x14 t78 (PT.put x13 t77 (PT.put x12 t76 (PT.put x11 t75 (PT.put x10 t74 (PT.put x9 t73 (PT.put x8 t72 (PT.put x7 t71 (PT.put x6 t70 (PT.put x5 t69 (PT.put x4 t66 (PT.put x3 t65 (PT.put x2 t64 (PT.put x1 t63 fs)))))))))))))))))))), s))
 (opt2 (oMov (.v (orU (fs.get t14))) rec PT.nil s) fun x21 s =>
 opt2 (oBin (int2 addO) (.v x21) (.v (.int .i64 1)) rec PT.nil s) fun x22 s =>
 opt2 (oMov (.v x22) rec PT.nil s) fun x23 s =>
 some (.norm, (PT.put x23 t14 (PT.put x22 t68 (PT.put x21 t67 (PT.put x10 t74 (PT.put x9 t73 (PT.put x8 t72 (PT.put x7 t71 (PT.put x6 t70 (PT.put x5 t69 (PT.put x4 t66 (PT.put x3 t65 (PT.put x2 t64 (PT.put x1 t63 fs))))))))))))), s)))
 (some ((.exit 0), (PT.put x4 t66 (PT.put x3 t65 (PT.put x2 t64 (PT.put x1 t63 fs)))), s))
set_option maxHeartbeats 4000000 in
theorem d7_l0 (rec : Rec) (N : Nat) (fs : Frm) (s : St) : c7_l0 rec N fs s = D7_l0 rec N fs s := by
  simp (maxSteps := 4000000) only [c7_l0, lenN, x_seq, x_ops, x_skip, x_ret, x_exit, x_cond, x_block, x_loop, ops_c, ops_n, op1_u, op1_gj, rq_c, rq_n, opQ_u, opQ_g, op2_op2, op2_op, op2_s, op2_cond, thenX_n, thenX_e, thenX_r, blkX_n, blkX_r, blkX_e, finX_r, finX_n, res_n, res_t, op_s, Nat.beq_refl, cond_true]
  first | done | kernel_rfl
def D7_r0 (rec : Rec) (N : Nat) (fs : Frm) (s : St) : OutX := opt2 (oMov (.v (orU (fs.get t10))) rec PT.nil s) fun x1 s =>
 opt2 (oMov (.v (orU (fs.get t9))) rec PT.nil s) fun x2 s =>
 opt2 (oMov (.v (orU (fs.get t3))) rec PT.nil s) fun x3 s =>
 opt2 (rec 13 [x1, x2, x3] s) fun x4 s =>
 opt2 (oMov (.v x4) rec PT.nil s) fun x5 s =>
 opt2 (oMov (.v (orU (fs.get t12))) rec PT.nil s) fun x6 s =>
 opt2 (oMov (.v (orU (fs.get t9))) rec PT.nil s) fun x7 s =>
 opt2 (oMov (.v (orU (fs.get t3))) rec PT.nil s) fun x8 s =>
 opt2 (rec 13 [x6, x7, x8] s) fun x9 s =>
 opt2 (oMov (.v x9) rec PT.nil s) fun x10 s =>
 opt2 (oMov (.v (orU (fs.get t0))) rec PT.nil s) fun x11 s =>
 opt2 (rec 11 [(.int .i64 0), x11] s) fun x12 s =>
 opt2 (oMov (.v x12) rec PT.nil s) fun x13 s =>
 opt2 (oExtract (.v x13) 0 rec PT.nil s) fun x14 s =>
 opt2 (oExtract (.v x13) 1 rec PT.nil s) fun x15 s =>
 opt2 (oMov (.v x14) rec PT.nil s) fun x16 s =>
 opt2 (oMov (.v x15) rec PT.nil s) fun x17 s =>
 opt2 (oMov (.v x16) rec PT.nil s) fun x18 s =>
 opt2 (rec 10 [] s) fun x19 s =>
 opt2 (oMov (.v (orU (fs.get t3))) rec PT.nil s) fun x20 s =>
 opt2 (rec 13 [x18, x19, x20] s) fun x21 s =>
 opt2 (oMov (.v x21) rec PT.nil s) fun x22 s =>
 opt2 (oMov (.v x5) rec PT.nil s) fun x23 s =>
 opt2 (oBin (int2 (cmpO eqI)) (.v x23) (.v (.int .i64 0)) rec PT.nil s) fun x24 s =>
 opt2 (oMov (.v x24) rec PT.nil s) fun x25 s =>
 opt (gval true x25) fun x26 => opt2 (orUndef x26 (oMov (.v x10) rec PT.nil s) s) fun x27 s =>
 opt (gval true x25) fun x28 => opt2 (orUndef x28 (oBin (int2 (cmpO eqI)) (.v x27) (.v (.int .i64 0)) rec PT.nil s) s) fun x29 s =>
 opt2 (oPick (.v x25) (.v x29) (.v (.bool false)) rec PT.nil s) fun x30 s =>
 opt2 (oMov (.v x30) rec PT.nil s) fun x31 s =>
 opt (gval true x31) fun x32 => opt2 (orUndef x32 (oMov (.v x22) rec PT.nil s) s) fun x33 s =>
 opt (gval true x31) fun x34 => opt2 (orUndef x34 (oBin (int2 (cmpO eqI)) (.v x33) (.v (.int .i64 0)) rec PT.nil s) s) fun x35 s =>
 opt2 (oPick (.v x31) (.v x35) (.v (.bool false)) rec PT.nil s) fun x36 s =>
 opt2 (oMov (.v x36) rec PT.nil s) fun x37 s =>
 opt (gval true x37) fun x38 => opt2 (orUndef x38 (oMov (.v (orU (fs.get t10))) rec PT.nil s) s) fun x39 s =>
 opt (gval true x37) fun x40 => opt2 (orUndef x40 (rec 33 [x39] s) s) fun x41 s =>
 opt (gval true x37) fun x42 => opt2 (orUndef x42 (oMov (.v (orU (fs.get t12))) rec PT.nil s) s) fun x43 s =>
 opt2 (runOps rec c7_q2 (PT.put x43 t112 (PT.put x41 t111 (PT.put x39 t110 (PT.put x37 t109 (PT.put x36 t108 (PT.put x35 t107 (PT.put x33 t106 (PT.put x31 t105 (PT.put x30 t104 (PT.put x29 t103 (PT.put x27 t102 (PT.put x25 t101 (PT.put x24 t100 (PT.put x23 t99 (PT.put x22 t19 (PT.put x21 t98 (PT.put x20 t97 (PT.put x19 t96 (PT.put x18 t95 (PT.put x17 t18 (PT.put x16 t17 (PT.put x15 t94 (PT.put x14 t93 (PT.put x13 t90 (PT.put x12 t92 (PT.put x11 t91 (PT.put x10 t16 (PT.put x9 t89 (PT.put x8 t88 (PT.put x7 t87 (PT.put x6 t86 (PT.put x5 t15 (PT.put x4 t85 (PT.put x3 t84 (PT.put x2 t83 (PT.put x1 t82 fs)))))))))))))))))))))))))))))))))))) s) fun fs s =>
 some (.ret, fs, s)
set_option maxHeartbeats 4000000 in
theorem d7_r0 (rec : Rec) (N : Nat) (fs : Frm) (s : St) : c7_r0 rec N fs s = D7_r0 rec N fs s := by
  simp (maxSteps := 4000000) only [c7_r0, lenN, x_seq, x_ops, x_skip, x_ret, x_exit, x_cond, x_block, x_loop, ops_c, ops_n, op1_u, op1_gj, rq_c, rq_n, opQ_u, opQ_g, op2_op2, op2_op, op2_s, op2_cond, thenX_n, thenX_e, thenX_r, blkX_n, blkX_r, blkX_e, finX_r, finX_n, res_n, res_t, op_s, Nat.beq_refl, cond_true]
  first | done | kernel_rfl
def D7_j1 (rec : Rec) (N : Nat) (fs : Frm) (s : St) : OutX := opt2 (rec 10 [] s) fun x1 s =>
 opt2 (oMov (.v x1) rec PT.nil s) fun x2 s =>
 opt2 (oMov (.v x2) rec PT.nil s) fun x3 s =>
 opt2 (oMov (.v (orU (fs.get t1))) rec PT.nil s) fun x4 s =>
 opt2 (rec 27 [x3, (.int .i64 3), x4] s) fun x5 s =>
 opt2 (oMov (.v (orU (fs.get t0))) rec PT.nil s) fun x6 s =>
 opt2 (rec 11 [(.int .i64 0), x6] s) fun x7 s =>
 opt2 (oMov (.v x7) rec PT.nil s) fun x8 s =>
 opt2 (oExtract (.v x8) 0 rec PT.nil s) fun x9 s =>
 opt2 (oExtract (.v x8) 1 rec PT.nil s) fun x10 s =>
 opt2 (oMov (.v x9) rec PT.nil s) fun x11 s =>
 opt2 (oMov (.v x10) rec PT.nil s) fun x12 s =>
 opt2 (oMov (.v (orU (fs.get t0))) rec PT.nil s) fun x13 s =>
 opt2 (rec 11 [(.int .i64 0), x13] s) fun x14 s =>
 opt2 (oMov (.v x14) rec PT.nil s) fun x15 s =>
 opt2 (oExtract (.v x15) 0 rec PT.nil s) fun x16 s =>
 opt2 (oExtract (.v x15) 1 rec PT.nil s) fun x17 s =>
 opt2 (oMov (.v x16) rec PT.nil s) fun x18 s =>
 opt2 (oMov (.v x17) rec PT.nil s) fun x19 s =>
 opt2 (oMov (.v (.int .i64 0)) rec PT.nil s) fun x20 s =>
 opt2 (loopF (c7_l0 rec N) N (PT.put x20 t14 (PT.put x19 t13 (PT.put x18 t12 (PT.put x17 t62 (PT.put x16 t61 (PT.put x15 t58 (PT.put x14 t60 (PT.put x13 t59 (PT.put x12 t11 (PT.put x11 t10 (PT.put x10 t57 (PT.put x9 t56 (PT.put x8 t53 (PT.put x7 t55 (PT.put x6 t54 (PT.put x5 t52 (PT.put x4 t51 (PT.put x3 t50 (PT.put x2 t9 (PT.put x1 t49 fs)))))))))))))))))))) s) fun e r => opt2 (blkX 0 e r) fun e r => thenX (c7_r0 rec N) e r
set_option maxHeartbeats 4000000 in
theorem d7_j1 (rec : Rec) (N : Nat) (fs : Frm) (s : St) : c7_j1 rec N fs s = D7_j1 rec N fs s := by
  simp (maxSteps := 4000000) only [c7_j1, lenN, x_seq, x_ops, x_skip, x_ret, x_exit, x_cond, x_block, x_loop, ops_c, ops_n, op1_u, op1_gj, rq_c, rq_n, opQ_u, opQ_g, op2_op2, op2_op, op2_s, op2_cond, thenX_n, thenX_e, thenX_r, blkX_n, blkX_r, blkX_e, finX_r, finX_n, res_n, res_t, op_s, Nat.beq_refl, cond_true]
  first | done | kernel_rfl
def D7 (rec : Rec) (N : Nat) (a0 : Value) (a1 : Value) (a2 : Value) (a3 : Value) (s : St) : Out := opt2 (oMov (.v (.bool false)) rec PT.nil s) fun x1 s =>
 opt2 (rec 9 [] s) fun x2 s =>
 opt2 (oNot (.v x2) rec PT.nil s) fun x3 s =>
 condV x3
 (opt2 (oMov (.v (.bool false)) rec PT.nil s) fun x4 s =>
 some (oneOf [x4], s))
 (opt2 (oMov (.v a0) rec PT.nil s) fun x5 s =>
 opt2 (oBin (int2 (cmpO ltI)) (.v x5) (.v (.int .i64 0)) rec PT.nil s) fun x6 s =>
 opt2 (oMov (.v x6) rec PT.nil s) fun x7 s =>
 opt (gval false x7) fun x8 => opt2 (orUndef x8 (oMov (.v a0) rec PT.nil s) s) fun x9 s =>
 opt (gval false x7) fun x10 => opt2 (orUndef x10 (oBin (int2 (cmpO gtI)) (.v x9) (.v (.int .i64 4503599627370496)) rec PT.nil s) s) fun x11 s =>
 opt2 (oPick (.v x7) (.v (.bool true)) (.v x11) rec PT.nil s) fun x12 s =>
 opt2 (oMov (.v x12) rec PT.nil s) fun x13 s =>
 opt (gval false x13) fun x14 => opt2 (orUndef x14 (oMov (.v a1) rec PT.nil s) s) fun x15 s =>
 opt (gval false x13) fun x16 => opt2 (orUndef x16 (oBin (int2 (cmpO ltI)) (.v x15) (.v (.int .i64 0)) rec PT.nil s) s) fun x17 s =>
 opt2 (oPick (.v x13) (.v (.bool true)) (.v x17) rec PT.nil s) fun x18 s =>
 opt2 (oMov (.v x18) rec PT.nil s) fun x19 s =>
 opt (gval false x19) fun x20 => opt2 (orUndef x20 (oMov (.v a1) rec PT.nil s) s) fun x21 s =>
 opt (gval false x19) fun x22 => opt2 (orUndef x22 (oBin (int2 (cmpO gtI)) (.v x21) (.v (.int .i64 1000000000)) rec PT.nil s) s) fun x23 s =>
 opt2 (oPick (.v x19) (.v (.bool true)) (.v x23) rec PT.nil s) fun x24 s =>
 opt2 (runOps rec c7_q0 (PT.put x24 t35 (PT.put x23 t34 (PT.put x21 t33 (PT.put x19 t32 (PT.put x18 t31 (PT.put x17 t30 (PT.put x15 t29 (PT.put x13 t28 (PT.put x12 t27 (PT.put x11 t26 (PT.put x9 t25 (PT.put x7 t24 (PT.put x6 t23 (PT.put x5 t22 (PT.put x3 t21 (PT.put x2 t20 (PT.put x1 t8 (PT.put a3 t3 (PT.put a2 t2 (PT.put a1 t1 (PT.put a0 t0 PT.nil))))))))))))))))))))) s) fun fs s =>
 opt2 (c7_j0 rec N fs s) fun e r => opt2 (thenX (c7_j1 rec N) e r) fun e r => finX [.tmp t8] e r)
set_option maxHeartbeats 4000000 in
theorem d7 (rec : Rec) (N : Nat) (a0 : Value) (a1 : Value) (a2 : Value) (a3 : Value) (s : St) : callF rec N c7 [a0, a1, a2, a3] s = D7 rec N a0 a1 a2 a3 s := by
  rw [call_f _ _ _ _ _ rfl]
  simp (maxSteps := 4000000) only [c7, lenN, x_seq, x_ops, x_skip, x_ret, x_exit, x_cond, x_block, x_loop, ops_c, ops_n, op1_u, op1_gj, rq_c, rq_n, opQ_u, opQ_g, op2_op2, op2_op, op2_s, op2_cond, thenX_n, thenX_e, thenX_r, blkX_n, blkX_r, blkX_e, finX_r, finX_n, res_n, res_t, op_s, Nat.beq_refl, cond_true]
  first | done | kernel_rfl
def Q7_q1 (rec : Rec) (N : Nat) (k : Value × Value × Value) (s : St) : Out := opt2 (oPick (.v k.2.1) (.v k.2.2) (.v (.bool false)) rec PT.nil s) fun x1 s =>
 opt (gval true x1) fun x2 => opt2 (orUndef x2 (some (k.1, s)) s) fun x3 s =>
 opt (gval true x1) fun x4 => opt2 (orUndef x4 (rec 33 [x3] s) s) fun x5 s =>
 opt (gval true x1) fun x6 => opt2 (orUndef x6 (oField none 1 (.v x5) rec PT.nil s) s) fun x7 s =>
 opt (gval true x1) fun x8 => opt2 (orUndef x8 (oBin (int2 (cmpO eqI)) (.v x7) (.v (.int .u64 0)) rec PT.nil s) s) fun x9 s =>
 opt2 (oPick (.v x1) (.v x9) (.v (.bool false)) rec PT.nil s) fun x10 s =>
 some (oneOf [x10], s)
set_option maxHeartbeats 4000000 in
theorem j7_q1 (rec : Rec) (N : Nat) (fs : Frm) (s : St) : opt2 (runOps rec c7_q1 fs s) (fun fs s => some (oneOf [(orU (fs.get t8))], s)) = Q7_q1 rec N (orU (fs.get t17), orU (fs.get t122), orU (fs.get t126)) s := by
  rw [d7_q1]
  unfold D7_q1 Q7_q1
  simp (maxSteps := 4000000) only [thenX_n, thenX_e, thenX_r, x_exit, x_skip, x_ret, blkX_n, blkX_r, blkX_e, finX_r, finX_n, res_n, res_t, op2_op2, op2_op, op2_s, op2_cond, op2_bf, mov_v]
  first | done | kernel_rfl
def Q7_q2 (rec : Rec) (N : Nat) (k : Value × Value × Value × Value × Value × Value) (s : St) : Out := opt (gval true k.2.2.2.1) fun x1 => opt2 (orUndef x1 (rec 33 [k.2.2.2.2.2] s) s) fun x2 s =>
 opt (gval true k.2.2.2.1) fun x3 => opt2 (orUndef x3 (oEqs false [(0, eqN), (1, eqN)] (.v k.2.2.2.2.1) (.v x2) rec PT.nil s) s) fun x4 s =>
 opt2 (oPick (.v k.2.2.2.1) (.v x4) (.v (.bool false)) rec PT.nil s) fun x5 s =>
 opt (gval true x5) fun x6 => opt2 (orUndef x6 (some (k.2.1, s)) s) fun x7 s =>
 opt (gval true x5) fun x8 => opt2 (orUndef x8 (rec 30 [x7] s) s) fun x9 s =>
 opt (gval true x5) fun x10 => opt2 (orUndef x10 (some (k.1, s)) s) fun x11 s =>
 opt (gval true x5) fun x12 => opt2 (orUndef x12 (oBin (int2 (cmpO eqI)) (.v x9) (.v x11) rec PT.nil s) s) fun x13 s =>
 opt2 (oPick (.v x5) (.v x13) (.v (.bool false)) rec PT.nil s) fun x14 s =>
 opt (gval true x14) fun x15 => opt2 (orUndef x15 (some (k.2.2.1, s)) s) fun x16 s =>
 opt (gval true x14) fun x17 => opt2 (orUndef x17 (rec 33 [x16] s) s) fun x18 s =>
 opt (gval true x14) fun x19 => opt2 (orUndef x19 (oField none 0 (.v x18) rec PT.nil s) s) fun x20 s =>
 opt (gval true x14) fun x21 => opt2 (orUndef x21 (oBin (int2 (cmpO eqI)) (.v x20) (.v (.int .i64 0)) rec PT.nil s) s) fun x22 s =>
 Q7_q1 rec N (k.2.2.1, x14, x22) s
set_option maxHeartbeats 4000000 in
theorem j7_q2 (rec : Rec) (N : Nat) (fs : Frm) (s : St) : opt2 (runOps rec c7_q2 fs s) (fun fs s => some (oneOf [(orU (fs.get t8))], s)) = Q7_q2 rec N (orU (fs.get t3), orU (fs.get t10), orU (fs.get t17), orU (fs.get t109), orU (fs.get t111), orU (fs.get t112)) s := by
  rw [d7_q2]
  unfold D7_q2 Q7_q2
  simp (maxSteps := 4000000) only [thenX_n, thenX_e, thenX_r, x_exit, x_skip, x_ret, blkX_n, blkX_r, blkX_e, finX_r, finX_n, res_n, res_t, op2_op2, op2_op, op2_s, op2_cond, op2_bf, mov_v, j7_q1 rec N]
  first | done | kernel_rfl
def J7_r0 (rec : Rec) (N : Nat) (k : Value × Value × Value × Value × Value) (s : St) : Out := opt2 (rec 13 [k.2.2.2.1, k.2.2.1, k.2.1] s) fun x1 s =>
 opt2 (rec 13 [k.2.2.2.2, k.2.2.1, k.2.1] s) fun x2 s =>
 opt2 (rec 11 [(.int .i64 0), k.1] s) fun x3 s =>
 opt2 (oExtract (.v x3) 0 rec PT.nil s) fun x4 s =>
 opt2 (oExtract (.v x3) 1 rec PT.nil s) fun x5 s =>
 opt2 (rec 10 [] s) fun x6 s =>
 opt2 (rec 13 [x4, x6, k.2.1] s) fun x7 s =>
 opt2 (oBin (int2 (cmpO eqI)) (.v x1) (.v (.int .i64 0)) rec PT.nil s) fun x8 s =>
 opt (gval true x8) fun x9 => opt2 (orUndef x9 (some (x2, s)) s) fun x10 s =>
 opt (gval true x8) fun x11 => opt2 (orUndef x11 (oBin (int2 (cmpO eqI)) (.v x10) (.v (.int .i64 0)) rec PT.nil s) s) fun x12 s =>
 opt2 (oPick (.v x8) (.v x12) (.v (.bool false)) rec PT.nil s) fun x13 s =>
 opt (gval true x13) fun x14 => opt2 (orUndef x14 (some (x7, s)) s) fun x15 s =>
 opt (gval true x13) fun x16 => opt2 (orUndef x16 (oBin (int2 (cmpO eqI)) (.v x15) (.v (.int .i64 0)) rec PT.nil s) s) fun x17 s =>
 opt2 (oPick (.v x13) (.v x17) (.v (.bool false)) rec PT.nil s) fun x18 s =>
 opt (gval true x18) fun x19 => opt2 (orUndef x19 (some (k.2.2.2.1, s)) s) fun x20 s =>
 opt (gval true x18) fun x21 => opt2 (orUndef x21 (rec 33 [x20] s) s) fun x22 s =>
 opt (gval true x18) fun x23 => opt2 (orUndef x23 (some (k.2.2.2.2, s)) s) fun x24 s =>
 Q7_q2 rec N (k.2.1, k.2.2.2.1, x4, x18, x22, x24) s
set_option maxHeartbeats 4000000 in
theorem j7_r0 (rec : Rec) (N : Nat) (fs : Frm) (s : St) : opt2 (c7_r0 rec N fs s) (fun e r => finX [.tmp t8] e r) = J7_r0 rec N (orU (fs.get t0), orU (fs.get t3), orU (fs.get t9), orU (fs.get t10), orU (fs.get t12)) s := by
  rw [d7_r0]
  unfold D7_r0 J7_r0
  simp (maxSteps := 4000000) only [thenX_n, thenX_e, thenX_r, x_exit, x_skip, x_ret, blkX_n, blkX_r, blkX_e, finX_r, finX_n, res_n, res_t, op2_op2, op2_op, op2_s, op2_cond, op2_bf, mov_v, j7_q2 rec N]
  first | done | kernel_rfl
def B7_l0 (rec : Rec) (N : Nat) (k : Value × Value × Value × Value × Value × Value × Value) (v : Value) (s : St) : OutV (Value) := opt2 (oLenL (.v k.2.1) rec PT.nil s) fun x1 s =>
 opt2 (oBin (int2 (cmpO ltI)) (.v v) (.v x1) rec PT.nil s) fun x2 s =>
 condV x2
 (opt2 (oIdxAddrL 1 (.v k.2.1) (.v v) rec PT.nil s) fun x3 s =>
 opt2 (oLoad1 (.v x3) rec PT.nil s) fun x4 s =>
 opt2 (oBin (int2 (cmpO leI)) (.v x4) (.v k.2.2.1) rec PT.nil s) fun x5 s =>
 condV x5
 (opt2 (oIdxAddrL 1 (.v k.2.1) (.v v) rec PT.nil s) fun x6 s =>
 opt2 (oLoad1 (.v x6) rec PT.nil s) fun x7 s =>
 opt2 (rec 13 [k.2.2.2.2.2.1, k.2.2.2.2.1, x7] s) fun x8 s =>
 opt2 (oBin (int2 addO) (.v v) (.v (.int .i64 1)) rec PT.nil s) fun x9 s =>
 some (.norm, (x9, s)))
 (opt2 (oBin (int2 addO) (.v v) (.v (.int .i64 1)) rec PT.nil s) fun x10 s =>
 some (.norm, (x10, s))))
 (some ((.exit 0), (v, s)))
set_option maxHeartbeats 4000000 in
theorem s7_l0 (rec : Rec) (N : Nat) (fs : Frm) (s : St) : opt2 (c7_l0 rec N fs s) (fun e r => some (e, (((orU (r.1.get t14)), (orU (r.1.get t0), orU (r.1.get t2), orU (r.1.get t3), orU (r.1.get t8), orU (r.1.get t9), orU (r.1.get t10), orU (r.1.get t12))), r.2))) = opt2 (B7_l0 rec N (orU (fs.get t0), orU (fs.get t2), orU (fs.get t3), orU (fs.get t8), orU (fs.get t9), orU (fs.get t10), orU (fs.get t12)) (orU (fs.get t14)) s) fun e r => some (e, ((r.1, (orU (fs.get t0), orU (fs.get t2), orU (fs.get t3), orU (fs.get t8), orU (fs.get t9), orU (fs.get t10), orU (fs.get t12))), r.2)) := by
  rw [d7_l0]
  unfold D7_l0 B7_l0
  simp (maxSteps := 4000000) only [op2_op2, op2_op, op2_s, op2_cond, op2_bf, mov_v]
  first | done | kernel_rfl
def C7_l0 (rec : Rec) (N : Nat) (k : Value × Value × Value × Value × Value × Value × Value) (e : AExit) (r : (Value) × St) : Out := (fun s => exV (fun i => bif Nat.beq i 0 then (J7_r0 rec N (k.1, k.2.2.1, k.2.2.2.2.1, k.2.2.2.2.2.1, k.2.2.2.2.2.2) s)
 else (none))
 (some (oneOf [k.2.2.2.1], s)) e) r.2
theorem j7_l0 (rec : Rec) (N : Nat) (fs : Frm) (s : St) : opt2 (loopF (c7_l0 rec N) N fs s) (fun e r => opt2 (blkX 0 e r) fun e r => opt2 (thenX (c7_r0 rec N) e r) fun e r => finX [.tmp t8] e r) = opt2 (loopV (B7_l0 rec N (orU (fs.get t0), orU (fs.get t2), orU (fs.get t3), orU (fs.get t8), orU (fs.get t9), orU (fs.get t10), orU (fs.get t12))) N (orU (fs.get t14)) s) (C7_l0 rec N (orU (fs.get t0), orU (fs.get t2), orU (fs.get t3), orU (fs.get t8), orU (fs.get t9), orU (fs.get t10), orU (fs.get t12))) := by
  refine loop_j (fun fs => (orU (fs.get t14))) (fun fs => (orU (fs.get t0), orU (fs.get t2), orU (fs.get t3), orU (fs.get t8), orU (fs.get t9), orU (fs.get t10), orU (fs.get t12))) (B7_l0 rec N) (c7_l0 rec N) (s7_l0 rec N) (fun e r => opt2 (blkX 0 e r) fun e r => opt2 (thenX (c7_r0 rec N) e r) fun e r => finX [.tmp t8] e r) (C7_l0 rec N) ?_ ?_ N fs s
  · intro i fs s
    unfold C7_l0
    simp (maxSteps := 4000000) only [thenX_n, thenX_e, thenX_r, x_exit, x_skip, x_ret, blkX_n, blkX_r, blkX_e, finX_r, finX_n, res_n, res_t, exV_e, exV_r, op2_op2, op2_op, op2_s, op2_cond, op2_bf, mov_v, j7_r0 rec N]
    first | done | kernel_rfl
  · intro fs s
    unfold C7_l0
    simp (maxSteps := 4000000) only [thenX_n, thenX_e, thenX_r, x_exit, x_skip, x_ret, blkX_n, blkX_r, blkX_e, finX_r, finX_n, res_n, res_t, exV_e, exV_r, op2_op2, op2_op, op2_s, op2_cond, op2_bf, mov_v, j7_r0 rec N]
    first | done | kernel_rfl
def J7_j1 (rec : Rec) (N : Nat) (k : Value × Value × Value × Value × Value) (s : St) : Out := opt2 (rec 10 [] s) fun x1 s =>
 opt2 (rec 27 [x1, (.int .i64 3), k.2.1] s) fun x2 s =>
 opt2 (rec 11 [(.int .i64 0), k.1] s) fun x3 s =>
 opt2 (oExtract (.v x3) 0 rec PT.nil s) fun x4 s =>
 opt2 (oExtract (.v x3) 1 rec PT.nil s) fun x5 s =>
 opt2 (rec 11 [(.int .i64 0), k.1] s) fun x6 s =>
 opt2 (oExtract (.v x6) 0 rec PT.nil s) fun x7 s =>
 opt2 (oExtract (.v x6) 1 rec PT.nil s) fun x8 s =>
 opt2 (loopV (B7_l0 rec N (k.1, k.2.2.1, k.2.2.2.1, k.2.2.2.2, x1, x4, x7)) N (.int .i64 0) s) (C7_l0 rec N (k.1, k.2.2.1, k.2.2.2.1, k.2.2.2.2, x1, x4, x7))
set_option maxHeartbeats 4000000 in
theorem j7_j1 (rec : Rec) (N : Nat) (fs : Frm) (s : St) : opt2 (c7_j1 rec N fs s) (fun e r => finX [.tmp t8] e r) = J7_j1 rec N (orU (fs.get t0), orU (fs.get t1), orU (fs.get t2), orU (fs.get t3), orU (fs.get t8)) s := by
  rw [d7_j1]
  unfold D7_j1 J7_j1
  simp (maxSteps := 4000000) only [thenX_n, thenX_e, thenX_r, x_exit, x_skip, x_ret, blkX_n, blkX_r, blkX_e, finX_r, finX_n, res_n, res_t, op2_op2, op2_op, op2_s, op2_cond, op2_bf, mov_v, j7_l0 rec N]
  first | done | kernel_rfl
def J7_j0 (rec : Rec) (N : Nat) (k : Value × Value × Value × Value × Value × Value) (s : St) : Out := condV k.2.2.2.2.2
 (some (oneOf [(.bool true)], s))
 (J7_j1 rec N (k.1, k.2.1, k.2.2.1, k.2.2.2.1, k.2.2.2.2.1) s)
set_option maxHeartbeats 4000000 in
theorem j7_j0 (rec : Rec) (N : Nat) (fs : Frm) (s : St) : opt2 (c7_j0 rec N fs s) (fun e r => opt2 (thenX (c7_j1 rec N) e r) fun e r => finX [.tmp t8] e r) = J7_j0 rec N (orU (fs.get t0), orU (fs.get t1), orU (fs.get t2), orU (fs.get t3), orU (fs.get t8), orU (fs.get t48)) s := by
  rw [d7_j0]
  unfold D7_j0 J7_j0
  simp (maxSteps := 4000000) only [thenX_n, thenX_e, thenX_r, x_exit, x_skip, x_ret, blkX_n, blkX_r, blkX_e, finX_r, finX_n, res_n, res_t, op2_op2, op2_op, op2_s, op2_cond, op2_bf, mov_v, j7_j1 rec N]
  first | done | kernel_rfl
def Q7_q0 (rec : Rec) (N : Nat) (k : Value × Value × Value × Value × Value × Value) (s : St) : Out := opt (gval false k.2.2.2.2.2) fun x1 => opt2 (orUndef x1 (some (k.2.2.1, s)) s) fun x2 s =>
 opt (gval false k.2.2.2.2.2) fun x3 => opt2 (orUndef x3 (oLenL (.v x2) rec PT.nil s) s) fun x4 s =>
 opt (gval false k.2.2.2.2.2) fun x5 => opt2 (orUndef x5 (oBin (int2 (cmpO gtI)) (.v x4) (.v (.int .i64 30)) rec PT.nil s) s) fun x6 s =>
 opt2 (oPick (.v k.2.2.2.2.2) (.v (.bool true)) (.v x6) rec PT.nil s) fun x7 s =>
 opt (gval false x7) fun x8 => opt2 (orUndef x8 (some (k.2.2.2.1, s)) s) fun x9 s =>
 opt (gval false x7) fun x10 => opt2 (orUndef x10 (oBin (int2 (cmpO ltI)) (.v x9) (.v (.int .i64 0)) rec PT.nil s) s) fun x11 s =>
 opt2 (oPick (.v x7) (.v (.bool true)) (.v x11) rec PT.nil s) fun x12 s =>
 opt (gval false x12) fun x13 => opt2 (orUndef x13 (some (k.2.2.2.1, s)) s) fun x14 s =>
 opt (gval false x12) fun x15 => opt2 (orUndef x15 (oBin (int2 (cmpO gtI)) (.v x14) (.v (.int .i64 109572)) rec PT.nil s) s) fun x16 s =>
 opt2 (oPick (.v x12) (.v (.bool true)) (.v x16) rec PT.nil s) fun x17 s =>
 J7_j0 rec N (k.1, k.2.1, k.2.2.1, k.2.2.2.1, k.2.2.2.2.1, x17) s
set_option maxHeartbeats 4000000 in
theorem j7_q0 (rec : Rec) (N : Nat) (fs : Frm) (s : St) : opt2 (runOps rec c7_q0 fs s) (fun fs s => opt2 (c7_j0 rec N fs s) fun e r => opt2 (thenX (c7_j1 rec N) e r) fun e r => finX [.tmp t8] e r) = Q7_q0 rec N (orU (fs.get t0), orU (fs.get t1), orU (fs.get t2), orU (fs.get t3), orU (fs.get t8), orU (fs.get t35)) s := by
  rw [d7_q0]
  unfold D7_q0 Q7_q0
  simp (maxSteps := 4000000) only [thenX_n, thenX_e, thenX_r, x_exit, x_skip, x_ret, blkX_n, blkX_r, blkX_e, finX_r, finX_n, res_n, res_t, op2_op2, op2_op, op2_s, op2_cond, op2_bf, mov_v, j7_j0 rec N]
  first | done | kernel_rfl
def F7 (rec : Rec) (N : Nat) (a0 : Value) (a1 : Value) (a2 : Value) (a3 : Value) (s : St) : Out := opt2 (rec 9 [] s) fun x1 s =>
 opt2 (oNot (.v x1) rec PT.nil s) fun x2 s =>
 condV x2
 (some (oneOf [(.bool false)], s))
 (opt2 (oBin (int2 (cmpO ltI)) (.v a0) (.v (.int .i64 0)) rec PT.nil s) fun x3 s =>
 opt (gval false x3) fun x4 => opt2 (orUndef x4 (some (a0, s)) s) fun x5 s =>
 opt (gval false x3) fun x6 => opt2 (orUndef x6 (oBin (int2 (cmpO gtI)) (.v x5) (.v (.int .i64 4503599627370496)) rec PT.nil s) s) fun x7 s =>
 opt2 (oPick (.v x3) (.v (.bool true)) (.v x7) rec PT.nil s) fun x8 s =>
 opt (gval false x8) fun x9 => opt2 (orUndef x9 (some (a1, s)) s) fun x10 s =>
 opt (gval false x8) fun x11 => opt2 (orUndef x11 (oBin (int2 (cmpO ltI)) (.v x10) (.v (.int .i64 0)) rec PT.nil s) s) fun x12 s =>
 opt2 (oPick (.v x8) (.v (.bool true)) (.v x12) rec PT.nil s) fun x13 s =>
 opt (gval false x13) fun x14 => opt2 (orUndef x14 (some (a1, s)) s) fun x15 s =>
 opt (gval false x13) fun x16 => opt2 (orUndef x16 (oBin (int2 (cmpO gtI)) (.v x15) (.v (.int .i64 1000000000)) rec PT.nil s) s) fun x17 s =>
 opt2 (oPick (.v x13) (.v (.bool true)) (.v x17) rec PT.nil s) fun x18 s =>
 Q7_q0 rec N (a0, a1, a2, a3, (.bool false), x18) s)
theorem f7 (rec : Rec) (N : Nat) (a0 : Value) (a1 : Value) (a2 : Value) (a3 : Value) (s : St) : callF rec N c7 [a0, a1, a2, a3] s = F7 rec N a0 a1 a2 a3 s := by
  rw [d7]
  unfold D7 F7
  simp (maxSteps := 4000000) only [mov_v, op2_s, j7_q0 rec N]
  first | done | kernel_rfl
-- c8
def D8_q0 (rec : Rec) (fs : Frm) (s : St) : Option (Frm × St) := opt2 (oMov (.v (orU (fs.get t36))) rec PT.nil s) fun x1 s =>
 opt (gval false x1) fun x2 => opt2 (orUndef x2 (oMov (.v (orU (fs.get t2))) rec PT.nil s) s) fun x3 s =>
 opt (gval false x1) fun x4 => opt2 (orUndef x4 (oBin (int2 (cmpO ltI)) (.v x3) (.v (.int .i64 0)) rec PT.nil s) s) fun x5 s =>
 opt2 (oPick (.v x1) (.v (.bool true)) (.v x5) rec PT.nil s) fun x6 s =>
 opt2 (oMov (.v x6) rec PT.nil s) fun x7 s =>
 opt (gval false x7) fun x8 => opt2 (orUndef x8 (oMov (.v (orU (fs.get t2))) rec PT.nil s) s) fun x9 s =>
 opt (gval false x7) fun x10 => opt2 (orUndef x10 (oBin (int2 (cmpO gtI)) (.v x9) (.v (.int .i64 2000)) rec PT.nil s) s) fun x11 s =>
 opt2 (oPick (.v x7) (.v (.bool true)) (.v x11) rec PT.nil s) fun x12 s =>
 some ((PT.put x12 t44 (PT.put x11 t43 (PT.put x9 t42 (PT.put x7 t41 (PT.put x6 t40 (PT.put x5 t39 (PT.put x3 t38 (PT.put x1 t37 fs)))))))), s)
set_option maxHeartbeats 4000000 in
theorem d8_q0 (rec : Rec) (fs : Frm) (s : St) : runOps rec c8_q0 fs s = D8_q0 rec fs s := by
  simp (maxSteps := 4000000) only [c8_q0, ops_c, ops_n, op1_u, op1_gj, rq_c, rq_n, opQ_u, opQ_g, op2_op2, op2_op, op2_s]
  first | done | kernel_rfl
def D8_q1 (rec : Rec) (fs : Frm) (s : St) : Option (Frm × St) := opt (gval true (orU (fs.get t127))) fun x1 => opt2 (orUndef x1 (rec 33 [(orU (fs.get t128))] s) s) fun x2 s =>
 opt (gval true (orU (fs.get t127))) fun x3 => opt2 (orUndef x3 (oMov (.v (orU (fs.get t13))) rec PT.nil s) s) fun x4 s =>
 opt (gval true (orU (fs.get t127))) fun x5 => opt2 (orUndef x5 (rec 33 [x4] s) s) fun x6 s =>
 opt (gval true (orU (fs.get t127))) fun x7 => opt2 (orUndef x7 (oEqs false [(0, eqN), (1, eqN)] (.v x2) (.v x6) rec PT.nil s) s) fun x8 s =>
 opt2 (oPick (.v (orU (fs.get t127))) (.v x8) (.v (.bool false)) rec PT.nil s) fun x9 s =>
 opt2 (oMov (.v x9) rec PT.nil s) fun x10 s =>
 opt (gval true x10) fun x11 => opt2 (orUndef x11 (oMov (.v (orU (fs.get t12))) rec PT.nil s) s) fun x12 s =>
 opt (gval true x10) fun x13 => opt2 (orUndef x13 (rec 32 [x12] s) s) fun x14 s =>
 opt (gval true x10) fun x15 => opt2 (orUndef x15 (oMov (.v (orU (fs.get t8))) rec PT.nil s) s) fun x16 s =>
 opt (gval true x10) fun x17 => opt2 (orUndef x17 (rec 32 [x16] s) s) fun x18 s =>
 opt (gval true x10) fun x19 => opt2 (orUndef x19 (oMov (.v (orU (fs.get t15))) rec PT.nil s) s) fun x20 s =>
 opt (gval true x10) fun x21 => opt2 (orUndef x21 (oBin (int2 addO) (.v x18) (.v x20) rec PT.nil s) s) fun x22 s =>
 opt (gval true x10) fun x23 => opt2 (orUndef x23 (oBin (int2 (cmpO eqI)) (.v x14) (.v x22) rec PT.nil s) s) fun x24 s =>
 opt2 (oPick (.v x10) (.v x24) (.v (.bool false)) rec PT.nil s) fun x25 s =>
 opt2 (oMov (.v x25) rec PT.nil s) fun x26 s =>
 some ((PT.put x26 t6 (PT.put x25 t142 (PT.put x24 t141 (PT.put x22 t140 (PT.put x20 t139 (PT.put x18 t138 (PT.put x16 t137 (PT.put x14 t136 (PT.put x12 t135 (PT.put x10 t134 (PT.put x9 t133 (PT.put x8 t132 (PT.put x6 t131 (PT.put x4 t130 (PT.put x2 t129 fs))))))))))))))), s)
set_option maxHeartbeats 4000000 in
theorem d8_q1 (rec : Rec) (fs : Frm) (s : St) : runOps rec c8_q1 fs s = D8_q1 rec fs s := by
  simp (maxSteps := 4000000) only [c8_q1, ops_c, ops_n, op1_u, op1_gj, rq_c, rq_n, opQ_u, opQ_g, op2_op2, op2_op, op2_s]
  first | done | kernel_rfl
def D8_q2 (rec : Rec) (fs : Frm) (s : St) : Option (Frm × St) := opt2 (oPick (.v (orU (fs.get t111))) (.v (orU (fs.get t114))) (.v (.bool false)) rec PT.nil s) fun x1 s =>
 opt2 (oMov (.v x1) rec PT.nil s) fun x2 s =>
 opt (gval true x2) fun x3 => opt2 (orUndef x3 (oMov (.v (orU (fs.get t15))) rec PT.nil s) s) fun x4 s =>
 opt (gval true x2) fun x5 => opt2 (orUndef x5 (oMov (.v (orU (fs.get t19))) rec PT.nil s) s) fun x6 s =>
 opt (gval true x2) fun x7 => opt2 (orUndef x7 (oBin (int2 (cmpO eqI)) (.v x4) (.v x6) rec PT.nil s) s) fun x8 s =>
 opt2 (oPick (.v x2) (.v x8) (.v (.bool false)) rec PT.nil s) fun x9 s =>
 opt2 (oMov (.v x9) rec PT.nil s) fun x10 s =>
 opt (gval true x10) fun x11 => opt2 (orUndef x11 (oMov (.v (orU (fs.get t8))) rec PT.nil s) s) fun x12 s =>
 opt (gval true x10) fun x13 => opt2 (orUndef x13 (rec 30 [x12] s) s) fun x14 s =>
 opt (gval true x10) fun x15 => opt2 (orUndef x15 (oMov (.v (orU (fs.get t1))) rec PT.nil s) s) fun x16 s =>
 opt (gval true x10) fun x17 => opt2 (orUndef x17 (oBin (int2 (cmpO eqI)) (.v x14) (.v x16) rec PT.nil s) s) fun x18 s =>
 opt2 (oPick (.v x10) (.v x18) (.v (.bool false)) rec PT.nil s) fun x19 s =>
 opt2 (oMov (.v x19) rec PT.nil s) fun x20 s =>
 opt (gval true x20) fun x21 => opt2 (orUndef x21 (oMov (.v (orU (fs.get t12))) rec PT.nil s) s) fun x22 s =>
 runOps rec c8_q1 (PT.put x22 t128 (PT.put x20 t127 (PT.put x19 t126 (PT.put x18 t125 (PT.put x16 t124 (PT.put x14 t123 (PT.put x12 t122 (PT.put x10 t121 (PT.put x9 t120 (PT.put x8 t119 (PT.put x6 t118 (PT.put x4 t117 (PT.put x2 t116 (PT.put x1 t115 fs)))))))))))))) s
set_option maxHeartbeats 4000000 in
theorem d8_q2 (rec : Rec) (fs : Frm) (s : St) : runOps rec c8_q2 fs s = D8_q2 rec fs s := by
  simp (maxSteps := 4000000) only [c8_q2, ops_c, ops_n, op1_u, op1_gj, rq_c, rq_n, opQ_u, opQ_g, op2_op2, op2_op, op2_s]
  first | done | kernel_rfl
def D8_j0 (rec : Rec) (N : Nat) (fs : Frm) (s : St) : OutX := condV (orU (fs.get t44))
 (opt2 (oMov (.v (.bool true)) rec PT.nil s) fun x1 s =>
 some (.ret, (PT.put x1 t6 fs), s))
 (some (.norm, fs, s))
set_option maxHeartbeats 4000000 in
theorem d8_j0 (rec : Rec) (N : Nat) (fs : Frm) (s : St) : c8_j0 rec N fs s = D8_j0 rec N fs s := by
  simp (maxSteps := 4000000) only [c8_j0, lenN, x_seq, x_ops, x_skip, x_ret, x_exit, x_cond, x_block, x_loop, ops_c, ops_n, op1_u, op1_gj, rq_c, rq_n, opQ_u, opQ_g, op2_op2, op2_op, op2_s, op2_cond, thenX_n, thenX_e, thenX_r, blkX_n, blkX_r, blkX_e, finX_r, finX_n, res_n, res_t, op_s, Nat.beq_refl, cond_true]
  first | done | kernel_rfl
def D8_j1 (rec : Rec) (N : Nat) (fs : Frm) (s : St) : OutX := opt2 (rec 10 [] s) fun x1 s =>
 opt2 (oMov (.v x1) rec PT.nil s) fun x2 s =>
 opt2 (oMov (.v x2) rec PT.nil s) fun x3 s =>
 opt2 (rec 27 [x3, (.int .i64 0), (.int .i64 54321)] s) fun x4 s =>
 opt2 (oMov (.v (orU (fs.get t0))) rec PT.nil s) fun x5 s =>
 opt2 (rec 11 [(.int .i64 0), x5] s) fun x6 s =>
 opt2 (oMov (.v x6) rec PT.nil s) fun x7 s =>
 opt2 (oExtract (.v x7) 0 rec PT.nil s) fun x8 s =>
 opt2 (oExtract (.v x7) 1 rec PT.nil s) fun x9 s =>
 opt2 (oMov (.v x8) rec PT.nil s) fun x10 s =>
 opt2 (oMov (.v x9) rec PT.nil s) fun x11 s =>
 opt2 (oMov (.v x10) rec PT.nil s) fun x12 s =>
 opt2 (oMov (.v x2) rec PT.nil s) fun x13 s =>
 opt2 (oMov (.v (orU (fs.get t1))) rec PT.nil s) fun x14 s =>
 opt2 (rec 20 [x12, x13, x14] s) fun x15 s =>
 opt2 (oMov (.v x15) rec PT.nil s) fun x16 s =>
 opt2 (oExtract (.v x16) 0 rec PT.nil s) fun x17 s =>
 opt2 (oExtract (.v x16) 1 rec PT.nil s) fun x18 s =>
 opt2 (oMov (.v x17) rec PT.nil s) fun x19 s =>
 opt2 (oMov (.v x18) rec PT.nil s) fun x20 s =>
 opt2 (oMov (.v x10) rec PT.nil s) fun x21 s =>
 opt2 (rec 38 [x21] s) fun x22 s =>
 opt2 (oMov (.v x22) rec PT.nil s) fun x23 s =>
 opt2 (oMov (.v x10) rec PT.nil s) fun x24 s =>
 opt2 (rec 24 [x24] s) fun x25 s =>
 opt2 (rec 12 [x25] s) fun x26 s =>
 opt2 (oMov (.v x26) rec PT.nil s) fun x27 s =>
 opt2 (oExtract (.v x27) 0 rec PT.nil s) fun x28 s =>
 opt2 (oExtract (.v x27) 1 rec PT.nil s) fun x29 s =>
 opt2 (oMov (.v x28) rec PT.nil s) fun x30 s =>
 opt2 (oMov (.v x29) rec PT.nil s) fun x31 s =>
 opt2 (oMov (.v x20) rec PT.nil s) fun x32 s =>
 opt2 (oBin (int2 (cmpO neI)) (.v x32) (.v (.int .i64 0)) rec PT.nil s) fun x33 s =>
 opt2 (oMov (.v x33) rec PT.nil s) fun x34 s =>
 opt (gval false x34) fun x35 => opt2 (orUndef x35 (oMov (.v x31) rec PT.nil s) s) fun x36 s =>
 opt (gval false x34) fun x37 => opt2 (orUndef x37 (oBin (int2 (cmpO neI)) (.v x36) (.v (.int .i64 0)) rec PT.nil s) s) fun x38 s =>
 opt2 (oPick (.v x34) (.v (.bool true)) (.v x38) rec PT.nil s) fun x39 s =>
 condV x39
 (opt2 (oMov (.v (.bool false)) rec PT.nil s) fun x40 s =>
 some (.ret, (PT.put x40 t6 (PT.put x39 t73 (PT.put x38 t72 (PT.put x36 t71 (PT.put x34 t70 (PT.put x33 t69 (PT.put x32 t68 (PT.put x31 t14 (PT.put x30 t13 (PT.put x29 t67 (PT.put x28 t66 (PT.put x27 t62 (PT.put x26 t65 (PT.put x25 t64 (PT.put x24 t63 (PT.put x23 t12 (PT.put x22 t61 (PT.put x21 t60 (PT.put x20 t11 (PT.put x19 t10 (PT.put x18 t59 (PT.put x17 t58 (PT.put x16 t53 (PT.put x15 t57 (PT.put x14 t56 (PT.put x13 t55 (PT.put x12 t54 (PT.put x11 t9 (PT.put x10 t8 (PT.put x9 t52 (PT.put x8 t51 (PT.put x7 t48 (PT.put x6 t50 (PT.put x5 t49 (PT.put x4 t47 (PT.put x3 t46 (PT.put x2 t7 (PT.put x1 t45 fs)))))))))))))))))))))))))))))))))))))), s))
 (opt2 (oMov (.v x23) rec PT.nil s) fun x41 s =>
 opt2 (oMov (.v x2) rec PT.nil s) fun x42 s =>
 opt2 (oMov (.v (orU (fs.get t1))) rec PT.nil s) fun x43 s =>
 opt2 (oMov (.v (orU (fs.get t2))) rec PT.nil s) fun x44 s =>
 opt2 (oBin (int2 addO) (.v x43) (.v x44) rec PT.nil s) fun x45 s =>
 opt2 (rec 20 [x41, x42, x45] s) fun x46 s =>
 opt2 (oMov (.v x46) rec PT.nil s) fun x47 s =>
 opt2 (oExtract (.v x47) 0 rec PT.nil s) fun x48 s =>
 opt2 (oExtract (.v x47) 1 rec PT.nil s) fun x49 s =>
 opt2 (oMov (.v x48) rec PT.nil s) fun x50 s =>
 opt2 (oMov (.v x49) rec PT.nil s) fun x51 s =>
 opt2 (oMov (.v x30) rec PT.nil s) fun x52 s =>
 opt2 (oMov (.v x2) rec PT.nil s) fun x53 s =>
 opt2 (oMov (.v (orU (fs.get t1))) rec PT.nil s) fun x54 s =>
 opt2 (oMov (.v (orU (fs.get t2))) rec PT.nil s) fun x55 s =>
 opt2 (oBin (int2 addO) (.v x54) (.v x55) rec PT.nil s) fun x56 s =>
 opt2 (rec 20 [x52, x53, x56] s) fun x57 s =>
 opt2 (oMov (.v x57) rec PT.nil s) fun x58 s =>
 opt2 (oExtract (.v x58) 0 rec PT.nil s) fun x59 s =>
 opt2 (oExtract (.v x58) 1 rec PT.nil s) fun x60 s =>
 opt2 (oMov (.v x59) rec PT.nil s) fun x61 s =>
 opt2 (oMov (.v x60) rec PT.nil s) fun x62 s =>
 opt2 (oMov (.v x10) rec PT.nil s) fun x63 s =>
 opt2 (oMov (.v x2) rec PT.nil s) fun x64 s =>
 opt2 (oMov (.v (orU (fs.get t1))) rec PT.nil s) fun x65 s =>
 opt2 (oMov (.v (orU (fs.get t2))) rec PT.nil s) fun x66 s =>
 opt2 (oBin (int2 addO) (.v x65) (.v x66) rec PT.nil s) fun x67 s =>
 opt2 (rec 22 [x63, x64, x67] s) fun x68 s =>
 opt2 (oMov (.v x68) rec PT.nil s) fun x69 s =>
 opt2 (oExtract (.v x69) 0 rec PT.nil s) fun x70 s =>
 opt2 (oExtract (.v x69) 1 rec PT.nil s) fun x71 s =>
 opt2 (oMov (.v x70) rec PT.nil s) fun x72 s =>
 opt2 (oMov (.v x71) rec PT.nil s) fun x73 s =>
 opt2 (oMov (.v x51) rec PT.nil s) fun x74 s =>
 opt2 (oBin (int2 (cmpO eqI)) (.v x74) (.v (.int .i64 0)) rec PT.nil s) fun x75 s =>
 opt2 (oMov (.v x75) rec PT.nil s) fun x76 s =>
 opt (gval true x76) fun x77 => opt2 (orUndef x77 (oMov (.v x62) rec PT.nil s) s) fun x78 s =>
 opt (gval true x76) fun x79 => opt2 (orUndef x79 (oBin (int2 (cmpO eqI)) (.v x78) (.v (.int .i64 0)) rec PT.nil s) s) fun x80 s =>
 opt2 (oPick (.v x76) (.v x80) (.v (.bool false)) rec PT.nil s) fun x81 s =>
 opt2 (oMov (.v x81) rec PT.nil s) fun x82 s =>
 opt (gval true x82) fun x83 => opt2 (orUndef x83 (oMov (.v x73) rec PT.nil s) s) fun x84 s =>
 opt (gval true x82) fun x85 => opt2 (orUndef x85 (oBin (int2 (cmpO eqI)) (.v x84) (.v (.int .i64 0)) rec PT.nil s) s) fun x86 s =>
 opt2 (oPick (.v x82) (.v x86) (.v (.bool false)) rec PT.nil s) fun x87 s =>
 opt2 (oMov (.v x87) rec PT.nil s) fun x88 s =>
 opt (gval true x88) fun x89 => opt2 (orUndef x89 (oMov (.v x50) rec PT.nil s) s) fun x90 s =>
 opt (gval true x88) fun x91 => opt2 (orUndef x91 (oMov (.v x61) rec PT.nil s) s) fun x92 s =>
 opt (gval true x88) fun x93 => opt2 (orUndef x93 (oBin (int2 (cmpO eqI)) (.v x90) (.v x92) rec PT.nil s) s) fun x94 s =>
 opt2 (runOps rec c8_q2 (PT.put x94 t114 (PT.put x92 t113 (PT.put x90 t112 (PT.put x88 t111 (PT.put x87 t110 (PT.put x86 t109 (PT.put x84 t108 (PT.put x82 t107 (PT.put x81 t106 (PT.put x80 t105 (PT.put x78 t104 (PT.put x76 t103 (PT.put x75 t102 (PT.put x74 t101 (PT.put x73 t20 (PT.put x72 t19 (PT.put x71 t100 (PT.put x70 t99 (PT.put x69 t92 (PT.put x68 t98 (PT.put x67 t97 (PT.put x66 t96 (PT.put x65 t95 (PT.put x64 t94 (PT.put x63 t93 (PT.put x62 t18 (PT.put x61 t17 (PT.put x60 t91 (PT.put x59 t90 (PT.put x58 t83 (PT.put x57 t89 (PT.put x56 t88 (PT.put x55 t87 (PT.put x54 t86 (PT.put x53 t85 (PT.put x52 t84 (PT.put x51 t16 (PT.put x50 t15 (PT.put x49 t82 (PT.put x48 t81 (PT.put x47 t74 (PT.put x46 t80 (PT.put x45 t79 (PT.put x44 t78 (PT.put x43 t77 (PT.put x42 t76 (PT.put x41 t75 (PT.put x39 t73 (PT.put x38 t72 (PT.put x36 t71 (PT.put x34 t70 (PT.put x33 t69 (PT.put x32 t68 (PT.put x31 t14 (PT.put x30 t13 (PT.put x29 t67 (PT.put x28 t66 (PT.put x27 t62 (PT.put x26 t65 (PT.put x25 t64 (PT.put x24 t63 (PT.put x23 t12 (PT.put x22 t61 (PT.put x21 t60 (PT.put x20 t11 (PT.put x19 t10 (PT.put x18 t59 (PT.put x17 t58 (PT.put x16 t53 (PT.put x15 t57 (PT.put x14 t56 (PT.put x13 t55 (PT.put x12 t54 (PT.put x11 t9 (PT.put x10 t8 (PT.put x9 t52 (PT.put x8 t51 (PT.put x7 t48 (PT.put x6 t50 (PT.put x5 t49 (PT.put x4 t47 (PT.put x3 t46 (PT.put x2 t7 (PT.put x1 t45 fs)))))))))))))))))))))))))))))))))))))))))))))))))))))))))))))))))))))))))))))))))))) s) fun fs s =>
 some (.ret, fs, s))
set_option maxHeartbeats 4000000 in
theorem d8_j1 (rec : Rec) (N : Nat) (fs : Frm) (s : St) : c8_j1 rec N fs s = D8_j1 rec N fs s := by
  simp (maxSteps := 4000000) only [c8_j1, lenN, x_seq, x_ops, x_skip, x_ret, x_exit, x_cond, x_block, x_loop, ops_c, ops_n, op1_u, op1_gj, rq_c, rq_n, opQ_u, opQ_g, op2_op2, op2_op, op2_s, op2_cond, thenX_n, thenX_e, thenX_r, blkX_n, blkX_r, blkX_e, finX_r, finX_n, res_n, res_t, op_s, Nat.beq_refl, cond_true]
  first | done | kernel_rfl
def D8 (rec : Rec) (N : Nat) (a0 : Value) (a1 : Value) (a2 : Value) (s : St) : Out := opt2 (oMov (.v (.bool false)) rec PT.nil s) fun x1 s =>
 opt2 (rec 9 [] s) fun x2 s =>
 opt2 (oNot (.v x2) rec PT.nil s) fun x3 s =>
 condV x3
 (opt2 (oMov (.v (.bool false)) rec PT.nil s) fun x4 s =>
 some (oneOf [x4], s))
 (opt2 (oMov (.v a0) rec PT.nil s) fun x5 s =>
 opt2 (oBin (int2 (cmpO ltI)) (.v x5) (.v (.int .i64 1)) rec PT.nil s) fun x6 s =>
 opt2 (oMov (.v x6) rec PT.nil s) fun x7 s =>
 opt (gval false x7) fun x8 => opt2 (orUndef x8 (oMov (.v a0) rec PT.nil s) s) fun x9 s =>
 opt (gval false x7) fun x10 => opt2 (orUndef x10 (oBin (int2 (cmpO gtI)) (.v x9) (.v (.int .i64 1099511627776)) rec PT.nil s) s) fun x11 s =>
 opt2 (oPick (.v x7) (.v (.bool true)) (.v x11) rec PT.nil s) fun x12 s =>
 opt2 (oMov (.v x12) rec PT.nil s) fun x13 s =>
 opt (gval false x13) fun x14 => opt2 (orUndef x14 (oMov (.v a1) rec PT.nil s) s) fun x15 s =>
 opt (gval false x13) fun x16 => opt2 (orUndef x16 (oBin (int2 (cmpO ltI)) (.v x15) (.v (.int .i64 0)) rec PT.nil s) s) fun x17 s =>
 opt2 (oPick (.v x13) (.v (.bool true)) (.v x17) rec PT.nil s) fun x18 s =>
 opt2 (oMov (.v x18) rec PT.nil s) fun x19 s =>
 opt (gval false x19) fun x20 => opt2 (orUndef x20 (oMov (.v a1) rec PT.nil s) s) fun x21 s =>
 opt (gval false x19) fun x22 => opt2 (orUndef x22 (oBin (int2 (cmpO gtI)) (.v x21) (.v (.int .i64 2000)) rec PT.nil s) s) fun x23 s =>
 opt2 (oPick (.v x19) (.v (.bool true)) (.v x23) rec PT.nil s) fun x24 s =>
 opt2 (runOps rec c8_q0 (PT.put x24 t36 (PT.put x23 t35 (PT.put x21 t34 (PT.put x19 t33 (PT.put x18 t32 (PT.put x17 t31 (PT.put x15 t30 (PT.put x13 t29 (PT.put x12 t28 (PT.put x11 t27 (PT.put x9 t26 (PT.put x7 t25 (PT.put x6 t24 (PT.put x5 t23 (PT.put x3 t22 (PT.put x2 t21 (PT.put x1 t6 (PT.put a2 t2 (PT.put a1 t1 (PT.put a0 t0 PT.nil)))))))))))))))))))) s) fun fs s =>
 opt2 (c8_j0 rec N fs s) fun e r => opt2 (thenX (c8_j1 rec N) e r) fun e r => finX [.tmp t6] e r)
set_option maxHeartbeats 4000000 in
theorem d8 (rec : Rec) (N : Nat) (a0 : Value) (a1 : Value) (a2 : Value) (s : St) : callF rec N c8 [a0, a1, a2] s = D8 rec N a0 a1 a2 s := by
  rw [call_f _ _ _ _ _ rfl]
  simp (maxSteps := 4000000) only [c8, lenN, x_seq, x_ops, x_skip, x_ret, x_exit, x_cond, x_block, x_loop, ops_c, ops_n, op1_u, op1_gj, rq_c, rq_n, opQ_u, opQ_g, op2_op2, op2_op, op2_s, op2_cond, thenX_n, thenX_e, thenX_r, blkX_n, blkX_r, blkX_e, finX_r, finX_n, res_n, res_t, op_s, Nat.beq_refl, cond_true]
  first | done | kernel_rfl
def Q8_q1 (rec : Rec) (N : Nat) (k : Value × Value × Value × Value × Value × Value) (s : St) : Out := opt (gval true k.2.2.2.2.1) fun x1 => opt2 (orUndef x1 (rec 33 [k.2.2.2.2.2] s) s) fun x2 s =>
 opt (gval true k.2.2.2.2.1) fun x3 => opt2 (orUndef x3 (some (k.2.2.1, s)) s) fun x4 s =>
 opt (gval true k.2.2.2.2.1) fun x5 => opt2 (orUndef x5 (rec 33 [x4] s) s) fun x6 s =>
 opt (gval true k.2.2.2.2.1) fun x7 => opt2 (orUndef x7 (oEqs false [(0, eqN), (1, eqN)] (.v x2) (.v x6) rec PT.nil s) s) fun x8 s =>
 opt2 (oPick (.v k.2.2.2.2.1) (.v x8) (.v (.bool false)) rec PT.nil s) fun x9 s =>
 opt (gval true x9) fun x10 => opt2 (orUndef x10 (some (k.2.1, s)) s) fun x11 s =>
 opt (gval true x9) fun x12 => opt2 (orUndef x12 (rec 32 [x11] s) s) fun x13 s =>
 opt (gval true x9) fun x14 => opt2 (orUndef x14 (some (k.1, s)) s) fun x15 s =>
 opt (gval true x9) fun x16 => opt2 (orUndef x16 (rec 32 [x15] s) s) fun x17 s =>
 opt (gval true x9) fun x18 => opt2 (orUndef x18 (some (k.2.2.2.1, s)) s) fun x19 s =>
 opt (gval true x9) fun x20 => opt2 (orUndef x20 (oBin (int2 addO) (.v x17) (.v x19) rec PT.nil s) s) fun x21 s =>
 opt (gval true x9) fun x22 => opt2 (orUndef x22 (oBin (int2 (cmpO eqI)) (.v x13) (.v x21) rec PT.nil s) s) fun x23 s =>
 opt2 (oPick (.v x9) (.v x23) (.v (.bool false)) rec PT.nil s) fun x24 s =>
 some (oneOf [x24], s)
set_option maxHeartbeats 4000000 in
theorem j8_q1 (rec : Rec) (N : Nat) (fs : Frm) (s : St) : opt2 (runOps rec c8_q1 fs s) (fun fs s => some (oneOf [(orU (fs.get t6))], s)) = Q8_q1 rec N (orU (fs.get t8), orU (fs.get t12), orU (fs.get t13), orU (fs.get t15), orU (fs.get t127), orU (fs.get t128)) s := by
  rw [d8_q1]
  unfold D8_q1 Q8_q1
  simp (maxSteps := 4000000) only [thenX_n, thenX_e, thenX_r, x_exit, x_skip, x_ret, blkX_n, blkX_r, blkX_e, finX_r, finX_n, res_n, res_t, op2_op2, op2_op, op2_s, op2_cond, op2_bf, mov_v]
  first | done | kernel_rfl
def Q8_q2 (rec : Rec) (N : Nat) (k : Value × Value × Value × Value × Value × Value × Value × Value) (s : St) : Out := opt2 (oPick (.v k.2.2.2.2.2.2.1) (.v k.2.2.2.2.2.2.2) (.v (.bool false)) rec PT.nil s) fun x1 s =>
 opt (gval true x1) fun x2 => opt2 (orUndef x2 (some (k.2.2.2.2.1, s)) s) fun x3 s =>
 opt (gval true x1) fun x4 => opt2 (orUndef x4 (some (k.2.2.2.2.2.1, s)) s) fun x5 s =>
 opt (gval true x1) fun x6 => opt2 (orUndef x6 (oBin (int2 (cmpO eqI)) (.v x3) (.v x5) rec PT.nil s) s) fun x7 s =>
 opt2 (oPick (.v x1) (.v x7) (.v (.bool false)) rec PT.nil s) fun x8 s =>
 opt (gval true x8) fun x9 => opt2 (orUndef x9 (some (k.2.1, s)) s) fun x10 s =>
 opt (gval true x8) fun x11 => opt2 (orUndef x11 (rec 30 [x10] s) s) fun x12 s =>
 opt (gval true x8) fun x13 => opt2 (orUndef x13 (some (k.1, s)) s) fun x14 s =>
 opt (gval true x8) fun x15 => opt2 (orUndef x15 (oBin (int2 (cmpO eqI)) (.v x12) (.v x14) rec PT.nil s) s) fun x16 s =>
 opt2 (oPick (.v x8) (.v x16) (.v (.bool false)) rec PT.nil s) fun x17 s =>
 opt (gval true x17) fun x18 => opt2 (orUndef x18 (some (k.2.2.1, s)) s) fun x19 s =>
 Q8_q1 rec N (k.2.1, k.2.2.1, k.2.2.2.1, k.2.2.2.2.1, x17, x19) s
set_option maxHeartbeats 4000000 in
theorem j8_q2 (rec : Rec) (N : Nat) (fs : Frm) (s : St) : opt2 (runOps rec c8_q2 fs s) (fun fs s => some (oneOf [(orU (fs.get t6))], s)) = Q8_q2 rec N (orU (fs.get t1), orU (fs.get t8), orU (fs.get t12), orU (fs.get t13), orU (fs.get t15), orU (fs.get t19), orU (fs.get t111), orU (fs.get t114)) s := by
  rw [d8_q2]
  unfold D8_q2 Q8_q2
  simp (maxSteps := 4000000) only [thenX_n, thenX_e, thenX_r, x_exit, x_skip, x_ret, blkX_n, blkX_r, blkX_e, finX_r, finX_n, res_n, res_t, op2_op2, op2_op, op2_s, op2_cond, op2_bf, mov_v, j8_q1 rec N]
  first | done | kernel_rfl
def J8_j1 (rec : Rec) (N : Nat) (k : Value × Value × Value) (s : St) : Out := opt2 (rec 10 [] s) fun x1 s =>
 opt2 (rec 27 [x1, (.int .i64 0), (.int .i64 54321)] s) fun x2 s =>
 opt2 (rec 11 [(.int .i64 0), k.1] s) fun x3 s =>
 opt2 (oExtract (.v x3) 0 rec PT.nil s) fun x4 s =>
 opt2 (oExtract (.v x3) 1 rec PT.nil s) fun x5 s =>
 opt2 (rec 20 [x4, x1, k.2.1] s) fun x6 s =>
 opt2 (oExtract (.v x6) 0 rec PT.nil s) fun x7 s =>
 opt2 (oExtract (.v x6) 1 rec PT.nil s) fun x8 s =>
 opt2 (rec 38 [x4] s) fun x9 s =>
 opt2 (rec 24 [x4] s) fun x10 s =>
 opt2 (rec 12 [x10] s) fun x11 s =>
 opt2 (oExtract (.v x11) 0 rec PT.nil s) fun x12 s =>
 opt2 (oExtract (.v x11) 1 rec PT.nil s) fun x13 s =>
 opt2 (oBin (int2 (cmpO neI)) (.v x8) (.v (.int .i64 0)) rec PT.nil s) fun x14 s =>
 opt (gval false x14) fun x15 => opt2 (orUndef x15 (some (x13, s)) s) fun x16 s =>
 opt (gval false x14) fun x17 => opt2 (orUndef x17 (oBin (int2 (cmpO neI)) (.v x16) (.v (.int .i64 0)) rec PT.nil s) s) fun x18 s =>
 opt2 (oPick (.v x14) (.v (.bool true)) (.v x18) rec PT.nil s) fun x19 s =>
 condV x19
 (some (oneOf [(.bool false)], s))
 (opt2 (oBin (int2 addO) (.v k.2.1) (.v k.2.2) rec PT.nil s) fun x20 s =>
 opt2 (rec 20 [x9, x1, x20] s) fun x21 s =>
 opt2 (oExtract (.v x21) 0 rec PT.nil s) fun x22 s =>
 opt2 (oExtract (.v x21) 1 rec PT.nil s) fun x23 s =>
 opt2 (oBin (int2 addO) (.v k.2.1) (.v k.2.2) rec PT.nil s) fun x24 s =>
 opt2 (rec 20 [x12, x1, x24] s) fun x25 s =>
 opt2 (oExtract (.v x25) 0 rec PT.nil s) fun x26 s =>
 opt2 (oExtract (.v x25) 1 rec PT.nil s) fun x27 s =>
 opt2 (oBin (int2 addO) (.v k.2.1) (.v k.2.2) rec PT.nil s) fun x28 s =>
 opt2 (rec 22 [x4, x1, x28] s) fun x29 s =>
 opt2 (oExtract (.v x29) 0 rec PT.nil s) fun x30 s =>
 opt2 (oExtract (.v x29) 1 rec PT.nil s) fun x31 s =>
 opt2 (oBin (int2 (cmpO eqI)) (.v x23) (.v (.int .i64 0)) rec PT.nil s) fun x32 s =>
 opt (gval true x32) fun x33 => opt2 (orUndef x33 (some (x27, s)) s) fun x34 s =>
 opt (gval true x32) fun x35 => opt2 (orUndef x35 (oBin (int2 (cmpO eqI)) (.v x34) (.v (.int .i64 0)) rec PT.nil s) s) fun x36 s =>
 opt2 (oPick (.v x32) (.v x36) (.v (.bool false)) rec PT.nil s) fun x37 s =>
 opt (gval true x37) fun x38 => opt2 (orUndef x38 (some (x31, s)) s) fun x39 s =>
 opt (gval true x37) fun x40 => opt2 (orUndef x40 (oBin (int2 (cmpO eqI)) (.v x39) (.v (.int .i64 0)) rec PT.nil s) s) fun x41 s =>
 opt2 (oPick (.v x37) (.v x41) (.v (.bool false)) rec PT.nil s) fun x42 s =>
 opt (gval true x42) fun x43 => opt2 (orUndef x43 (some (x22, s)) s) fun x44 s =>
 opt (gval true x42) fun x45 => opt2 (orUndef x45 (some (x26, s)) s) fun x46 s =>
 opt (gval true x42) fun x47 => opt2 (orUndef x47 (oBin (int2 (cmpO eqI)) (.v x44) (.v x46) rec PT.nil s) s) fun x48 s =>
 Q8_q2 rec N (k.2.1, x4, x9, x12, x22, x30, x42, x48) s)
set_option maxHeartbeats 4000000 in
theorem j8_j1 (rec : Rec) (N : Nat) (fs : Frm) (s : St) : opt2 (c8_j1 rec N fs s) (fun e r => finX [.tmp t6] e r) = J8_j1 rec N (orU (fs.get t0), orU (fs.get t1), orU (fs.get t2)) s := by
  rw [d8_j1]
  unfold D8_j1 J8_j1
  simp (maxSteps := 4000000) only [thenX_n, thenX_e, thenX_r, x_exit, x_skip, x_ret, blkX_n, blkX_r, blkX_e, finX_r, finX_n, res_n, res_t, op2_op2, op2_op, op2_s, op2_cond, op2_bf, mov_v, j8_q2 rec N]
  first | done | kernel_rfl
def J8_j0 (rec : Rec) (N : Nat) (k : Value × Value × Value × Value) (s : St) : Out := condV k.2.2.2
 (some (oneOf [(.bool true)], s))
 (J8_j1 rec N (k.1, k.2.1, k.2.2.1) s)
set_option maxHeartbeats 4000000 in
theorem j8_j0 (rec : Rec) (N : Nat) (fs : Frm) (s : St) : opt2 (c8_j0 rec N fs s) (fun e r => opt2 (thenX (c8_j1 rec N) e r) fun e r => finX [.tmp t6] e r) = J8_j0 rec N (orU (fs.get t0), orU (fs.get t1), orU (fs.get t2), orU (fs.get t44)) s := by
  rw [d8_j0]
  unfold D8_j0 J8_j0
  simp (maxSteps := 4000000) only [thenX_n, thenX_e, thenX_r, x_exit, x_skip, x_ret, blkX_n, blkX_r, blkX_e, finX_r, finX_n, res_n, res_t, op2_op2, op2_op, op2_s, op2_cond, op2_bf, mov_v, j8_j1 rec N]
  first | done | kernel_rfl
def Q8_q0 (rec : Rec) (N : Nat) (k : Value × Value × Value × Value) (s : St) : Out := opt (gval false k.2.2.2) fun x1 => opt2 (orUndef x1 (some (k.2.2.1, s)) s) fun x2 s =>
 opt (gval false k.2.2.2) fun x3 => opt2 (orUndef x3 (oBin (int2 (cmpO ltI)) (.v x2) (.v (.int .i64 0)) rec PT.nil s) s) fun x4 s =>
 opt2 (oPick (.v k.2.2.2) (.v (.bool true)) (.v x4) rec PT.nil s) fun x5 s =>
 opt (gval false x5) fun x6 => opt2 (orUndef x6 (some (k.2.2.1, s)) s) fun x7 s =>
 opt (gval false x5) fun x8 => opt2 (orUndef x8 (oBin (int2 (cmpO gtI)) (.v x7) (.v (.int .i64 2000)) rec PT.nil s) s) fun x9 s =>
 opt2 (oPick (.v x5) (.v (.bool true)) (.v x9) rec PT.nil s) fun x10 s =>
 J8_j0 rec N (k.1, k.2.1, k.2.2.1, x10) s
set_option maxHeartbeats 4000000 in
theorem j8_q0 (rec : Rec) (N : Nat) (fs : Frm) (s : St) : opt2 (runOps rec c8_q0 fs s) (fun fs s => opt2 (c8_j0 rec N fs s) fun e r => opt2 (thenX (c8_j1 rec N) e r) fun e r => finX [.tmp t6] e r) = Q8_q0 rec N (orU (fs.get t0), orU (fs.get t1), orU (fs.get t2), orU (fs.get t36)) s := by
  rw [d8_q0]
  unfold D8_q0 Q8_q0
  simp (maxSteps := 4000000) only [thenX_n, thenX_e, thenX_r, x_exit, x_skip, x_ret, blkX_n, blkX_r, blkX_e, finX_r, finX_n, res_n, res_t, op2_op2, op2_op, op2_s, op2_cond, op2_bf, mov_v, j8_j0 rec N]
  first | done | kernel_rfl
def F8 (rec : Rec) (N : Nat) (a0 : Value) (a1 : Value) (a2 : Value) (s : St) : Out := opt2 (rec 9 [] s) fun x1 s =>
 opt2 (oNot (.v x1) rec PT.nil s) fun x2 s =>
 condV x2
 (some (oneOf [(.bool false)], s))
 (opt2 (oBin (int2 (cmpO ltI)) (.v a0) (.v (.int .i64 1)) rec PT.nil s) fun x3 s =>
 opt (gval false x3) fun x4 => opt2 (orUndef x4 (some (a0, s)) s) fun x5 s =>
 opt (gval false x3) fun x6 => opt2 (orUndef x6 (oBin (int2 (cmpO gtI)) (.v x5) (.v (.int .i64 1099511627776)) rec PT.nil s) s) fun x7 s =>
 opt2 (oPick (.v x3) (.v (.bool true)) (.v x7) rec PT.nil s) fun x8 s =>
 opt (gval false x8) fun x9 => opt2 (orUndef x9 (some (a1, s)) s) fun x10 s =>
 opt (gval false x8) fun x11 => opt2 (orUndef x11 (oBin (int2 (cmpO ltI)) (.v x10) (.v (.int .i64 0)) rec PT.nil s) s) fun x12 s =>
 opt2 (oPick (.v x8) (.v (.bool true)) (.v x12) rec PT.nil s) fun x13 s =>
 opt (gval false x13) fun x14 => opt2 (orUndef x14 (some (a1, s)) s) fun x15 s =>
 opt (gval false x13) fun x16 => opt2 (orUndef x16 (oBin (int2 (cmpO gtI)) (.v x15) (.v (.int .i64 2000)) rec PT.nil s) s) fun x17 s =>
 opt2 (oPick (.v x13) (.v (.bool true)) (.v x17) rec PT.nil s) fun x18 s =>
 Q8_q0 rec N (a0, a1, a2, x18) s)
theorem f8 (rec : Rec) (N : Nat) (a0 : Value) (a1 : Value) (a2 : Value) (s : St) : callF rec N c8 [a0, a1, a2] s = F8 rec N a0 a1 a2 s := by
  rw [d8]
  unfold D8 F8
  simp (maxSteps := 4000000) only [mov_v, op2_s, j8_q0 rec N]
  first | done | kernel_rfl
-- c11
def D11 (rec : Rec) (N : Nat) (a0 : Value) (a1 : Value) (s : St) : Out := opt2 (oMov (.v (.pointer none)) rec PT.nil s) fun x1 s =>
 opt2 (oMov (.v (.int .i64 0)) rec PT.nil s) fun x2 s =>
 opt2 (oMov (.v a0) rec PT.nil s) fun x3 s =>
 opt2 (oBin (int2 (cmpO ltI)) (.v x3) (.v (.int .i64 0)) rec PT.nil s) fun x4 s =>
 opt2 (oMov (.v x4) rec PT.nil s) fun x5 s =>
 opt (gval false x5) fun x6 => opt2 (orUndef x6 (oMov (.v a0) rec PT.nil s) s) fun x7 s =>
 opt (gval false x5) fun x8 => opt2 (orUndef x8 (oBin (int2 (cmpO gtI)) (.v x7) (.v (.int .i64 109572)) rec PT.nil s) s) fun x9 s =>
 opt2 (oPick (.v x5) (.v (.bool true)) (.v x9) rec PT.nil s) fun x10 s =>
 opt2 (oMov (.v x10) rec PT.nil s) fun x11 s =>
 condV x11
 (opt2 (oMov (.v (.pointer none)) rec PT.nil s) fun x12 s =>
 opt2 (oMov (.v (.int .i64 12)) rec PT.nil s) fun x13 s =>
 some (oneOf [x12, x13], s))
 (opt2 (oMov (.v a1) rec PT.nil s) fun x14 s =>
 opt2 (oBin (int2 (cmpO ltI)) (.v x14) (.v (.int .i64 0)) rec PT.nil s) fun x15 s =>
 opt2 (oMov (.v x15) rec PT.nil s) fun x16 s =>
 opt (gval false x16) fun x17 => opt2 (orUndef x17 (oMov (.v a1) rec PT.nil s) s) fun x18 s =>
 opt (gval false x16) fun x19 => opt2 (orUndef x19 (oBin (int2 (cmpO gtI)) (.v x18) (.v (.int .i64 4503599627370496)) rec PT.nil s) s) fun x20 s =>
 opt2 (oPick (.v x16) (.v (.bool true)) (.v x20) rec PT.nil s) fun x21 s =>
 opt2 (oMov (.v x21) rec PT.nil s) fun x22 s =>
 condV x22
 (opt2 (oMov (.v (.pointer none)) rec PT.nil s) fun x23 s =>
 opt2 (oMov (.v (.int .i64 1)) rec PT.nil s) fun x24 s =>
 some (oneOf [x23, x24], s))
 (opt2 (oMov (.v a0) rec PT.nil s) fun x25 s =>
 opt2 (oMov (.v a1) rec PT.nil s) fun x26 s =>
 opt2 (oBuild [(.int .i64 0), (.int .i64 0), (.int .i64 0), (.int .i64 0), (.int .u64 0)] [(0, 1, (.v x25)), (1, 1, (.v x26))] rec PT.nil s) fun x27 s =>
 opt2 (oBox (.v x27) rec PT.nil s) fun x28 s =>
 opt2 (oMov (.v x28) rec PT.nil s) fun x29 s =>
 opt2 (oMov (.v (.int .i64 0)) rec PT.nil s) fun x30 s =>
 some (oneOf [x29, x30], s)))
set_option maxHeartbeats 4000000 in
theorem d11 (rec : Rec) (N : Nat) (a0 : Value) (a1 : Value) (s : St) : callF rec N c11 [a0, a1] s = D11 rec N a0 a1 s := by
  rw [call_f _ _ _ _ _ rfl]
  simp (maxSteps := 4000000) only [c11, lenN, x_seq, x_ops, x_skip, x_ret, x_exit, x_cond, x_block, x_loop, ops_c, ops_n, op1_u, op1_gj, rq_c, rq_n, opQ_u, opQ_g, op2_op2, op2_op, op2_s, op2_cond, thenX_n, thenX_e, thenX_r, blkX_n, blkX_r, blkX_e, finX_r, finX_n, res_n, res_t, op_s, Nat.beq_refl, cond_true]
  first | done | kernel_rfl
def F11 (rec : Rec) (N : Nat) (a0 : Value) (a1 : Value) (s : St) : Out := opt2 (oBin (int2 (cmpO ltI)) (.v a0) (.v (.int .i64 0)) rec PT.nil s) fun x1 s =>
 opt (gval false x1) fun x2 => opt2 (orUndef x2 (some (a0, s)) s) fun x3 s =>
 opt (gval false x1) fun x4 => opt2 (orUndef x4 (oBin (int2 (cmpO gtI)) (.v x3) (.v (.int .i64 109572)) rec PT.nil s) s) fun x5 s =>
 opt2 (oPick (.v x1) (.v (.bool true)) (.v x5) rec PT.nil s) fun x6 s =>
 condV x6
 (some (oneOf [(.pointer none), (.int .i64 12)], s))
 (opt2 (oBin (int2 (cmpO ltI)) (.v a1) (.v (.int .i64 0)) rec PT.nil s) fun x7 s =>
 opt (gval false x7) fun x8 => opt2 (orUndef x8 (some (a1, s)) s) fun x9 s =>
 opt (gval false x7) fun x10 => opt2 (orUndef x10 (oBin (int2 (cmpO gtI)) (.v x9) (.v (.int .i64 4503599627370496)) rec PT.nil s) s) fun x11 s =>
 opt2 (oPick (.v x7) (.v (.bool true)) (.v x11) rec PT.nil s) fun x12 s =>
 condV x12
 (some (oneOf [(.pointer none), (.int .i64 1)], s))
 (opt2 (oBuild [(.int .i64 0), (.int .i64 0), (.int .i64 0), (.int .i64 0), (.int .u64 0)] [(0, 1, (.v a0)), (1, 1, (.v a1))] rec PT.nil s) fun x13 s =>
 opt2 (oBox (.v x13) rec PT.nil s) fun x14 s =>
 some (oneOf [x14, (.int .i64 0)], s)))
set_option maxHeartbeats 4000000 in
theorem f11 (rec : Rec) (N : Nat) (a0 : Value) (a1 : Value) (s : St) : callF rec N c11 [a0, a1] s = F11 rec N a0 a1 s := by
  rw [d11]
  unfold D11 F11
  first
    | done
    | rfl
    | (simp (maxSteps := 4000000) only [mov_v, op2_s]; first | done | kernel_rfl)
    | kernel_rfl
end
end Go.Proofs.Ytdnedangfnincaa.AbsAccO
