import Derived.Test.YtdfmhjbmenfaeaaDoorAbsCalDE
import Derived.Test.YtdfmhjbmenfaeaaDoorAbsZF
namespace Go.Proofs.YtdfmhjbmenfaeaaDoor.AbsCalD
open Go Go.Abs Go.Proofs
set_option maxRecDepth 100000
set_option linter.unusedVariables false
set_option linter.unusedSimpArgs false
set_option maxHeartbeats 4000000
noncomputable section
def D4_q0 (rec : Rec) (fs : Frm) (s : St) : Option (Frm × St) := some ((PT.put (orU (fs.get t36)) t14 fs), s)
theorem d4_q0 (rec : Rec) (fs : Frm) (s : St) : runOps rec c4_q0 fs s = D4_q0 rec fs s := by
  simp (maxSteps := 4000000) only [c4_q0, D4_q0, call_f, lenN, x_reg, reg_n, reg_c, reg1_u, reg1_g, op2_cons, op2_bif, x_seq, x_ops, x_skip, x_ret, x_exit, x_cond, x_block, x_loop, ops_c, ops_n, op1_u, op1_gj, op2_op2, op2_op, op2_s, op2_cond, thenX_n, thenX_e, thenX_r, blkX_n, blkX_r, blkX_e, finX_r, finX_n, res_n, res_t, mov_f, op_s, Nat.beq_refl, cond_true]
  first | done | kernel_rfl
def D4_q1 (rec : Rec) (fs : Frm) (s : St) : Option (Frm × St) := some ((PT.put (orU (fs.get t43)) t18 fs), s)
theorem d4_q1 (rec : Rec) (fs : Frm) (s : St) : runOps rec c4_q1 fs s = D4_q1 rec fs s := by
  simp (maxSteps := 4000000) only [c4_q1, D4_q1, call_f, lenN, x_reg, reg_n, reg_c, reg1_u, reg1_g, op2_cons, op2_bif, x_seq, x_ops, x_skip, x_ret, x_exit, x_cond, x_block, x_loop, ops_c, ops_n, op1_u, op1_gj, op2_op2, op2_op, op2_s, op2_cond, thenX_n, thenX_e, thenX_r, blkX_n, blkX_r, blkX_e, finX_r, finX_n, res_n, res_t, mov_f, op_s, Nat.beq_refl, cond_true]
  first | done | kernel_rfl
def D4_q2 (rec : Rec) (fs : Frm) (s : St) : Option (Frm × St) := opt (gval false (orU (fs.get t52))) fun x1 => opt2 (orUndef x1 (some ((orU (fs.get t17)), s)) s) fun x2 s =>
 opt (gval false (orU (fs.get t52))) fun x3 => opt2 (orUndef x3 (oBin (int2 (cmpO neI)) (.v (orU (fs.get t53))) (.v x2) rec PT.nil s) s) fun x4 s =>
 opt2 (oPick (.v (orU (fs.get t52))) (.v (.bool true)) (.v x4) rec PT.nil s) fun x5 s =>
 opt (gval false x5) fun x6 => opt2 (orUndef x6 (some ((orU (fs.get t14)), s)) s) fun x7 s =>
 opt (gval false x5) fun x8 => opt2 (orUndef x8 (some ((orU (fs.get t18)), s)) s) fun x9 s =>
 opt (gval false x5) fun x10 => opt2 (orUndef x10 (oEqv eqB true (.v x7) (.v x9) rec PT.nil s) s) fun x11 s =>
 opt2 (oPick (.v x5) (.v (.bool true)) (.v x11) rec PT.nil s) fun x12 s =>
 some ((PT.put x12 t61 (PT.put x11 t60 (PT.put x9 t59 (PT.put x7 t58 (PT.put x5 t57 (PT.put x5 t56 (PT.put x4 t55 (PT.put x2 t54 fs)))))))), s)
theorem d4_q2 (rec : Rec) (fs : Frm) (s : St) : runOps rec c4_q2 fs s = D4_q2 rec fs s := by
  simp (maxSteps := 4000000) only [c4_q2, D4_q2, call_f, lenN, x_reg, reg_n, reg_c, reg1_u, reg1_g, op2_cons, op2_bif, x_seq, x_ops, x_skip, x_ret, x_exit, x_cond, x_block, x_loop, ops_c, ops_n, op1_u, op1_gj, op2_op2, op2_op, op2_s, op2_cond, thenX_n, thenX_e, thenX_r, blkX_n, blkX_r, blkX_e, finX_r, finX_n, res_n, res_t, mov_f, op_s, Nat.beq_refl, cond_true]
  first | done | kernel_rfl
def D4_q3 (rec : Rec) (fs : Frm) (s : St) : Option (Frm × St) := opt (gval true (orU (fs.get t129))) fun x1 => opt2 (orUndef x1 (some ((orU (fs.get t2)), s)) s) fun x2 s =>
 opt (gval true (orU (fs.get t129))) fun x3 => opt2 (orUndef x3 (rec 17 [(orU (fs.get t130)), x2] s) s) fun x4 s =>
 opt (gval true (orU (fs.get t129))) fun x5 => opt2 (orUndef x5 (some ((orU (fs.get t1)), s)) s) fun x6 s =>
 opt (gval true (orU (fs.get t129))) fun x7 => opt2 (orUndef x7 (some ((orU (fs.get t2)), s)) s) fun x8 s =>
 opt (gval true (orU (fs.get t129))) fun x9 => opt2 (orUndef x9 (rec 24 [x6, x8] s) s) fun x10 s =>
 opt (gval true (orU (fs.get t129))) fun x11 => opt2 (orUndef x11 (oBin (int2 (cmpO eqI)) (.v x4) (.v x10) rec PT.nil s) s) fun x12 s =>
 opt2 (oPick (.v (orU (fs.get t129))) (.v x12) (.v (.bool false)) rec PT.nil s) fun x13 s =>
 some ((PT.put x13 t10 (PT.put x13 t137 (PT.put x12 t136 (PT.put x10 t135 (PT.put x8 t134 (PT.put x6 t133 (PT.put x4 t132 (PT.put x2 t131 fs)))))))), s)
theorem d4_q3 (rec : Rec) (fs : Frm) (s : St) : runOps rec c4_q3 fs s = D4_q3 rec fs s := by
  simp (maxSteps := 4000000) only [c4_q3, D4_q3, call_f, lenN, x_reg, reg_n, reg_c, reg1_u, reg1_g, op2_cons, op2_bif, x_seq, x_ops, x_skip, x_ret, x_exit, x_cond, x_block, x_loop, ops_c, ops_n, op1_u, op1_gj, op2_op2, op2_op, op2_s, op2_cond, thenX_n, thenX_e, thenX_r, blkX_n, blkX_r, blkX_e, finX_r, finX_n, res_n, res_t, mov_f, op_s, Nat.beq_refl, cond_true]
  first | done | kernel_rfl
def D4_q4 (rec : Rec) (fs : Frm) (s : St) : Option (Frm × St) := opt2 (oPick (.v (orU (fs.get t115))) (.v (orU (fs.get t120))) (.v (.bool false)) rec PT.nil s) fun x1 s =>
 opt (gval true x1) fun x2 => opt2 (orUndef x2 (some ((orU (fs.get t1)), s)) s) fun x3 s =>
 opt (gval true x1) fun x4 => opt2 (orUndef x4 (rec 22 [x3] s) s) fun x5 s =>
 opt (gval true x1) fun x6 => opt2 (orUndef x6 (some ((orU (fs.get t1)), s)) s) fun x7 s =>
 opt (gval true x1) fun x8 => opt2 (orUndef x8 (rec 23 [x7] s) s) fun x9 s =>
 opt (gval true x1) fun x10 => opt2 (orUndef x10 (oEqv eqB false (.v x5) (.v x9) rec PT.nil s) s) fun x11 s =>
 opt2 (oPick (.v x1) (.v x11) (.v (.bool false)) rec PT.nil s) fun x12 s =>
 opt (gval true x12) fun x13 => opt2 (orUndef x13 (some ((orU (fs.get t1)), s)) s) fun x14 s =>
 runOps rec c4_q3 (PT.put x14 t130 (PT.put x12 t129 (PT.put x12 t128 (PT.put x11 t127 (PT.put x9 t126 (PT.put x7 t125 (PT.put x5 t124 (PT.put x3 t123 (PT.put x1 t122 (PT.put x1 t121 fs)))))))))) s
theorem d4_q4 (rec : Rec) (fs : Frm) (s : St) : runOps rec c4_q4 fs s = D4_q4 rec fs s := by
  simp (maxSteps := 4000000) only [c4_q4, D4_q4, call_f, lenN, x_reg, reg_n, reg_c, reg1_u, reg1_g, op2_cons, op2_bif, x_seq, x_ops, x_skip, x_ret, x_exit, x_cond, x_block, x_loop, ops_c, ops_n, op1_u, op1_gj, op2_op2, op2_op, op2_s, op2_cond, thenX_n, thenX_e, thenX_r, blkX_n, blkX_r, blkX_e, finX_r, finX_n, res_n, res_t, mov_f, op_s, Nat.beq_refl, cond_true]
  first | done | kernel_rfl
def D4_q5 (rec : Rec) (fs : Frm) (s : St) : Option (Frm × St) := opt (gval true (orU (fs.get t109))) fun x1 => opt2 (orUndef x1 (rec 16 [(orU (fs.get t110))] s) s) fun x2 s =>
 opt (gval true (orU (fs.get t109))) fun x3 => opt2 (orUndef x3 (some ((orU (fs.get t27)), s)) s) fun x4 s =>
 opt (gval true (orU (fs.get t109))) fun x5 => opt2 (orUndef x5 (oBin (int2 (cmpO eqI)) (.v x2) (.v x4) rec PT.nil s) s) fun x6 s =>
 opt2 (oPick (.v (orU (fs.get t109))) (.v x6) (.v (.bool false)) rec PT.nil s) fun x7 s =>
 opt (gval true x7) fun x8 => opt2 (orUndef x8 (some ((orU (fs.get t0)), s)) s) fun x9 s =>
 opt (gval true x7) fun x10 => opt2 (orUndef x10 (rec 15 [x9] s) s) fun x11 s =>
 opt (gval true x7) fun x12 => opt2 (orUndef x12 (some ((orU (fs.get t0)), s)) s) fun x13 s =>
 opt (gval true x7) fun x14 => opt2 (orUndef x14 (rec 21 [x13] s) s) fun x15 s =>
 opt (gval true x7) fun x16 => opt2 (orUndef x16 (oBin (str2 (cmpS eqBytes)) (.v x11) (.v x15) rec PT.nil s) s) fun x17 s =>
 runOps rec c4_q4 (PT.put x17 t120 (PT.put x15 t119 (PT.put x13 t118 (PT.put x11 t117 (PT.put x9 t116 (PT.put x7 t115 (PT.put x7 t114 (PT.put x6 t113 (PT.put x4 t112 (PT.put x2 t111 fs)))))))))) s
theorem d4_q5 (rec : Rec) (fs : Frm) (s : St) : runOps rec c4_q5 fs s = D4_q5 rec fs s := by
  simp (maxSteps := 4000000) only [c4_q5, D4_q5, call_f, lenN, x_reg, reg_n, reg_c, reg1_u, reg1_g, op2_cons, op2_bif, x_seq, x_ops, x_skip, x_ret, x_exit, x_cond, x_block, x_loop, ops_c, ops_n, op1_u, op1_gj, op2_op2, op2_op, op2_s, op2_cond, thenX_n, thenX_e, thenX_r, blkX_n, blkX_r, blkX_e, finX_r, finX_n, res_n, res_t, mov_f, op_s, Nat.beq_refl, cond_true]
  first | done | kernel_rfl
def D4_q6 (rec : Rec) (fs : Frm) (s : St) : Option (Frm × St) := opt (gval true (orU (fs.get t99))) fun x1 => opt2 (orUndef x1 (some ((orU (fs.get t25)), s)) s) fun x2 s =>
 opt (gval true (orU (fs.get t99))) fun x3 => opt2 (orUndef x3 (oBin (int2 (cmpO eqI)) (.v (orU (fs.get t100))) (.v x2) rec PT.nil s) s) fun x4 s =>
 opt2 (oPick (.v (orU (fs.get t99))) (.v x4) (.v (.bool false)) rec PT.nil s) fun x5 s =>
 opt (gval true x5) fun x6 => opt2 (orUndef x6 (some ((orU (fs.get t24)), s)) s) fun x7 s =>
 opt (gval true x5) fun x8 => opt2 (orUndef x8 (some ((orU (fs.get t26)), s)) s) fun x9 s =>
 opt (gval true x5) fun x10 => opt2 (orUndef x10 (oEqv eqB false (.v x7) (.v x9) rec PT.nil s) s) fun x11 s =>
 opt2 (oPick (.v x5) (.v x11) (.v (.bool false)) rec PT.nil s) fun x12 s =>
 opt (gval true x12) fun x13 => opt2 (orUndef x13 (some ((orU (fs.get t0)), s)) s) fun x14 s =>
 runOps rec c4_q5 (PT.put x14 t110 (PT.put x12 t109 (PT.put x12 t108 (PT.put x11 t107 (PT.put x9 t106 (PT.put x7 t105 (PT.put x5 t104 (PT.put x5 t103 (PT.put x4 t102 (PT.put x2 t101 fs)))))))))) s
theorem d4_q6 (rec : Rec) (fs : Frm) (s : St) : runOps rec c4_q6 fs s = D4_q6 rec fs s := by
  simp (maxSteps := 4000000) only [c4_q6, D4_q6, call_f, lenN, x_reg, reg_n, reg_c, reg1_u, reg1_g, op2_cons, op2_bif, x_seq, x_ops, x_skip, x_ret, x_exit, x_cond, x_block, x_loop, ops_c, ops_n, op1_u, op1_gj, op2_op2, op2_op, op2_s, op2_cond, thenX_n, thenX_e, thenX_r, blkX_n, blkX_r, blkX_e, finX_r, finX_n, res_n, res_t, mov_f, op_s, Nat.beq_refl, cond_true]
  first | done | kernel_rfl
def D4 (rec : Rec) (N : Nat) (a0 : Value) (a1 : Value) (a2 : Value) (a3 : Value) (a4 : Value) (s : St) : Out := opt2 (rec 10 [] s) fun x1 s =>
 opt2 (oNot (.v x1) rec PT.nil s) fun x2 s =>
 condV x2
 (some (oneOf [(.bool false)], s))
 (opt2 (rec 14 [a0] s) fun x3 s =>
 opt2 (oExtract (.v x3) 0 rec PT.nil s) fun x4 s =>
 opt2 (oExtract (.v x3) 1 rec PT.nil s) fun x5 s =>
 opt2 (oExtract (.v x3) 2 rec PT.nil s) fun x6 s =>
 opt2 (oExtract (.v x3) 3 rec PT.nil s) fun x7 s =>
 opt2 (runOps rec c4_q0 (PT.put x6 t13 (PT.put x5 t12 (PT.put x4 t11 (PT.put x7 t36 (PT.put x6 t35 (PT.put x5 t34 (PT.put x4 t33 (PT.put x3 t30 (PT.put x3 t32 (PT.put a0 t31 (PT.put x2 t29 (PT.put x1 t28 (PT.put (.bool false) t10 (PT.put a4 t4 (PT.put a3 t3 (PT.put a2 t2 (PT.put a1 t1 (PT.put a0 t0 PT.nil)))))))))))))))))) s) fun fs s =>
 opt2 (rec 18 [(orU (fs.get t0))] s) fun x8 s =>
 opt2 (oExtract (.v x8) 0 rec PT.nil s) fun x9 s =>
 opt2 (oExtract (.v x8) 1 rec PT.nil s) fun x10 s =>
 opt2 (oExtract (.v x8) 2 rec PT.nil s) fun x11 s =>
 opt2 (oExtract (.v x8) 3 rec PT.nil s) fun x12 s =>
 opt2 (runOps rec c4_q1 (PT.put x11 t17 (PT.put x10 t16 (PT.put x9 t15 (PT.put x12 t43 (PT.put x11 t42 (PT.put x10 t41 (PT.put x9 t40 (PT.put x8 t37 (PT.put x8 t39 (PT.put (orU (fs.get t0)) t38 fs)))))))))) s) fun fs s =>
 opt2 (oBin (int2 (cmpO neI)) (.v (orU (fs.get t11))) (.v (orU (fs.get t15))) rec PT.nil s) fun x13 s =>
 opt (gval false x13) fun x14 => opt2 (orUndef x14 (some ((orU (fs.get t12)), s)) s) fun x15 s =>
 opt (gval false x13) fun x16 => opt2 (orUndef x16 (some ((orU (fs.get t16)), s)) s) fun x17 s =>
 opt (gval false x13) fun x18 => opt2 (orUndef x18 (oBin (int2 (cmpO neI)) (.v x15) (.v x17) rec PT.nil s) s) fun x19 s =>
 opt2 (oPick (.v x13) (.v (.bool true)) (.v x19) rec PT.nil s) fun x20 s =>
 opt (gval false x20) fun x21 => opt2 (orUndef x21 (some ((orU (fs.get t13)), s)) s) fun x22 s =>
 opt2 (runOps rec c4_q2 (PT.put x22 t53 (PT.put x20 t52 (PT.put x20 t51 (PT.put x19 t50 (PT.put x17 t49 (PT.put x15 t48 (PT.put x13 t47 (PT.put x13 t46 (PT.put (orU (fs.get t15)) t45 (PT.put (orU (fs.get t11)) t44 fs)))))))))) s) fun fs s =>
 condV (orU (fs.get t61))
 (some (oneOf [(.bool false)], s))
 (opt2 (rec 11 [(orU (fs.get t1)), (orU (fs.get t2)), (orU (fs.get t3))] s) fun x23 s =>
 opt2 (oExtract (.v x23) 0 rec PT.nil s) fun x24 s =>
 opt2 (oExtract (.v x23) 1 rec PT.nil s) fun x25 s =>
 opt2 (rec 19 [(orU (fs.get t1)), (orU (fs.get t2)), (orU (fs.get t3))] s) fun x26 s =>
 opt2 (oExtract (.v x26) 0 rec PT.nil s) fun x27 s =>
 opt2 (oExtract (.v x26) 1 rec PT.nil s) fun x28 s =>
 opt2 (rec 12 [(orU (fs.get t0)), (orU (fs.get t4))] s) fun x29 s =>
 opt2 (oExtract (.v x29) 0 rec PT.nil s) fun x30 s =>
 opt2 (oExtract (.v x29) 1 rec PT.nil s) fun x31 s =>
 opt2 (rec 20 [(orU (fs.get t0)), (orU (fs.get t4))] s) fun x32 s =>
 opt2 (oExtract (.v x32) 0 rec PT.nil s) fun x33 s =>
 opt2 (oExtract (.v x32) 1 rec PT.nil s) fun x34 s =>
 condV (orU (fs.get t18))
 (opt2 (oBin (int2 remO) (.v (orU (fs.get t0))) (.v (.int .i64 7)) rec PT.nil s) fun x35 s =>
 opt2 (oBin (int2 (cmpO eqI)) (.v x24) (.v x27) rec PT.nil s) fun x36 s =>
 opt (gval true x36) fun x37 => opt2 (orUndef x37 (some (x25, s)) s) fun x38 s =>
 opt (gval true x36) fun x39 => opt2 (orUndef x39 (some (x28, s)) s) fun x40 s =>
 opt (gval true x36) fun x41 => opt2 (orUndef x41 (oEqv eqB false (.v x38) (.v x40) rec PT.nil s) s) fun x42 s =>
 opt2 (oPick (.v x36) (.v x42) (.v (.bool false)) rec PT.nil s) fun x43 s =>
 opt (gval true x43) fun x44 => opt2 (orUndef x44 (some (x30, s)) s) fun x45 s =>
 opt2 (runOps rec c4_q6 (PT.put x45 t100 (PT.put x43 t99 (PT.put x43 t98 (PT.put x42 t97 (PT.put x40 t96 (PT.put x38 t95 (PT.put x36 t94 (PT.put x36 t93 (PT.put x27 t92 (PT.put x24 t91 (PT.put x35 t27 (PT.put x35 t90 (PT.put (orU (fs.get t0)) t89 (PT.put (orU (fs.get t18)) t88 (PT.put (.int .i64 (-1)) t27 (PT.put x34 t26 (PT.put x33 t25 (PT.put x34 t87 (PT.put x33 t86 (PT.put x32 t82 (PT.put x32 t85 (PT.put (orU (fs.get t4)) t84 (PT.put (orU (fs.get t0)) t83 (PT.put x31 t24 (PT.put x30 t23 (PT.put x31 t81 (PT.put x30 t80 (PT.put x29 t76 (PT.put x29 t79 (PT.put (orU (fs.get t4)) t78 (PT.put (orU (fs.get t0)) t77 (PT.put x28 t22 (PT.put x27 t21 (PT.put x28 t75 (PT.put x27 t74 (PT.put x26 t69 (PT.put x26 t73 (PT.put (orU (fs.get t3)) t72 (PT.put (orU (fs.get t2)) t71 (PT.put (orU (fs.get t1)) t70 (PT.put x25 t20 (PT.put x24 t19 (PT.put x25 t68 (PT.put x24 t67 (PT.put x23 t62 (PT.put x23 t66 (PT.put (orU (fs.get t3)) t65 (PT.put (orU (fs.get t2)) t64 (PT.put (orU (fs.get t1)) t63 fs))))))))))))))))))))))))))))))))))))))))))))))))) s) fun fs s =>
 some (oneOf [(orU (fs.get t10))], s))
 (opt2 (oBin (int2 (cmpO eqI)) (.v x24) (.v x27) rec PT.nil s) fun x46 s =>
 opt (gval true x46) fun x47 => opt2 (orUndef x47 (some (x25, s)) s) fun x48 s =>
 opt (gval true x46) fun x49 => opt2 (orUndef x49 (some (x28, s)) s) fun x50 s =>
 opt (gval true x46) fun x51 => opt2 (orUndef x51 (oEqv eqB false (.v x48) (.v x50) rec PT.nil s) s) fun x52 s =>
 opt2 (oPick (.v x46) (.v x52) (.v (.bool false)) rec PT.nil s) fun x53 s =>
 opt (gval true x53) fun x54 => opt2 (orUndef x54 (some (x30, s)) s) fun x55 s =>
 opt2 (runOps rec c4_q6 (PT.put x55 t100 (PT.put x53 t99 (PT.put x53 t98 (PT.put x52 t97 (PT.put x50 t96 (PT.put x48 t95 (PT.put x46 t94 (PT.put x46 t93 (PT.put x27 t92 (PT.put x24 t91 (PT.put (orU (fs.get t18)) t88 (PT.put (.int .i64 (-1)) t27 (PT.put x34 t26 (PT.put x33 t25 (PT.put x34 t87 (PT.put x33 t86 (PT.put x32 t82 (PT.put x32 t85 (PT.put (orU (fs.get t4)) t84 (PT.put (orU (fs.get t0)) t83 (PT.put x31 t24 (PT.put x30 t23 (PT.put x31 t81 (PT.put x30 t80 (PT.put x29 t76 (PT.put x29 t79 (PT.put (orU (fs.get t4)) t78 (PT.put (orU (fs.get t0)) t77 (PT.put x28 t22 (PT.put x27 t21 (PT.put x28 t75 (PT.put x27 t74 (PT.put x26 t69 (PT.put x26 t73 (PT.put (orU (fs.get t3)) t72 (PT.put (orU (fs.get t2)) t71 (PT.put (orU (fs.get t1)) t70 (PT.put x25 t20 (PT.put x24 t19 (PT.put x25 t68 (PT.put x24 t67 (PT.put x23 t62 (PT.put x23 t66 (PT.put (orU (fs.get t3)) t65 (PT.put (orU (fs.get t2)) t64 (PT.put (orU (fs.get t1)) t63 fs)))))))))))))))))))))))))))))))))))))))))))))) s) fun fs s =>
 some (oneOf [(orU (fs.get t10))], s))))
theorem d4 (rec : Rec) (N : Nat) (a0 : Value) (a1 : Value) (a2 : Value) (a3 : Value) (a4 : Value) (s : St) : callF rec N c4 [a0, a1, a2, a3, a4] s = D4 rec N a0 a1 a2 a3 a4 s := by
  rw [call_f _ _ _ _ _ rfl]
  simp (maxSteps := 4000000) only [c4, x_reg, reg_n, reg_c, reg1_u, reg1_g, op2_cons, op2_bif, x_seq, x_ops, x_skip, x_ret, x_exit, x_cond, x_block, x_loop, ops_c, ops_n, op1_u, op1_gj, op2_op2, op2_op, op2_s, op2_cond, thenX_n, thenX_e, thenX_r, blkX_n, blkX_r, blkX_e, finX_r, finX_n, res_n, res_t, mov_f, op_s, Nat.beq_refl, cond_true]
  first | done | kernel_rfl
end
end Go.Proofs.YtdfmhjbmenfaeaaDoor.AbsCalD
