import Derived.Test.YthjhammjankekaaAbsRatOE
import Derived.Test.YthjhammjankekaaAbsZF
namespace Go.Proofs.Ythjhammjankekaa.AbsRatO
open Go Go.Abs Go.Proofs
set_option maxRecDepth 100000
set_option linter.unusedVariables false
set_option linter.unusedSimpArgs false
noncomputable section
def D4_l0 (rec : Rec) (N : Nat) (fs : Frm) (s : St) : OutX := opt2 (oLenL (.v (orU (fs.get t0))) rec PT.nil s) fun x1 s =>
 opt2 (oBin (int2 (cmpO ltI)) (.v (orU (fs.get t11))) (.v x1) rec PT.nil s) fun x2 s =>
 condV x2
 (opt2 (rU (oMov (.v (orU (fs.get t10))) rec PT.nil ⟨s.heap, s.next, 0, 0⟩) PT.nil s none) fun x3 m3 =>
 (fun s => opt2 (rU (oMov (.v (orU (fs.get t0))) rec PT.nil ⟨s.heap, s.next, 0, 0⟩) PT.nil s none) fun x4 m4 =>
 (fun s => opt2 (rU (oMov (.v (orU (fs.get t11))) rec PT.nil ⟨s.heap, s.next, 0, 0⟩) PT.nil s none) fun x5 m5 =>
 (fun s => opt2 (rU (oIdxAddrL 2 (.v x4) (.v x5) rec PT.nil ⟨s.heap, s.next, 0, 0⟩) PT.nil s none) fun x6 m6 =>
 (fun s => opt2 (rU (oFieldAddr 0 (.v x6) rec PT.nil ⟨s.heap, s.next, 0, 0⟩) PT.nil s none) fun x7 m7 =>
 (fun s => opt2 (rU (oLoad1 (.v x7) rec PT.nil ⟨s.heap, s.next, 0, 0⟩) PT.nil s (some (.v x7))) fun x8 m8 =>
 (fun s => opt2 (rU (oMov (.v (orU (fs.get t0))) rec PT.nil ⟨s.heap, s.next, 0, 0⟩) PT.nil s none) fun x9 m9 =>
 (fun s => opt2 (rU (oMov (.v (orU (fs.get t11))) rec PT.nil ⟨s.heap, s.next, 0, 0⟩) PT.nil s none) fun x10 m10 =>
 (fun s => opt2 (rU (oIdxAddrL 2 (.v x9) (.v x10) rec PT.nil ⟨s.heap, s.next, 0, 0⟩) PT.nil s none) fun x11 m11 =>
 (fun s => opt2 (rU (oFieldAddr 1 (.v x11) rec PT.nil ⟨s.heap, s.next, 0, 0⟩) PT.nil s none) fun x12 m12 =>
 (fun s => opt2 (rU (oLoad1 (.v x12) rec PT.nil ⟨s.heap, s.next, 0, 0⟩) PT.nil s (some (.v x12))) fun x13 m13 =>
 (fun s => opt2 (rU (rec 17 [x3, x8, x13] ⟨s.heap, s.next, 0, 0⟩) PT.nil s none) fun x14 m14 =>
 (fun s => opt2 (rU (oMov (.v x14) rec PT.nil ⟨s.heap, s.next, 0, 0⟩) PT.nil s none) fun x15 m15 =>
 (fun s => opt2 (rU (oExtract (.v x15) 0 rec PT.nil ⟨s.heap, s.next, 0, 0⟩) PT.nil s none) fun x16 m16 =>
 (fun s => opt2 (rU (oExtract (.v x15) 1 rec PT.nil ⟨s.heap, s.next, 0, 0⟩) PT.nil s none) fun x17 m17 =>
 (fun s => opt2 (rU (oMov (.v x16) rec PT.nil ⟨s.heap, s.next, 0, 0⟩) PT.nil s none) fun x18 m18 =>
 (fun s => opt2 (rU (oMov (.v x17) rec PT.nil ⟨s.heap, s.next, 0, 0⟩) PT.nil s none) fun x19 m19 =>
 (fun s => bif apartAll [m3.1, m4.1, m5.1, m6.1, m7.1, m8.1, m9.1, m10.1, m11.1, m12.1, m13.1, m14.1, m15.1, m16.1, m17.1, m18.1, m19.1] [(0, 1), (0, 2), (1, 2), (0, 3), (0, 4), (0, 5), (0, 6), (1, 6), (2, 6), (3, 6), (4, 6), (5, 6), (0, 7), (1, 7), (2, 7), (3, 7), (4, 7), (5, 7), (6, 7), (0, 8), (1, 8), (2, 8), (3, 8), (4, 8), (5, 8), (0, 9), (1, 9), (2, 9), (3, 9), (4, 9), (5, 9), (0, 10), (1, 10), (2, 10), (3, 10), (4, 10), (5, 10), (13, 14), (14, 15)] then opt2 (rU (oMov (.v (orU (fs.get t9))) rec PT.nil ⟨s.heap, s.next, 0, 0⟩) PT.nil s none) fun x20 m20 =>
 (fun s => opt2 (rU (oMov (.v (orU (fs.get t0))) rec PT.nil ⟨s.heap, s.next, 0, 0⟩) PT.nil s none) fun x21 m21 =>
 (fun s => opt2 (rU (oMov (.v (orU (fs.get t11))) rec PT.nil ⟨s.heap, s.next, 0, 0⟩) PT.nil s none) fun x22 m22 =>
 (fun s => opt2 (rU (oIdxAddrL 2 (.v x21) (.v x22) rec PT.nil ⟨s.heap, s.next, 0, 0⟩) PT.nil s none) fun x23 m23 =>
 (fun s => opt2 (rU (oFieldAddr 0 (.v x23) rec PT.nil ⟨s.heap, s.next, 0, 0⟩) PT.nil s none) fun x24 m24 =>
 (fun s => opt2 (rU (oLoad1 (.v x24) rec PT.nil ⟨s.heap, s.next, 0, 0⟩) PT.nil s (some (.v x24))) fun x25 m25 =>
 (fun s => opt2 (rU (oMov (.v (orU (fs.get t0))) rec PT.nil ⟨s.heap, s.next, 0, 0⟩) PT.nil s none) fun x26 m26 =>
 (fun s => opt2 (rU (oMov (.v (orU (fs.get t11))) rec PT.nil ⟨s.heap, s.next, 0, 0⟩) PT.nil s none) fun x27 m27 =>
 (fun s => opt2 (rU (oIdxAddrL 2 (.v x26) (.v x27) rec PT.nil ⟨s.heap, s.next, 0, 0⟩) PT.nil s none) fun x28 m28 =>
 (fun s => opt2 (rU (oFieldAddr 1 (.v x28) rec PT.nil ⟨s.heap, s.next, 0, 0⟩) PT.nil s none) fun x29 m29 =>
 (fun s => opt2 (rU (oLoad1 (.v x29) rec PT.nil ⟨s.heap, s.next, 0, 0⟩) PT.nil s (some (.v x29))) fun x30 m30 =>
 (fun s => opt2 (rU (rec 14 [x20, x25, x30] ⟨s.heap, s.next, 0, 0⟩) PT.nil s none) fun x31 m31 =>
 (fun s => opt2 (rU (oMov (.v x19) rec PT.nil ⟨s.heap, s.next, 0, 0⟩) PT.nil s none) fun x32 m32 =>
 (fun s => opt2 (rU (oBin (int2 (cmpO neI)) (.v x31) (.v x32) rec PT.nil ⟨s.heap, s.next, 0, 0⟩) PT.nil s none) fun x33 m33 =>
 (fun s => bif apartAll [m20.1, m21.1, m22.1, m23.1, m24.1, m25.1, m26.1, m27.1, m28.1, m29.1, m30.1, m31.1, m32.1, m33.1] [(0, 1), (0, 2), (1, 2), (0, 3), (0, 4), (0, 5), (0, 6), (1, 6), (2, 6), (3, 6), (4, 6), (5, 6), (0, 7), (1, 7), (2, 7), (3, 7), (4, 7), (5, 7), (6, 7), (0, 8), (1, 8), (2, 8), (3, 8), (4, 8), (5, 8), (0, 9), (1, 9), (2, 9), (3, 9), (4, 9), (5, 9), (0, 10), (1, 10), (2, 10), (3, 10), (4, 10), (5, 10), (0, 12), (1, 12), (2, 12), (3, 12), (4, 12), (5, 12), (6, 12), (7, 12), (8, 12), (9, 12), (10, 12), (11, 12)] then condV x33
 (some (.ret, (PT.put (.bool false) t8 (PT.put x33 t56 (PT.put x32 t55 (PT.put x31 t54 (PT.put x30 t53 (PT.put x29 t52 (PT.put x28 t51 (PT.put x27 t50 (PT.put x26 t49 (PT.put x25 t48 (PT.put x24 t47 (PT.put x23 t46 (PT.put x22 t45 (PT.put x21 t44 (PT.put x20 t43 (PT.put x19 t13 (PT.put x18 t12 (PT.put x17 t42 (PT.put x16 t41 (PT.put x15 t28 (PT.put x14 t40 (PT.put x13 t39 (PT.put x12 t38 (PT.put x11 t37 (PT.put x10 t36 (PT.put x9 t35 (PT.put x8 t34 (PT.put x7 t33 (PT.put x6 t32 (PT.put x5 t31 (PT.put x4 t30 (PT.put x3 t29 (PT.put x2 t25 (PT.put x1 t24 (PT.put (orU (fs.get t0)) t23 (PT.put (orU (fs.get t11)) t22 fs)))))))))))))))))))))))))))))))))))), s))
 (opt2 (oBin (int2 addO) (.v (orU (fs.get t11))) (.v (.int .i64 1)) rec PT.nil s) fun x34 s =>
 some (.norm, (PT.put x34 t11 (PT.put x34 t27 (PT.put (orU (fs.get t11)) t26 (PT.put x18 t10 (PT.put x18 t57 (PT.put x33 t56 (PT.put x32 t55 (PT.put x31 t54 (PT.put x30 t53 (PT.put x29 t52 (PT.put x28 t51 (PT.put x27 t50 (PT.put x26 t49 (PT.put x25 t48 (PT.put x24 t47 (PT.put x23 t46 (PT.put x22 t45 (PT.put x21 t44 (PT.put x20 t43 (PT.put x19 t13 (PT.put x18 t12 (PT.put x17 t42 (PT.put x16 t41 (PT.put x15 t28 (PT.put x14 t40 (PT.put x13 t39 (PT.put x12 t38 (PT.put x11 t37 (PT.put x10 t36 (PT.put x9 t35 (PT.put x8 t34 (PT.put x7 t33 (PT.put x6 t32 (PT.put x5 t31 (PT.put x4 t30 (PT.put x3 t29 (PT.put x2 t25 (PT.put x1 t24 (PT.put (orU (fs.get t0)) t23 (PT.put (orU (fs.get t11)) t22 fs)))))))))))))))))))))))))))))))))))))))), s)) else none) m33.2) m32.2) m31.2) m30.2) m29.2) m28.2) m27.2) m26.2) m25.2) m24.2) m23.2) m22.2) m21.2) m20.2 else none) m19.2) m18.2) m17.2) m16.2) m15.2) m14.2) m13.2) m12.2) m11.2) m10.2) m9.2) m8.2) m7.2) m6.2) m5.2) m4.2) m3.2)
 (some ((.exit 0), (PT.put x2 t25 (PT.put x1 t24 (PT.put (orU (fs.get t0)) t23 (PT.put (orU (fs.get t11)) t22 fs)))), s))
theorem d4_l0 (rec : Rec) (N : Nat) (fs : Frm) (s : St) : c4_l0 rec N fs s = D4_l0 rec N fs s := by
  simp only [c4_l0, call_f, lenN, x_reg, reg_n, reg_c, reg1_u, reg1_g, op2_cons, op2_bif, x_seq, x_ops, x_skip, x_ret, x_exit, x_cond, x_block, x_loop, ops_c, ops_n, op1_u, op1_gj, op2_op2, op2_op, op2_s, op2_cond, thenX_n, thenX_e, thenX_r, blkX_n, blkX_r, blkX_e, finX_r, finX_n, res_n, res_t, mov_f, op_s, Nat.beq_refl, cond_true]
  first | done | kernel_rfl
def D4_l1 (rec : Rec) (N : Nat) (fs : Frm) (s : St) : OutX := opt2 (oLenL (.v (orU (fs.get t14))) rec PT.nil s) fun x1 s =>
 opt2 (oBin (int2 (cmpO ltI)) (.v (orU (fs.get t15))) (.v x1) rec PT.nil s) fun x2 s =>
 condV x2
 (opt2 (rU (oMov (.v (orU (fs.get t14))) rec PT.nil ⟨s.heap, s.next, 0, 0⟩) PT.nil s none) fun x3 m3 =>
 (fun s => opt2 (rU (oMov (.v (orU (fs.get t15))) rec PT.nil ⟨s.heap, s.next, 0, 0⟩) PT.nil s none) fun x4 m4 =>
 (fun s => opt2 (rU (oIdxAddrL 2 (.v x3) (.v x4) rec PT.nil ⟨s.heap, s.next, 0, 0⟩) PT.nil s none) fun x5 m5 =>
 (fun s => opt2 (rU (oFieldAddr 0 (.v x5) rec PT.nil ⟨s.heap, s.next, 0, 0⟩) PT.nil s none) fun x6 m6 =>
 (fun s => opt2 (rU (oLoad1 (.v x6) rec PT.nil ⟨s.heap, s.next, 0, 0⟩) PT.nil s (some (.v x6))) fun x7 m7 =>
 (fun s => opt2 (rU (oMov (.v (orU (fs.get t10))) rec PT.nil ⟨s.heap, s.next, 0, 0⟩) PT.nil s none) fun x8 m8 =>
 (fun s => opt2 (rU (oMov (.v (orU (fs.get t15))) rec PT.nil ⟨s.heap, s.next, 0, 0⟩) PT.nil s none) fun x9 m9 =>
 (fun s => opt2 (rU (oIdxAddrL 2 (.v x8) (.v x9) rec PT.nil ⟨s.heap, s.next, 0, 0⟩) PT.nil s none) fun x10 m10 =>
 (fun s => opt2 (rU (oFieldAddr 0 (.v x10) rec PT.nil ⟨s.heap, s.next, 0, 0⟩) PT.nil s none) fun x11 m11 =>
 (fun s => opt2 (rU (oLoad1 (.v x11) rec PT.nil ⟨s.heap, s.next, 0, 0⟩) PT.nil s (some (.v x11))) fun x12 m12 =>
 (fun s => opt2 (rU (oBin (int2 (cmpO neI)) (.v x7) (.v x12) rec PT.nil ⟨s.heap, s.next, 0, 0⟩) PT.nil s none) fun x13 m13 =>
 (fun s => opt2 (rU (oMov (.v x13) rec PT.nil ⟨s.heap, s.next, 0, 0⟩) PT.nil s none) fun x14 m14 =>
 (fun s => opt (gval false x14) fun x38 => opt2 (orM x38 (rU (oMov (.v (orU (fs.get t14))) rec PT.nil ⟨s.heap, s.next, 0, 0⟩) PT.nil s none) s) fun x15 m15 =>
 (fun s => opt (gval false x14) fun x37 => opt2 (orM x37 (rU (oMov (.v (orU (fs.get t15))) rec PT.nil ⟨s.heap, s.next, 0, 0⟩) PT.nil s none) s) fun x16 m16 =>
 (fun s => opt (gval false x14) fun x36 => opt2 (orM x36 (rU (oIdxAddrL 2 (.v x15) (.v x16) rec PT.nil ⟨s.heap, s.next, 0, 0⟩) PT.nil s none) s) fun x17 m17 =>
 (fun s => opt (gval false x14) fun x35 => opt2 (orM x35 (rU (oFieldAddr 1 (.v x17) rec PT.nil ⟨s.heap, s.next, 0, 0⟩) PT.nil s none) s) fun x18 m18 =>
 (fun s => opt (gval false x14) fun x34 => opt2 (orM x34 (rU (oLoad1 (.v x18) rec PT.nil ⟨s.heap, s.next, 0, 0⟩) PT.nil s (some (.v x18))) s) fun x19 m19 =>
 (fun s => opt (gval false x14) fun x33 => opt2 (orM x33 (rU (oMov (.v (orU (fs.get t10))) rec PT.nil ⟨s.heap, s.next, 0, 0⟩) PT.nil s none) s) fun x20 m20 =>
 (fun s => opt (gval false x14) fun x32 => opt2 (orM x32 (rU (oMov (.v (orU (fs.get t15))) rec PT.nil ⟨s.heap, s.next, 0, 0⟩) PT.nil s none) s) fun x21 m21 =>
 (fun s => opt (gval false x14) fun x31 => opt2 (orM x31 (rU (oIdxAddrL 2 (.v x20) (.v x21) rec PT.nil ⟨s.heap, s.next, 0, 0⟩) PT.nil s none) s) fun x22 m22 =>
 (fun s => opt (gval false x14) fun x30 => opt2 (orM x30 (rU (oFieldAddr 1 (.v x22) rec PT.nil ⟨s.heap, s.next, 0, 0⟩) PT.nil s none) s) fun x23 m23 =>
 (fun s => opt (gval false x14) fun x29 => opt2 (orM x29 (rU (oLoad1 (.v x23) rec PT.nil ⟨s.heap, s.next, 0, 0⟩) PT.nil s (some (.v x23))) s) fun x24 m24 =>
 (fun s => opt (gval false x14) fun x28 => opt2 (orM x28 (rU (oBin (int2 (cmpO neI)) (.v x19) (.v x24) rec PT.nil ⟨s.heap, s.next, 0, 0⟩) PT.nil s none) s) fun x25 m25 =>
 (fun s => opt2 (rU (oPick (.v x14) (.v (.bool true)) (.v x25) rec PT.nil ⟨s.heap, s.next, 0, 0⟩) PT.nil s none) fun x26 m26 =>
 (fun s => bif apartAll [m3.1, m4.1, m5.1, m6.1, m7.1, m8.1, m9.1, m10.1, m11.1, m12.1, m13.1, m14.1, m15.1, m16.1, m17.1, m18.1, m19.1, m20.1, m21.1, m22.1, m23.1, m24.1, m25.1, m26.1] [(0, 1), (0, 5), (1, 5), (2, 5), (3, 5), (4, 5), (0, 6), (1, 6), (2, 6), (3, 6), (4, 6), (5, 6), (0, 7), (1, 7), (2, 7), (3, 7), (4, 7), (0, 8), (1, 8), (2, 8), (3, 8), (4, 8), (0, 9), (1, 9), (2, 9), (3, 9), (4, 9), (12, 13), (12, 17), (13, 17), (14, 17), (15, 17), (16, 17), (12, 18), (13, 18), (14, 18), (15, 18), (16, 18), (17, 18), (12, 19), (13, 19), (14, 19), (15, 19), (16, 19), (12, 20), (13, 20), (14, 20), (15, 20), (16, 20), (12, 21), (13, 21), (14, 21), (15, 21), (16, 21)] then condV x26
 (some (.ret, (PT.put (.bool false) t8 (PT.put x26 t94 (PT.put x25 t93 (PT.put x24 t92 (PT.put x23 t91 (PT.put x22 t90 (PT.put x21 t89 (PT.put x20 t88 (PT.put x19 t87 (PT.put x18 t86 (PT.put x17 t85 (PT.put x16 t84 (PT.put x15 t83 (PT.put x14 t82 (PT.put x13 t81 (PT.put x12 t80 (PT.put x11 t79 (PT.put x10 t78 (PT.put x9 t77 (PT.put x8 t76 (PT.put x7 t75 (PT.put x6 t74 (PT.put x5 t73 (PT.put x4 t72 (PT.put x3 t71 (PT.put x2 t68 (PT.put x1 t67 (PT.put (orU (fs.get t14)) t66 (PT.put (orU (fs.get t15)) t65 fs))))))))))))))))))))))))))))), s))
 (opt2 (oBin (int2 addO) (.v (orU (fs.get t15))) (.v (.int .i64 1)) rec PT.nil s) fun x27 s =>
 some (.norm, (PT.put x27 t15 (PT.put x27 t70 (PT.put (orU (fs.get t15)) t69 (PT.put x26 t94 (PT.put x25 t93 (PT.put x24 t92 (PT.put x23 t91 (PT.put x22 t90 (PT.put x21 t89 (PT.put x20 t88 (PT.put x19 t87 (PT.put x18 t86 (PT.put x17 t85 (PT.put x16 t84 (PT.put x15 t83 (PT.put x14 t82 (PT.put x13 t81 (PT.put x12 t80 (PT.put x11 t79 (PT.put x10 t78 (PT.put x9 t77 (PT.put x8 t76 (PT.put x7 t75 (PT.put x6 t74 (PT.put x5 t73 (PT.put x4 t72 (PT.put x3 t71 (PT.put x2 t68 (PT.put x1 t67 (PT.put (orU (fs.get t14)) t66 (PT.put (orU (fs.get t15)) t65 fs))))))))))))))))))))))))))))))), s)) else none) m26.2) m25.2) m24.2) m23.2) m22.2) m21.2) m20.2) m19.2) m18.2) m17.2) m16.2) m15.2) m14.2) m13.2) m12.2) m11.2) m10.2) m9.2) m8.2) m7.2) m6.2) m5.2) m4.2) m3.2)
 (some ((.exit 2), (PT.put x2 t68 (PT.put x1 t67 (PT.put (orU (fs.get t14)) t66 (PT.put (orU (fs.get t15)) t65 fs)))), s))
theorem d4_l1 (rec : Rec) (N : Nat) (fs : Frm) (s : St) : c4_l1 rec N fs s = D4_l1 rec N fs s := by
  simp only [c4_l1, call_f, lenN, x_reg, reg_n, reg_c, reg1_u, reg1_g, op2_cons, op2_bif, x_seq, x_ops, x_skip, x_ret, x_exit, x_cond, x_block, x_loop, ops_c, ops_n, op1_u, op1_gj, op2_op2, op2_op, op2_s, op2_cond, thenX_n, thenX_e, thenX_r, blkX_n, blkX_r, blkX_e, finX_r, finX_n, res_n, res_t, mov_f, op_s, Nat.beq_refl, cond_true]
  first | done | kernel_rfl
def D4_r0 (rec : Rec) (N : Nat) (fs : Frm) (s : St) : OutX := opt2 (rec 15 [(orU (fs.get t9)), (orU (fs.get t1))] s) fun x1 s =>
 opt2 (rec 19 [(orU (fs.get t10)), (orU (fs.get t1))] s) fun x2 s =>
 opt2 (oBin (int2 (cmpO eqI)) (.v x1) (.v x2) rec PT.nil s) fun x3 s =>
 opt (gval true x3) fun x4 => opt2 (orUndef x4 (some ((orU (fs.get t9)), s)) s) fun x5 s =>
 opt (gval true x3) fun x6 => opt2 (orUndef x6 (some ((orU (fs.get t2)), s)) s) fun x7 s =>
 opt (gval true x3) fun x8 => opt2 (orUndef x8 (some ((orU (fs.get t3)), s)) s) fun x9 s =>
 opt (gval true x3) fun x10 => opt2 (orUndef x10 (rec 16 [x5, x7, x9] s) s) fun x11 s =>
 opt (gval true x3) fun x12 => opt2 (orUndef x12 (some ((orU (fs.get t10)), s)) s) fun x13 s =>
 opt (gval true x3) fun x14 => opt2 (orUndef x14 (some ((orU (fs.get t2)), s)) s) fun x15 s =>
 opt (gval true x3) fun x16 => opt2 (orUndef x16 (some ((orU (fs.get t3)), s)) s) fun x17 s =>
 opt (gval true x3) fun x18 => opt2 (orUndef x18 (rec 20 [x13, x15, x17] s) s) fun x19 s =>
 opt (gval true x3) fun x20 => opt2 (orUndef x20 (oBin (int2 (cmpO eqI)) (.v x11) (.v x19) rec PT.nil s) s) fun x21 s =>
 opt2 (oPick (.v x3) (.v x21) (.v (.bool false)) rec PT.nil s) fun x22 s =>
 some (.ret, (PT.put x22 t8 (PT.put x22 t112 (PT.put x21 t111 (PT.put x19 t110 (PT.put x17 t109 (PT.put x15 t108 (PT.put x13 t107 (PT.put x11 t106 (PT.put x9 t105 (PT.put x7 t104 (PT.put x5 t103 (PT.put x3 t102 (PT.put x3 t101 (PT.put x2 t100 (PT.put (orU (fs.get t1)) t99 (PT.put (orU (fs.get t10)) t98 (PT.put x1 t97 (PT.put (orU (fs.get t1)) t96 (PT.put (orU (fs.get t9)) t95 fs))))))))))))))))))), s)
theorem d4_r0 (rec : Rec) (N : Nat) (fs : Frm) (s : St) : c4_r0 rec N fs s = D4_r0 rec N fs s := by
  simp only [c4_r0, call_f, lenN, x_reg, reg_n, reg_c, reg1_u, reg1_g, op2_cons, op2_bif, x_seq, x_ops, x_skip, x_ret, x_exit, x_cond, x_block, x_loop, ops_c, ops_n, op1_u, op1_gj, op2_op2, op2_op, op2_s, op2_cond, thenX_n, thenX_e, thenX_r, blkX_n, blkX_r, blkX_e, finX_r, finX_n, res_n, res_t, mov_f, op_s, Nat.beq_refl, cond_true]
  first | done | kernel_rfl
def D4_r1 (rec : Rec) (N : Nat) (fs : Frm) (s : St) : OutX := opt2 (rec 18 [(orU (fs.get t9))] s) fun x1 s =>
 opt2 (oLenL (.v x1) rec PT.nil s) fun x2 s =>
 opt2 (oLenL (.v (orU (fs.get t10))) rec PT.nil s) fun x3 s =>
 opt2 (oBin (int2 (cmpO neI)) (.v x2) (.v x3) rec PT.nil s) fun x4 s =>
 condV x4
 (some (.ret, (PT.put (.bool false) t8 (PT.put x4 t64 (PT.put x3 t63 (PT.put (orU (fs.get t10)) t62 (PT.put x2 t61 (PT.put x1 t60 (PT.put x1 t14 (PT.put x1 t59 (PT.put (orU (fs.get t9)) t58 fs))))))))), s))
 (opt2 (loopF (c4_l1 rec N) N (PT.put (.int .i64 0) t15 (PT.put x4 t64 (PT.put x3 t63 (PT.put (orU (fs.get t10)) t62 (PT.put x2 t61 (PT.put x1 t60 (PT.put x1 t14 (PT.put x1 t59 (PT.put (orU (fs.get t9)) t58 fs))))))))) s) fun e r => opt2 (blkX 2 e r) fun e r => thenX (c4_r0 rec N) e r)
theorem d4_r1 (rec : Rec) (N : Nat) (fs : Frm) (s : St) : c4_r1 rec N fs s = D4_r1 rec N fs s := by
  simp only [c4_r1, call_f, lenN, x_reg, reg_n, reg_c, reg1_u, reg1_g, op2_cons, op2_bif, x_seq, x_ops, x_skip, x_ret, x_exit, x_cond, x_block, x_loop, ops_c, ops_n, op1_u, op1_gj, op2_op2, op2_op, op2_s, op2_cond, thenX_n, thenX_e, thenX_r, blkX_n, blkX_r, blkX_e, finX_r, finX_n, res_n, res_t, mov_f, op_s, Nat.beq_refl, cond_true]
  first | done | kernel_rfl
def D4 (rec : Rec) (N : Nat) (a0 : Value) (a1 : Value) (a2 : Value) (a3 : Value) (s : St) : Out := opt2 (rec 12 [] s) fun x1 s =>
 opt2 (oNot (.v x1) rec PT.nil s) fun x2 s =>
 condV x2
 (some (oneOf [(.bool false)], s))
 (opt2 (oLenL (.v a0) rec PT.nil s) fun x3 s =>
 opt2 (oBin (int2 (cmpO gtI)) (.v x3) (.v (.int .i64 60)) rec PT.nil s) fun x4 s =>
 condV x4
 (some (oneOf [(.bool true)], s))
 (opt2 (rec 13 [] s) fun x5 s =>
 opt2 (loopF (c4_l0 rec N) N (PT.put (.int .i64 0) t11 (PT.put (.slice none 0 0) t10 (PT.put x5 t9 (PT.put x5 t21 (PT.put x4 t20 (PT.put x3 t19 (PT.put a0 t18 (PT.put x2 t17 (PT.put x1 t16 (PT.put (.bool false) t8 (PT.put a3 t3 (PT.put a2 t2 (PT.put a1 t1 (PT.put a0 t0 PT.nil)))))))))))))) s) fun e r => opt2 (blkX 0 e r) fun e r => opt2 (thenX (c4_r1 rec N) e r) fun e r => finX [.tmp t8] e r))
theorem d4 (rec : Rec) (N : Nat) (a0 : Value) (a1 : Value) (a2 : Value) (a3 : Value) (s : St) : callF rec N c4 [a0, a1, a2, a3] s = D4 rec N a0 a1 a2 a3 s := by
  rw [call_f _ _ _ _ _ rfl]
  simp only [c4, x_reg, reg_n, reg_c, reg1_u, reg1_g, op2_cons, op2_bif, x_seq, x_ops, x_skip, x_ret, x_exit, x_cond, x_block, x_loop, ops_c, ops_n, op1_u, op1_gj, op2_op2, op2_op, op2_s, op2_cond, thenX_n, thenX_e, thenX_r, blkX_n, blkX_r, blkX_e, finX_r, finX_n, res_n, res_t, mov_f, op_s, Nat.beq_refl, cond_true]
  first | done | kernel_rfl
def D5_l0 (rec : Rec) (N : Nat) (fs : Frm) (s : St) : OutX := opt2 (oLenL (.v (orU (fs.get t0))) rec PT.nil s) fun x1 s =>
 opt2 (oBin (int2 (cmpO ltI)) (.v (orU (fs.get t10))) (.v x1) rec PT.nil s) fun x2 s =>
 condV x2
 (opt2 (rU (oMov (.v (orU (fs.get t9))) rec PT.nil ⟨s.heap, s.next, 0, 0⟩) PT.nil s none) fun x3 m3 =>
 (fun s => opt2 (rU (oMov (.v (orU (fs.get t0))) rec PT.nil ⟨s.heap, s.next, 0, 0⟩) PT.nil s none) fun x4 m4 =>
 (fun s => opt2 (rU (oMov (.v (orU (fs.get t10))) rec PT.nil ⟨s.heap, s.next, 0, 0⟩) PT.nil s none) fun x5 m5 =>
 (fun s => opt2 (rU (oIdxAddrL 2 (.v x4) (.v x5) rec PT.nil ⟨s.heap, s.next, 0, 0⟩) PT.nil s none) fun x6 m6 =>
 (fun s => opt2 (rU (oFieldAddr 0 (.v x6) rec PT.nil ⟨s.heap, s.next, 0, 0⟩) PT.nil s none) fun x7 m7 =>
 (fun s => opt2 (rU (oLoad1 (.v x7) rec PT.nil ⟨s.heap, s.next, 0, 0⟩) PT.nil s (some (.v x7))) fun x8 m8 =>
 (fun s => opt2 (rU (oMov (.v (orU (fs.get t0))) rec PT.nil ⟨s.heap, s.next, 0, 0⟩) PT.nil s none) fun x9 m9 =>
 (fun s => opt2 (rU (oMov (.v (orU (fs.get t10))) rec PT.nil ⟨s.heap, s.next, 0, 0⟩) PT.nil s none) fun x10 m10 =>
 (fun s => opt2 (rU (oIdxAddrL 2 (.v x9) (.v x10) rec PT.nil ⟨s.heap, s.next, 0, 0⟩) PT.nil s none) fun x11 m11 =>
 (fun s => opt2 (rU (oFieldAddr 1 (.v x11) rec PT.nil ⟨s.heap, s.next, 0, 0⟩) PT.nil s none) fun x12 m12 =>
 (fun s => opt2 (rU (oLoad1 (.v x12) rec PT.nil ⟨s.heap, s.next, 0, 0⟩) PT.nil s (some (.v x12))) fun x13 m13 =>
 (fun s => opt2 (rU (rec 14 [x3, x8, x13] ⟨s.heap, s.next, 0, 0⟩) PT.nil s none) fun x14 m14 =>
 (fun s => bif apartAll [m3.1, m4.1, m5.1, m6.1, m7.1, m8.1, m9.1, m10.1, m11.1, m12.1, m13.1, m14.1] [(0, 1), (0, 2), (1, 2), (0, 3), (0, 4), (0, 5), (0, 6), (1, 6), (2, 6), (3, 6), (4, 6), (5, 6), (0, 7), (1, 7), (2, 7), (3, 7), (4, 7), (5, 7), (6, 7), (0, 8), (1, 8), (2, 8), (3, 8), (4, 8), (5, 8), (0, 9), (1, 9), (2, 9), (3, 9), (4, 9), (5, 9), (0, 10), (1, 10), (2, 10), (3, 10), (4, 10), (5, 10)] then opt2 (oBin (int2 addO) (.v (orU (fs.get t10))) (.v (.int .i64 1)) rec PT.nil s) fun x15 s =>
 some (.norm, (PT.put x15 t10 (PT.put x15 t55 (PT.put (orU (fs.get t10)) t54 (PT.put x14 t67 (PT.put x13 t66 (PT.put x12 t65 (PT.put x11 t64 (PT.put x10 t63 (PT.put x9 t62 (PT.put x8 t61 (PT.put x7 t60 (PT.put x6 t59 (PT.put x5 t58 (PT.put x4 t57 (PT.put x3 t56 (PT.put x2 t53 (PT.put x1 t52 (PT.put (orU (fs.get t0)) t51 (PT.put (orU (fs.get t10)) t50 fs))))))))))))))))))), s) else none) m14.2) m13.2) m12.2) m11.2) m10.2) m9.2) m8.2) m7.2) m6.2) m5.2) m4.2) m3.2)
 (some ((.exit 0), (PT.put x2 t53 (PT.put x1 t52 (PT.put (orU (fs.get t0)) t51 (PT.put (orU (fs.get t10)) t50 fs)))), s))
theorem d5_l0 (rec : Rec) (N : Nat) (fs : Frm) (s : St) : c5_l0 rec N fs s = D5_l0 rec N fs s := by
  simp only [c5_l0, call_f, lenN, x_reg, reg_n, reg_c, reg1_u, reg1_g, op2_cons, op2_bif, x_seq, x_ops, x_skip, x_ret, x_exit, x_cond, x_block, x_loop, ops_c, ops_n, op1_u, op1_gj, op2_op2, op2_op, op2_s, op2_cond, thenX_n, thenX_e, thenX_r, blkX_n, blkX_r, blkX_e, finX_r, finX_n, res_n, res_t, mov_f, op_s, Nat.beq_refl, cond_true]
  first | done | kernel_rfl
def D5_l1 (rec : Rec) (N : Nat) (fs : Frm) (s : St) : OutX := opt2 (oBin (int2 (cmpO ltI)) (.v (orU (fs.get t12))) (.v (orU (fs.get t2))) rec PT.nil s) fun x1 s =>
 condV x1
 (opt2 (oBin (int2 addO) (.v (orU (fs.get t1))) (.v (orU (fs.get t12))) rec PT.nil s) fun x2 s =>
 opt2 (rec 15 [(orU (fs.get t9)), x2] s) fun x3 s =>
 opt2 (oBin (int2 addO) (.v (orU (fs.get t11))) (.v x3) rec PT.nil s) fun x4 s =>
 opt2 (oBin (int2 addO) (.v (orU (fs.get t12))) (.v (.int .i64 1)) rec PT.nil s) fun x5 s =>
 some (.norm, (PT.put x5 t12 (PT.put x5 t72 (PT.put (orU (fs.get t12)) t71 (PT.put x4 t11 (PT.put x4 t79 (PT.put x3 t78 (PT.put x2 t77 (PT.put (orU (fs.get t12)) t76 (PT.put (orU (fs.get t1)) t75 (PT.put (orU (fs.get t9)) t74 (PT.put (orU (fs.get t11)) t73 (PT.put x1 t70 (PT.put (orU (fs.get t2)) t69 (PT.put (orU (fs.get t12)) t68 fs)))))))))))))), s))
 (some ((.exit 2), (PT.put x1 t70 (PT.put (orU (fs.get t2)) t69 (PT.put (orU (fs.get t12)) t68 fs))), s))
theorem d5_l1 (rec : Rec) (N : Nat) (fs : Frm) (s : St) : c5_l1 rec N fs s = D5_l1 rec N fs s := by
  simp only [c5_l1, call_f, lenN, x_reg, reg_n, reg_c, reg1_u, reg1_g, op2_cons, op2_bif, x_seq, x_ops, x_skip, x_ret, x_exit, x_cond, x_block, x_loop, ops_c, ops_n, op1_u, op1_gj, op2_op2, op2_op, op2_s, op2_cond, thenX_n, thenX_e, thenX_r, blkX_n, blkX_r, blkX_e, finX_r, finX_n, res_n, res_t, mov_f, op_s, Nat.beq_refl, cond_true]
  first | done | kernel_rfl
def D5_r0 (rec : Rec) (N : Nat) (fs : Frm) (s : St) : OutX := opt2 (oBin (int2 addO) (.v (orU (fs.get t1))) (.v (orU (fs.get t2))) rec PT.nil s) fun x1 s =>
 opt2 (rec 16 [(orU (fs.get t9)), (orU (fs.get t1)), x1] s) fun x2 s =>
 opt2 (oBin (int2 (cmpO eqI)) (.v x2) (.v (orU (fs.get t11))) rec PT.nil s) fun x3 s =>
 opt (gval true x3) fun x4 => opt2 (orUndef x4 (some ((orU (fs.get t9)), s)) s) fun x5 s =>
 opt (gval true x3) fun x6 => opt2 (orUndef x6 (some ((orU (fs.get t1)), s)) s) fun x7 s =>
 opt (gval true x3) fun x8 => opt2 (orUndef x8 (some ((orU (fs.get t1)), s)) s) fun x9 s =>
 opt (gval true x3) fun x10 => opt2 (orUndef x10 (some ((orU (fs.get t3)), s)) s) fun x11 s =>
 opt (gval true x3) fun x12 => opt2 (orUndef x12 (oBin (int2 addO) (.v x9) (.v x11) rec PT.nil s) s) fun x13 s =>
 opt (gval true x3) fun x14 => opt2 (orUndef x14 (rec 16 [x5, x7, x13] s) s) fun x15 s =>
 opt (gval true x3) fun x16 => opt2 (orUndef x16 (some ((orU (fs.get t9)), s)) s) fun x17 s =>
 opt (gval true x3) fun x18 => opt2 (orUndef x18 (some ((orU (fs.get t1)), s)) s) fun x19 s =>
 opt (gval true x3) fun x20 => opt2 (orUndef x20 (some ((orU (fs.get t3)), s)) s) fun x21 s =>
 opt (gval true x3) fun x22 => opt2 (orUndef x22 (oBin (int2 addO) (.v x19) (.v x21) rec PT.nil s) s) fun x23 s =>
 opt (gval true x3) fun x24 => opt2 (orUndef x24 (some ((orU (fs.get t1)), s)) s) fun x25 s =>
 opt (gval true x3) fun x26 => opt2 (orUndef x26 (some ((orU (fs.get t2)), s)) s) fun x27 s =>
 opt (gval true x3) fun x28 => opt2 (orUndef x28 (oBin (int2 addO) (.v x25) (.v x27) rec PT.nil s) s) fun x29 s =>
 opt (gval true x3) fun x30 => opt2 (orUndef x30 (rec 16 [x17, x23, x29] s) s) fun x31 s =>
 opt (gval true x3) fun x32 => opt2 (orUndef x32 (oBin (int2 addO) (.v x15) (.v x31) rec PT.nil s) s) fun x33 s =>
 opt (gval true x3) fun x34 => opt2 (orUndef x34 (some ((orU (fs.get t11)), s)) s) fun x35 s =>
 opt (gval true x3) fun x36 => opt2 (orUndef x36 (oBin (int2 (cmpO eqI)) (.v x33) (.v x35) rec PT.nil s) s) fun x37 s =>
 opt2 (oPick (.v x3) (.v x37) (.v (.bool false)) rec PT.nil s) fun x38 s =>
 some (.ret, (PT.put x38 t8 (PT.put x38 t106 (PT.put x37 t105 (PT.put x35 t104 (PT.put x33 t103 (PT.put x31 t102 (PT.put x29 t101 (PT.put x27 t100 (PT.put x25 t99 (PT.put x23 t98 (PT.put x21 t97 (PT.put x19 t96 (PT.put x17 t95 (PT.put x15 t94 (PT.put x13 t93 (PT.put x11 t92 (PT.put x9 t91 (PT.put x7 t90 (PT.put x5 t89 (PT.put x3 t88 (PT.put x3 t87 (PT.put (orU (fs.get t11)) t86 (PT.put x2 t85 (PT.put x1 t84 (PT.put (orU (fs.get t2)) t83 (PT.put (orU (fs.get t1)) t82 (PT.put (orU (fs.get t1)) t81 (PT.put (orU (fs.get t9)) t80 fs)))))))))))))))))))))))))))), s)
theorem d5_r0 (rec : Rec) (N : Nat) (fs : Frm) (s : St) : c5_r0 rec N fs s = D5_r0 rec N fs s := by
  simp only [c5_r0, call_f, lenN, x_reg, reg_n, reg_c, reg1_u, reg1_g, op2_cons, op2_bif, x_seq, x_ops, x_skip, x_ret, x_exit, x_cond, x_block, x_loop, ops_c, ops_n, op1_u, op1_gj, op2_op2, op2_op, op2_s, op2_cond, thenX_n, thenX_e, thenX_r, blkX_n, blkX_r, blkX_e, finX_r, finX_n, res_n, res_t, mov_f, op_s, Nat.beq_refl, cond_true]
  first | done | kernel_rfl
def D5_r1 (rec : Rec) (N : Nat) (fs : Frm) (s : St) : OutX := opt2 (loopF (c5_l1 rec N) N (PT.put (.int .i64 0) t12 (PT.put (.int .i64 0) t11 fs)) s) fun e r => opt2 (blkX 2 e r) fun e r => thenX (c5_r0 rec N) e r
theorem d5_r1 (rec : Rec) (N : Nat) (fs : Frm) (s : St) : c5_r1 rec N fs s = D5_r1 rec N fs s := by
  simp only [c5_r1, call_f, lenN, x_reg, reg_n, reg_c, reg1_u, reg1_g, op2_cons, op2_bif, x_seq, x_ops, x_skip, x_ret, x_exit, x_cond, x_block, x_loop, ops_c, ops_n, op1_u, op1_gj, op2_op2, op2_op, op2_s, op2_cond, thenX_n, thenX_e, thenX_r, blkX_n, blkX_r, blkX_e, finX_r, finX_n, res_n, res_t, mov_f, op_s, Nat.beq_refl, cond_true]
  first | done | kernel_rfl
def D5 (rec : Rec) (N : Nat) (a0 : Value) (a1 : Value) (a2 : Value) (a3 : Value) (s : St) : Out := opt2 (rec 12 [] s) fun x1 s =>
 opt2 (oNot (.v x1) rec PT.nil s) fun x2 s =>
 condV x2
 (some (oneOf [(.bool false)], s))
 (opt2 (oLenL (.v a0) rec PT.nil s) fun x3 s =>
 opt2 (oBin (int2 (cmpO gtI)) (.v x3) (.v (.int .i64 40)) rec PT.nil s) fun x4 s =>
 opt (gval false x4) fun x5 => opt2 (orUndef x5 (some (a1, s)) s) fun x6 s =>
 opt (gval false x4) fun x7 => opt2 (orUndef x7 (oBin (int2 (cmpO ltI)) (.v x6) (.v (.int .i64 0)) rec PT.nil s) s) fun x8 s =>
 opt2 (oPick (.v x4) (.v (.bool true)) (.v x8) rec PT.nil s) fun x9 s =>
 opt (gval false x9) fun x10 => opt2 (orUndef x10 (some (a1, s)) s) fun x11 s =>
 opt (gval false x9) fun x12 => opt2 (orUndef x12 (oBin (int2 (cmpO gtI)) (.v x11) (.v (.int .i64 109572)) rec PT.nil s) s) fun x13 s =>
 opt2 (oPick (.v x9) (.v (.bool true)) (.v x13) rec PT.nil s) fun x14 s =>
 opt (gval false x14) fun x15 => opt2 (orUndef x15 (some (a2, s)) s) fun x16 s =>
 opt (gval false x14) fun x17 => opt2 (orUndef x17 (oBin (int2 (cmpO ltI)) (.v x16) (.v (.int .i64 0)) rec PT.nil s) s) fun x18 s =>
 opt2 (oPick (.v x14) (.v (.bool true)) (.v x18) rec PT.nil s) fun x19 s =>
 opt (gval false x19) fun x20 => opt2 (orUndef x20 (some (a2, s)) s) fun x21 s =>
 opt (gval false x19) fun x22 => opt2 (orUndef x22 (oBin (int2 (cmpO gtI)) (.v x21) (.v (.int .i64 400)) rec PT.nil s) s) fun x23 s =>
 opt2 (oPick (.v x19) (.v (.bool true)) (.v x23) rec PT.nil s) fun x24 s =>
 opt (gval false x24) fun x25 => opt2 (orUndef x25 (some (a2, s)) s) fun x26 s =>
 opt (gval false x24) fun x27 => opt2 (orUndef x27 (some (a1, s)) s) fun x28 s =>
 opt (gval false x24) fun x29 => opt2 (orUndef x29 (oBin (int2 subO) (.v (.int .i64 109572)) (.v x28) rec PT.nil s) s) fun x30 s =>
 opt (gval false x24) fun x31 => opt2 (orUndef x31 (oBin (int2 (cmpO gtI)) (.v x26) (.v x30) rec PT.nil s) s) fun x32 s =>
 opt2 (oPick (.v x24) (.v (.bool true)) (.v x32) rec PT.nil s) fun x33 s =>
 opt (gval false x33) fun x34 => opt2 (orUndef x34 (some (a3, s)) s) fun x35 s =>
 opt (gval false x33) fun x36 => opt2 (orUndef x36 (oBin (int2 (cmpO ltI)) (.v x35) (.v (.int .i64 0)) rec PT.nil s) s) fun x37 s =>
 opt2 (oPick (.v x33) (.v (.bool true)) (.v x37) rec PT.nil s) fun x38 s =>
 opt (gval false x38) fun x39 => opt2 (orUndef x39 (some (a3, s)) s) fun x40 s =>
 opt (gval false x38) fun x41 => opt2 (orUndef x41 (some (a2, s)) s) fun x42 s =>
 opt (gval false x38) fun x43 => opt2 (orUndef x43 (oBin (int2 (cmpO gtI)) (.v x40) (.v x42) rec PT.nil s) s) fun x44 s =>
 opt2 (oPick (.v x38) (.v (.bool true)) (.v x44) rec PT.nil s) fun x45 s =>
 condV x45
 (some (oneOf [(.bool true)], s))
 (opt2 (rec 13 [] s) fun x46 s =>
 opt2 (loopF (c5_l0 rec N) N (PT.put (.int .i64 0) t10 (PT.put x46 t9 (PT.put x46 t49 (PT.put x45 t48 (PT.put x44 t47 (PT.put x42 t46 (PT.put x40 t45 (PT.put x38 t44 (PT.put x38 t43 (PT.put x37 t42 (PT.put x35 t41 (PT.put x33 t40 (PT.put x33 t39 (PT.put x32 t38 (PT.put x30 t37 (PT.put x28 t36 (PT.put x26 t35 (PT.put x24 t34 (PT.put x24 t33 (PT.put x23 t32 (PT.put x21 t31 (PT.put x19 t30 (PT.put x19 t29 (PT.put x18 t28 (PT.put x16 t27 (PT.put x14 t26 (PT.put x14 t25 (PT.put x13 t24 (PT.put x11 t23 (PT.put x9 t22 (PT.put x9 t21 (PT.put x8 t20 (PT.put x6 t19 (PT.put x4 t18 (PT.put x4 t17 (PT.put x3 t16 (PT.put a0 t15 (PT.put x2 t14 (PT.put x1 t13 (PT.put (.bool false) t8 (PT.put a3 t3 (PT.put a2 t2 (PT.put a1 t1 (PT.put a0 t0 PT.nil)))))))))))))))))))))))))))))))))))))))))))) s) fun e r => opt2 (blkX 0 e r) fun e r => opt2 (thenX (c5_r1 rec N) e r) fun e r => finX [.tmp t8] e r))
theorem d5 (rec : Rec) (N : Nat) (a0 : Value) (a1 : Value) (a2 : Value) (a3 : Value) (s : St) : callF rec N c5 [a0, a1, a2, a3] s = D5 rec N a0 a1 a2 a3 s := by
  rw [call_f _ _ _ _ _ rfl]
  simp only [c5, x_reg, reg_n, reg_c, reg1_u, reg1_g, op2_cons, op2_bif, x_seq, x_ops, x_skip, x_ret, x_exit, x_cond, x_block, x_loop, ops_c, ops_n, op1_u, op1_gj, op2_op2, op2_op, op2_s, op2_cond, thenX_n, thenX_e, thenX_r, blkX_n, blkX_r, blkX_e, finX_r, finX_n, res_n, res_t, mov_f, op_s, Nat.beq_refl, cond_true]
  first | done | kernel_rfl
def D6_l0 (rec : Rec) (N : Nat) (fs : Frm) (s : St) : OutX := opt2 (oBin (int2 (cmpO ltI)) (.v (orU (fs.get t10))) (.v (orU (fs.get t9))) rec PT.nil s) fun x1 s =>
 condV x1
 (opt2 (rU (oMov (.v (orU (fs.get t0))) rec PT.nil ⟨s.heap, s.next, 0, 0⟩) PT.nil s none) fun x2 m2 =>
 (fun s => opt2 (rU (oMov (.v (orU (fs.get t10))) rec PT.nil ⟨s.heap, s.next, 0, 0⟩) PT.nil s none) fun x3 m3 =>
 (fun s => opt2 (rU (oIdxAddrL 2 (.v x2) (.v x3) rec PT.nil ⟨s.heap, s.next, 0, 0⟩) PT.nil s none) fun x4 m4 =>
 (fun s => opt2 (rU (oFieldAddr 0 (.v x4) rec PT.nil ⟨s.heap, s.next, 0, 0⟩) PT.nil s none) fun x5 m5 =>
 (fun s => opt2 (rU (oLoad1 (.v x5) rec PT.nil ⟨s.heap, s.next, 0, 0⟩) PT.nil s (some (.v x5))) fun x6 m6 =>
 (fun s => opt2 (rU (oMov (.v (orU (fs.get t0))) rec PT.nil ⟨s.heap, s.next, 0, 0⟩) PT.nil s none) fun x7 m7 =>
 (fun s => opt2 (rU (oMov (.v (orU (fs.get t9))) rec PT.nil ⟨s.heap, s.next, 0, 0⟩) PT.nil s none) fun x8 m8 =>
 (fun s => opt2 (rU (oIdxAddrL 2 (.v x7) (.v x8) rec PT.nil ⟨s.heap, s.next, 0, 0⟩) PT.nil s none) fun x9 m9 =>
 (fun s => opt2 (rU (oFieldAddr 0 (.v x9) rec PT.nil ⟨s.heap, s.next, 0, 0⟩) PT.nil s none) fun x10 m10 =>
 (fun s => opt2 (rU (oLoad1 (.v x10) rec PT.nil ⟨s.heap, s.next, 0, 0⟩) PT.nil s (some (.v x10))) fun x11 m11 =>
 (fun s => opt2 (rU (oBin (int2 (cmpO eqI)) (.v x6) (.v x11) rec PT.nil ⟨s.heap, s.next, 0, 0⟩) PT.nil s none) fun x12 m12 =>
 (fun s => bif apartAll [m2.1, m3.1, m4.1, m5.1, m6.1, m7.1, m8.1, m9.1, m10.1, m11.1, m12.1] [(0, 1), (0, 5), (1, 5), (2, 5), (3, 5), (4, 5), (0, 6), (1, 6), (2, 6), (3, 6), (4, 6), (5, 6), (0, 7), (1, 7), (2, 7), (3, 7), (4, 7), (0, 8), (1, 8), (2, 8), (3, 8), (4, 8), (0, 9), (1, 9), (2, 9), (3, 9), (4, 9)] then condV x12
 (some (.ret, (PT.put (.bool true) t6 (PT.put x12 t63 (PT.put x11 t62 (PT.put x10 t61 (PT.put x9 t60 (PT.put x8 t59 (PT.put x7 t58 (PT.put x6 t57 (PT.put x5 t56 (PT.put x4 t55 (PT.put x3 t54 (PT.put x2 t53 (PT.put x1 t50 (PT.put (orU (fs.get t9)) t49 (PT.put (orU (fs.get t10)) t48 fs))))))))))))))), s))
 (opt2 (oBin (int2 addO) (.v (orU (fs.get t10))) (.v (.int .i64 1)) rec PT.nil s) fun x13 s =>
 some (.norm, (PT.put x13 t10 (PT.put x13 t52 (PT.put (orU (fs.get t10)) t51 (PT.put x12 t63 (PT.put x11 t62 (PT.put x10 t61 (PT.put x9 t60 (PT.put x8 t59 (PT.put x7 t58 (PT.put x6 t57 (PT.put x5 t56 (PT.put x4 t55 (PT.put x3 t54 (PT.put x2 t53 (PT.put x1 t50 (PT.put (orU (fs.get t9)) t49 (PT.put (orU (fs.get t10)) t48 fs))))))))))))))))), s)) else none) m12.2) m11.2) m10.2) m9.2) m8.2) m7.2) m6.2) m5.2) m4.2) m3.2) m2.2)
 (some ((.exit 2), (PT.put x1 t50 (PT.put (orU (fs.get t9)) t49 (PT.put (orU (fs.get t10)) t48 fs))), s))
theorem d6_l0 (rec : Rec) (N : Nat) (fs : Frm) (s : St) : c6_l0 rec N fs s = D6_l0 rec N fs s := by
  simp only [c6_l0, call_f, lenN, x_reg, reg_n, reg_c, reg1_u, reg1_g, op2_cons, op2_bif, x_seq, x_ops, x_skip, x_ret, x_exit, x_cond, x_block, x_loop, ops_c, ops_n, op1_u, op1_gj, op2_op2, op2_op, op2_s, op2_cond, thenX_n, thenX_e, thenX_r, blkX_n, blkX_r, blkX_e, finX_r, finX_n, res_n, res_t, mov_f, op_s, Nat.beq_refl, cond_true]
  first | done | kernel_rfl
def D6_r0 (rec : Rec) (N : Nat) (fs : Frm) (s : St) : OutX := opt2 (oBin (int2 addO) (.v (orU (fs.get t9))) (.v (.int .i64 1)) rec PT.nil s) fun x1 s =>
 some (.norm, (PT.put x1 t9 (PT.put x1 t47 (PT.put (orU (fs.get t9)) t46 fs))), s)
theorem d6_r0 (rec : Rec) (N : Nat) (fs : Frm) (s : St) : c6_r0 rec N fs s = D6_r0 rec N fs s := by
  simp only [c6_r0, call_f, lenN, x_reg, reg_n, reg_c, reg1_u, reg1_g, op2_cons, op2_bif, x_seq, x_ops, x_skip, x_ret, x_exit, x_cond, x_block, x_loop, ops_c, ops_n, op1_u, op1_gj, op2_op2, op2_op, op2_s, op2_cond, thenX_n, thenX_e, thenX_r, blkX_n, blkX_r, blkX_e, finX_r, finX_n, res_n, res_t, mov_f, op_s, Nat.beq_refl, cond_true]
  first | done | kernel_rfl
def D6_l1 (rec : Rec) (N : Nat) (fs : Frm) (s : St) : OutX := opt2 (oLenL (.v (orU (fs.get t0))) rec PT.nil s) fun x1 s =>
 opt2 (oBin (int2 (cmpO ltI)) (.v (orU (fs.get t9))) (.v x1) rec PT.nil s) fun x2 s =>
 condV x2
 (opt2 (loopF (c6_l0 rec N) N (PT.put (.int .i64 0) t10 (PT.put x2 t45 (PT.put x1 t44 (PT.put (orU (fs.get t0)) t43 (PT.put (orU (fs.get t9)) t42 fs))))) s) fun e r => opt2 (blkX 2 e r) fun e r => opt2 (blkX 1 e r) fun e r => thenX (c6_r0 rec N) e r)
 (some ((.exit 0), (PT.put x2 t45 (PT.put x1 t44 (PT.put (orU (fs.get t0)) t43 (PT.put (orU (fs.get t9)) t42 fs)))), s))
theorem d6_l1 (rec : Rec) (N : Nat) (fs : Frm) (s : St) : c6_l1 rec N fs s = D6_l1 rec N fs s := by
  simp only [c6_l1, call_f, lenN, x_reg, reg_n, reg_c, reg1_u, reg1_g, op2_cons, op2_bif, x_seq, x_ops, x_skip, x_ret, x_exit, x_cond, x_block, x_loop, ops_c, ops_n, op1_u, op1_gj, op2_op2, op2_op, op2_s, op2_cond, thenX_n, thenX_e, thenX_r, blkX_n, blkX_r, blkX_e, finX_r, finX_n, res_n, res_t, mov_f, op_s, Nat.beq_refl, cond_true]
  first | done | kernel_rfl
def D6_l2 (rec : Rec) (N : Nat) (fs : Frm) (s : St) : OutX := opt2 (oLenL (.v (orU (fs.get t0))) rec PT.nil s) fun x1 s =>
 opt2 (oBin (int2 (cmpO ltI)) (.v (orU (fs.get t11))) (.v x1) rec PT.nil s) fun x2 s =>
 condV x2
 (opt2 (rU (oMov (.v (orU (fs.get t7))) rec PT.nil ⟨s.heap, s.next, 0, 0⟩) PT.nil s none) fun x3 m3 =>
 (fun s => opt2 (rU (oMov (.v (orU (fs.get t0))) rec PT.nil ⟨s.heap, s.next, 0, 0⟩) PT.nil s none) fun x4 m4 =>
 (fun s => opt2 (rU (oMov (.v (orU (fs.get t11))) rec PT.nil ⟨s.heap, s.next, 0, 0⟩) PT.nil s none) fun x5 m5 =>
 (fun s => opt2 (rU (oIdxAddrL 2 (.v x4) (.v x5) rec PT.nil ⟨s.heap, s.next, 0, 0⟩) PT.nil s none) fun x6 m6 =>
 (fun s => opt2 (rU (oFieldAddr 0 (.v x6) rec PT.nil ⟨s.heap, s.next, 0, 0⟩) PT.nil s none) fun x7 m7 =>
 (fun s => opt2 (rU (oLoad1 (.v x7) rec PT.nil ⟨s.heap, s.next, 0, 0⟩) PT.nil s (some (.v x7))) fun x8 m8 =>
 (fun s => opt2 (rU (oMov (.v (orU (fs.get t0))) rec PT.nil ⟨s.heap, s.next, 0, 0⟩) PT.nil s none) fun x9 m9 =>
 (fun s => opt2 (rU (oMov (.v (orU (fs.get t11))) rec PT.nil ⟨s.heap, s.next, 0, 0⟩) PT.nil s none) fun x10 m10 =>
 (fun s => opt2 (rU (oIdxAddrL 2 (.v x9) (.v x10) rec PT.nil ⟨s.heap, s.next, 0, 0⟩) PT.nil s none) fun x11 m11 =>
 (fun s => opt2 (rU (oFieldAddr 1 (.v x11) rec PT.nil ⟨s.heap, s.next, 0, 0⟩) PT.nil s none) fun x12 m12 =>
 (fun s => opt2 (rU (oLoad1 (.v x12) rec PT.nil ⟨s.heap, s.next, 0, 0⟩) PT.nil s (some (.v x12))) fun x13 m13 =>
 (fun s => opt2 (rU (rec 14 [x3, x8, x13] ⟨s.heap, s.next, 0, 0⟩) PT.nil s none) fun x14 m14 =>
 (fun s => bif apartAll [m3.1, m4.1, m5.1, m6.1, m7.1, m8.1, m9.1, m10.1, m11.1, m12.1, m13.1, m14.1] [(0, 1), (0, 2), (1, 2), (0, 3), (0, 4), (0, 5), (0, 6), (1, 6), (2, 6), (3, 6), (4, 6), (5, 6), (0, 7), (1, 7), (2, 7), (3, 7), (4, 7), (5, 7), (6, 7), (0, 8), (1, 8), (2, 8), (3, 8), (4, 8), (5, 8), (0, 9), (1, 9), (2, 9), (3, 9), (4, 9), (5, 9), (0, 10), (1, 10), (2, 10), (3, 10), (4, 10), (5, 10)] then opt2 (oLenL (.v (orU (fs.get t0))) rec PT.nil s) fun x15 s =>
 opt2 (oBin (int2 subO) (.v x15) (.v (.int .i64 1)) rec PT.nil s) fun x16 s =>
 opt2 (oBin (int2 subO) (.v x16) (.v (orU (fs.get t11))) rec PT.nil s) fun x17 s =>
 opt2 (rU (oMov (.v (orU (fs.get t8))) rec PT.nil ⟨s.heap, s.next, 0, 0⟩) PT.nil s none) fun x18 m18 =>
 (fun s => opt2 (rU (oMov (.v (orU (fs.get t0))) rec PT.nil ⟨s.heap, s.next, 0, 0⟩) PT.nil s none) fun x19 m19 =>
 (fun s => opt2 (rU (oMov (.v x17) rec PT.nil ⟨s.heap, s.next, 0, 0⟩) PT.nil s none) fun x20 m20 =>
 (fun s => opt2 (rU (oIdxAddrL 2 (.v x19) (.v x20) rec PT.nil ⟨s.heap, s.next, 0, 0⟩) PT.nil s none) fun x21 m21 =>
 (fun s => opt2 (rU (oFieldAddr 0 (.v x21) rec PT.nil ⟨s.heap, s.next, 0, 0⟩) PT.nil s none) fun x22 m22 =>
 (fun s => opt2 (rU (oLoad1 (.v x22) rec PT.nil ⟨s.heap, s.next, 0, 0⟩) PT.nil s (some (.v x22))) fun x23 m23 =>
 (fun s => opt2 (rU (oMov (.v (orU (fs.get t0))) rec PT.nil ⟨s.heap, s.next, 0, 0⟩) PT.nil s none) fun x24 m24 =>
 (fun s => opt2 (rU (oMov (.v x17) rec PT.nil ⟨s.heap, s.next, 0, 0⟩) PT.nil s none) fun x25 m25 =>
 (fun s => opt2 (rU (oIdxAddrL 2 (.v x24) (.v x25) rec PT.nil ⟨s.heap, s.next, 0, 0⟩) PT.nil s none) fun x26 m26 =>
 (fun s => opt2 (rU (oFieldAddr 1 (.v x26) rec PT.nil ⟨s.heap, s.next, 0, 0⟩) PT.nil s none) fun x27 m27 =>
 (fun s => opt2 (rU (oLoad1 (.v x27) rec PT.nil ⟨s.heap, s.next, 0, 0⟩) PT.nil s (some (.v x27))) fun x28 m28 =>
 (fun s => opt2 (rU (rec 14 [x18, x23, x28] ⟨s.heap, s.next, 0, 0⟩) PT.nil s none) fun x29 m29 =>
 (fun s => bif apartAll [m18.1, m19.1, m20.1, m21.1, m22.1, m23.1, m24.1, m25.1, m26.1, m27.1, m28.1, m29.1] [(0, 1), (0, 2), (1, 2), (0, 3), (0, 4), (0, 5), (0, 6), (1, 6), (2, 6), (3, 6), (4, 6), (5, 6), (0, 7), (1, 7), (2, 7), (3, 7), (4, 7), (5, 7), (6, 7), (0, 8), (1, 8), (2, 8), (3, 8), (4, 8), (5, 8), (0, 9), (1, 9), (2, 9), (3, 9), (4, 9), (5, 9), (0, 10), (1, 10), (2, 10), (3, 10), (4, 10), (5, 10)] then opt2 (oBin (int2 addO) (.v (orU (fs.get t11))) (.v (.int .i64 1)) rec PT.nil s) fun x30 s =>
 some (.norm, (PT.put x30 t11 (PT.put x30 t69 (PT.put (orU (fs.get t11)) t68 (PT.put x29 t98 (PT.put x28 t97 (PT.put x27 t96 (PT.put x26 t95 (PT.put x25 t94 (PT.put x24 t93 (PT.put x23 t92 (PT.put x22 t91 (PT.put x21 t90 (PT.put x20 t89 (PT.put x19 t88 (PT.put x18 t87 (PT.put x17 t12 (PT.put x17 t86 (PT.put (orU (fs.get t11)) t85 (PT.put x16 t84 (PT.put x15 t83 (PT.put (orU (fs.get t0)) t82 (PT.put x14 t81 (PT.put x13 t80 (PT.put x12 t79 (PT.put x11 t78 (PT.put x10 t77 (PT.put x9 t76 (PT.put x8 t75 (PT.put x7 t74 (PT.put x6 t73 (PT.put x5 t72 (PT.put x4 t71 (PT.put x3 t70 (PT.put x2 t67 (PT.put x1 t66 (PT.put (orU (fs.get t0)) t65 (PT.put (orU (fs.get t11)) t64 fs))))))))))))))))))))))))))))))))))))), s) else none) m29.2) m28.2) m27.2) m26.2) m25.2) m24.2) m23.2) m22.2) m21.2) m20.2) m19.2) m18.2 else none) m14.2) m13.2) m12.2) m11.2) m10.2) m9.2) m8.2) m7.2) m6.2) m5.2) m4.2) m3.2)
 (some ((.exit 4), (PT.put x2 t67 (PT.put x1 t66 (PT.put (orU (fs.get t0)) t65 (PT.put (orU (fs.get t11)) t64 fs)))), s))
theorem d6_l2 (rec : Rec) (N : Nat) (fs : Frm) (s : St) : c6_l2 rec N fs s = D6_l2 rec N fs s := by
  simp only [c6_l2, call_f, lenN, x_reg, reg_n, reg_c, reg1_u, reg1_g, op2_cons, op2_bif, x_seq, x_ops, x_skip, x_ret, x_exit, x_cond, x_block, x_loop, ops_c, ops_n, op1_u, op1_gj, op2_op2, op2_op, op2_s, op2_cond, thenX_n, thenX_e, thenX_r, blkX_n, blkX_r, blkX_e, finX_r, finX_n, res_n, res_t, mov_f, op_s, Nat.beq_refl, cond_true]
  first | done | kernel_rfl
def D6_l3 (rec : Rec) (N : Nat) (fs : Frm) (s : St) : OutX := opt2 (oLenL (.v (orU (fs.get t13))) rec PT.nil s) fun x1 s =>
 opt2 (oBin (int2 (cmpO ltI)) (.v (orU (fs.get t15))) (.v x1) rec PT.nil s) fun x2 s =>
 condV x2
 (opt2 (rU (oMov (.v (orU (fs.get t13))) rec PT.nil ⟨s.heap, s.next, 0, 0⟩) PT.nil s none) fun x3 m3 =>
 (fun s => opt2 (rU (oMov (.v (orU (fs.get t15))) rec PT.nil ⟨s.heap, s.next, 0, 0⟩) PT.nil s none) fun x4 m4 =>
 (fun s => opt2 (rU (oIdxAddrL 2 (.v x3) (.v x4) rec PT.nil ⟨s.heap, s.next, 0, 0⟩) PT.nil s none) fun x5 m5 =>
 (fun s => opt2 (rU (oLoadN 2 (.v x5) rec PT.nil ⟨s.heap, s.next, 0, 0⟩) PT.nil s none) fun x6 m6 =>
 (fun s => opt2 (rU (oMov (.v (orU (fs.get t14))) rec PT.nil ⟨s.heap, s.next, 0, 0⟩) PT.nil s none) fun x7 m7 =>
 (fun s => opt2 (rU (oMov (.v (orU (fs.get t15))) rec PT.nil ⟨s.heap, s.next, 0, 0⟩) PT.nil s none) fun x8 m8 =>
 (fun s => opt2 (rU (oIdxAddrL 2 (.v x7) (.v x8) rec PT.nil ⟨s.heap, s.next, 0, 0⟩) PT.nil s none) fun x9 m9 =>
 (fun s => opt2 (rU (oLoadN 2 (.v x9) rec PT.nil ⟨s.heap, s.next, 0, 0⟩) PT.nil s none) fun x10 m10 =>
 (fun s => opt2 (rU (oEqs true [(0, eqN), (1, eqN)] (.v x6) (.v x10) rec PT.nil ⟨s.heap, s.next, 0, 0⟩) PT.nil s none) fun x11 m11 =>
 (fun s => bif apartAll [m3.1, m4.1, m5.1, m6.1, m7.1, m8.1, m9.1, m10.1, m11.1] [(0, 1), (0, 4), (1, 4), (2, 4), (3, 4), (0, 5), (1, 5), (2, 5), (3, 5), (4, 5), (0, 6), (1, 6), (2, 6), (3, 6), (0, 7), (1, 7), (2, 7), (3, 7)] then condV x11
 (some (.ret, (PT.put (.bool false) t6 (PT.put x11 t122 (PT.put x10 t121 (PT.put x9 t120 (PT.put x8 t119 (PT.put x7 t118 (PT.put x6 t117 (PT.put x5 t116 (PT.put x4 t115 (PT.put x3 t114 (PT.put x2 t111 (PT.put x1 t110 (PT.put (orU (fs.get t13)) t109 (PT.put (orU (fs.get t15)) t108 fs)))))))))))))), s))
 (opt2 (oBin (int2 addO) (.v (orU (fs.get t15))) (.v (.int .i64 1)) rec PT.nil s) fun x12 s =>
 some (.norm, (PT.put x12 t15 (PT.put x12 t113 (PT.put (orU (fs.get t15)) t112 (PT.put x11 t122 (PT.put x10 t121 (PT.put x9 t120 (PT.put x8 t119 (PT.put x7 t118 (PT.put x6 t117 (PT.put x5 t116 (PT.put x4 t115 (PT.put x3 t114 (PT.put x2 t111 (PT.put x1 t110 (PT.put (orU (fs.get t13)) t109 (PT.put (orU (fs.get t15)) t108 fs)))))))))))))))), s)) else none) m11.2) m10.2) m9.2) m8.2) m7.2) m6.2) m5.2) m4.2) m3.2)
 (some ((.exit 6), (PT.put x2 t111 (PT.put x1 t110 (PT.put (orU (fs.get t13)) t109 (PT.put (orU (fs.get t15)) t108 fs)))), s))
theorem d6_l3 (rec : Rec) (N : Nat) (fs : Frm) (s : St) : c6_l3 rec N fs s = D6_l3 rec N fs s := by
  simp only [c6_l3, call_f, lenN, x_reg, reg_n, reg_c, reg1_u, reg1_g, op2_cons, op2_bif, x_seq, x_ops, x_skip, x_ret, x_exit, x_cond, x_block, x_loop, ops_c, ops_n, op1_u, op1_gj, op2_op2, op2_op, op2_s, op2_cond, thenX_n, thenX_e, thenX_r, blkX_n, blkX_r, blkX_e, finX_r, finX_n, res_n, res_t, mov_f, op_s, Nat.beq_refl, cond_true]
  first | done | kernel_rfl
def D6_r1 (rec : Rec) (N : Nat) (fs : Frm) (s : St) : OutX := opt2 (rec 21 [(orU (fs.get t7))] s) fun x1 s =>
 opt2 (rec 14 [x1, (orU (fs.get t1)), (orU (fs.get t2))] s) fun x2 s =>
 opt2 (oBin (int2 quoO) (.v (orU (fs.get t2))) (.v (.int .i64 2)) rec PT.nil s) fun x3 s =>
 opt2 (rec 14 [x1, (orU (fs.get t1)), x3] s) fun x4 s =>
 opt2 (oBin (int2 (cmpO eqI)) (.v x2) (.v (.int .i64 0)) rec PT.nil s) fun x5 s =>
 opt (gval true x5) fun x6 => opt2 (orUndef x6 (some (x4, s)) s) fun x7 s =>
 opt (gval true x5) fun x8 => opt2 (orUndef x8 (oBin (int2 (cmpO eqI)) (.v x7) (.v (.int .i64 0)) rec PT.nil s) s) fun x9 s =>
 opt2 (oPick (.v x5) (.v x9) (.v (.bool false)) rec PT.nil s) fun x10 s =>
 opt (gval true x10) fun x11 => opt2 (orUndef x11 (some (x1, s)) s) fun x12 s =>
 opt (gval true x10) fun x13 => opt2 (orUndef x13 (some ((orU (fs.get t1)), s)) s) fun x14 s =>
 opt (gval true x10) fun x15 => opt2 (orUndef x15 (rec 15 [x12, x14] s) s) fun x16 s =>
 opt (gval true x10) fun x17 => opt2 (orUndef x17 (some ((orU (fs.get t2)), s)) s) fun x18 s =>
 opt (gval true x10) fun x19 => opt2 (orUndef x19 (oBin (int2 quoO) (.v x18) (.v (.int .i64 2)) rec PT.nil s) s) fun x20 s =>
 opt (gval true x10) fun x21 => opt2 (orUndef x21 (oBin (int2 (cmpO eqI)) (.v x16) (.v x20) rec PT.nil s) s) fun x22 s =>
 opt2 (oPick (.v x10) (.v x22) (.v (.bool false)) rec PT.nil s) fun x23 s =>
 opt (gval true x23) fun x24 => opt2 (orUndef x24 (some ((orU (fs.get t7)), s)) s) fun x25 s =>
 opt (gval true x23) fun x26 => opt2 (orUndef x26 (rec 18 [x25] s) s) fun x27 s =>
 opt (gval true x23) fun x28 => opt2 (orUndef x28 (oLenL (.v x27) rec PT.nil s) s) fun x29 s =>
 opt (gval true x23) fun x30 => opt2 (orUndef x30 (some ((orU (fs.get t13)), s)) s) fun x31 s =>
 opt (gval true x23) fun x32 => opt2 (orUndef x32 (oLenL (.v x31) rec PT.nil s) s) fun x33 s =>
 opt (gval true x23) fun x34 => opt2 (orUndef x34 (oBin (int2 (cmpO eqI)) (.v x29) (.v x33) rec PT.nil s) s) fun x35 s =>
 opt2 (oPick (.v x23) (.v x35) (.v (.bool false)) rec PT.nil s) fun x36 s =>
 some (.ret, (PT.put x36 t6 (PT.put x36 t155 (PT.put x35 t154 (PT.put x33 t153 (PT.put x31 t152 (PT.put x29 t151 (PT.put x27 t150 (PT.put x25 t149 (PT.put x23 t148 (PT.put x23 t147 (PT.put x22 t146 (PT.put x20 t145 (PT.put x18 t144 (PT.put x16 t143 (PT.put x14 t142 (PT.put x12 t141 (PT.put x10 t140 (PT.put x10 t139 (PT.put x9 t138 (PT.put x7 t137 (PT.put x5 t136 (PT.put x5 t135 (PT.put x2 t134 (PT.put x4 t18 (PT.put x4 t133 (PT.put x3 t132 (PT.put (orU (fs.get t2)) t131 (PT.put (orU (fs.get t1)) t130 (PT.put x1 t129 (PT.put x2 t17 (PT.put x2 t128 (PT.put (orU (fs.get t2)) t127 (PT.put (orU (fs.get t1)) t126 (PT.put x1 t125 (PT.put x1 t16 (PT.put x1 t124 (PT.put (orU (fs.get t7)) t123 fs))))))))))))))))))))))))))))))))))))), s)
theorem d6_r1 (rec : Rec) (N : Nat) (fs : Frm) (s : St) : c6_r1 rec N fs s = D6_r1 rec N fs s := by
  simp only [c6_r1, call_f, lenN, x_reg, reg_n, reg_c, reg1_u, reg1_g, op2_cons, op2_bif, x_seq, x_ops, x_skip, x_ret, x_exit, x_cond, x_block, x_loop, ops_c, ops_n, op1_u, op1_gj, op2_op2, op2_op, op2_s, op2_cond, thenX_n, thenX_e, thenX_r, blkX_n, blkX_r, blkX_e, finX_r, finX_n, res_n, res_t, mov_f, op_s, Nat.beq_refl, cond_true]
  first | done | kernel_rfl
def D6_r2 (rec : Rec) (N : Nat) (fs : Frm) (s : St) : OutX := opt2 (rec 18 [(orU (fs.get t7))] s) fun x1 s =>
 opt2 (rec 18 [(orU (fs.get t8))] s) fun x2 s =>
 opt2 (oLenL (.v x1) rec PT.nil s) fun x3 s =>
 opt2 (oLenL (.v x2) rec PT.nil s) fun x4 s =>
 opt2 (oBin (int2 (cmpO neI)) (.v x3) (.v x4) rec PT.nil s) fun x5 s =>
 condV x5
 (some (.ret, (PT.put (.bool false) t6 (PT.put x5 t107 (PT.put x4 t106 (PT.put x2 t105 (PT.put x3 t104 (PT.put x1 t103 (PT.put x2 t14 (PT.put x1 t13 (PT.put x2 t102 (PT.put (orU (fs.get t8)) t101 (PT.put x1 t100 (PT.put (orU (fs.get t7)) t99 fs)))))))))))), s))
 (opt2 (loopF (c6_l3 rec N) N (PT.put (.int .i64 0) t15 (PT.put x5 t107 (PT.put x4 t106 (PT.put x2 t105 (PT.put x3 t104 (PT.put x1 t103 (PT.put x2 t14 (PT.put x1 t13 (PT.put x2 t102 (PT.put (orU (fs.get t8)) t101 (PT.put x1 t100 (PT.put (orU (fs.get t7)) t99 fs)))))))))))) s) fun e r => opt2 (blkX 6 e r) fun e r => thenX (c6_r1 rec N) e r)
theorem d6_r2 (rec : Rec) (N : Nat) (fs : Frm) (s : St) : c6_r2 rec N fs s = D6_r2 rec N fs s := by
  simp only [c6_r2, call_f, lenN, x_reg, reg_n, reg_c, reg1_u, reg1_g, op2_cons, op2_bif, x_seq, x_ops, x_skip, x_ret, x_exit, x_cond, x_block, x_loop, ops_c, ops_n, op1_u, op1_gj, op2_op2, op2_op, op2_s, op2_cond, thenX_n, thenX_e, thenX_r, blkX_n, blkX_r, blkX_e, finX_r, finX_n, res_n, res_t, mov_f, op_s, Nat.beq_refl, cond_true]
  first | done | kernel_rfl
def D6_r3 (rec : Rec) (N : Nat) (fs : Frm) (s : St) : OutX := opt2 (loopF (c6_l2 rec N) N (PT.put (.int .i64 0) t11 fs) s) fun e r => opt2 (blkX 4 e r) fun e r => thenX (c6_r2 rec N) e r
theorem d6_r3 (rec : Rec) (N : Nat) (fs : Frm) (s : St) : c6_r3 rec N fs s = D6_r3 rec N fs s := by
  simp only [c6_r3, call_f, lenN, x_reg, reg_n, reg_c, reg1_u, reg1_g, op2_cons, op2_bif, x_seq, x_ops, x_skip, x_ret, x_exit, x_cond, x_block, x_loop, ops_c, ops_n, op1_u, op1_gj, op2_op2, op2_op, op2_s, op2_cond, thenX_n, thenX_e, thenX_r, blkX_n, blkX_r, blkX_e, finX_r, finX_n, res_n, res_t, mov_f, op_s, Nat.beq_refl, cond_true]
  first | done | kernel_rfl
def D6 (rec : Rec) (N : Nat) (a0 : Value) (a1 : Value) (a2 : Value) (s : St) : Out := opt2 (rec 12 [] s) fun x1 s =>
 opt2 (oNot (.v x1) rec PT.nil s) fun x2 s =>
 condV x2
 (some (oneOf [(.bool false)], s))
 (opt2 (oLenL (.v a0) rec PT.nil s) fun x3 s =>
 opt2 (oBin (int2 (cmpO gtI)) (.v x3) (.v (.int .i64 30)) rec PT.nil s) fun x4 s =>
 opt (gval false x4) fun x5 => opt2 (orUndef x5 (some (a1, s)) s) fun x6 s =>
 opt (gval false x4) fun x7 => opt2 (orUndef x7 (oBin (int2 (cmpO ltI)) (.v x6) (.v (.int .i64 0)) rec PT.nil s) s) fun x8 s =>
 opt2 (oPick (.v x4) (.v (.bool true)) (.v x8) rec PT.nil s) fun x9 s =>
 opt (gval false x9) fun x10 => opt2 (orUndef x10 (some (a1, s)) s) fun x11 s =>
 opt (gval false x9) fun x12 => opt2 (orUndef x12 (oBin (int2 (cmpO gtI)) (.v x11) (.v (.int .i64 100000)) rec PT.nil s) s) fun x13 s =>
 opt2 (oPick (.v x9) (.v (.bool true)) (.v x13) rec PT.nil s) fun x14 s =>
 opt (gval false x14) fun x15 => opt2 (orUndef x15 (some (a2, s)) s) fun x16 s =>
 opt (gval false x14) fun x17 => opt2 (orUndef x17 (oBin (int2 (cmpO ltI)) (.v x16) (.v (.int .i64 0)) rec PT.nil s) s) fun x18 s =>
 opt2 (oPick (.v x14) (.v (.bool true)) (.v x18) rec PT.nil s) fun x19 s =>
 opt (gval false x19) fun x20 => opt2 (orUndef x20 (some (a2, s)) s) fun x21 s =>
 opt (gval false x19) fun x22 => opt2 (orUndef x22 (oBin (int2 (cmpO gtI)) (.v x21) (.v (.int .i64 1000000000)) rec PT.nil s) s) fun x23 s =>
 opt2 (oPick (.v x19) (.v (.bool true)) (.v x23) rec PT.nil s) fun x24 s =>
 condV x24
 (some (oneOf [(.bool true)], s))
 (opt2 (rec 13 [] s) fun x25 s =>
 opt2 (rec 13 [] s) fun x26 s =>
 opt2 (loopF (c6_l1 rec N) N (PT.put (.int .i64 0) t9 (PT.put x26 t8 (PT.put x25 t7 (PT.put x26 t41 (PT.put x25 t40 (PT.put x24 t39 (PT.put x23 t38 (PT.put x21 t37 (PT.put x19 t36 (PT.put x19 t35 (PT.put x18 t34 (PT.put x16 t33 (PT.put x14 t32 (PT.put x14 t31 (PT.put x13 t30 (PT.put x11 t29 (PT.put x9 t28 (PT.put x9 t27 (PT.put x8 t26 (PT.put x6 t25 (PT.put x4 t24 (PT.put x4 t23 (PT.put x3 t22 (PT.put a0 t21 (PT.put x2 t20 (PT.put x1 t19 (PT.put (.bool false) t6 (PT.put a2 t2 (PT.put a1 t1 (PT.put a0 t0 PT.nil)))))))))))))))))))))))))))))) s) fun e r => opt2 (blkX 0 e r) fun e r => opt2 (thenX (c6_r3 rec N) e r) fun e r => finX [.tmp t6] e r))
theorem d6 (rec : Rec) (N : Nat) (a0 : Value) (a1 : Value) (a2 : Value) (s : St) : callF rec N c6 [a0, a1, a2] s = D6 rec N a0 a1 a2 s := by
  rw [call_f _ _ _ _ _ rfl]
  simp only [c6, x_reg, reg_n, reg_c, reg1_u, reg1_g, op2_cons, op2_bif, x_seq, x_ops, x_skip, x_ret, x_exit, x_cond, x_block, x_loop, ops_c, ops_n, op1_u, op1_gj, op2_op2, op2_op, op2_s, op2_cond, thenX_n, thenX_e, thenX_r, blkX_n, blkX_r, blkX_e, finX_r, finX_n, res_n, res_t, mov_f, op_s, Nat.beq_refl, cond_true]
  first | done | kernel_rfl
def D12 (rec : Rec) (N : Nat) (s : St) : Out := opt2 (rec 13 [] s) fun x1 s =>
 opt2 (oEqv eqP false (.v x1) (.v (.pointer none)) rec PT.nil s) fun x2 s =>
 condV x2
 (some (oneOf [(.bool false)], s))
 (opt2 (rec 14 [x1, (.int .i64 20), (.int .i64 7)] s) fun x3 s =>
 opt2 (rec 14 [x1, (.int .i64 10), (.int .i64 5)] s) fun x4 s =>
 opt2 (rec 21 [x1] s) fun x5 s =>
 opt2 (rec 14 [x1, (.int .i64 0), (.int .i64 1)] s) fun x6 s =>
 opt2 (rec 18 [x1] s) fun x7 s =>
 opt2 (oBin (int2 (cmpO eqI)) (.v x3) (.v (.int .i64 0)) rec PT.nil s) fun x8 s =>
 opt (gval true x8) fun x9 => opt2 (orUndef x9 (some (x4, s)) s) fun x10 s =>
 opt (gval true x8) fun x11 => opt2 (orUndef x11 (oBin (int2 (cmpO eqI)) (.v x10) (.v (.int .i64 0)) rec PT.nil s) s) fun x12 s =>
 opt2 (oPick (.v x8) (.v x12) (.v (.bool false)) rec PT.nil s) fun x13 s =>
 opt (gval true x13) fun x14 => opt2 (orUndef x14 (some (x5, s)) s) fun x15 s =>
 opt (gval true x13) fun x16 => opt2 (orUndef x16 (rec 16 [x15, (.int .i64 8), (.int .i64 22)] s) s) fun x17 s =>
 opt (gval true x13) fun x18 => opt2 (orUndef x18 (oBin (int2 (cmpO eqI)) (.v x17) (.v (.int .i64 64)) rec PT.nil s) s) fun x19 s =>
 opt2 (oPick (.v x13) (.v x19) (.v (.bool false)) rec PT.nil s) fun x20 s =>
 opt (gval true x20) fun x21 => opt2 (orUndef x21 (some (x5, s)) s) fun x22 s =>
 opt (gval true x20) fun x23 => opt2 (orUndef x23 (rec 15 [x22, (.int .i64 9)] s) s) fun x24 s =>
 opt (gval true x20) fun x25 => opt2 (orUndef x25 (oBin (int2 (cmpO eqI)) (.v x24) (.v (.int .i64 0)) rec PT.nil s) s) fun x26 s =>
 opt2 (oPick (.v x20) (.v x26) (.v (.bool false)) rec PT.nil s) fun x27 s =>
 opt (gval true x27) fun x28 => opt2 (orUndef x28 (some (x5, s)) s) fun x29 s =>
 opt (gval true x27) fun x30 => opt2 (orUndef x30 (rec 15 [x29, (.int .i64 20)] s) s) fun x31 s =>
 opt (gval true x27) fun x32 => opt2 (orUndef x32 (oBin (int2 (cmpO eqI)) (.v x31) (.v (.int .i64 7)) rec PT.nil s) s) fun x33 s =>
 opt2 (oPick (.v x27) (.v x33) (.v (.bool false)) rec PT.nil s) fun x34 s =>
 opt (gval true x34) fun x35 => opt2 (orUndef x35 (some (x5, s)) s) fun x36 s =>
 opt (gval true x34) fun x37 => opt2 (orUndef x37 (rec 18 [x36] s) s) fun x38 s =>
 opt (gval true x34) fun x39 => opt2 (orUndef x39 (oLenL (.v x38) rec PT.nil s) s) fun x40 s =>
 opt (gval true x34) fun x41 => opt2 (orUndef x41 (oBin (int2 (cmpO eqI)) (.v x40) (.v (.int .i64 2)) rec PT.nil s) s) fun x42 s =>
 opt2 (oPick (.v x34) (.v x42) (.v (.bool false)) rec PT.nil s) fun x43 s =>
 opt (gval true x43) fun x44 => opt2 (orUndef x44 (some (x7, s)) s) fun x45 s =>
 opt (gval true x43) fun x46 => opt2 (orUndef x46 (oLenL (.v x45) rec PT.nil s) s) fun x47 s =>
 opt (gval true x43) fun x48 => opt2 (orUndef x48 (oBin (int2 (cmpO eqI)) (.v x47) (.v (.int .i64 3)) rec PT.nil s) s) fun x49 s =>
 opt2 (oPick (.v x43) (.v x49) (.v (.bool false)) rec PT.nil s) fun x50 s =>
 opt (gval true x50) fun x51 => opt2 (orUndef x51 (some (x7, s)) s) fun x52 s =>
 opt (gval true x50) fun x53 => opt2 (orUndef x53 (oIdxAddrL 2 (.v x52) (.v (.int .i64 0)) rec PT.nil s) s) fun x54 s =>
 opt (gval true x50) fun x55 => opt2 (orUndef x55 (oLoadN 2 (.v x54) rec PT.nil s) s) fun x56 s =>
 opt (gval true x50) fun x57 => opt2 (orUndef x57 (oBuild [(.int .i64 0), (.int .i64 0)] [(1, 1, (.v (.int .i64 1)))] rec PT.nil s) s) fun x58 s =>
 opt (gval true x50) fun x59 => opt2 (orUndef x59 (oEqs false [(0, eqN), (1, eqN)] (.v x56) (.v x58) rec PT.nil s) s) fun x60 s =>
 opt2 (oPick (.v x50) (.v x60) (.v (.bool false)) rec PT.nil s) fun x61 s =>
 opt (gval true x61) fun x62 => opt2 (orUndef x62 (some (x1, s)) s) fun x63 s =>
 opt (gval true x61) fun x64 => opt2 (orUndef x64 (rec 15 [x63, (.int .i64 9)] s) s) fun x65 s =>
 opt (gval true x61) fun x66 => opt2 (orUndef x66 (oBin (int2 (cmpO eqI)) (.v x65) (.v (.int .i64 1)) rec PT.nil s) s) fun x67 s =>
 opt2 (oPick (.v x61) (.v x67) (.v (.bool false)) rec PT.nil s) fun x68 s =>
 some (oneOf [x68], s))
theorem d12 (rec : Rec) (N : Nat) (s : St) : callF rec N c12 [] s = D12 rec N s := by
  rw [call_f _ _ _ _ _ rfl]
  simp only [c12, x_reg, reg_n, reg_c, reg1_u, reg1_g, op2_cons, op2_bif, x_seq, x_ops, x_skip, x_ret, x_exit, x_cond, x_block, x_loop, ops_c, ops_n, op1_u, op1_gj, op2_op2, op2_op, op2_s, op2_cond, thenX_n, thenX_e, thenX_r, blkX_n, blkX_r, blkX_e, finX_r, finX_n, res_n, res_t, mov_f, op_s, Nat.beq_refl, cond_true]
  first | done | kernel_rfl
def D13 (rec : Rec) (N : Nat) (s : St) : Out := opt2 (oBuild [(.slice none 0 0)] [] rec PT.nil s) fun x1 s =>
 opt2 (oBox (.v x1) rec PT.nil s) fun x2 s =>
 some (oneOf [x2], s)
theorem d13 (rec : Rec) (N : Nat) (s : St) : callF rec N c13 [] s = D13 rec N s := by
  rw [call_f _ _ _ _ _ rfl]
  simp only [c13, x_reg, reg_n, reg_c, reg1_u, reg1_g, op2_cons, op2_bif, x_seq, x_ops, x_skip, x_ret, x_exit, x_cond, x_block, x_loop, ops_c, ops_n, op1_u, op1_gj, op2_op2, op2_op, op2_s, op2_cond, thenX_n, thenX_e, thenX_r, blkX_n, blkX_r, blkX_e, finX_r, finX_n, res_n, res_t, mov_f, op_s, Nat.beq_refl, cond_true]
  first | done | kernel_rfl
def D14 (rec : Rec) (N : Nat) (a0 : Value) (a1 : Value) (a2 : Value) (s : St) : Out := opt2 (oBin (int2 (cmpO ltI)) (.v a1) (.v (.int .i64 0)) rec PT.nil s) fun x1 s =>
 opt (gval false x1) fun x2 => opt2 (orUndef x2 (some (a1, s)) s) fun x3 s =>
 opt (gval false x1) fun x4 => opt2 (orUndef x4 (oBin (int2 (cmpO gtI)) (.v x3) (.v (.int .i64 109572)) rec PT.nil s) s) fun x5 s =>
 opt2 (oPick (.v x1) (.v (.bool true)) (.v x5) rec PT.nil s) fun x6 s =>
 condV x6
 (some (oneOf [(.int .i64 12)], s))
 (opt2 (oBin (int2 (cmpO ltI)) (.v a2) (.v (.int .i64 0)) rec PT.nil s) fun x7 s =>
 opt (gval false x7) fun x8 => opt2 (orUndef x8 (some (a2, s)) s) fun x9 s =>
 opt (gval false x7) fun x10 => opt2 (orUndef x10 (oBin (int2 (cmpO gtI)) (.v x9) (.v (.int .i64 1000000000)) rec PT.nil s) s) fun x11 s =>
 opt2 (oPick (.v x7) (.v (.bool true)) (.v x11) rec PT.nil s) fun x12 s =>
 condV x12
 (some (oneOf [(.int .i64 1)], s))
 (opt2 (rec 43 [a0, a1] s) fun x13 s =>
 opt2 (oBin (int2 (cmpO gtI)) (.v x13) (.v (.int .i64 0)) rec PT.nil s) fun x14 s =>
 opt (gval true x14) fun x15 => opt2 (orUndef x15 (some (a0, s)) s) fun x16 s =>
 opt (gval true x14) fun x17 => opt2 (orUndef x17 (oNilCheck (.v x16) rec PT.nil s) s) fun x18 s =>
 opt (gval true x14) fun x19 => opt2 (orUndef x19 (oFieldAddr 0 (.v x18) rec PT.nil s) s) fun x20 s =>
 opt (gval true x14) fun x21 => opt2 (orUndef x21 (oLoad1 (.v x20) rec PT.nil s) s) fun x22 s =>
 opt (gval true x14) fun x23 => opt2 (orUndef x23 (some (x13, s)) s) fun x24 s =>
 opt (gval true x14) fun x25 => opt2 (orUndef x25 (oBin (int2 subO) (.v x24) (.v (.int .i64 1)) rec PT.nil s) s) fun x26 s =>
 opt (gval true x14) fun x27 => opt2 (orUndef x27 (oIdxAddrL 2 (.v x22) (.v x26) rec PT.nil s) s) fun x28 s =>
 opt (gval true x14) fun x29 => opt2 (orUndef x29 (oFieldAddr 0 (.v x28) rec PT.nil s) s) fun x30 s =>
 opt (gval true x14) fun x31 => opt2 (orUndef x31 (oLoad1 (.v x30) rec PT.nil s) s) fun x32 s =>
 opt (gval true x14) fun x33 => opt2 (orUndef x33 (some (a1, s)) s) fun x34 s =>
 opt (gval true x14) fun x35 => opt2 (orUndef x35 (oBin (int2 (cmpO eqI)) (.v x32) (.v x34) rec PT.nil s) s) fun x36 s =>
 opt2 (oPick (.v x14) (.v x36) (.v (.bool false)) rec PT.nil s) fun x37 s =>
 condV x37
 (opt2 (oNilCheck (.v a0) rec PT.nil s) fun x38 s =>
 opt2 (oFieldAddr 0 (.v x38) rec PT.nil s) fun x39 s =>
 opt2 (oLoad1 (.v x39) rec PT.nil s) fun x40 s =>
 opt2 (oBin (int2 subO) (.v x13) (.v (.int .i64 1)) rec PT.nil s) fun x41 s =>
 opt2 (oIdxAddrL 2 (.v x40) (.v x41) rec PT.nil s) fun x42 s =>
 opt2 (oFieldAddr 1 (.v x42) rec PT.nil s) fun x43 s =>
 opt2 (oStore 1 (.v x43) (.v a2) rec PT.nil s) fun x44 s =>
 some (oneOf [(.int .i64 0)], s))
 (opt2 (oNilCheck (.v a0) rec PT.nil s) fun x45 s =>
 opt2 (oFieldAddr 0 (.v x45) rec PT.nil s) fun x46 s =>
 opt2 (oLoad1 (.v x46) rec PT.nil s) fun x47 s =>
 opt2 (oLenL (.v x47) rec PT.nil s) fun x48 s =>
 opt2 (oBin (int2 (cmpO eqI)) (.v x48) (.v (.int .i64 256)) rec PT.nil s) fun x49 s =>
 condV x49
 (some (oneOf [(.int .i64 2)], s))
 (opt2 (oNilCheck (.v a0) rec PT.nil s) fun x50 s =>
 opt2 (oFieldAddr 0 (.v x50) rec PT.nil s) fun x51 s =>
 opt2 (oLoad1 (.v x51) rec PT.nil s) fun x52 s =>
 opt2 (oBuild [(.int .i64 0), (.int .i64 0)] [(0, 1, (.v a1)), (1, 1, (.v a2))] rec PT.nil s) fun x53 s =>
 opt2 (oBuildSlice 1 [(.int .i64 0), (.int .i64 0)] [(0, 2, (.v x53))] rec PT.nil s) fun x54 s =>
 opt2 (rec 44 [x52, x13, x54] s) fun x55 s =>
 opt2 (oNilCheck (.v a0) rec PT.nil s) fun x56 s =>
 opt2 (oFieldAddr 0 (.v x56) rec PT.nil s) fun x57 s =>
 opt2 (oStore 1 (.v x57) (.v x55) rec PT.nil s) fun x58 s =>
 some (oneOf [(.int .i64 0)], s)))))
theorem d14 (rec : Rec) (N : Nat) (a0 : Value) (a1 : Value) (a2 : Value) (s : St) : callF rec N c14 [a0, a1, a2] s = D14 rec N a0 a1 a2 s := by
  rw [call_f _ _ _ _ _ rfl]
  simp only [c14, x_reg, reg_n, reg_c, reg1_u, reg1_g, op2_cons, op2_bif, x_seq, x_ops, x_skip, x_ret, x_exit, x_cond, x_block, x_loop, ops_c, ops_n, op1_u, op1_gj, op2_op2, op2_op, op2_s, op2_cond, thenX_n, thenX_e, thenX_r, blkX_n, blkX_r, blkX_e, finX_r, finX_n, res_n, res_t, mov_f, op_s, Nat.beq_refl, cond_true]
  first | done | kernel_rfl
def D15 (rec : Rec) (N : Nat) (a0 : Value) (a1 : Value) (s : St) : Out := opt2 (rec 43 [a0, a1] s) fun x1 s =>
 opt2 (oBin (int2 (cmpO eqI)) (.v x1) (.v (.int .i64 0)) rec PT.nil s) fun x2 s =>
 condV x2
 (some (oneOf [(.int .i64 0)], s))
 (opt2 (oNilCheck (.v a0) rec PT.nil s) fun x3 s =>
 opt2 (oFieldAddr 0 (.v x3) rec PT.nil s) fun x4 s =>
 opt2 (oLoad1 (.v x4) rec PT.nil s) fun x5 s =>
 opt2 (oBin (int2 subO) (.v x1) (.v (.int .i64 1)) rec PT.nil s) fun x6 s =>
 opt2 (oIdxAddrL 2 (.v x5) (.v x6) rec PT.nil s) fun x7 s =>
 opt2 (oFieldAddr 1 (.v x7) rec PT.nil s) fun x8 s =>
 opt2 (oLoad1 (.v x8) rec PT.nil s) fun x9 s =>
 some (oneOf [x9], s))
theorem d15 (rec : Rec) (N : Nat) (a0 : Value) (a1 : Value) (s : St) : callF rec N c15 [a0, a1] s = D15 rec N a0 a1 s := by
  rw [call_f _ _ _ _ _ rfl]
  simp only [c15, x_reg, reg_n, reg_c, reg1_u, reg1_g, op2_cons, op2_bif, x_seq, x_ops, x_skip, x_ret, x_exit, x_cond, x_block, x_loop, ops_c, ops_n, op1_u, op1_gj, op2_op2, op2_op, op2_s, op2_cond, thenX_n, thenX_e, thenX_r, blkX_n, blkX_r, blkX_e, finX_r, finX_n, res_n, res_t, mov_f, op_s, Nat.beq_refl, cond_true]
  first | done | kernel_rfl
def D16_l0 (rec : Rec) (N : Nat) (fs : Frm) (s : St) : OutX := opt2 (oBin (int2 (cmpO ltI)) (.v (orU (fs.get t23))) (.v (orU (fs.get t22))) rec PT.nil s) fun x1 s =>
 condV x1
 (opt2 (oIdxAddrL 2 (.v (orU (fs.get t21))) (.v (orU (fs.get t23))) rec PT.nil s) fun x2 s =>
 opt2 (oLoadN 2 (.v x2) rec PT.nil s) fun x3 s =>
 opt2 (oNew [(.int .i64 0), (.int .i64 0)] rec PT.nil s) fun x4 s =>
 opt2 (oStore 2 (.v x4) (.v x3) rec PT.nil s) fun x5 s =>
 opt2 (oNilCheck (.v (orU (fs.get t0))) rec PT.nil s) fun x6 s =>
 opt2 (oFieldAddr 0 (.v x6) rec PT.nil s) fun x7 s =>
 opt2 (oLoad1 (.v x7) rec PT.nil s) fun x8 s =>
 opt2 (oLenL (.v x8) rec PT.nil s) fun x9 s =>
 opt2 (oBin (int2 subO) (.v x9) (.v (.int .i64 1)) rec PT.nil s) fun x10 s =>
 opt2 (oBin (int2 (cmpO ltI)) (.v (orU (fs.get t23))) (.v x10) rec PT.nil s) fun x11 s =>
 condV x11
 (opt2 (oNilCheck (.v (orU (fs.get t0))) rec PT.nil s) fun x12 s =>
 opt2 (oFieldAddr 0 (.v x12) rec PT.nil s) fun x13 s =>
 opt2 (oLoad1 (.v x13) rec PT.nil s) fun x14 s =>
 opt2 (oBin (int2 addO) (.v (orU (fs.get t23))) (.v (.int .i64 1)) rec PT.nil s) fun x15 s =>
 opt2 (oIdxAddrL 2 (.v x14) (.v x15) rec PT.nil s) fun x16 s =>
 opt2 (oFieldAddr 0 (.v x16) rec PT.nil s) fun x17 s =>
 opt2 (oLoad1 (.v x17) rec PT.nil s) fun x18 s =>
 opt2 (oMM false (.v x18) [(.v (orU (fs.get t2)))] rec PT.nil s) fun x19 s =>
 opt2 (oFieldAddr 0 (.v x4) rec PT.nil s) fun x20 s =>
 opt2 (oLoad1 (.v x20) rec PT.nil s) fun x21 s =>
 opt2 (oMM true (.v x21) [(.v (orU (fs.get t1)))] rec PT.nil s) fun x22 s =>
 opt2 (oBin (int2 subO) (.v x19) (.v x22) rec PT.nil s) fun x23 s =>
 opt2 (oBin (int2 (cmpO gtI)) (.v x23) (.v (.int .i64 0)) rec PT.nil s) fun x24 s =>
 condV x24
 (opt2 (oFieldAddr 1 (.v x4) rec PT.nil s) fun x25 s =>
 opt2 (oLoad1 (.v x25) rec PT.nil s) fun x26 s =>
 opt2 (oBin (int2 mulO) (.v x23) (.v x26) rec PT.nil s) fun x27 s =>
 opt2 (oBin (int2 addO) (.v (orU (fs.get t7))) (.v x27) rec PT.nil s) fun x28 s =>
 opt2 (oBin (int2 addO) (.v (orU (fs.get t23))) (.v (.int .i64 1)) rec PT.nil s) fun x29 s =>
 some (.norm, (PT.put x29 t23 (PT.put x29 t61 (PT.put x28 t7 (PT.put x28 t60 (PT.put x27 t59 (PT.put x26 t58 (PT.put x25 t57 (PT.put x23 t56 (PT.put (orU (fs.get t7)) t55 (PT.put x24 t54 (PT.put x23 t53 (PT.put x23 t11 (PT.put x23 t52 (PT.put x22 t51 (PT.put (orU (fs.get t1)) t50 (PT.put x21 t49 (PT.put x20 t48 (PT.put x19 t47 (PT.put (orU (fs.get t2)) t46 (PT.put x18 t45 (PT.put x18 t10 (PT.put x18 t44 (PT.put x17 t43 (PT.put x16 t42 (PT.put x15 t41 (PT.put (orU (fs.get t23)) t40 (PT.put x14 t39 (PT.put x13 t38 (PT.put x12 t37 (PT.put (orU (fs.get t0)) t36 (PT.put x11 t35 (PT.put x10 t34 (PT.put x9 t33 (PT.put x8 t32 (PT.put x7 t31 (PT.put x6 t30 (PT.put (orU (fs.get t0)) t29 (PT.put (orU (fs.get t23)) t28 (PT.put (.int .i64 109573) t10 (PT.put (orU (fs.get t23)) t8 (PT.put x4 t9 (PT.put x3 t27 (PT.put x2 t26 (PT.put (orU (fs.get t23)) t25 (PT.put x1 t24 fs))))))))))))))))))))))))))))))))))))))))))))), s))
 (opt2 (oBin (int2 addO) (.v (orU (fs.get t23))) (.v (.int .i64 1)) rec PT.nil s) fun x30 s =>
 some (.norm, (PT.put x30 t23 (PT.put x30 t61 (PT.put x24 t54 (PT.put x23 t53 (PT.put x23 t11 (PT.put x23 t52 (PT.put x22 t51 (PT.put (orU (fs.get t1)) t50 (PT.put x21 t49 (PT.put x20 t48 (PT.put x19 t47 (PT.put (orU (fs.get t2)) t46 (PT.put x18 t45 (PT.put x18 t10 (PT.put x18 t44 (PT.put x17 t43 (PT.put x16 t42 (PT.put x15 t41 (PT.put (orU (fs.get t23)) t40 (PT.put x14 t39 (PT.put x13 t38 (PT.put x12 t37 (PT.put (orU (fs.get t0)) t36 (PT.put x11 t35 (PT.put x10 t34 (PT.put x9 t33 (PT.put x8 t32 (PT.put x7 t31 (PT.put x6 t30 (PT.put (orU (fs.get t0)) t29 (PT.put (orU (fs.get t23)) t28 (PT.put (.int .i64 109573) t10 (PT.put (orU (fs.get t23)) t8 (PT.put x4 t9 (PT.put x3 t27 (PT.put x2 t26 (PT.put (orU (fs.get t23)) t25 (PT.put x1 t24 fs)))))))))))))))))))))))))))))))))))))), s)))
 (opt2 (oMM false (.v (.int .i64 109573)) [(.v (orU (fs.get t2)))] rec PT.nil s) fun x31 s =>
 opt2 (oFieldAddr 0 (.v x4) rec PT.nil s) fun x32 s =>
 opt2 (oLoad1 (.v x32) rec PT.nil s) fun x33 s =>
 opt2 (oMM true (.v x33) [(.v (orU (fs.get t1)))] rec PT.nil s) fun x34 s =>
 opt2 (oBin (int2 subO) (.v x31) (.v x34) rec PT.nil s) fun x35 s =>
 opt2 (oBin (int2 (cmpO gtI)) (.v x35) (.v (.int .i64 0)) rec PT.nil s) fun x36 s =>
 condV x36
 (opt2 (oFieldAddr 1 (.v x4) rec PT.nil s) fun x37 s =>
 opt2 (oLoad1 (.v x37) rec PT.nil s) fun x38 s =>
 opt2 (oBin (int2 mulO) (.v x35) (.v x38) rec PT.nil s) fun x39 s =>
 opt2 (oBin (int2 addO) (.v (orU (fs.get t7))) (.v x39) rec PT.nil s) fun x40 s =>
 opt2 (oBin (int2 addO) (.v (orU (fs.get t23))) (.v (.int .i64 1)) rec PT.nil s) fun x41 s =>
 some (.norm, (PT.put x41 t23 (PT.put x41 t61 (PT.put x40 t7 (PT.put x40 t60 (PT.put x39 t59 (PT.put x38 t58 (PT.put x37 t57 (PT.put x35 t56 (PT.put (orU (fs.get t7)) t55 (PT.put x36 t54 (PT.put x35 t53 (PT.put x35 t11 (PT.put x35 t52 (PT.put x34 t51 (PT.put (orU (fs.get t1)) t50 (PT.put x33 t49 (PT.put x32 t48 (PT.put x31 t47 (PT.put (orU (fs.get t2)) t46 (PT.put (.int .i64 109573) t45 (PT.put x11 t35 (PT.put x10 t34 (PT.put x9 t33 (PT.put x8 t32 (PT.put x7 t31 (PT.put x6 t30 (PT.put (orU (fs.get t0)) t29 (PT.put (orU (fs.get t23)) t28 (PT.put (.int .i64 109573) t10 (PT.put (orU (fs.get t23)) t8 (PT.put x4 t9 (PT.put x3 t27 (PT.put x2 t26 (PT.put (orU (fs.get t23)) t25 (PT.put x1 t24 fs))))))))))))))))))))))))))))))))))), s))
 (opt2 (oBin (int2 addO) (.v (orU (fs.get t23))) (.v (.int .i64 1)) rec PT.nil s) fun x42 s =>
 some (.norm, (PT.put x42 t23 (PT.put x42 t61 (PT.put x36 t54 (PT.put x35 t53 (PT.put x35 t11 (PT.put x35 t52 (PT.put x34 t51 (PT.put (orU (fs.get t1)) t50 (PT.put x33 t49 (PT.put x32 t48 (PT.put x31 t47 (PT.put (orU (fs.get t2)) t46 (PT.put (.int .i64 109573) t45 (PT.put x11 t35 (PT.put x10 t34 (PT.put x9 t33 (PT.put x8 t32 (PT.put x7 t31 (PT.put x6 t30 (PT.put (orU (fs.get t0)) t29 (PT.put (orU (fs.get t23)) t28 (PT.put (.int .i64 109573) t10 (PT.put (orU (fs.get t23)) t8 (PT.put x4 t9 (PT.put x3 t27 (PT.put x2 t26 (PT.put (orU (fs.get t23)) t25 (PT.put x1 t24 fs)))))))))))))))))))))))))))), s))))
 (some ((.exit 0), (PT.put x1 t24 fs), s))
theorem d16_l0 (rec : Rec) (N : Nat) (fs : Frm) (s : St) : c16_l0 rec N fs s = D16_l0 rec N fs s := by
  simp only [c16_l0, call_f, lenN, x_reg, reg_n, reg_c, reg1_u, reg1_g, op2_cons, op2_bif, x_seq, x_ops, x_skip, x_ret, x_exit, x_cond, x_block, x_loop, ops_c, ops_n, op1_u, op1_gj, op2_op2, op2_op, op2_s, op2_cond, thenX_n, thenX_e, thenX_r, blkX_n, blkX_r, blkX_e, finX_r, finX_n, res_n, res_t, mov_f, op_s, Nat.beq_refl, cond_true]
  first | done | kernel_rfl
def D16_r0 (rec : Rec) (N : Nat) (fs : Frm) (s : St) : OutX := some (.ret, (PT.put (orU (fs.get t7)) t6 (PT.put (orU (fs.get t7)) t62 fs)), s)
theorem d16_r0 (rec : Rec) (N : Nat) (fs : Frm) (s : St) : c16_r0 rec N fs s = D16_r0 rec N fs s := by
  simp only [c16_r0, call_f, lenN, x_reg, reg_n, reg_c, reg1_u, reg1_g, op2_cons, op2_bif, x_seq, x_ops, x_skip, x_ret, x_exit, x_cond, x_block, x_loop, ops_c, ops_n, op1_u, op1_gj, op2_op2, op2_op, op2_s, op2_cond, thenX_n, thenX_e, thenX_r, blkX_n, blkX_r, blkX_e, finX_r, finX_n, res_n, res_t, mov_f, op_s, Nat.beq_refl, cond_true]
  first | done | kernel_rfl
def D16 (rec : Rec) (N : Nat) (a0 : Value) (a1 : Value) (a2 : Value) (s : St) : Out := opt2 (oMM true (.v a1) [(.v (.int .i64 0))] rec PT.nil s) fun x1 s =>
 opt2 (oMM false (.v x1) [(.v (.int .i64 109573))] rec PT.nil s) fun x2 s =>
 opt2 (oMM true (.v a2) [(.v (.int .i64 0))] rec PT.nil s) fun x3 s =>
 opt2 (oMM false (.v x3) [(.v (.int .i64 109573))] rec PT.nil s) fun x4 s =>
 opt2 (oNilCheck (.v a0) rec PT.nil s) fun x5 s =>
 opt2 (oFieldAddr 0 (.v x5) rec PT.nil s) fun x6 s =>
 opt2 (oLoad1 (.v x6) rec PT.nil s) fun x7 s =>
 opt2 (oLenL (.v x7) rec PT.nil s) fun x8 s =>
 opt2 (loopF (c16_l0 rec N) N (PT.put (.int .i64 0) t23 (PT.put x8 t22 (PT.put x7 t21 (PT.put x6 t20 (PT.put x5 t19 (PT.put a0 t18 (PT.put (.int .i64 0) t7 (PT.put x4 t2 (PT.put x2 t1 (PT.put x4 t17 (PT.put x3 t16 (PT.put a2 t15 (PT.put x2 t14 (PT.put x1 t13 (PT.put a1 t12 (PT.put (.int .i64 0) t6 (PT.put a2 t2 (PT.put a1 t1 (PT.put a0 t0 PT.nil))))))))))))))))))) s) fun e r => opt2 (blkX 0 e r) fun e r => opt2 (thenX (c16_r0 rec N) e r) fun e r => finX [.tmp t6] e r
theorem d16 (rec : Rec) (N : Nat) (a0 : Value) (a1 : Value) (a2 : Value) (s : St) : callF rec N c16 [a0, a1, a2] s = D16 rec N a0 a1 a2 s := by
  rw [call_f _ _ _ _ _ rfl]
  simp only [c16, x_reg, reg_n, reg_c, reg1_u, reg1_g, op2_cons, op2_bif, x_seq, x_ops, x_skip, x_ret, x_exit, x_cond, x_block, x_loop, ops_c, ops_n, op1_u, op1_gj, op2_op2, op2_op, op2_s, op2_cond, thenX_n, thenX_e, thenX_r, blkX_n, blkX_r, blkX_e, finX_r, finX_n, res_n, res_t, mov_f, op_s, Nat.beq_refl, cond_true]
  first | done | kernel_rfl
def D17_l0 (rec : Rec) (N : Nat) (fs : Frm) (s : St) : OutX := opt2 (oLenL (.v (orU (fs.get t0))) rec PT.nil s) fun x1 s =>
 opt2 (oBin (int2 (cmpO ltI)) (.v (orU (fs.get t8))) (.v x1) rec PT.nil s) fun x2 s =>
 opt (gval true x2) fun x3 => opt2 (orUndef x3 (some ((orU (fs.get t0)), s)) s) fun x4 s =>
 opt (gval true x2) fun x5 => opt2 (orUndef x5 (some ((orU (fs.get t8)), s)) s) fun x6 s =>
 opt (gval true x2) fun x7 => opt2 (orUndef x7 (oIdxAddrL 2 (.v x4) (.v x6) rec PT.nil s) s) fun x8 s =>
 opt (gval true x2) fun x9 => opt2 (orUndef x9 (oFieldAddr 0 (.v x8) rec PT.nil s) s) fun x10 s =>
 opt (gval true x2) fun x11 => opt2 (orUndef x11 (oLoad1 (.v x10) rec PT.nil s) s) fun x12 s =>
 opt (gval true x2) fun x13 => opt2 (orUndef x13 (some ((orU (fs.get t1)), s)) s) fun x14 s =>
 opt (gval true x2) fun x15 => opt2 (orUndef x15 (oBin (int2 (cmpO ltI)) (.v x12) (.v x14) rec PT.nil s) s) fun x16 s =>
 opt2 (oPick (.v x2) (.v x16) (.v (.bool false)) rec PT.nil s) fun x17 s =>
 condV x17
 (opt2 (oBin (int2 addO) (.v (orU (fs.get t8))) (.v (.int .i64 1)) rec PT.nil s) fun x18 s =>
 some (.norm, (PT.put x18 t8 (PT.put x18 t36 (PT.put (orU (fs.get t8)) t35 (PT.put x17 t34 (PT.put x16 t33 (PT.put x14 t32 (PT.put x12 t31 (PT.put x10 t30 (PT.put x8 t29 (PT.put x6 t28 (PT.put x4 t27 (PT.put x2 t26 (PT.put x2 t25 (PT.put x1 t24 (PT.put (orU (fs.get t0)) t23 (PT.put (orU (fs.get t8)) t22 fs)))))))))))))))), s))
 (some ((.exit 0), (PT.put x17 t34 (PT.put x16 t33 (PT.put x14 t32 (PT.put x12 t31 (PT.put x10 t30 (PT.put x8 t29 (PT.put x6 t28 (PT.put x4 t27 (PT.put x2 t26 (PT.put x2 t25 (PT.put x1 t24 (PT.put (orU (fs.get t0)) t23 (PT.put (orU (fs.get t8)) t22 fs))))))))))))), s))
theorem d17_l0 (rec : Rec) (N : Nat) (fs : Frm) (s : St) : c17_l0 rec N fs s = D17_l0 rec N fs s := by
  simp only [c17_l0, call_f, lenN, x_reg, reg_n, reg_c, reg1_u, reg1_g, op2_cons, op2_bif, x_seq, x_ops, x_skip, x_ret, x_exit, x_cond, x_block, x_loop, ops_c, ops_n, op1_u, op1_gj, op2_op2, op2_op, op2_s, op2_cond, thenX_n, thenX_e, thenX_r, blkX_n, blkX_r, blkX_e, finX_r, finX_n, res_n, res_t, mov_f, op_s, Nat.beq_refl, cond_true]
  first | done | kernel_rfl
def D17_r0 (rec : Rec) (N : Nat) (fs : Frm) (s : St) : OutX := opt2 (oLenL (.v (orU (fs.get t0))) rec PT.nil s) fun x1 s =>
 opt2 (oBin (int2 (cmpO ltI)) (.v (orU (fs.get t8))) (.v x1) rec PT.nil s) fun x2 s =>
 opt (gval true x2) fun x3 => opt2 (orUndef x3 (some ((orU (fs.get t0)), s)) s) fun x4 s =>
 opt (gval true x2) fun x5 => opt2 (orUndef x5 (some ((orU (fs.get t8)), s)) s) fun x6 s =>
 opt (gval true x2) fun x7 => opt2 (orUndef x7 (oIdxAddrL 2 (.v x4) (.v x6) rec PT.nil s) s) fun x8 s =>
 opt (gval true x2) fun x9 => opt2 (orUndef x9 (oFieldAddr 0 (.v x8) rec PT.nil s) s) fun x10 s =>
 opt (gval true x2) fun x11 => opt2 (orUndef x11 (oLoad1 (.v x10) rec PT.nil s) s) fun x12 s =>
 opt (gval true x2) fun x13 => opt2 (orUndef x13 (some ((orU (fs.get t1)), s)) s) fun x14 s =>
 opt (gval true x2) fun x15 => opt2 (orUndef x15 (oBin (int2 (cmpO eqI)) (.v x12) (.v x14) rec PT.nil s) s) fun x16 s =>
 opt2 (oPick (.v x2) (.v x16) (.v (.bool false)) rec PT.nil s) fun x17 s =>
 condV x17
 (opt2 (oBuildSlice 0 [] [] rec PT.nil s) fun x18 s =>
 opt2 (oAppend 2 16 (.v x18) (.v (orU (fs.get t0))) rec PT.nil s) fun x19 s =>
 opt2 (oIdxAddrL 2 (.v x19) (.v (orU (fs.get t8))) rec PT.nil s) fun x20 s =>
 opt2 (oFieldAddr 1 (.v x20) rec PT.nil s) fun x21 s =>
 opt2 (oStore 1 (.v x21) (.v (orU (fs.get t2))) rec PT.nil s) fun x22 s =>
 some (.ret, (PT.put (.int .i64 0) t7 (PT.put x19 t6 (PT.put x19 t58 (PT.put x21 t57 (PT.put x20 t56 (PT.put (orU (fs.get t2)) t55 (PT.put (orU (fs.get t8)) t54 (PT.put x19 t53 (PT.put x19 t9 (PT.put x19 t52 (PT.put (orU (fs.get t0)) t51 (PT.put x18 t50 (PT.put x17 t49 (PT.put x16 t48 (PT.put x14 t47 (PT.put x12 t46 (PT.put x10 t45 (PT.put x8 t44 (PT.put x6 t43 (PT.put x4 t42 (PT.put x2 t41 (PT.put x2 t40 (PT.put x1 t39 (PT.put (orU (fs.get t0)) t38 (PT.put (orU (fs.get t8)) t37 fs))))))))))))))))))))))))), s))
 (opt2 (oLenL (.v (orU (fs.get t0))) rec PT.nil s) fun x23 s =>
 opt2 (oBin (int2 (cmpO geI)) (.v x23) (.v (.int .i64 256)) rec PT.nil s) fun x24 s =>
 condV x24
 (some (.ret, (PT.put (.int .i64 2) t7 (PT.put (orU (fs.get t0)) t6 (PT.put (orU (fs.get t0)) t62 (PT.put x24 t61 (PT.put x23 t60 (PT.put (orU (fs.get t0)) t59 (PT.put x17 t49 (PT.put x16 t48 (PT.put x14 t47 (PT.put x12 t46 (PT.put x10 t45 (PT.put x8 t44 (PT.put x6 t43 (PT.put x4 t42 (PT.put x2 t41 (PT.put x2 t40 (PT.put x1 t39 (PT.put (orU (fs.get t0)) t38 (PT.put (orU (fs.get t8)) t37 fs))))))))))))))))))), s))
 (opt2 (oBuildSlice 0 [] [] rec PT.nil s) fun x25 s =>
 opt2 (oSliceL 2 (.v (orU (fs.get t0))) none (some (.v (orU (fs.get t8)))) none rec PT.nil s) fun x26 s =>
 opt2 (oAppend 2 16 (.v x25) (.v x26) rec PT.nil s) fun x27 s =>
 opt2 (oBuild [(.int .i64 0), (.int .i64 0)] [(0, 1, (.v (orU (fs.get t1)))), (1, 1, (.v (orU (fs.get t2))))] rec PT.nil s) fun x28 s =>
 opt2 (oBuildSlice 1 [(.int .i64 0), (.int .i64 0)] [(0, 2, (.v x28))] rec PT.nil s) fun x29 s =>
 opt2 (oAppend 2 16 (.v x27) (.v x29) rec PT.nil s) fun x30 s =>
 opt2 (oSliceL 2 (.v (orU (fs.get t0))) (some (.v (orU (fs.get t8)))) none none rec PT.nil s) fun x31 s =>
 opt2 (oAppend 2 16 (.v x30) (.v x31) rec PT.nil s) fun x32 s =>
 some (.ret, (PT.put (.int .i64 0) t7 (PT.put x32 t6 (PT.put x32 t77 (PT.put x31 t76 (PT.put (orU (fs.get t8)) t75 (PT.put (orU (fs.get t0)) t74 (PT.put x30 t73 (PT.put x30 t10 (PT.put x30 t72 (PT.put x29 t71 (PT.put x28 t70 (PT.put (orU (fs.get t2)) t69 (PT.put (orU (fs.get t1)) t68 (PT.put x27 t67 (PT.put x26 t66 (PT.put (orU (fs.get t8)) t65 (PT.put (orU (fs.get t0)) t64 (PT.put x25 t63 (PT.put x24 t61 (PT.put x23 t60 (PT.put (orU (fs.get t0)) t59 (PT.put x17 t49 (PT.put x16 t48 (PT.put x14 t47 (PT.put x12 t46 (PT.put x10 t45 (PT.put x8 t44 (PT.put x6 t43 (PT.put x4 t42 (PT.put x2 t41 (PT.put x2 t40 (PT.put x1 t39 (PT.put (orU (fs.get t0)) t38 (PT.put (orU (fs.get t8)) t37 fs)))))))))))))))))))))))))))))))))), s)))
theorem d17_r0 (rec : Rec) (N : Nat) (fs : Frm) (s : St) : c17_r0 rec N fs s = D17_r0 rec N fs s := by
  simp only [c17_r0, call_f, lenN, x_reg, reg_n, reg_c, reg1_u, reg1_g, op2_cons, op2_bif, x_seq, x_ops, x_skip, x_ret, x_exit, x_cond, x_block, x_loop, ops_c, ops_n, op1_u, op1_gj, op2_op2, op2_op, op2_s, op2_cond, thenX_n, thenX_e, thenX_r, blkX_n, blkX_r, blkX_e, finX_r, finX_n, res_n, res_t, mov_f, op_s, Nat.beq_refl, cond_true]
  first | done | kernel_rfl
def D17 (rec : Rec) (N : Nat) (a0 : Value) (a1 : Value) (a2 : Value) (s : St) : Out := opt2 (rec 45 [a1] s) fun x1 s =>
 opt2 (oNot (.v x1) rec PT.nil s) fun x2 s =>
 condV x2
 (some (oneOf [a0, (.int .i64 12)], s))
 (opt2 (oBin (int2 (cmpO ltI)) (.v a2) (.v (.int .i64 0)) rec PT.nil s) fun x3 s =>
 opt (gval false x3) fun x4 => opt2 (orUndef x4 (some (a2, s)) s) fun x5 s =>
 opt (gval false x3) fun x6 => opt2 (orUndef x6 (oBin (int2 (cmpO gtI)) (.v x5) (.v (.int .i64 1000000000)) rec PT.nil s) s) fun x7 s =>
 opt2 (oPick (.v x3) (.v (.bool true)) (.v x7) rec PT.nil s) fun x8 s =>
 condV x8
 (some (oneOf [a0, (.int .i64 1)], s))
 (opt2 (loopF (c17_l0 rec N) N (PT.put (.int .i64 0) t8 (PT.put x8 t20 (PT.put x7 t19 (PT.put x5 t18 (PT.put x3 t17 (PT.put x3 t16 (PT.put a2 t15 (PT.put x2 t13 (PT.put x1 t12 (PT.put a1 t11 (PT.put (.int .i64 0) t7 (PT.put (.slice none 0 0) t6 (PT.put a2 t2 (PT.put a1 t1 (PT.put a0 t0 PT.nil))))))))))))))) s) fun e r => opt2 (blkX 0 e r) fun e r => opt2 (thenX (c17_r0 rec N) e r) fun e r => finX [.tmp t6, .tmp t7] e r))
theorem d17 (rec : Rec) (N : Nat) (a0 : Value) (a1 : Value) (a2 : Value) (s : St) : callF rec N c17 [a0, a1, a2] s = D17 rec N a0 a1 a2 s := by
  rw [call_f _ _ _ _ _ rfl]
  simp only [c17, x_reg, reg_n, reg_c, reg1_u, reg1_g, op2_cons, op2_bif, x_seq, x_ops, x_skip, x_ret, x_exit, x_cond, x_block, x_loop, ops_c, ops_n, op1_u, op1_gj, op2_op2, op2_op, op2_s, op2_cond, thenX_n, thenX_e, thenX_r, blkX_n, blkX_r, blkX_e, finX_r, finX_n, res_n, res_t, mov_f, op_s, Nat.beq_refl, cond_true]
  first | done | kernel_rfl
def D18 (rec : Rec) (N : Nat) (a0 : Value) (s : St) : Out := opt2 (oNilCheck (.v a0) rec PT.nil s) fun x1 s =>
 opt2 (oFieldAddr 0 (.v x1) rec PT.nil s) fun x2 s =>
 opt2 (oLoad1 (.v x2) rec PT.nil s) fun x3 s =>
 opt2 (rec 46 [x3] s) fun x4 s =>
 some (oneOf [x4], s)
theorem d18 (rec : Rec) (N : Nat) (a0 : Value) (s : St) : callF rec N c18 [a0] s = D18 rec N a0 s := by
  rw [call_f _ _ _ _ _ rfl]
  simp only [c18, x_reg, reg_n, reg_c, reg1_u, reg1_g, op2_cons, op2_bif, x_seq, x_ops, x_skip, x_ret, x_exit, x_cond, x_block, x_loop, ops_c, ops_n, op1_u, op1_gj, op2_op2, op2_op, op2_s, op2_cond, thenX_n, thenX_e, thenX_r, blkX_n, blkX_r, blkX_e, finX_r, finX_n, res_n, res_t, mov_f, op_s, Nat.beq_refl, cond_true]
  first | done | kernel_rfl
def D19_l0 (rec : Rec) (N : Nat) (fs : Frm) (s : St) : OutX := opt2 (oLenL (.v (orU (fs.get t0))) rec PT.nil s) fun x1 s =>
 opt2 (oBin (int2 (cmpO ltI)) (.v (orU (fs.get t6))) (.v x1) rec PT.nil s) fun x2 s =>
 opt (gval true x2) fun x3 => opt2 (orUndef x3 (some ((orU (fs.get t0)), s)) s) fun x4 s =>
 opt (gval true x2) fun x5 => opt2 (orUndef x5 (some ((orU (fs.get t6)), s)) s) fun x6 s =>
 opt (gval true x2) fun x7 => opt2 (orUndef x7 (oIdxAddrL 2 (.v x4) (.v x6) rec PT.nil s) s) fun x8 s =>
 opt (gval true x2) fun x9 => opt2 (orUndef x9 (oFieldAddr 0 (.v x8) rec PT.nil s) s) fun x10 s =>
 opt (gval true x2) fun x11 => opt2 (orUndef x11 (oLoad1 (.v x10) rec PT.nil s) s) fun x12 s =>
 opt (gval true x2) fun x13 => opt2 (orUndef x13 (some ((orU (fs.get t1)), s)) s) fun x14 s =>
 opt (gval true x2) fun x15 => opt2 (orUndef x15 (oBin (int2 (cmpO leI)) (.v x12) (.v x14) rec PT.nil s) s) fun x16 s =>
 opt2 (oPick (.v x2) (.v x16) (.v (.bool false)) rec PT.nil s) fun x17 s =>
 condV x17
 (opt2 (oIdxAddrL 2 (.v (orU (fs.get t0))) (.v (orU (fs.get t6))) rec PT.nil s) fun x18 s =>
 opt2 (oFieldAddr 1 (.v x18) rec PT.nil s) fun x19 s =>
 opt2 (oLoad1 (.v x19) rec PT.nil s) fun x20 s =>
 opt2 (oBin (int2 addO) (.v (orU (fs.get t6))) (.v (.int .i64 1)) rec PT.nil s) fun x21 s =>
 some (.norm, (PT.put x21 t6 (PT.put x21 t21 (PT.put (orU (fs.get t6)) t20 (PT.put x20 t5 (PT.put x20 t26 (PT.put x19 t25 (PT.put x18 t24 (PT.put (orU (fs.get t6)) t23 (PT.put (orU (fs.get t0)) t22 (PT.put x17 t19 (PT.put x16 t18 (PT.put x14 t17 (PT.put x12 t16 (PT.put x10 t15 (PT.put x8 t14 (PT.put x6 t13 (PT.put x4 t12 (PT.put x2 t11 (PT.put x2 t10 (PT.put x1 t9 (PT.put (orU (fs.get t0)) t8 (PT.put (orU (fs.get t6)) t7 fs)))))))))))))))))))))), s))
 (some ((.exit 0), (PT.put x17 t19 (PT.put x16 t18 (PT.put x14 t17 (PT.put x12 t16 (PT.put x10 t15 (PT.put x8 t14 (PT.put x6 t13 (PT.put x4 t12 (PT.put x2 t11 (PT.put x2 t10 (PT.put x1 t9 (PT.put (orU (fs.get t0)) t8 (PT.put (orU (fs.get t6)) t7 fs))))))))))))), s))
theorem d19_l0 (rec : Rec) (N : Nat) (fs : Frm) (s : St) : c19_l0 rec N fs s = D19_l0 rec N fs s := by
  simp only [c19_l0, call_f, lenN, x_reg, reg_n, reg_c, reg1_u, reg1_g, op2_cons, op2_bif, x_seq, x_ops, x_skip, x_ret, x_exit, x_cond, x_block, x_loop, ops_c, ops_n, op1_u, op1_gj, op2_op2, op2_op, op2_s, op2_cond, thenX_n, thenX_e, thenX_r, blkX_n, blkX_r, blkX_e, finX_r, finX_n, res_n, res_t, mov_f, op_s, Nat.beq_refl, cond_true]
  first | done | kernel_rfl
def D19_r0 (rec : Rec) (N : Nat) (fs : Frm) (s : St) : OutX := some (.ret, (PT.put (orU (fs.get t5)) t4 (PT.put (orU (fs.get t5)) t27 fs)), s)
theorem d19_r0 (rec : Rec) (N : Nat) (fs : Frm) (s : St) : c19_r0 rec N fs s = D19_r0 rec N fs s := by
  simp only [c19_r0, call_f, lenN, x_reg, reg_n, reg_c, reg1_u, reg1_g, op2_cons, op2_bif, x_seq, x_ops, x_skip, x_ret, x_exit, x_cond, x_block, x_loop, ops_c, ops_n, op1_u, op1_gj, op2_op2, op2_op, op2_s, op2_cond, thenX_n, thenX_e, thenX_r, blkX_n, blkX_r, blkX_e, finX_r, finX_n, res_n, res_t, mov_f, op_s, Nat.beq_refl, cond_true]
  first | done | kernel_rfl
def D19 (rec : Rec) (N : Nat) (a0 : Value) (a1 : Value) (s : St) : Out := opt2 (loopF (c19_l0 rec N) N (PT.put (.int .i64 0) t6 (PT.put (.int .i64 0) t5 (PT.put (.int .i64 0) t4 (PT.put a1 t1 (PT.put a0 t0 PT.nil))))) s) fun e r => opt2 (blkX 0 e r) fun e r => opt2 (thenX (c19_r0 rec N) e r) fun e r => finX [.tmp t4] e r
theorem d19 (rec : Rec) (N : Nat) (a0 : Value) (a1 : Value) (s : St) : callF rec N c19 [a0, a1] s = D19 rec N a0 a1 s := by
  rw [call_f _ _ _ _ _ rfl]
  simp only [c19, x_reg, reg_n, reg_c, reg1_u, reg1_g, op2_cons, op2_bif, x_seq, x_ops, x_skip, x_ret, x_exit, x_cond, x_block, x_loop, ops_c, ops_n, op1_u, op1_gj, op2_op2, op2_op, op2_s, op2_cond, thenX_n, thenX_e, thenX_r, blkX_n, blkX_r, blkX_e, finX_r, finX_n, res_n, res_t, mov_f, op_s, Nat.beq_refl, cond_true]
  first | done | kernel_rfl
def D20_l0 (rec : Rec) (N : Nat) (fs : Frm) (s : St) : OutX := opt2 (oLenL (.v (orU (fs.get t0))) rec PT.nil s) fun x1 s =>
 opt2 (oBin (int2 (cmpO ltI)) (.v (orU (fs.get t8))) (.v x1) rec PT.nil s) fun x2 s =>
 condV x2
 (opt2 (oIdxAddrL 2 (.v (orU (fs.get t0))) (.v (orU (fs.get t8))) rec PT.nil s) fun x3 s =>
 opt2 (oFieldAddr 0 (.v x3) rec PT.nil s) fun x4 s =>
 opt2 (oLoad1 (.v x4) rec PT.nil s) fun x5 s =>
 opt2 (oBin (int2 addO) (.v (orU (fs.get t8))) (.v (.int .i64 1)) rec PT.nil s) fun x6 s =>
 opt2 (oLenL (.v (orU (fs.get t0))) rec PT.nil s) fun x7 s =>
 opt2 (oBin (int2 (cmpO ltI)) (.v x6) (.v x7) rec PT.nil s) fun x8 s =>
 condV x8
 (opt2 (oBin (int2 addO) (.v (orU (fs.get t8))) (.v (.int .i64 1)) rec PT.nil s) fun x9 s =>
 opt2 (oIdxAddrL 2 (.v (orU (fs.get t0))) (.v x9) rec PT.nil s) fun x10 s =>
 opt2 (oFieldAddr 0 (.v x10) rec PT.nil s) fun x11 s =>
 opt2 (oLoad1 (.v x11) rec PT.nil s) fun x12 s =>
 opt2 (oBin (int2 (cmpO ltI)) (.v x5) (.v (orU (fs.get t1))) rec PT.nil s) fun x13 s =>
 condV x13
 (opt2 (oBin (int2 (cmpO gtI)) (.v x12) (.v (orU (fs.get t2))) rec PT.nil s) fun x14 s =>
 condV x14
 (opt2 (oBin (int2 (cmpO gtI)) (.v (orU (fs.get t2))) (.v (orU (fs.get t1))) rec PT.nil s) fun x15 s =>
 condV x15
 (opt2 (oBin (int2 subO) (.v (orU (fs.get t2))) (.v (orU (fs.get t1))) rec PT.nil s) fun x16 s =>
 opt2 (oIdxAddrL 2 (.v (orU (fs.get t0))) (.v (orU (fs.get t8))) rec PT.nil s) fun x17 s =>
 opt2 (oFieldAddr 1 (.v x17) rec PT.nil s) fun x18 s =>
 opt2 (oLoad1 (.v x18) rec PT.nil s) fun x19 s =>
 opt2 (oBin (int2 mulO) (.v x16) (.v x19) rec PT.nil s) fun x20 s =>
 opt2 (oBin (int2 addO) (.v (orU (fs.get t7))) (.v x20) rec PT.nil s) fun x21 s =>
 opt2 (oBin (int2 addO) (.v (orU (fs.get t8))) (.v (.int .i64 1)) rec PT.nil s) fun x22 s =>
 some (.norm, (PT.put x22 t8 (PT.put x22 t20 (PT.put (orU (fs.get t8)) t19 (PT.put x21 t7 (PT.put x21 t58 (PT.put x20 t57 (PT.put x19 t56 (PT.put x18 t55 (PT.put x17 t54 (PT.put (orU (fs.get t8)) t53 (PT.put (orU (fs.get t0)) t52 (PT.put x16 t51 (PT.put (orU (fs.get t1)) t50 (PT.put (orU (fs.get t2)) t49 (PT.put (orU (fs.get t7)) t48 (PT.put x15 t47 (PT.put (orU (fs.get t1)) t46 (PT.put (orU (fs.get t2)) t45 (PT.put (orU (fs.get t2)) t10 (PT.put (orU (fs.get t2)) t44 (PT.put x14 t43 (PT.put (orU (fs.get t2)) t42 (PT.put x12 t41 (PT.put (orU (fs.get t1)) t9 (PT.put (orU (fs.get t1)) t40 (PT.put x13 t39 (PT.put (orU (fs.get t1)) t38 (PT.put x5 t37 (PT.put x12 t10 (PT.put x12 t36 (PT.put x11 t35 (PT.put x10 t34 (PT.put x9 t33 (PT.put (orU (fs.get t8)) t32 (PT.put (orU (fs.get t0)) t31 (PT.put x8 t30 (PT.put x7 t29 (PT.put (orU (fs.get t0)) t28 (PT.put x6 t27 (PT.put (orU (fs.get t8)) t26 (PT.put (.int .i64 109573) t10 (PT.put x5 t9 (PT.put x5 t25 (PT.put x4 t24 (PT.put x3 t23 (PT.put (orU (fs.get t8)) t22 (PT.put (orU (fs.get t0)) t21 (PT.put x2 t18 (PT.put x1 t17 (PT.put (orU (fs.get t0)) t16 (PT.put (orU (fs.get t8)) t15 fs))))))))))))))))))))))))))))))))))))))))))))))))))), s))
 (opt2 (oBin (int2 addO) (.v (orU (fs.get t8))) (.v (.int .i64 1)) rec PT.nil s) fun x23 s =>
 some (.norm, (PT.put x23 t8 (PT.put x23 t20 (PT.put (orU (fs.get t8)) t19 (PT.put x15 t47 (PT.put (orU (fs.get t1)) t46 (PT.put (orU (fs.get t2)) t45 (PT.put (orU (fs.get t2)) t10 (PT.put (orU (fs.get t2)) t44 (PT.put x14 t43 (PT.put (orU (fs.get t2)) t42 (PT.put x12 t41 (PT.put (orU (fs.get t1)) t9 (PT.put (orU (fs.get t1)) t40 (PT.put x13 t39 (PT.put (orU (fs.get t1)) t38 (PT.put x5 t37 (PT.put x12 t10 (PT.put x12 t36 (PT.put x11 t35 (PT.put x10 t34 (PT.put x9 t33 (PT.put (orU (fs.get t8)) t32 (PT.put (orU (fs.get t0)) t31 (PT.put x8 t30 (PT.put x7 t29 (PT.put (orU (fs.get t0)) t28 (PT.put x6 t27 (PT.put (orU (fs.get t8)) t26 (PT.put (.int .i64 109573) t10 (PT.put x5 t9 (PT.put x5 t25 (PT.put x4 t24 (PT.put x3 t23 (PT.put (orU (fs.get t8)) t22 (PT.put (orU (fs.get t0)) t21 (PT.put x2 t18 (PT.put x1 t17 (PT.put (orU (fs.get t0)) t16 (PT.put (orU (fs.get t8)) t15 fs))))))))))))))))))))))))))))))))))))))), s)))
 (opt2 (oBin (int2 (cmpO gtI)) (.v x12) (.v (orU (fs.get t1))) rec PT.nil s) fun x24 s =>
 condV x24
 (opt2 (oBin (int2 subO) (.v x12) (.v (orU (fs.get t1))) rec PT.nil s) fun x25 s =>
 opt2 (oIdxAddrL 2 (.v (orU (fs.get t0))) (.v (orU (fs.get t8))) rec PT.nil s) fun x26 s =>
 opt2 (oFieldAddr 1 (.v x26) rec PT.nil s) fun x27 s =>
 opt2 (oLoad1 (.v x27) rec PT.nil s) fun x28 s =>
 opt2 (oBin (int2 mulO) (.v x25) (.v x28) rec PT.nil s) fun x29 s =>
 opt2 (oBin (int2 addO) (.v (orU (fs.get t7))) (.v x29) rec PT.nil s) fun x30 s =>
 opt2 (oBin (int2 addO) (.v (orU (fs.get t8))) (.v (.int .i64 1)) rec PT.nil s) fun x31 s =>
 some (.norm, (PT.put x31 t8 (PT.put x31 t20 (PT.put (orU (fs.get t8)) t19 (PT.put x30 t7 (PT.put x30 t58 (PT.put x29 t57 (PT.put x28 t56 (PT.put x27 t55 (PT.put x26 t54 (PT.put (orU (fs.get t8)) t53 (PT.put (orU (fs.get t0)) t52 (PT.put x25 t51 (PT.put (orU (fs.get t1)) t50 (PT.put x12 t49 (PT.put (orU (fs.get t7)) t48 (PT.put x24 t47 (PT.put (orU (fs.get t1)) t46 (PT.put x12 t45 (PT.put x14 t43 (PT.put (orU (fs.get t2)) t42 (PT.put x12 t41 (PT.put (orU (fs.get t1)) t9 (PT.put (orU (fs.get t1)) t40 (PT.put x13 t39 (PT.put (orU (fs.get t1)) t38 (PT.put x5 t37 (PT.put x12 t10 (PT.put x12 t36 (PT.put x11 t35 (PT.put x10 t34 (PT.put x9 t33 (PT.put (orU (fs.get t8)) t32 (PT.put (orU (fs.get t0)) t31 (PT.put x8 t30 (PT.put x7 t29 (PT.put (orU (fs.get t0)) t28 (PT.put x6 t27 (PT.put (orU (fs.get t8)) t26 (PT.put (.int .i64 109573) t10 (PT.put x5 t9 (PT.put x5 t25 (PT.put x4 t24 (PT.put x3 t23 (PT.put (orU (fs.get t8)) t22 (PT.put (orU (fs.get t0)) t21 (PT.put x2 t18 (PT.put x1 t17 (PT.put (orU (fs.get t0)) t16 (PT.put (orU (fs.get t8)) t15 fs))))))))))))))))))))))))))))))))))))))))))))))))), s))
 (opt2 (oBin (int2 addO) (.v (orU (fs.get t8))) (.v (.int .i64 1)) rec PT.nil s) fun x32 s =>
 some (.norm, (PT.put x32 t8 (PT.put x32 t20 (PT.put (orU (fs.get t8)) t19 (PT.put x24 t47 (PT.put (orU (fs.get t1)) t46 (PT.put x12 t45 (PT.put x14 t43 (PT.put (orU (fs.get t2)) t42 (PT.put x12 t41 (PT.put (orU (fs.get t1)) t9 (PT.put (orU (fs.get t1)) t40 (PT.put x13 t39 (PT.put (orU (fs.get t1)) t38 (PT.put x5 t37 (PT.put x12 t10 (PT.put x12 t36 (PT.put x11 t35 (PT.put x10 t34 (PT.put x9 t33 (PT.put (orU (fs.get t8)) t32 (PT.put (orU (fs.get t0)) t31 (PT.put x8 t30 (PT.put x7 t29 (PT.put (orU (fs.get t0)) t28 (PT.put x6 t27 (PT.put (orU (fs.get t8)) t26 (PT.put (.int .i64 109573) t10 (PT.put x5 t9 (PT.put x5 t25 (PT.put x4 t24 (PT.put x3 t23 (PT.put (orU (fs.get t8)) t22 (PT.put (orU (fs.get t0)) t21 (PT.put x2 t18 (PT.put x1 t17 (PT.put (orU (fs.get t0)) t16 (PT.put (orU (fs.get t8)) t15 fs))))))))))))))))))))))))))))))))))))), s))))
 (opt2 (oBin (int2 (cmpO gtI)) (.v x12) (.v (orU (fs.get t2))) rec PT.nil s) fun x33 s =>
 condV x33
 (opt2 (oBin (int2 (cmpO gtI)) (.v (orU (fs.get t2))) (.v x5) rec PT.nil s) fun x34 s =>
 condV x34
 (opt2 (oBin (int2 subO) (.v (orU (fs.get t2))) (.v x5) rec PT.nil s) fun x35 s =>
 opt2 (oIdxAddrL 2 (.v (orU (fs.get t0))) (.v (orU (fs.get t8))) rec PT.nil s) fun x36 s =>
 opt2 (oFieldAddr 1 (.v x36) rec PT.nil s) fun x37 s =>
 opt2 (oLoad1 (.v x37) rec PT.nil s) fun x38 s =>
 opt2 (oBin (int2 mulO) (.v x35) (.v x38) rec PT.nil s) fun x39 s =>
 opt2 (oBin (int2 addO) (.v (orU (fs.get t7))) (.v x39) rec PT.nil s) fun x40 s =>
 opt2 (oBin (int2 addO) (.v (orU (fs.get t8))) (.v (.int .i64 1)) rec PT.nil s) fun x41 s =>
 some (.norm, (PT.put x41 t8 (PT.put x41 t20 (PT.put (orU (fs.get t8)) t19 (PT.put x40 t7 (PT.put x40 t58 (PT.put x39 t57 (PT.put x38 t56 (PT.put x37 t55 (PT.put x36 t54 (PT.put (orU (fs.get t8)) t53 (PT.put (orU (fs.get t0)) t52 (PT.put x35 t51 (PT.put x5 t50 (PT.put (orU (fs.get t2)) t49 (PT.put (orU (fs.get t7)) t48 (PT.put x34 t47 (PT.put x5 t46 (PT.put (orU (fs.get t2)) t45 (PT.put (orU (fs.get t2)) t10 (PT.put (orU (fs.get t2)) t44 (PT.put x33 t43 (PT.put (orU (fs.get t2)) t42 (PT.put x12 t41 (PT.put x13 t39 (PT.put (orU (fs.get t1)) t38 (PT.put x5 t37 (PT.put x12 t10 (PT.put x12 t36 (PT.put x11 t35 (PT.put x10 t34 (PT.put x9 t33 (PT.put (orU (fs.get t8)) t32 (PT.put (orU (fs.get t0)) t31 (PT.put x8 t30 (PT.put x7 t29 (PT.put (orU (fs.get t0)) t28 (PT.put x6 t27 (PT.put (orU (fs.get t8)) t26 (PT.put (.int .i64 109573) t10 (PT.put x5 t9 (PT.put x5 t25 (PT.put x4 t24 (PT.put x3 t23 (PT.put (orU (fs.get t8)) t22 (PT.put (orU (fs.get t0)) t21 (PT.put x2 t18 (PT.put x1 t17 (PT.put (orU (fs.get t0)) t16 (PT.put (orU (fs.get t8)) t15 fs))))))))))))))))))))))))))))))))))))))))))))))))), s))
 (opt2 (oBin (int2 addO) (.v (orU (fs.get t8))) (.v (.int .i64 1)) rec PT.nil s) fun x42 s =>
 some (.norm, (PT.put x42 t8 (PT.put x42 t20 (PT.put (orU (fs.get t8)) t19 (PT.put x34 t47 (PT.put x5 t46 (PT.put (orU (fs.get t2)) t45 (PT.put (orU (fs.get t2)) t10 (PT.put (orU (fs.get t2)) t44 (PT.put x33 t43 (PT.put (orU (fs.get t2)) t42 (PT.put x12 t41 (PT.put x13 t39 (PT.put (orU (fs.get t1)) t38 (PT.put x5 t37 (PT.put x12 t10 (PT.put x12 t36 (PT.put x11 t35 (PT.put x10 t34 (PT.put x9 t33 (PT.put (orU (fs.get t8)) t32 (PT.put (orU (fs.get t0)) t31 (PT.put x8 t30 (PT.put x7 t29 (PT.put (orU (fs.get t0)) t28 (PT.put x6 t27 (PT.put (orU (fs.get t8)) t26 (PT.put (.int .i64 109573) t10 (PT.put x5 t9 (PT.put x5 t25 (PT.put x4 t24 (PT.put x3 t23 (PT.put (orU (fs.get t8)) t22 (PT.put (orU (fs.get t0)) t21 (PT.put x2 t18 (PT.put x1 t17 (PT.put (orU (fs.get t0)) t16 (PT.put (orU (fs.get t8)) t15 fs))))))))))))))))))))))))))))))))))))), s)))
 (opt2 (oBin (int2 (cmpO gtI)) (.v x12) (.v x5) rec PT.nil s) fun x43 s =>
 condV x43
 (opt2 (oBin (int2 subO) (.v x12) (.v x5) rec PT.nil s) fun x44 s =>
 opt2 (oIdxAddrL 2 (.v (orU (fs.get t0))) (.v (orU (fs.get t8))) rec PT.nil s) fun x45 s =>
 opt2 (oFieldAddr 1 (.v x45) rec PT.nil s) fun x46 s =>
 opt2 (oLoad1 (.v x46) rec PT.nil s) fun x47 s =>
 opt2 (oBin (int2 mulO) (.v x44) (.v x47) rec PT.nil s) fun x48 s =>
 opt2 (oBin (int2 addO) (.v (orU (fs.get t7))) (.v x48) rec PT.nil s) fun x49 s =>
 opt2 (oBin (int2 addO) (.v (orU (fs.get t8))) (.v (.int .i64 1)) rec PT.nil s) fun x50 s =>
 some (.norm, (PT.put x50 t8 (PT.put x50 t20 (PT.put (orU (fs.get t8)) t19 (PT.put x49 t7 (PT.put x49 t58 (PT.put x48 t57 (PT.put x47 t56 (PT.put x46 t55 (PT.put x45 t54 (PT.put (orU (fs.get t8)) t53 (PT.put (orU (fs.get t0)) t52 (PT.put x44 t51 (PT.put x5 t50 (PT.put x12 t49 (PT.put (orU (fs.get t7)) t48 (PT.put x43 t47 (PT.put x5 t46 (PT.put x12 t45 (PT.put x33 t43 (PT.put (orU (fs.get t2)) t42 (PT.put x12 t41 (PT.put x13 t39 (PT.put (orU (fs.get t1)) t38 (PT.put x5 t37 (PT.put x12 t10 (PT.put x12 t36 (PT.put x11 t35 (PT.put x10 t34 (PT.put x9 t33 (PT.put (orU (fs.get t8)) t32 (PT.put (orU (fs.get t0)) t31 (PT.put x8 t30 (PT.put x7 t29 (PT.put (orU (fs.get t0)) t28 (PT.put x6 t27 (PT.put (orU (fs.get t8)) t26 (PT.put (.int .i64 109573) t10 (PT.put x5 t9 (PT.put x5 t25 (PT.put x4 t24 (PT.put x3 t23 (PT.put (orU (fs.get t8)) t22 (PT.put (orU (fs.get t0)) t21 (PT.put x2 t18 (PT.put x1 t17 (PT.put (orU (fs.get t0)) t16 (PT.put (orU (fs.get t8)) t15 fs))))))))))))))))))))))))))))))))))))))))))))))), s))
 (opt2 (oBin (int2 addO) (.v (orU (fs.get t8))) (.v (.int .i64 1)) rec PT.nil s) fun x51 s =>
 some (.norm, (PT.put x51 t8 (PT.put x51 t20 (PT.put (orU (fs.get t8)) t19 (PT.put x43 t47 (PT.put x5 t46 (PT.put x12 t45 (PT.put x33 t43 (PT.put (orU (fs.get t2)) t42 (PT.put x12 t41 (PT.put x13 t39 (PT.put (orU (fs.get t1)) t38 (PT.put x5 t37 (PT.put x12 t10 (PT.put x12 t36 (PT.put x11 t35 (PT.put x10 t34 (PT.put x9 t33 (PT.put (orU (fs.get t8)) t32 (PT.put (orU (fs.get t0)) t31 (PT.put x8 t30 (PT.put x7 t29 (PT.put (orU (fs.get t0)) t28 (PT.put x6 t27 (PT.put (orU (fs.get t8)) t26 (PT.put (.int .i64 109573) t10 (PT.put x5 t9 (PT.put x5 t25 (PT.put x4 t24 (PT.put x3 t23 (PT.put (orU (fs.get t8)) t22 (PT.put (orU (fs.get t0)) t21 (PT.put x2 t18 (PT.put x1 t17 (PT.put (orU (fs.get t0)) t16 (PT.put (orU (fs.get t8)) t15 fs))))))))))))))))))))))))))))))))))), s)))))
 (opt2 (oBin (int2 (cmpO ltI)) (.v x5) (.v (orU (fs.get t1))) rec PT.nil s) fun x52 s =>
 condV x52
 (opt2 (oBin (int2 (cmpO gtI)) (.v (.int .i64 109573)) (.v (orU (fs.get t2))) rec PT.nil s) fun x53 s =>
 condV x53
 (opt2 (oBin (int2 (cmpO gtI)) (.v (orU (fs.get t2))) (.v (orU (fs.get t1))) rec PT.nil s) fun x54 s =>
 condV x54
 (opt2 (oBin (int2 subO) (.v (orU (fs.get t2))) (.v (orU (fs.get t1))) rec PT.nil s) fun x55 s =>
 opt2 (oIdxAddrL 2 (.v (orU (fs.get t0))) (.v (orU (fs.get t8))) rec PT.nil s) fun x56 s =>
 opt2 (oFieldAddr 1 (.v x56) rec PT.nil s) fun x57 s =>
 opt2 (oLoad1 (.v x57) rec PT.nil s) fun x58 s =>
 opt2 (oBin (int2 mulO) (.v x55) (.v x58) rec PT.nil s) fun x59 s =>
 opt2 (oBin (int2 addO) (.v (orU (fs.get t7))) (.v x59) rec PT.nil s) fun x60 s =>
 opt2 (oBin (int2 addO) (.v (orU (fs.get t8))) (.v (.int .i64 1)) rec PT.nil s) fun x61 s =>
 some (.norm, (PT.put x61 t8 (PT.put x61 t20 (PT.put (orU (fs.get t8)) t19 (PT.put x60 t7 (PT.put x60 t58 (PT.put x59 t57 (PT.put x58 t56 (PT.put x57 t55 (PT.put x56 t54 (PT.put (orU (fs.get t8)) t53 (PT.put (orU (fs.get t0)) t52 (PT.put x55 t51 (PT.put (orU (fs.get t1)) t50 (PT.put (orU (fs.get t2)) t49 (PT.put (orU (fs.get t7)) t48 (PT.put x54 t47 (PT.put (orU (fs.get t1)) t46 (PT.put (orU (fs.get t2)) t45 (PT.put (orU (fs.get t2)) t10 (PT.put (orU (fs.get t2)) t44 (PT.put x53 t43 (PT.put (orU (fs.get t2)) t42 (PT.put (.int .i64 109573) t41 (PT.put (orU (fs.get t1)) t9 (PT.put (orU (fs.get t1)) t40 (PT.put x52 t39 (PT.put (orU (fs.get t1)) t38 (PT.put x5 t37 (PT.put x8 t30 (PT.put x7 t29 (PT.put (orU (fs.get t0)) t28 (PT.put x6 t27 (PT.put (orU (fs.get t8)) t26 (PT.put (.int .i64 109573) t10 (PT.put x5 t9 (PT.put x5 t25 (PT.put x4 t24 (PT.put x3 t23 (PT.put (orU (fs.get t8)) t22 (PT.put (orU (fs.get t0)) t21 (PT.put x2 t18 (PT.put x1 t17 (PT.put (orU (fs.get t0)) t16 (PT.put (orU (fs.get t8)) t15 fs)))))))))))))))))))))))))))))))))))))))))))), s))
 (opt2 (oBin (int2 addO) (.v (orU (fs.get t8))) (.v (.int .i64 1)) rec PT.nil s) fun x62 s =>
 some (.norm, (PT.put x62 t8 (PT.put x62 t20 (PT.put (orU (fs.get t8)) t19 (PT.put x54 t47 (PT.put (orU (fs.get t1)) t46 (PT.put (orU (fs.get t2)) t45 (PT.put (orU (fs.get t2)) t10 (PT.put (orU (fs.get t2)) t44 (PT.put x53 t43 (PT.put (orU (fs.get t2)) t42 (PT.put (.int .i64 109573) t41 (PT.put (orU (fs.get t1)) t9 (PT.put (orU (fs.get t1)) t40 (PT.put x52 t39 (PT.put (orU (fs.get t1)) t38 (PT.put x5 t37 (PT.put x8 t30 (PT.put x7 t29 (PT.put (orU (fs.get t0)) t28 (PT.put x6 t27 (PT.put (orU (fs.get t8)) t26 (PT.put (.int .i64 109573) t10 (PT.put x5 t9 (PT.put x5 t25 (PT.put x4 t24 (PT.put x3 t23 (PT.put (orU (fs.get t8)) t22 (PT.put (orU (fs.get t0)) t21 (PT.put x2 t18 (PT.put x1 t17 (PT.put (orU (fs.get t0)) t16 (PT.put (orU (fs.get t8)) t15 fs)))))))))))))))))))))))))))))))), s)))
 (opt2 (oBin (int2 (cmpO gtI)) (.v (.int .i64 109573)) (.v (orU (fs.get t1))) rec PT.nil s) fun x63 s =>
 condV x63
 (opt2 (oBin (int2 subO) (.v (.int .i64 109573)) (.v (orU (fs.get t1))) rec PT.nil s) fun x64 s =>
 opt2 (oIdxAddrL 2 (.v (orU (fs.get t0))) (.v (orU (fs.get t8))) rec PT.nil s) fun x65 s =>
 opt2 (oFieldAddr 1 (.v x65) rec PT.nil s) fun x66 s =>
 opt2 (oLoad1 (.v x66) rec PT.nil s) fun x67 s =>
 opt2 (oBin (int2 mulO) (.v x64) (.v x67) rec PT.nil s) fun x68 s =>
 opt2 (oBin (int2 addO) (.v (orU (fs.get t7))) (.v x68) rec PT.nil s) fun x69 s =>
 opt2 (oBin (int2 addO) (.v (orU (fs.get t8))) (.v (.int .i64 1)) rec PT.nil s) fun x70 s =>
 some (.norm, (PT.put x70 t8 (PT.put x70 t20 (PT.put (orU (fs.get t8)) t19 (PT.put x69 t7 (PT.put x69 t58 (PT.put x68 t57 (PT.put x67 t56 (PT.put x66 t55 (PT.put x65 t54 (PT.put (orU (fs.get t8)) t53 (PT.put (orU (fs.get t0)) t52 (PT.put x64 t51 (PT.put (orU (fs.get t1)) t50 (PT.put (.int .i64 109573) t49 (PT.put (orU (fs.get t7)) t48 (PT.put x63 t47 (PT.put (orU (fs.get t1)) t46 (PT.put (.int .i64 109573) t45 (PT.put x53 t43 (PT.put (orU (fs.get t2)) t42 (PT.put (.int .i64 109573) t41 (PT.put (orU (fs.get t1)) t9 (PT.put (orU (fs.get t1)) t40 (PT.put x52 t39 (PT.put (orU (fs.get t1)) t38 (PT.put x5 t37 (PT.put x8 t30 (PT.put x7 t29 (PT.put (orU (fs.get t0)) t28 (PT.put x6 t27 (PT.put (orU (fs.get t8)) t26 (PT.put (.int .i64 109573) t10 (PT.put x5 t9 (PT.put x5 t25 (PT.put x4 t24 (PT.put x3 t23 (PT.put (orU (fs.get t8)) t22 (PT.put (orU (fs.get t0)) t21 (PT.put x2 t18 (PT.put x1 t17 (PT.put (orU (fs.get t0)) t16 (PT.put (orU (fs.get t8)) t15 fs)))))))))))))))))))))))))))))))))))))))))), s))
 (opt2 (oBin (int2 addO) (.v (orU (fs.get t8))) (.v (.int .i64 1)) rec PT.nil s) fun x71 s =>
 some (.norm, (PT.put x71 t8 (PT.put x71 t20 (PT.put (orU (fs.get t8)) t19 (PT.put x63 t47 (PT.put (orU (fs.get t1)) t46 (PT.put (.int .i64 109573) t45 (PT.put x53 t43 (PT.put (orU (fs.get t2)) t42 (PT.put (.int .i64 109573) t41 (PT.put (orU (fs.get t1)) t9 (PT.put (orU (fs.get t1)) t40 (PT.put x52 t39 (PT.put (orU (fs.get t1)) t38 (PT.put x5 t37 (PT.put x8 t30 (PT.put x7 t29 (PT.put (orU (fs.get t0)) t28 (PT.put x6 t27 (PT.put (orU (fs.get t8)) t26 (PT.put (.int .i64 109573) t10 (PT.put x5 t9 (PT.put x5 t25 (PT.put x4 t24 (PT.put x3 t23 (PT.put (orU (fs.get t8)) t22 (PT.put (orU (fs.get t0)) t21 (PT.put x2 t18 (PT.put x1 t17 (PT.put (orU (fs.get t0)) t16 (PT.put (orU (fs.get t8)) t15 fs)))))))))))))))))))))))))))))), s))))
 (opt2 (oBin (int2 (cmpO gtI)) (.v (.int .i64 109573)) (.v (orU (fs.get t2))) rec PT.nil s) fun x72 s =>
 condV x72
 (opt2 (oBin (int2 (cmpO gtI)) (.v (orU (fs.get t2))) (.v x5) rec PT.nil s) fun x73 s =>
 condV x73
 (opt2 (oBin (int2 subO) (.v (orU (fs.get t2))) (.v x5) rec PT.nil s) fun x74 s =>
 opt2 (oIdxAddrL 2 (.v (orU (fs.get t0))) (.v (orU (fs.get t8))) rec PT.nil s) fun x75 s =>
 opt2 (oFieldAddr 1 (.v x75) rec PT.nil s) fun x76 s =>
 opt2 (oLoad1 (.v x76) rec PT.nil s) fun x77 s =>
 opt2 (oBin (int2 mulO) (.v x74) (.v x77) rec PT.nil s) fun x78 s =>
 opt2 (oBin (int2 addO) (.v (orU (fs.get t7))) (.v x78) rec PT.nil s) fun x79 s =>
 opt2 (oBin (int2 addO) (.v (orU (fs.get t8))) (.v (.int .i64 1)) rec PT.nil s) fun x80 s =>
 some (.norm, (PT.put x80 t8 (PT.put x80 t20 (PT.put (orU (fs.get t8)) t19 (PT.put x79 t7 (PT.put x79 t58 (PT.put x78 t57 (PT.put x77 t56 (PT.put x76 t55 (PT.put x75 t54 (PT.put (orU (fs.get t8)) t53 (PT.put (orU (fs.get t0)) t52 (PT.put x74 t51 (PT.put x5 t50 (PT.put (orU (fs.get t2)) t49 (PT.put (orU (fs.get t7)) t48 (PT.put x73 t47 (PT.put x5 t46 (PT.put (orU (fs.get t2)) t45 (PT.put (orU (fs.get t2)) t10 (PT.put (orU (fs.get t2)) t44 (PT.put x72 t43 (PT.put (orU (fs.get t2)) t42 (PT.put (.int .i64 109573) t41 (PT.put x52 t39 (PT.put (orU (fs.get t1)) t38 (PT.put x5 t37 (PT.put x8 t30 (PT.put x7 t29 (PT.put (orU (fs.get t0)) t28 (PT.put x6 t27 (PT.put (orU (fs.get t8)) t26 (PT.put (.int .i64 109573) t10 (PT.put x5 t9 (PT.put x5 t25 (PT.put x4 t24 (PT.put x3 t23 (PT.put (orU (fs.get t8)) t22 (PT.put (orU (fs.get t0)) t21 (PT.put x2 t18 (PT.put x1 t17 (PT.put (orU (fs.get t0)) t16 (PT.put (orU (fs.get t8)) t15 fs)))))))))))))))))))))))))))))))))))))))))), s))
 (opt2 (oBin (int2 addO) (.v (orU (fs.get t8))) (.v (.int .i64 1)) rec PT.nil s) fun x81 s =>
 some (.norm, (PT.put x81 t8 (PT.put x81 t20 (PT.put (orU (fs.get t8)) t19 (PT.put x73 t47 (PT.put x5 t46 (PT.put (orU (fs.get t2)) t45 (PT.put (orU (fs.get t2)) t10 (PT.put (orU (fs.get t2)) t44 (PT.put x72 t43 (PT.put (orU (fs.get t2)) t42 (PT.put (.int .i64 109573) t41 (PT.put x52 t39 (PT.put (orU (fs.get t1)) t38 (PT.put x5 t37 (PT.put x8 t30 (PT.put x7 t29 (PT.put (orU (fs.get t0)) t28 (PT.put x6 t27 (PT.put (orU (fs.get t8)) t26 (PT.put (.int .i64 109573) t10 (PT.put x5 t9 (PT.put x5 t25 (PT.put x4 t24 (PT.put x3 t23 (PT.put (orU (fs.get t8)) t22 (PT.put (orU (fs.get t0)) t21 (PT.put x2 t18 (PT.put x1 t17 (PT.put (orU (fs.get t0)) t16 (PT.put (orU (fs.get t8)) t15 fs)))))))))))))))))))))))))))))), s)))
 (opt2 (oBin (int2 (cmpO gtI)) (.v (.int .i64 109573)) (.v x5) rec PT.nil s) fun x82 s =>
 condV x82
 (opt2 (oBin (int2 subO) (.v (.int .i64 109573)) (.v x5) rec PT.nil s) fun x83 s =>
 opt2 (oIdxAddrL 2 (.v (orU (fs.get t0))) (.v (orU (fs.get t8))) rec PT.nil s) fun x84 s =>
 opt2 (oFieldAddr 1 (.v x84) rec PT.nil s) fun x85 s =>
 opt2 (oLoad1 (.v x85) rec PT.nil s) fun x86 s =>
 opt2 (oBin (int2 mulO) (.v x83) (.v x86) rec PT.nil s) fun x87 s =>
 opt2 (oBin (int2 addO) (.v (orU (fs.get t7))) (.v x87) rec PT.nil s) fun x88 s =>
 opt2 (oBin (int2 addO) (.v (orU (fs.get t8))) (.v (.int .i64 1)) rec PT.nil s) fun x89 s =>
 some (.norm, (PT.put x89 t8 (PT.put x89 t20 (PT.put (orU (fs.get t8)) t19 (PT.put x88 t7 (PT.put x88 t58 (PT.put x87 t57 (PT.put x86 t56 (PT.put x85 t55 (PT.put x84 t54 (PT.put (orU (fs.get t8)) t53 (PT.put (orU (fs.get t0)) t52 (PT.put x83 t51 (PT.put x5 t50 (PT.put (.int .i64 109573) t49 (PT.put (orU (fs.get t7)) t48 (PT.put x82 t47 (PT.put x5 t46 (PT.put (.int .i64 109573) t45 (PT.put x72 t43 (PT.put (orU (fs.get t2)) t42 (PT.put (.int .i64 109573) t41 (PT.put x52 t39 (PT.put (orU (fs.get t1)) t38 (PT.put x5 t37 (PT.put x8 t30 (PT.put x7 t29 (PT.put (orU (fs.get t0)) t28 (PT.put x6 t27 (PT.put (orU (fs.get t8)) t26 (PT.put (.int .i64 109573) t10 (PT.put x5 t9 (PT.put x5 t25 (PT.put x4 t24 (PT.put x3 t23 (PT.put (orU (fs.get t8)) t22 (PT.put (orU (fs.get t0)) t21 (PT.put x2 t18 (PT.put x1 t17 (PT.put (orU (fs.get t0)) t16 (PT.put (orU (fs.get t8)) t15 fs)))))))))))))))))))))))))))))))))))))))), s))
 (opt2 (oBin (int2 addO) (.v (orU (fs.get t8))) (.v (.int .i64 1)) rec PT.nil s) fun x90 s =>
 some (.norm, (PT.put x90 t8 (PT.put x90 t20 (PT.put (orU (fs.get t8)) t19 (PT.put x82 t47 (PT.put x5 t46 (PT.put (.int .i64 109573) t45 (PT.put x72 t43 (PT.put (orU (fs.get t2)) t42 (PT.put (.int .i64 109573) t41 (PT.put x52 t39 (PT.put (orU (fs.get t1)) t38 (PT.put x5 t37 (PT.put x8 t30 (PT.put x7 t29 (PT.put (orU (fs.get t0)) t28 (PT.put x6 t27 (PT.put (orU (fs.get t8)) t26 (PT.put (.int .i64 109573) t10 (PT.put x5 t9 (PT.put x5 t25 (PT.put x4 t24 (PT.put x3 t23 (PT.put (orU (fs.get t8)) t22 (PT.put (orU (fs.get t0)) t21 (PT.put x2 t18 (PT.put x1 t17 (PT.put (orU (fs.get t0)) t16 (PT.put (orU (fs.get t8)) t15 fs)))))))))))))))))))))))))))), s))))))
 (some ((.exit 0), (PT.put x2 t18 (PT.put x1 t17 (PT.put (orU (fs.get t0)) t16 (PT.put (orU (fs.get t8)) t15 fs)))), s))
theorem d20_l0 (rec : Rec) (N : Nat) (fs : Frm) (s : St) : c20_l0 rec N fs s = D20_l0 rec N fs s := by
  simp only [c20_l0, call_f, lenN, x_reg, reg_n, reg_c, reg1_u, reg1_g, op2_cons, op2_bif, x_seq, x_ops, x_skip, x_ret, x_exit, x_cond, x_block, x_loop, ops_c, ops_n, op1_u, op1_gj, op2_op2, op2_op, op2_s, op2_cond, thenX_n, thenX_e, thenX_r, blkX_n, blkX_r, blkX_e, finX_r, finX_n, res_n, res_t, mov_f, op_s, Nat.beq_refl, cond_true]
  first | done | kernel_rfl
def D20_r0 (rec : Rec) (N : Nat) (fs : Frm) (s : St) : OutX := some (.ret, (PT.put (orU (fs.get t7)) t6 (PT.put (orU (fs.get t7)) t59 fs)), s)
theorem d20_r0 (rec : Rec) (N : Nat) (fs : Frm) (s : St) : c20_r0 rec N fs s = D20_r0 rec N fs s := by
  simp only [c20_r0, call_f, lenN, x_reg, reg_n, reg_c, reg1_u, reg1_g, op2_cons, op2_bif, x_seq, x_ops, x_skip, x_ret, x_exit, x_cond, x_block, x_loop, ops_c, ops_n, op1_u, op1_gj, op2_op2, op2_op, op2_s, op2_cond, thenX_n, thenX_e, thenX_r, blkX_n, blkX_r, blkX_e, finX_r, finX_n, res_n, res_t, mov_f, op_s, Nat.beq_refl, cond_true]
  first | done | kernel_rfl
def D20 (rec : Rec) (N : Nat) (a0 : Value) (a1 : Value) (a2 : Value) (s : St) : Out := opt2 (oBin (int2 (cmpO ltI)) (.v a1) (.v (.int .i64 0)) rec PT.nil s) fun x1 s =>
 condV x1
 (opt2 (oBin (int2 (cmpO gtI)) (.v a2) (.v (.int .i64 109573)) rec PT.nil s) fun x2 s =>
 condV x2
 (opt2 (loopF (c20_l0 rec N) N (PT.put (.int .i64 0) t8 (PT.put (.int .i64 0) t7 (PT.put (.int .i64 109573) t2 (PT.put x2 t14 (PT.put a2 t13 (PT.put (.int .i64 0) t1 (PT.put x1 t12 (PT.put a1 t11 (PT.put (.int .i64 0) t6 (PT.put a2 t2 (PT.put a1 t1 (PT.put a0 t0 PT.nil)))))))))))) s) fun e r => opt2 (blkX 0 e r) fun e r => opt2 (thenX (c20_r0 rec N) e r) fun e r => finX [.tmp t6] e r)
 (opt2 (loopF (c20_l0 rec N) N (PT.put (.int .i64 0) t8 (PT.put (.int .i64 0) t7 (PT.put x2 t14 (PT.put a2 t13 (PT.put (.int .i64 0) t1 (PT.put x1 t12 (PT.put a1 t11 (PT.put (.int .i64 0) t6 (PT.put a2 t2 (PT.put a1 t1 (PT.put a0 t0 PT.nil))))))))))) s) fun e r => opt2 (blkX 0 e r) fun e r => opt2 (thenX (c20_r0 rec N) e r) fun e r => finX [.tmp t6] e r))
 (opt2 (oBin (int2 (cmpO gtI)) (.v a2) (.v (.int .i64 109573)) rec PT.nil s) fun x3 s =>
 condV x3
 (opt2 (loopF (c20_l0 rec N) N (PT.put (.int .i64 0) t8 (PT.put (.int .i64 0) t7 (PT.put (.int .i64 109573) t2 (PT.put x3 t14 (PT.put a2 t13 (PT.put x1 t12 (PT.put a1 t11 (PT.put (.int .i64 0) t6 (PT.put a2 t2 (PT.put a1 t1 (PT.put a0 t0 PT.nil))))))))))) s) fun e r => opt2 (blkX 0 e r) fun e r => opt2 (thenX (c20_r0 rec N) e r) fun e r => finX [.tmp t6] e r)
 (opt2 (loopF (c20_l0 rec N) N (PT.put (.int .i64 0) t8 (PT.put (.int .i64 0) t7 (PT.put x3 t14 (PT.put a2 t13 (PT.put x1 t12 (PT.put a1 t11 (PT.put (.int .i64 0) t6 (PT.put a2 t2 (PT.put a1 t1 (PT.put a0 t0 PT.nil)))))))))) s) fun e r => opt2 (blkX 0 e r) fun e r => opt2 (thenX (c20_r0 rec N) e r) fun e r => finX [.tmp t6] e r))
theorem d20 (rec : Rec) (N : Nat) (a0 : Value) (a1 : Value) (a2 : Value) (s : St) : callF rec N c20 [a0, a1, a2] s = D20 rec N a0 a1 a2 s := by
  rw [call_f _ _ _ _ _ rfl]
  simp only [c20, x_reg, reg_n, reg_c, reg1_u, reg1_g, op2_cons, op2_bif, x_seq, x_ops, x_skip, x_ret, x_exit, x_cond, x_block, x_loop, ops_c, ops_n, op1_u, op1_gj, op2_op2, op2_op, op2_s, op2_cond, thenX_n, thenX_e, thenX_r, blkX_n, blkX_r, blkX_e, finX_r, finX_n, res_n, res_t, mov_f, op_s, Nat.beq_refl, cond_true]
  first | done | kernel_rfl
def D21 (rec : Rec) (N : Nat) (a0 : Value) (s : St) : Out := opt2 (oNilCheck (.v a0) rec PT.nil s) fun x1 s =>
 opt2 (oFieldAddr 0 (.v x1) rec PT.nil s) fun x2 s =>
 opt2 (oLoad1 (.v x2) rec PT.nil s) fun x3 s =>
 opt2 (rec 46 [x3] s) fun x4 s =>
 opt2 (oBuild [(.slice none 0 0)] [(0, 1, (.v x4))] rec PT.nil s) fun x5 s =>
 opt2 (oBox (.v x5) rec PT.nil s) fun x6 s =>
 some (oneOf [x6], s)
theorem d21 (rec : Rec) (N : Nat) (a0 : Value) (s : St) : callF rec N c21 [a0] s = D21 rec N a0 s := by
  rw [call_f _ _ _ _ _ rfl]
  simp only [c21, x_reg, reg_n, reg_c, reg1_u, reg1_g, op2_cons, op2_bif, x_seq, x_ops, x_skip, x_ret, x_exit, x_cond, x_block, x_loop, ops_c, ops_n, op1_u, op1_gj, op2_op2, op2_op, op2_s, op2_cond, thenX_n, thenX_e, thenX_r, blkX_n, blkX_r, blkX_e, finX_r, finX_n, res_n, res_t, mov_f, op_s, Nat.beq_refl, cond_true]
  first | done | kernel_rfl
def D43 (rec : Rec) (N : Nat) (a0 : Value) (a1 : Value) (s : St) : Out := opt2 (oBox (.v a0) rec PT.nil s) fun x1 s =>
 opt2 (oBox (.v a1) rec PT.nil s) fun x2 s =>
 opt2 (oLoad1 (.v x1) rec PT.nil s) fun x3 s =>
 opt2 (oNilCheck (.v x3) rec PT.nil s) fun x4 s =>
 opt2 (oFieldAddr 0 (.v x4) rec PT.nil s) fun x5 s =>
 opt2 (oLoad1 (.v x5) rec PT.nil s) fun x6 s =>
 opt2 (oLenL (.v x6) rec PT.nil s) fun x7 s =>
 opt2 (oFunc (.func 59) [] [(.v x1), (.v x2)] rec PT.nil s) fun x8 s =>
 opt2 (rec 58 [x7, x8] s) fun x9 s =>
 some (oneOf [x9], s)
theorem d43 (rec : Rec) (N : Nat) (a0 : Value) (a1 : Value) (s : St) : callF rec N c43 [a0, a1] s = D43 rec N a0 a1 s := by
  rw [call_f _ _ _ _ _ rfl]
  simp only [c43, x_reg, reg_n, reg_c, reg1_u, reg1_g, op2_cons, op2_bif, x_seq, x_ops, x_skip, x_ret, x_exit, x_cond, x_block, x_loop, ops_c, ops_n, op1_u, op1_gj, op2_op2, op2_op, op2_s, op2_cond, thenX_n, thenX_e, thenX_r, blkX_n, blkX_r, blkX_e, finX_r, finX_n, res_n, res_t, mov_f, op_s, Nat.beq_refl, cond_true]
  first | done | kernel_rfl
def D44 (rec : Rec) (N : Nat) (a0 : Value) (a1 : Value) (a2 : Value) (s : St) : Out := opt2 (oSliceL 2 (.v a0) (some (.v a1)) none none rec PT.nil s) fun x1 s =>
 opt2 (oLenL (.v a2) rec PT.nil s) fun x2 s =>
 opt2 (oBin (int2 (cmpO eqI)) (.v x2) (.v (.int .i64 0)) rec PT.nil s) fun x3 s =>
 condV x3
 (some (oneOf [a0], s))
 (opt2 (oLenL (.v a0) rec PT.nil s) fun x4 s =>
 opt2 (oBin (int2 (cmpO eqI)) (.v a1) (.v x4) rec PT.nil s) fun x5 s =>
 condV x5
 (opt2 (oAppend 2 16 (.v a0) (.v a2) rec PT.nil s) fun x6 s =>
 some (oneOf [x6], s))
 (opt2 (oBin (int2 addO) (.v x4) (.v x2) rec PT.nil s) fun x7 s =>
 opt2 (oCap (.v a0) rec PT.nil s) fun x8 s =>
 opt2 (oBin (int2 (cmpO gtI)) (.v x7) (.v x8) rec PT.nil s) fun x9 s =>
 condV x9
 (opt2 (oSliceL 2 (.v a0) none (some (.v a1)) none rec PT.nil s) fun x10 s =>
 opt2 (oBin (int2 addO) (.v x4) (.v x2) rec PT.nil s) fun x11 s =>
 opt2 (oBin (int2 subO) (.v x11) (.v a1) rec PT.nil s) fun x12 s =>
 opt2 (oBad rec PT.nil s) fun x13 s =>
 opt2 (oSliceL 2 (.v x13) (some (.v a1)) none none rec PT.nil s) fun x14 s =>
 opt2 (oCopy 2 (.v x14) (.v a2) rec PT.nil s) fun x15 s =>
 opt2 (rU (oMov (.v x13) rec PT.nil ⟨s.heap, s.next, 0, 0⟩) PT.nil s none) fun x16 m16 =>
 (fun s => opt2 (rU (oMov (.v a1) rec PT.nil ⟨s.heap, s.next, 0, 0⟩) PT.nil s none) fun x17 m17 =>
 (fun s => opt2 (rU (oMov (.v x2) rec PT.nil ⟨s.heap, s.next, 0, 0⟩) PT.nil s none) fun x18 m18 =>
 (fun s => opt2 (rU (oBin (int2 addO) (.v x17) (.v x18) rec PT.nil ⟨s.heap, s.next, 0, 0⟩) PT.nil s none) fun x19 m19 =>
 (fun s => opt2 (rU (oSliceL 2 (.v x16) (some (.v x19)) none none rec PT.nil ⟨s.heap, s.next, 0, 0⟩) PT.nil s none) fun x20 m20 =>
 (fun s => opt2 (rU (oMov (.v a0) rec PT.nil ⟨s.heap, s.next, 0, 0⟩) PT.nil s none) fun x21 m21 =>
 (fun s => opt2 (rU (oMov (.v a1) rec PT.nil ⟨s.heap, s.next, 0, 0⟩) PT.nil s none) fun x22 m22 =>
 (fun s => opt2 (rU (oSliceL 2 (.v x21) (some (.v x22)) none none rec PT.nil ⟨s.heap, s.next, 0, 0⟩) PT.nil s none) fun x23 m23 =>
 (fun s => opt2 (rU (oCopy 2 (.v x20) (.v x23) rec PT.nil ⟨s.heap, s.next, 0, 0⟩) PT.nil s none) fun x24 m24 =>
 (fun s => bif apartAll [m16.1, m17.1, m18.1, m19.1, m20.1, m21.1, m22.1, m23.1, m24.1] [(0, 1), (0, 2), (1, 2), (0, 3), (0, 5), (1, 5), (2, 5), (3, 5), (4, 5), (0, 6), (1, 6), (2, 6), (3, 6), (4, 6), (5, 6), (0, 7), (1, 7), (2, 7), (3, 7), (4, 7)] then some (oneOf [x13], s) else none) m24.2) m23.2) m22.2) m21.2) m20.2) m19.2) m18.2) m17.2) m16.2)
 (opt2 (oBin (int2 addO) (.v x4) (.v x2) rec PT.nil s) fun x25 s =>
 opt2 (oSliceL 2 (.v a0) none (some (.v x25)) none rec PT.nil s) fun x26 s =>
 opt2 (oBin (int2 addO) (.v a1) (.v x2) rec PT.nil s) fun x27 s =>
 opt2 (oSliceL 2 (.v x26) (some (.v x27)) none none rec PT.nil s) fun x28 s =>
 opt2 (rec 60 [a2, x28] s) fun x29 s =>
 opt2 (oNot (.v x29) rec PT.nil s) fun x30 s =>
 condV x30
 (opt2 (rU (oMov (.v x26) rec PT.nil ⟨s.heap, s.next, 0, 0⟩) PT.nil s none) fun x31 m31 =>
 (fun s => opt2 (rU (oMov (.v a1) rec PT.nil ⟨s.heap, s.next, 0, 0⟩) PT.nil s none) fun x32 m32 =>
 (fun s => opt2 (rU (oMov (.v x2) rec PT.nil ⟨s.heap, s.next, 0, 0⟩) PT.nil s none) fun x33 m33 =>
 (fun s => opt2 (rU (oBin (int2 addO) (.v x32) (.v x33) rec PT.nil ⟨s.heap, s.next, 0, 0⟩) PT.nil s none) fun x34 m34 =>
 (fun s => opt2 (rU (oSliceL 2 (.v x31) (some (.v x34)) none none rec PT.nil ⟨s.heap, s.next, 0, 0⟩) PT.nil s none) fun x35 m35 =>
 (fun s => opt2 (rU (oMov (.v x26) rec PT.nil ⟨s.heap, s.next, 0, 0⟩) PT.nil s none) fun x36 m36 =>
 (fun s => opt2 (rU (oMov (.v a1) rec PT.nil ⟨s.heap, s.next, 0, 0⟩) PT.nil s none) fun x37 m37 =>
 (fun s => opt2 (rU (oSliceL 2 (.v x36) (some (.v x37)) none none rec PT.nil ⟨s.heap, s.next, 0, 0⟩) PT.nil s none) fun x38 m38 =>
 (fun s => opt2 (rU (oCopy 2 (.v x35) (.v x38) rec PT.nil ⟨s.heap, s.next, 0, 0⟩) PT.nil s none) fun x39 m39 =>
 (fun s => bif apartAll [m31.1, m32.1, m33.1, m34.1, m35.1, m36.1, m37.1, m38.1, m39.1] [(0, 1), (0, 2), (1, 2), (0, 3), (0, 5), (1, 5), (2, 5), (3, 5), (4, 5), (0, 6), (1, 6), (2, 6), (3, 6), (4, 6), (5, 6), (0, 7), (1, 7), (2, 7), (3, 7), (4, 7)] then opt2 (oSliceL 2 (.v x26) (some (.v a1)) none none rec PT.nil s) fun x40 s =>
 opt2 (oCopy 2 (.v x40) (.v a2) rec PT.nil s) fun x41 s =>
 some (oneOf [x26], s) else none) m39.2) m38.2) m37.2) m36.2) m35.2) m34.2) m33.2) m32.2) m31.2)
 (opt2 (oSliceL 2 (.v x26) (some (.v x4)) none none rec PT.nil s) fun x42 s =>
 opt2 (oCopy 2 (.v x42) (.v a2) rec PT.nil s) fun x43 s =>
 opt2 (oSliceL 2 (.v x26) (some (.v a1)) none none rec PT.nil s) fun x44 s =>
 opt2 (rec 61 [x44, x2] s) fun x45 s =>
 some (oneOf [x26], s)))))
theorem d44 (rec : Rec) (N : Nat) (a0 : Value) (a1 : Value) (a2 : Value) (s : St) : callF rec N c44 [a0, a1, a2] s = D44 rec N a0 a1 a2 s := by
  rw [call_f _ _ _ _ _ rfl]
  simp only [c44, x_reg, reg_n, reg_c, reg1_u, reg1_g, op2_cons, op2_bif, x_seq, x_ops, x_skip, x_ret, x_exit, x_cond, x_block, x_loop, ops_c, ops_n, op1_u, op1_gj, op2_op2, op2_op, op2_s, op2_cond, thenX_n, thenX_e, thenX_r, blkX_n, blkX_r, blkX_e, finX_r, finX_n, res_n, res_t, mov_f, op_s, Nat.beq_refl, cond_true]
  first | done | kernel_rfl
def D45 (rec : Rec) (N : Nat) (a0 : Value) (s : St) : Out := opt2 (oBin (int2 (cmpO geI)) (.v a0) (.v (.int .i64 0)) rec PT.nil s) fun x1 s =>
 opt (gval true x1) fun x2 => opt2 (orUndef x2 (some (a0, s)) s) fun x3 s =>
 opt (gval true x1) fun x4 => opt2 (orUndef x4 (oBin (int2 (cmpO leI)) (.v x3) (.v (.int .i64 109572)) rec PT.nil s) s) fun x5 s =>
 opt2 (oPick (.v x1) (.v x5) (.v (.bool false)) rec PT.nil s) fun x6 s =>
 some (oneOf [x6], s)
theorem d45 (rec : Rec) (N : Nat) (a0 : Value) (s : St) : callF rec N c45 [a0] s = D45 rec N a0 s := by
  rw [call_f _ _ _ _ _ rfl]
  simp only [c45, x_reg, reg_n, reg_c, reg1_u, reg1_g, op2_cons, op2_bif, x_seq, x_ops, x_skip, x_ret, x_exit, x_cond, x_block, x_loop, ops_c, ops_n, op1_u, op1_gj, op2_op2, op2_op, op2_s, op2_cond, thenX_n, thenX_e, thenX_r, blkX_n, blkX_r, blkX_e, finX_r, finX_n, res_n, res_t, mov_f, op_s, Nat.beq_refl, cond_true]
  first | done | kernel_rfl
def D46 (rec : Rec) (N : Nat) (a0 : Value) (s : St) : Out := opt2 (oEqv eqL false (.v a0) (.v (.slice none 0 0)) rec PT.nil s) fun x1 s =>
 condV x1
 (some (oneOf [(.slice none 0 0)], s))
 (opt2 (oBuildSlice 0 [] [] rec PT.nil s) fun x2 s =>
 opt2 (oAppend 2 16 (.v x2) (.v a0) rec PT.nil s) fun x3 s =>
 some (oneOf [x3], s))
theorem d46 (rec : Rec) (N : Nat) (a0 : Value) (s : St) : callF rec N c46 [a0] s = D46 rec N a0 s := by
  rw [call_f _ _ _ _ _ rfl]
  simp only [c46, x_reg, reg_n, reg_c, reg1_u, reg1_g, op2_cons, op2_bif, x_seq, x_ops, x_skip, x_ret, x_exit, x_cond, x_block, x_loop, ops_c, ops_n, op1_u, op1_gj, op2_op2, op2_op, op2_s, op2_cond, thenX_n, thenX_e, thenX_r, blkX_n, blkX_r, blkX_e, finX_r, finX_n, res_n, res_t, mov_f, op_s, Nat.beq_refl, cond_true]
  first | done | kernel_rfl
def D58_l0 (rec : Rec) (N : Nat) (fs : Frm) (s : St) : OutX := opt2 (oBin (int2 (cmpO ltI)) (.v (orU (fs.get t5))) (.v (orU (fs.get t6))) rec PT.nil s) fun x1 s =>
 condV x1
 (opt2 (oBin (int2 addO) (.v (orU (fs.get t5))) (.v (orU (fs.get t6))) rec PT.nil s) fun x2 s =>
 opt2 (oConv .u64 (.v x2) rec PT.nil s) fun x3 s =>
 opt2 (oBin (sh2 shrO) (.v x3) (.v (.int .u64 1)) rec PT.nil s) fun x4 s =>
 opt2 (oConv .i64 (.v x4) rec PT.nil s) fun x5 s =>
 opt2 (oCallV (.v (orU (fs.get t1))) [(.v x5)] rec PT.nil s) fun x6 s =>
 opt2 (oNot (.v x6) rec PT.nil s) fun x7 s =>
 condV x7
 (opt2 (oBin (int2 addO) (.v x5) (.v (.int .i64 1)) rec PT.nil s) fun x8 s =>
 some (.norm, (PT.put x8 t5 (PT.put x8 t23 (PT.put x5 t22 (PT.put x7 t21 (PT.put x6 t20 (PT.put x5 t19 (PT.put (orU (fs.get t1)) t18 (PT.put x5 t7 (PT.put x5 t17 (PT.put x4 t16 (PT.put x3 t15 (PT.put x2 t14 (PT.put (orU (fs.get t6)) t13 (PT.put (orU (fs.get t5)) t12 (PT.put x1 t11 (PT.put (orU (fs.get t6)) t10 (PT.put (orU (fs.get t5)) t9 fs))))))))))))))))), s))
 (some (.norm, (PT.put x5 t6 (PT.put x5 t24 (PT.put x7 t21 (PT.put x6 t20 (PT.put x5 t19 (PT.put (orU (fs.get t1)) t18 (PT.put x5 t7 (PT.put x5 t17 (PT.put x4 t16 (PT.put x3 t15 (PT.put x2 t14 (PT.put (orU (fs.get t6)) t13 (PT.put (orU (fs.get t5)) t12 (PT.put x1 t11 (PT.put (orU (fs.get t6)) t10 (PT.put (orU (fs.get t5)) t9 fs)))))))))))))))), s)))
 (some ((.exit 0), (PT.put x1 t11 (PT.put (orU (fs.get t6)) t10 (PT.put (orU (fs.get t5)) t9 fs))), s))
theorem d58_l0 (rec : Rec) (N : Nat) (fs : Frm) (s : St) : c58_l0 rec N fs s = D58_l0 rec N fs s := by
  simp only [c58_l0, call_f, lenN, x_reg, reg_n, reg_c, reg1_u, reg1_g, op2_cons, op2_bif, x_seq, x_ops, x_skip, x_ret, x_exit, x_cond, x_block, x_loop, ops_c, ops_n, op1_u, op1_gj, op2_op2, op2_op, op2_s, op2_cond, thenX_n, thenX_e, thenX_r, blkX_n, blkX_r, blkX_e, finX_r, finX_n, res_n, res_t, mov_f, op_s, Nat.beq_refl, cond_true]
  first | done | kernel_rfl
def D58_r0 (rec : Rec) (N : Nat) (fs : Frm) (s : St) : OutX := some (.ret, (PT.put (orU (fs.get t5)) t4 (PT.put (orU (fs.get t5)) t25 fs)), s)
theorem d58_r0 (rec : Rec) (N : Nat) (fs : Frm) (s : St) : c58_r0 rec N fs s = D58_r0 rec N fs s := by
  simp only [c58_r0, call_f, lenN, x_reg, reg_n, reg_c, reg1_u, reg1_g, op2_cons, op2_bif, x_seq, x_ops, x_skip, x_ret, x_exit, x_cond, x_block, x_loop, ops_c, ops_n, op1_u, op1_gj, op2_op2, op2_op, op2_s, op2_cond, thenX_n, thenX_e, thenX_r, blkX_n, blkX_r, blkX_e, finX_r, finX_n, res_n, res_t, mov_f, op_s, Nat.beq_refl, cond_true]
  first | done | kernel_rfl
def D58 (rec : Rec) (N : Nat) (a0 : Value) (a1 : Value) (s : St) : Out := opt2 (loopF (c58_l0 rec N) N (PT.put a0 t6 (PT.put (.int .i64 0) t5 (PT.put a0 t8 (PT.put (.int .i64 0) t4 (PT.put a1 t1 (PT.put a0 t0 PT.nil)))))) s) fun e r => opt2 (blkX 0 e r) fun e r => opt2 (thenX (c58_r0 rec N) e r) fun e r => finX [.tmp t4] e r
theorem d58 (rec : Rec) (N : Nat) (a0 : Value) (a1 : Value) (s : St) : callF rec N c58 [a0, a1] s = D58 rec N a0 a1 s := by
  rw [call_f _ _ _ _ _ rfl]
  simp only [c58, x_reg, reg_n, reg_c, reg1_u, reg1_g, op2_cons, op2_bif, x_seq, x_ops, x_skip, x_ret, x_exit, x_cond, x_block, x_loop, ops_c, ops_n, op1_u, op1_gj, op2_op2, op2_op, op2_s, op2_cond, thenX_n, thenX_e, thenX_r, blkX_n, blkX_r, blkX_e, finX_r, finX_n, res_n, res_t, mov_f, op_s, Nat.beq_refl, cond_true]
  first | done | kernel_rfl
def D59 (rec : Rec) (N : Nat) (a0 : Value) (a1 : Value) (a2 : Value) (s : St) : Out := opt2 (rU (oLoad1 (.v a1) rec PT.nil ⟨s.heap, s.next, 0, 0⟩) PT.nil s (some (.v a1))) fun x1 m1 =>
 (fun s => opt2 (rU (oNilCheck (.v x1) rec PT.nil ⟨s.heap, s.next, 0, 0⟩) PT.nil s none) fun x2 m2 =>
 (fun s => opt2 (rU (oFieldAddr 0 (.v x2) rec PT.nil ⟨s.heap, s.next, 0, 0⟩) PT.nil s none) fun x3 m3 =>
 (fun s => opt2 (rU (oLoad1 (.v x3) rec PT.nil ⟨s.heap, s.next, 0, 0⟩) PT.nil s (some (.v x3))) fun x4 m4 =>
 (fun s => opt2 (rU (oMov (.v a0) rec PT.nil ⟨s.heap, s.next, 0, 0⟩) PT.nil s none) fun x5 m5 =>
 (fun s => opt2 (rU (oIdxAddrL 2 (.v x4) (.v x5) rec PT.nil ⟨s.heap, s.next, 0, 0⟩) PT.nil s none) fun x6 m6 =>
 (fun s => opt2 (rU (oFieldAddr 0 (.v x6) rec PT.nil ⟨s.heap, s.next, 0, 0⟩) PT.nil s none) fun x7 m7 =>
 (fun s => opt2 (rU (oLoad1 (.v x7) rec PT.nil ⟨s.heap, s.next, 0, 0⟩) PT.nil s (some (.v x7))) fun x8 m8 =>
 (fun s => opt2 (rU (oLoad1 (.v a2) rec PT.nil ⟨s.heap, s.next, 0, 0⟩) PT.nil s (some (.v a2))) fun x9 m9 =>
 (fun s => opt2 (rU (oBin (int2 (cmpO gtI)) (.v x8) (.v x9) rec PT.nil ⟨s.heap, s.next, 0, 0⟩) PT.nil s none) fun x10 m10 =>
 (fun s => opt2 (rU (oMov (.v x10) rec PT.nil ⟨s.heap, s.next, 0, 0⟩) PT.nil s none) fun x11 m11 =>
 (fun s => bif apartAll [m1.1, m2.1, m3.1, m4.1, m5.1, m6.1, m7.1, m8.1, m9.1, m10.1, m11.1] [(0, 4), (1, 4), (2, 4), (3, 4), (0, 8), (1, 8), (2, 8), (3, 8), (4, 8), (5, 8), (6, 8), (7, 8)] then some (oneOf [x11], s) else none) m11.2) m10.2) m9.2) m8.2) m7.2) m6.2) m5.2) m4.2) m3.2) m2.2) m1.2
theorem d59 (rec : Rec) (N : Nat) (a0 : Value) (a1 : Value) (a2 : Value) (s : St) : callF rec N c59 [a0, a1, a2] s = D59 rec N a0 a1 a2 s := by
  rw [call_f _ _ _ _ _ rfl]
  simp only [c59, x_reg, reg_n, reg_c, reg1_u, reg1_g, op2_cons, op2_bif, x_seq, x_ops, x_skip, x_ret, x_exit, x_cond, x_block, x_loop, ops_c, ops_n, op1_u, op1_gj, op2_op2, op2_op, op2_s, op2_cond, thenX_n, thenX_e, thenX_r, blkX_n, blkX_r, blkX_e, finX_r, finX_n, res_n, res_t, mov_f, op_s, Nat.beq_refl, cond_true]
  first | done | kernel_rfl
def D61 (rec : Rec) (N : Nat) (a0 : Value) (a1 : Value) (s : St) : Out := opt2 (oLenL (.v a0) rec PT.nil s) fun x1 s =>
 opt2 (oBin (int2 subO) (.v x1) (.v a1) rec PT.nil s) fun x2 s =>
 opt2 (rec 65 [a0, x2] s) fun x3 s =>
 some (oneOf [], s)
theorem d61 (rec : Rec) (N : Nat) (a0 : Value) (a1 : Value) (s : St) : callF rec N c61 [a0, a1] s = D61 rec N a0 a1 s := by
  rw [call_f _ _ _ _ _ rfl]
  simp only [c61, x_reg, reg_n, reg_c, reg1_u, reg1_g, op2_cons, op2_bif, x_seq, x_ops, x_skip, x_ret, x_exit, x_cond, x_block, x_loop, ops_c, ops_n, op1_u, op1_gj, op2_op2, op2_op, op2_s, op2_cond, thenX_n, thenX_e, thenX_r, blkX_n, blkX_r, blkX_e, finX_r, finX_n, res_n, res_t, mov_f, op_s, Nat.beq_refl, cond_true]
  first | done | kernel_rfl
def D65 (rec : Rec) (N : Nat) (a0 : Value) (a1 : Value) (s : St) : Out := opt2 (oSliceL 2 (.v a0) none (some (.v a1)) none rec PT.nil s) fun x1 s =>
 opt2 (rec 67 [x1] s) fun x2 s =>
 opt2 (oSliceL 2 (.v a0) (some (.v a1)) none none rec PT.nil s) fun x3 s =>
 opt2 (rec 67 [x3] s) fun x4 s =>
 opt2 (rec 67 [a0] s) fun x5 s =>
 some (oneOf [], s)
theorem d65 (rec : Rec) (N : Nat) (a0 : Value) (a1 : Value) (s : St) : callF rec N c65 [a0, a1] s = D65 rec N a0 a1 s := by
  rw [call_f _ _ _ _ _ rfl]
  simp only [c65, x_reg, reg_n, reg_c, reg1_u, reg1_g, op2_cons, op2_bif, x_seq, x_ops, x_skip, x_ret, x_exit, x_cond, x_block, x_loop, ops_c, ops_n, op1_u, op1_gj, op2_op2, op2_op, op2_s, op2_cond, thenX_n, thenX_e, thenX_r, blkX_n, blkX_r, blkX_e, finX_r, finX_n, res_n, res_t, mov_f, op_s, Nat.beq_refl, cond_true]
  first | done | kernel_rfl
def D67_l0 (rec : Rec) (N : Nat) (fs : Frm) (s : St) : OutX := opt2 (oBin (int2 (cmpO ltI)) (.v (orU (fs.get t2))) (.v (orU (fs.get t3))) rec PT.nil s) fun x1 s =>
 condV x1
 (opt2 (rU (oMov (.v (orU (fs.get t0))) rec PT.nil ⟨s.heap, s.next, 0, 0⟩) PT.nil s none) fun x2 m2 =>
 (fun s => opt2 (rU (oMov (.v (orU (fs.get t2))) rec PT.nil ⟨s.heap, s.next, 0, 0⟩) PT.nil s none) fun x3 m3 =>
 (fun s => opt2 (rU (oMov (.v (orU (fs.get t0))) rec PT.nil ⟨s.heap, s.next, 0, 0⟩) PT.nil s none) fun x4 m4 =>
 (fun s => opt2 (rU (oMov (.v (orU (fs.get t3))) rec PT.nil ⟨s.heap, s.next, 0, 0⟩) PT.nil s none) fun x5 m5 =>
 (fun s => opt2 (rU (oMov (.v (orU (fs.get t0))) rec PT.nil ⟨s.heap, s.next, 0, 0⟩) PT.nil s none) fun x6 m6 =>
 (fun s => opt2 (rU (oMov (.v (orU (fs.get t3))) rec PT.nil ⟨s.heap, s.next, 0, 0⟩) PT.nil s none) fun x7 m7 =>
 (fun s => opt2 (rU (oIdxAddrL 2 (.v x6) (.v x7) rec PT.nil ⟨s.heap, s.next, 0, 0⟩) PT.nil s none) fun x8 m8 =>
 (fun s => opt2 (rU (oLoadN 2 (.v x8) rec PT.nil ⟨s.heap, s.next, 0, 0⟩) PT.nil s none) fun x9 m9 =>
 (fun s => opt2 (rU (oMov (.v (orU (fs.get t0))) rec PT.nil ⟨s.heap, s.next, 0, 0⟩) PT.nil s none) fun x10 m10 =>
 (fun s => opt2 (rU (oMov (.v (orU (fs.get t2))) rec PT.nil ⟨s.heap, s.next, 0, 0⟩) PT.nil s none) fun x11 m11 =>
 (fun s => opt2 (rU (oIdxAddrL 2 (.v x10) (.v x11) rec PT.nil ⟨s.heap, s.next, 0, 0⟩) PT.nil s none) fun x12 m12 =>
 (fun s => opt2 (rU (oLoadN 2 (.v x12) rec PT.nil ⟨s.heap, s.next, 0, 0⟩) PT.nil s none) fun x13 m13 =>
 (fun s => opt2 (rU (oIdxAddrL 2 (.v x2) (.v x3) rec PT.nil ⟨s.heap, s.next, 0, 0⟩) PT.nil s none) fun x14 m14 =>
 (fun s => opt2 (rU (oStore 2 (.v x14) (.v x9) rec PT.nil ⟨s.heap, s.next, 0, 0⟩) PT.nil s none) fun x15 m15 =>
 (fun s => opt2 (rU (oIdxAddrL 2 (.v x4) (.v x5) rec PT.nil ⟨s.heap, s.next, 0, 0⟩) PT.nil s none) fun x16 m16 =>
 (fun s => opt2 (rU (oStore 2 (.v x16) (.v x13) rec PT.nil ⟨s.heap, s.next, 0, 0⟩) PT.nil s none) fun x17 m17 =>
 (fun s => bif apartAll [m2.1, m3.1, m4.1, m5.1, m6.1, m7.1, m8.1, m9.1, m10.1, m11.1, m12.1, m13.1, m14.1, m15.1, m16.1, m17.1] [(0, 1), (0, 2), (1, 2), (0, 3), (1, 3), (2, 3), (0, 4), (1, 4), (2, 4), (3, 4), (0, 5), (1, 5), (2, 5), (3, 5), (4, 5), (0, 6), (1, 6), (2, 6), (3, 6), (0, 7), (1, 7), (2, 7), (3, 7), (0, 8), (1, 8), (2, 8), (3, 8), (4, 8), (5, 8), (6, 8), (7, 8), (0, 9), (1, 9), (2, 9), (3, 9), (4, 9), (5, 9), (6, 9), (7, 9), (8, 9), (0, 10), (1, 10), (2, 10), (3, 10), (4, 10), (5, 10), (6, 10), (7, 10), (0, 11), (1, 11), (2, 11), (3, 11), (4, 11), (5, 11), (6, 11), (7, 11), (2, 12), (3, 12), (2, 13), (3, 13)] then opt2 (oBin (int2 addO) (.v (orU (fs.get t2))) (.v (.int .i64 1)) rec PT.nil s) fun x18 s =>
 opt2 (oBin (int2 subO) (.v (orU (fs.get t3))) (.v (.int .i64 1)) rec PT.nil s) fun x19 s =>
 some (.norm, (PT.put x19 t3 (PT.put x18 t2 (PT.put x19 t13 (PT.put (orU (fs.get t3)) t12 (PT.put x18 t11 (PT.put (orU (fs.get t2)) t10 (PT.put x16 t27 (PT.put x14 t26 (PT.put x13 t25 (PT.put x12 t24 (PT.put x11 t23 (PT.put x10 t22 (PT.put x9 t21 (PT.put x8 t20 (PT.put x7 t19 (PT.put x6 t18 (PT.put x5 t17 (PT.put x4 t16 (PT.put x3 t15 (PT.put x2 t14 (PT.put x1 t9 (PT.put (orU (fs.get t3)) t8 (PT.put (orU (fs.get t2)) t7 fs))))))))))))))))))))))), s) else none) m17.2) m16.2) m15.2) m14.2) m13.2) m12.2) m11.2) m10.2) m9.2) m8.2) m7.2) m6.2) m5.2) m4.2) m3.2) m2.2)
 (some ((.exit 0), (PT.put x1 t9 (PT.put (orU (fs.get t3)) t8 (PT.put (orU (fs.get t2)) t7 fs))), s))
theorem d67_l0 (rec : Rec) (N : Nat) (fs : Frm) (s : St) : c67_l0 rec N fs s = D67_l0 rec N fs s := by
  simp only [c67_l0, call_f, lenN, x_reg, reg_n, reg_c, reg1_u, reg1_g, op2_cons, op2_bif, x_seq, x_ops, x_skip, x_ret, x_exit, x_cond, x_block, x_loop, ops_c, ops_n, op1_u, op1_gj, op2_op2, op2_op, op2_s, op2_cond, thenX_n, thenX_e, thenX_r, blkX_n, blkX_r, blkX_e, finX_r, finX_n, res_n, res_t, mov_f, op_s, Nat.beq_refl, cond_true]
  first | done | kernel_rfl
def D67 (rec : Rec) (N : Nat) (a0 : Value) (s : St) : Out := opt2 (oLenL (.v a0) rec PT.nil s) fun x1 s =>
 opt2 (oBin (int2 subO) (.v x1) (.v (.int .i64 1)) rec PT.nil s) fun x2 s =>
 opt2 (loopF (c67_l0 rec N) N (PT.put x2 t3 (PT.put (.int .i64 0) t2 (PT.put x2 t6 (PT.put x1 t5 (PT.put a0 t4 (PT.put a0 t0 PT.nil)))))) s) fun e r => opt2 (blkX 0 e r) fun e r => finX [] e r
theorem d67 (rec : Rec) (N : Nat) (a0 : Value) (s : St) : callF rec N c67 [a0] s = D67 rec N a0 s := by
  rw [call_f _ _ _ _ _ rfl]
  simp only [c67, x_reg, reg_n, reg_c, reg1_u, reg1_g, op2_cons, op2_bif, x_seq, x_ops, x_skip, x_ret, x_exit, x_cond, x_block, x_loop, ops_c, ops_n, op1_u, op1_gj, op2_op2, op2_op, op2_s, op2_cond, thenX_n, thenX_e, thenX_r, blkX_n, blkX_r, blkX_e, finX_r, finX_n, res_n, res_t, mov_f, op_s, Nat.beq_refl, cond_true]
  first | done | kernel_rfl
end
end Go.Proofs.Ythjhammjankekaa.AbsRatO
