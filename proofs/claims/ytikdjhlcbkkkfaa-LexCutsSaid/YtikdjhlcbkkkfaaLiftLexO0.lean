import Derived.Test.YtikdjhlcbkkkfaaAbsLexOE
import Derived.Test.YtikdjhlcbkkkfaaAbsZL
namespace Go.Proofs.Ytikdjhlcbkkkfaa.AbsLexO
open Go Go.Abs Go.Proofs
set_option maxRecDepth 100000
set_option linter.unusedVariables false
set_option linter.unusedSimpArgs false
noncomputable section
-- c4
theorem q4_g0 (rec : Rec) (n : Nat) (fs : Frm) (s : St) : xReg c4_g0 [(0, 1), (0, 5), (1, 5), (2, 5), (3, 5), (4, 5), (0, 6), (1, 6), (2, 6), (3, 6), (4, 6), (5, 6), (0, 7), (1, 7), (2, 7), (3, 7), (4, 7), (0, 8), (1, 8), (2, 8), (3, 8), (4, 8), (0, 9), (1, 9), (2, 9), (3, 9), (4, 9), (12, 13), (12, 17), (13, 17), (14, 17), (15, 17), (16, 17), (12, 18), (13, 18), (14, 18), (15, 18), (16, 18), (17, 18), (12, 19), (13, 19), (14, 19), (15, 19), (16, 19), (12, 20), (13, 20), (14, 20), (15, 20), (16, 20), (12, 21), (13, 21), (14, 21), (15, 21), (16, 21), (25, 26), (25, 30), (26, 30), (27, 30), (28, 30), (29, 30), (25, 31), (26, 31), (27, 31), (28, 31), (29, 31), (30, 31), (25, 32), (26, 32), (27, 32), (28, 32), (29, 32), (25, 33), (26, 33), (27, 33), (28, 33), (29, 33), (25, 34), (26, 34), (27, 34), (28, 34), (29, 34), (38, 39), (38, 43), (39, 43), (40, 43), (41, 43), (42, 43), (38, 44), (39, 44), (40, 44), (41, 44), (42, 44), (43, 44), (38, 45), (39, 45), (40, 45), (41, 45), (42, 45), (38, 46), (39, 46), (40, 46), (41, 46), (42, 46), (38, 47), (39, 47), (40, 47), (41, 47), (42, 47)] rec n fs s = opt2 (runQ rec (⟨(some t54), oMov (.t t3), none, none⟩ ::
   ⟨(some t55), oMov (.t t8), none, none⟩ ::
   ⟨(some t56), oIdxAddrL 4 (.t t54) (.t t55), none, none⟩ ::
   ⟨(some t57), oFieldAddr 0 (.t t56), none, none⟩ ::
   ⟨(some t58), oLoad1 (.t t57), none, (some (.t t57))⟩ ::
   ⟨(some t59), oMov (.t t6), none, none⟩ ::
   ⟨(some t60), oMov (.t t8), none, none⟩ ::
   ⟨(some t61), oIdxAddrL 4 (.t t59) (.t t60), none, none⟩ ::
   ⟨(some t62), oFieldAddr 0 (.t t61), none, none⟩ ::
   ⟨(some t63), oLoad1 (.t t62), none, (some (.t t62))⟩ ::
   ⟨(some t64), oBin (int2 (cmpO neI)) (.t t58) (.t t63), none, none⟩ ::
   ⟨(some t65), oMov (.t t64), none, none⟩ ::
   ⟨(some t66), oMov (.t t3), (some (t65, false)), none⟩ ::
   ⟨(some t67), oMov (.t t8), (some (t65, false)), none⟩ :: c4_q2) fs s) fun fs s => some (.norm, fs, s) :=
 reg_q (ks := [0, 0, 0, 0, 1, 0, 0, 0, 0, 1, 0, 0, 0, 0, 0, 0, 1, 0, 0, 0, 0, 1, 0, 0, 0, 0, 0, 0, 0, 1, 0, 0, 0, 0, 1, 0, 0, 0, 0, 0, 0, 0, 1, 0, 0, 0, 0, 1, 0, 0]) (okc (ok0 (qv_mov (.t t3)) rfl)
 (okc (ok0 (qv_mov (.t t8)) rfl)
 (okc (ok0 (qv_idxl 4 (.t t54) (.t t55)) rfl)
 (okc (ok0 (qv_fieldaddr 0 (.t t56)) rfl)
 (okc (ok1 rfl)
 (okc (ok0 (qv_mov (.t t6)) rfl)
 (okc (ok0 (qv_mov (.t t8)) rfl)
 (okc (ok0 (qv_idxl 4 (.t t59) (.t t60)) rfl)
 (okc (ok0 (qv_fieldaddr 0 (.t t61)) rfl)
 (okc (ok1 rfl)
 (okc (ok0 (qv_bin (int2 (cmpO neI)) (.t t58) (.t t63)) rfl)
 (okc (ok0 (qv_mov (.t t64)) rfl)
 (okc (ok0 (qv_mov (.t t3)) rfl)
 (okc (ok0 (qv_mov (.t t8)) rfl)
 (okc (ok0 (qv_idxl 4 (.t t66) (.t t67)) rfl)
 (okc (ok0 (qv_fieldaddr 1 (.t t68)) rfl)
 (okc (ok1 rfl)
 (okc (ok0 (qv_mov (.t t6)) rfl)
 (okc (ok0 (qv_mov (.t t8)) rfl)
 (okc (ok0 (qv_idxl 4 (.t t71) (.t t72)) rfl)
 (okc (ok0 (qv_fieldaddr 1 (.t t73)) rfl)
 (okc (ok1 rfl)
 (okc (ok0 (qv_bin (str2 (cmpS neBytes)) (.t t70) (.t t75)) rfl)
 (okc (ok0 (qv_pick (.t t65) (.v (.bool true)) (.t t76)) rfl)
 (okc (ok0 (qv_mov (.t t77)) rfl)
 (okc (ok0 (qv_mov (.t t3)) rfl)
 (okc (ok0 (qv_mov (.t t8)) rfl)
 (okc (ok0 (qv_idxl 4 (.t t79) (.t t80)) rfl)
 (okc (ok0 (qv_fieldaddr 2 (.t t81)) rfl)
 (okc (ok1 rfl)
 (okc (ok0 (qv_mov (.t t6)) rfl)
 (okc (ok0 (qv_mov (.t t8)) rfl)
 (okc (ok0 (qv_idxl 4 (.t t84) (.t t85)) rfl)
 (okc (ok0 (qv_fieldaddr 2 (.t t86)) rfl)
 (okc (ok1 rfl)
 (okc (ok0 (qv_bin (int2 (cmpO neI)) (.t t83) (.t t88)) rfl)
 (okc (ok0 (qv_pick (.t t78) (.v (.bool true)) (.t t89)) rfl)
 (okc (ok0 (qv_mov (.t t90)) rfl)
 (okc (ok0 (qv_mov (.t t3)) rfl)
 (okc (ok0 (qv_mov (.t t8)) rfl)
 (okc (ok0 (qv_idxl 4 (.t t92) (.t t93)) rfl)
 (okc (ok0 (qv_fieldaddr 3 (.t t94)) rfl)
 (okc (ok1 rfl)
 (okc (ok0 (qv_mov (.t t6)) rfl)
 (okc (ok0 (qv_mov (.t t8)) rfl)
 (okc (ok0 (qv_idxl 4 (.t t97) (.t t98)) rfl)
 (okc (ok0 (qv_fieldaddr 3 (.t t99)) rfl)
 (okc (ok1 rfl)
 (okc (ok0 (qv_bin (int2 (cmpO neI)) (.t t96) (.t t101)) rfl)
 (okc (ok0 (qv_pick (.t t91) (.v (.bool true)) (.t t102)) rfl)
 okn)))))))))))))))))))))))))))))))))))))))))))))))))) (by kernel_rfl) rec n fs s
def D4_q0 (rec : Rec) (fs : Frm) (s : St) : Option (Frm × St) := opt (gval false (orU (fs.get t91))) fun x1 => opt2 (orUndef x1 (oLoad1 (.v (orU (fs.get t95))) rec PT.nil s) s) fun x2 s =>
 opt (gval false (orU (fs.get t91))) fun x3 => opt2 (orUndef x3 (oMov (.v (orU (fs.get t6))) rec PT.nil s) s) fun x4 s =>
 opt (gval false (orU (fs.get t91))) fun x5 => opt2 (orUndef x5 (oMov (.v (orU (fs.get t8))) rec PT.nil s) s) fun x6 s =>
 opt (gval false (orU (fs.get t91))) fun x7 => opt2 (orUndef x7 (oIdxAddrL 4 (.v x4) (.v x6) rec PT.nil s) s) fun x8 s =>
 opt (gval false (orU (fs.get t91))) fun x9 => opt2 (orUndef x9 (oFieldAddr 3 (.v x8) rec PT.nil s) s) fun x10 s =>
 opt (gval false (orU (fs.get t91))) fun x11 => opt2 (orUndef x11 (oLoad1 (.v x10) rec PT.nil s) s) fun x12 s =>
 opt (gval false (orU (fs.get t91))) fun x13 => opt2 (orUndef x13 (oBin (int2 (cmpO neI)) (.v x2) (.v x12) rec PT.nil s) s) fun x14 s =>
 opt2 (oPick (.v (orU (fs.get t91))) (.v (.bool true)) (.v x14) rec PT.nil s) fun x15 s =>
 some ((PT.put x15 t103 (PT.put x14 t102 (PT.put x12 t101 (PT.put x10 t100 (PT.put x8 t99 (PT.put x6 t98 (PT.put x4 t97 (PT.put x2 t96 fs)))))))), s)
set_option maxHeartbeats 4000000 in
theorem d4_q0 (rec : Rec) (fs : Frm) (s : St) : runQ rec c4_q0 fs s = D4_q0 rec fs s := by
  simp (maxSteps := 4000000) only [c4_q0, ops_c, ops_n, op1_u, op1_gj, rq_c, rq_n, opQ_u, opQ_g, op2_op2, op2_op, op2_s, sm_bin, sm_box, sm_build, sm_buildslice, sm_bytesstr, sm_compl, sm_conv, sm_eqs, sm_eqv, sm_ext, sm_extract, sm_field, sm_fieldaddr, sm_func, sm_idxaa, sm_idxl, sm_idxs, sm_iface, sm_lenc, sm_lenl, sm_lens, sm_load1, sm_loadn, sm_mm, sm_mov, sm_neg, sm_new, sm_nil, sm_not, sm_pick, sm_same, sm_slices, sm_store]
  first | done | kernel_rfl
def D4_q1 (rec : Rec) (fs : Frm) (s : St) : Option (Frm × St) := opt (gval false (orU (fs.get t78))) fun x1 => opt2 (orUndef x1 (oFieldAddr 2 (.v (orU (fs.get t81))) rec PT.nil s) s) fun x2 s =>
 opt (gval false (orU (fs.get t78))) fun x3 => opt2 (orUndef x3 (oLoad1 (.v x2) rec PT.nil s) s) fun x4 s =>
 opt (gval false (orU (fs.get t78))) fun x5 => opt2 (orUndef x5 (oMov (.v (orU (fs.get t6))) rec PT.nil s) s) fun x6 s =>
 opt (gval false (orU (fs.get t78))) fun x7 => opt2 (orUndef x7 (oMov (.v (orU (fs.get t8))) rec PT.nil s) s) fun x8 s =>
 opt (gval false (orU (fs.get t78))) fun x9 => opt2 (orUndef x9 (oIdxAddrL 4 (.v x6) (.v x8) rec PT.nil s) s) fun x10 s =>
 opt (gval false (orU (fs.get t78))) fun x11 => opt2 (orUndef x11 (oFieldAddr 2 (.v x10) rec PT.nil s) s) fun x12 s =>
 opt (gval false (orU (fs.get t78))) fun x13 => opt2 (orUndef x13 (oLoad1 (.v x12) rec PT.nil s) s) fun x14 s =>
 opt (gval false (orU (fs.get t78))) fun x15 => opt2 (orUndef x15 (oBin (int2 (cmpO neI)) (.v x4) (.v x14) rec PT.nil s) s) fun x16 s =>
 opt2 (oPick (.v (orU (fs.get t78))) (.v (.bool true)) (.v x16) rec PT.nil s) fun x17 s =>
 opt2 (oMov (.v x17) rec PT.nil s) fun x18 s =>
 opt (gval false x18) fun x19 => opt2 (orUndef x19 (oMov (.v (orU (fs.get t3))) rec PT.nil s) s) fun x20 s =>
 opt (gval false x18) fun x21 => opt2 (orUndef x21 (oMov (.v (orU (fs.get t8))) rec PT.nil s) s) fun x22 s =>
 opt (gval false x18) fun x23 => opt2 (orUndef x23 (oIdxAddrL 4 (.v x20) (.v x22) rec PT.nil s) s) fun x24 s =>
 opt (gval false x18) fun x25 => opt2 (orUndef x25 (oFieldAddr 3 (.v x24) rec PT.nil s) s) fun x26 s =>
 runQ rec c4_q0 (PT.put x26 t95 (PT.put x24 t94 (PT.put x22 t93 (PT.put x20 t92 (PT.put x18 t91 (PT.put x17 t90 (PT.put x16 t89 (PT.put x14 t88 (PT.put x12 t87 (PT.put x10 t86 (PT.put x8 t85 (PT.put x6 t84 (PT.put x4 t83 (PT.put x2 t82 fs)))))))))))))) s
set_option maxHeartbeats 4000000 in
theorem d4_q1 (rec : Rec) (fs : Frm) (s : St) : runQ rec c4_q1 fs s = D4_q1 rec fs s := by
  simp (maxSteps := 4000000) only [c4_q1, ops_c, ops_n, op1_u, op1_gj, rq_c, rq_n, opQ_u, opQ_g, op2_op2, op2_op, op2_s, sm_bin, sm_box, sm_build, sm_buildslice, sm_bytesstr, sm_compl, sm_conv, sm_eqs, sm_eqv, sm_ext, sm_extract, sm_field, sm_fieldaddr, sm_func, sm_idxaa, sm_idxl, sm_idxs, sm_iface, sm_lenc, sm_lenl, sm_lens, sm_load1, sm_loadn, sm_mm, sm_mov, sm_neg, sm_new, sm_nil, sm_not, sm_pick, sm_same, sm_slices, sm_store]
  first | done | kernel_rfl
def D4_q2 (rec : Rec) (fs : Frm) (s : St) : Option (Frm × St) := opt (gval false (orU (fs.get t65))) fun x1 => opt2 (orUndef x1 (oIdxAddrL 4 (.v (orU (fs.get t66))) (.v (orU (fs.get t67))) rec PT.nil s) s) fun x2 s =>
 opt (gval false (orU (fs.get t65))) fun x3 => opt2 (orUndef x3 (oFieldAddr 1 (.v x2) rec PT.nil s) s) fun x4 s =>
 opt (gval false (orU (fs.get t65))) fun x5 => opt2 (orUndef x5 (oLoad1 (.v x4) rec PT.nil s) s) fun x6 s =>
 opt (gval false (orU (fs.get t65))) fun x7 => opt2 (orUndef x7 (oMov (.v (orU (fs.get t6))) rec PT.nil s) s) fun x8 s =>
 opt (gval false (orU (fs.get t65))) fun x9 => opt2 (orUndef x9 (oMov (.v (orU (fs.get t8))) rec PT.nil s) s) fun x10 s =>
 opt (gval false (orU (fs.get t65))) fun x11 => opt2 (orUndef x11 (oIdxAddrL 4 (.v x8) (.v x10) rec PT.nil s) s) fun x12 s =>
 opt (gval false (orU (fs.get t65))) fun x13 => opt2 (orUndef x13 (oFieldAddr 1 (.v x12) rec PT.nil s) s) fun x14 s =>
 opt (gval false (orU (fs.get t65))) fun x15 => opt2 (orUndef x15 (oLoad1 (.v x14) rec PT.nil s) s) fun x16 s =>
 opt (gval false (orU (fs.get t65))) fun x17 => opt2 (orUndef x17 (oBin (str2 (cmpS neBytes)) (.v x6) (.v x16) rec PT.nil s) s) fun x18 s =>
 opt2 (oPick (.v (orU (fs.get t65))) (.v (.bool true)) (.v x18) rec PT.nil s) fun x19 s =>
 opt2 (oMov (.v x19) rec PT.nil s) fun x20 s =>
 opt (gval false x20) fun x21 => opt2 (orUndef x21 (oMov (.v (orU (fs.get t3))) rec PT.nil s) s) fun x22 s =>
 opt (gval false x20) fun x23 => opt2 (orUndef x23 (oMov (.v (orU (fs.get t8))) rec PT.nil s) s) fun x24 s =>
 opt (gval false x20) fun x25 => opt2 (orUndef x25 (oIdxAddrL 4 (.v x22) (.v x24) rec PT.nil s) s) fun x26 s =>
 runQ rec c4_q1 (PT.put x26 t81 (PT.put x24 t80 (PT.put x22 t79 (PT.put x20 t78 (PT.put x19 t77 (PT.put x18 t76 (PT.put x16 t75 (PT.put x14 t74 (PT.put x12 t73 (PT.put x10 t72 (PT.put x8 t71 (PT.put x6 t70 (PT.put x4 t69 (PT.put x2 t68 fs)))))))))))))) s
set_option maxHeartbeats 4000000 in
theorem d4_q2 (rec : Rec) (fs : Frm) (s : St) : runQ rec c4_q2 fs s = D4_q2 rec fs s := by
  simp (maxSteps := 4000000) only [c4_q2, ops_c, ops_n, op1_u, op1_gj, rq_c, rq_n, opQ_u, opQ_g, op2_op2, op2_op, op2_s, sm_bin, sm_box, sm_build, sm_buildslice, sm_bytesstr, sm_compl, sm_conv, sm_eqs, sm_eqv, sm_ext, sm_extract, sm_field, sm_fieldaddr, sm_func, sm_idxaa, sm_idxl, sm_idxs, sm_iface, sm_lenc, sm_lenl, sm_lens, sm_load1, sm_loadn, sm_mm, sm_mov, sm_neg, sm_new, sm_nil, sm_not, sm_pick, sm_same, sm_slices, sm_store]
  first | done | kernel_rfl
def D4_j0 (rec : Rec) (N : Nat) (fs : Frm) (s : St) : OutX := condV (orU (fs.get t103))
 (opt2 (oMov (.v (.bool false)) rec PT.nil s) fun x1 s =>
 some (.ret, (PT.put x1 t2 fs), s))
 (some (.norm, fs, s))
set_option maxHeartbeats 4000000 in
theorem d4_j0 (rec : Rec) (N : Nat) (fs : Frm) (s : St) : c4_j0 rec N fs s = D4_j0 rec N fs s := by
  simp (maxSteps := 4000000) only [c4_j0, lenN, x_seq, x_ops, x_skip, x_ret, x_exit, x_cond, x_block, x_loop, ops_c, ops_n, op1_u, op1_gj, rq_c, rq_n, opQ_u, opQ_g, op2_op2, op2_op, op2_s, op2_cond, thenX_n, thenX_e, thenX_r, blkX_n, blkX_r, blkX_e, finX_r, finX_n, res_n, res_t, op_s, Nat.beq_refl, cond_true, q4_g0, sm_bin, sm_box, sm_build, sm_buildslice, sm_bytesstr, sm_compl, sm_conv, sm_eqs, sm_eqv, sm_ext, sm_extract, sm_field, sm_fieldaddr, sm_func, sm_idxaa, sm_idxl, sm_idxs, sm_iface, sm_lenc, sm_lenl, sm_lens, sm_load1, sm_loadn, sm_mm, sm_mov, sm_neg, sm_new, sm_nil, sm_not, sm_pick, sm_same, sm_slices, sm_store]
  first | done | kernel_rfl
def D4_j1 (rec : Rec) (N : Nat) (fs : Frm) (s : St) : OutX := opt2 (oMov (.v (orU (fs.get t8))) rec PT.nil s) fun x1 s =>
 opt2 (oBin (int2 addO) (.v x1) (.v (.int .i64 1)) rec PT.nil s) fun x2 s =>
 opt2 (oMov (.v x2) rec PT.nil s) fun x3 s =>
 some (.norm, (PT.put x3 t8 (PT.put x2 t53 (PT.put x1 t52 fs))), s)
set_option maxHeartbeats 4000000 in
theorem d4_j1 (rec : Rec) (N : Nat) (fs : Frm) (s : St) : c4_j1 rec N fs s = D4_j1 rec N fs s := by
  simp (maxSteps := 4000000) only [c4_j1, lenN, x_seq, x_ops, x_skip, x_ret, x_exit, x_cond, x_block, x_loop, ops_c, ops_n, op1_u, op1_gj, rq_c, rq_n, opQ_u, opQ_g, op2_op2, op2_op, op2_s, op2_cond, thenX_n, thenX_e, thenX_r, blkX_n, blkX_r, blkX_e, finX_r, finX_n, res_n, res_t, op_s, Nat.beq_refl, cond_true, q4_g0, sm_bin, sm_box, sm_build, sm_buildslice, sm_bytesstr, sm_compl, sm_conv, sm_eqs, sm_eqv, sm_ext, sm_extract, sm_field, sm_fieldaddr, sm_func, sm_idxaa, sm_idxl, sm_idxs, sm_iface, sm_lenc, sm_lenl, sm_lens, sm_load1, sm_loadn, sm_mm, sm_mov, sm_neg, sm_new, sm_nil, sm_not, sm_pick, sm_same, sm_slices, sm_store]
  first | done | kernel_rfl
def D4_l0 (rec : Rec) (N : Nat) (fs : Frm) (s : St) : OutX := opt2 (oMov (.v (orU (fs.get t8))) rec PT.nil s) fun x1 s =>
 opt2 (oMov (.v (orU (fs.get t3))) rec PT.nil s) fun x2 s =>
 opt2 (oLenL (.v x2) rec PT.nil s) fun x3 s =>
 opt2 (oBin (int2 (cmpO ltI)) (.v x1) (.v x3) rec PT.nil s) fun x4 s =>
 condV x4
 (opt2 (oMov (.v (orU (fs.get t3))) rec PT.nil s) fun x5 s =>
 opt2 (oMov (.v (orU (fs.get t8))) rec PT.nil s) fun x6 s =>
 opt2 (oIdxAddrL 4 (.v x5) (.v x6) rec PT.nil s) fun x7 s =>
 opt2 (oFieldAddr 0 (.v x7) rec PT.nil s) fun x8 s =>
 opt2 (oLoad1 (.v x8) rec PT.nil s) fun x9 s =>
 opt2 (oMov (.v (orU (fs.get t6))) rec PT.nil s) fun x10 s =>
 opt2 (oMov (.v (orU (fs.get t8))) rec PT.nil s) fun x11 s =>
 opt2 (oIdxAddrL 4 (.v x10) (.v x11) rec PT.nil s) fun x12 s =>
 opt2 (oFieldAddr 0 (.v x12) rec PT.nil s) fun x13 s =>
 opt2 (oLoad1 (.v x13) rec PT.nil s) fun x14 s =>
 opt2 (oBin (int2 (cmpO neI)) (.v x9) (.v x14) rec PT.nil s) fun x15 s =>
 opt2 (oMov (.v x15) rec PT.nil s) fun x16 s =>
 opt (gval false x16) fun x17 => opt2 (orUndef x17 (oMov (.v (orU (fs.get t3))) rec PT.nil s) s) fun x18 s =>
 opt (gval false x16) fun x19 => opt2 (orUndef x19 (oMov (.v (orU (fs.get t8))) rec PT.nil s) s) fun x20 s =>
 opt2 (runQ rec c4_q2 (PT.put x20 t67 (PT.put x18 t66 (PT.put x16 t65 (PT.put x15 t64 (PT.put x14 t63 (PT.put x13 t62 (PT.put x12 t61 (PT.put x11 t60 (PT.put x10 t59 (PT.put x9 t58 (PT.put x8 t57 (PT.put x7 t56 (PT.put x6 t55 (PT.put x5 t54 (PT.put x4 t51 (PT.put x3 t50 (PT.put x2 t49 (PT.put x1 t48 fs)))))))))))))))))) s) fun fs s =>
 opt2 (c4_j0 rec N fs s) fun e r => opt2 (blkX 1 e r) fun e r => thenX (c4_j1 rec N) e r)
 (some ((.exit 0), (PT.put x4 t51 (PT.put x3 t50 (PT.put x2 t49 (PT.put x1 t48 fs)))), s))
set_option maxHeartbeats 4000000 in
theorem d4_l0 (rec : Rec) (N : Nat) (fs : Frm) (s : St) : c4_l0 rec N fs s = D4_l0 rec N fs s := by
  simp (maxSteps := 4000000) only [c4_l0, lenN, x_seq, x_ops, x_skip, x_ret, x_exit, x_cond, x_block, x_loop, ops_c, ops_n, op1_u, op1_gj, rq_c, rq_n, opQ_u, opQ_g, op2_op2, op2_op, op2_s, op2_cond, thenX_n, thenX_e, thenX_r, blkX_n, blkX_r, blkX_e, finX_r, finX_n, res_n, res_t, op_s, Nat.beq_refl, cond_true, q4_g0, sm_bin, sm_box, sm_build, sm_buildslice, sm_bytesstr, sm_compl, sm_conv, sm_eqs, sm_eqv, sm_ext, sm_extract, sm_field, sm_fieldaddr, sm_func, sm_idxaa, sm_idxl, sm_idxs, sm_iface, sm_lenc, sm_lenl, sm_lens, sm_load1, sm_loadn, sm_mm, sm_mov, sm_neg, sm_new, sm_nil, sm_not, sm_pick, sm_same, sm_slices, sm_store]
  first | done | kernel_rfl
def D4_r0 (rec : Rec) (N : Nat) (fs : Frm) (s : St) : OutX := opt2 (oMov (.v (.bool true)) rec PT.nil s) fun x1 s =>
 some (.ret, (PT.put x1 t2 fs), s)
set_option maxHeartbeats 4000000 in
theorem d4_r0 (rec : Rec) (N : Nat) (fs : Frm) (s : St) : c4_r0 rec N fs s = D4_r0 rec N fs s := by
  simp (maxSteps := 4000000) only [c4_r0, lenN, x_seq, x_ops, x_skip, x_ret, x_exit, x_cond, x_block, x_loop, ops_c, ops_n, op1_u, op1_gj, rq_c, rq_n, opQ_u, opQ_g, op2_op2, op2_op, op2_s, op2_cond, thenX_n, thenX_e, thenX_r, blkX_n, blkX_r, blkX_e, finX_r, finX_n, res_n, res_t, op_s, Nat.beq_refl, cond_true, q4_g0, sm_bin, sm_box, sm_build, sm_buildslice, sm_bytesstr, sm_compl, sm_conv, sm_eqs, sm_eqv, sm_ext, sm_extract, sm_field, sm_fieldaddr, sm_func, sm_idxaa, sm_idxl, sm_idxs, sm_iface, sm_lenc, sm_lenl, sm_lens, sm_load1, sm_loadn, sm_mm, sm_mov, sm_neg, sm_new, sm_nil, sm_not, sm_pick, sm_same, sm_slices, sm_store]
  first | done | kernel_rfl
def D4 (rec : Rec) (N : Nat) (a0 : Value) (s : St) : Out := opt2 (oMov (.v (.bool false)) rec PT.nil s) fun x1 s =>
 opt2 (rec 8 [] s) fun x2 s =>
 opt2 (oNot (.v x2) rec PT.nil s) fun x3 s =>
 condV x3
 (opt2 (oMov (.v (.bool false)) rec PT.nil s) fun x4 s =>
 some (oneOf [x4], s))
 (opt2 (oMov (.v a0) rec PT.nil s) fun x5 s =>
 opt2 (oLenS (.v x5) rec PT.nil s) fun x6 s =>
 opt2 (oBin (int2 (cmpO gtI)) (.v x6) (.v (.int .i64 3000)) rec PT.nil s) fun x7 s =>
 condV x7
 (opt2 (oMov (.v (.bool true)) rec PT.nil s) fun x8 s =>
 some (oneOf [x8], s))
 (opt2 (oMov (.v a0) rec PT.nil s) fun x9 s =>
 opt2 (rec 9 [x9] s) fun x10 s =>
 opt2 (oMov (.v x10) rec PT.nil s) fun x11 s =>
 opt2 (oExtract (.v x11) 0 rec PT.nil s) fun x12 s =>
 opt2 (oExtract (.v x11) 1 rec PT.nil s) fun x13 s =>
 opt2 (oExtract (.v x11) 2 rec PT.nil s) fun x14 s =>
 opt2 (oMov (.v x12) rec PT.nil s) fun x15 s =>
 opt2 (oMov (.v x13) rec PT.nil s) fun x16 s =>
 opt2 (oMov (.v x14) rec PT.nil s) fun x17 s =>
 opt2 (oMov (.v a0) rec PT.nil s) fun x18 s =>
 opt2 (rec 10 [x18] s) fun x19 s =>
 opt2 (oMov (.v x19) rec PT.nil s) fun x20 s =>
 opt2 (oExtract (.v x20) 0 rec PT.nil s) fun x21 s =>
 opt2 (oExtract (.v x20) 1 rec PT.nil s) fun x22 s =>
 opt2 (oMov (.v x21) rec PT.nil s) fun x23 s =>
 opt2 (oMov (.v x22) rec PT.nil s) fun x24 s =>
 opt2 (oMov (.v x24) rec PT.nil s) fun x25 s =>
 opt2 (oBin (int2 (cmpO geI)) (.v x25) (.v (.int .i64 0)) rec PT.nil s) fun x26 s =>
 condV x26
 (opt2 (oMov (.v x17) rec PT.nil s) fun x27 s =>
 opt2 (oBin (int2 (cmpO eqI)) (.v x27) (.v (.int .i64 7)) rec PT.nil s) fun x28 s =>
 opt2 (oMov (.v x28) rec PT.nil s) fun x29 s =>
 opt (gval true x29) fun x30 => opt2 (orUndef x30 (oMov (.v x16) rec PT.nil s) s) fun x31 s =>
 opt (gval true x29) fun x32 => opt2 (orUndef x32 (oMov (.v x24) rec PT.nil s) s) fun x33 s =>
 opt (gval true x29) fun x34 => opt2 (orUndef x34 (oBin (int2 (cmpO eqI)) (.v x31) (.v x33) rec PT.nil s) s) fun x35 s =>
 opt2 (oPick (.v x29) (.v x35) (.v (.bool false)) rec PT.nil s) fun x36 s =>
 opt2 (oMov (.v x36) rec PT.nil s) fun x37 s =>
 opt (gval true x37) fun x38 => opt2 (orUndef x38 (oMov (.v x15) rec PT.nil s) s) fun x39 s =>
 opt (gval true x37) fun x40 => opt2 (orUndef x40 (oLenL (.v x39) rec PT.nil s) s) fun x41 s =>
 opt (gval true x37) fun x42 => opt2 (orUndef x42 (oBin (int2 (cmpO eqI)) (.v x41) (.v (.int .i64 0)) rec PT.nil s) s) fun x43 s =>
 opt2 (oPick (.v x37) (.v x43) (.v (.bool false)) rec PT.nil s) fun x44 s =>
 opt2 (oMov (.v x44) rec PT.nil s) fun x45 s =>
 some (oneOf [x45], s))
 (opt2 (oMov (.v x17) rec PT.nil s) fun x46 s =>
 opt2 (oBin (int2 (cmpO neI)) (.v x46) (.v (.int .i64 0)) rec PT.nil s) fun x47 s =>
 opt2 (oMov (.v x47) rec PT.nil s) fun x48 s =>
 opt (gval false x48) fun x49 => opt2 (orUndef x49 (oMov (.v x15) rec PT.nil s) s) fun x50 s =>
 opt (gval false x48) fun x51 => opt2 (orUndef x51 (oLenL (.v x50) rec PT.nil s) s) fun x52 s =>
 opt (gval false x48) fun x53 => opt2 (orUndef x53 (oMov (.v x23) rec PT.nil s) s) fun x54 s =>
 opt (gval false x48) fun x55 => opt2 (orUndef x55 (oLenL (.v x54) rec PT.nil s) s) fun x56 s =>
 opt (gval false x48) fun x57 => opt2 (orUndef x57 (oBin (int2 (cmpO neI)) (.v x52) (.v x56) rec PT.nil s) s) fun x58 s =>
 opt2 (oPick (.v x48) (.v (.bool true)) (.v x58) rec PT.nil s) fun x59 s =>
 condV x59
 (opt2 (oMov (.v (.bool false)) rec PT.nil s) fun x60 s =>
 some (oneOf [x60], s))
 (opt2 (oMov (.v (.int .i64 0)) rec PT.nil s) fun x61 s =>
 opt2 (loopF (c4_l0 rec N) N (PT.put x61 t8 (PT.put x59 t47 (PT.put x58 t46 (PT.put x56 t45 (PT.put x54 t44 (PT.put x52 t43 (PT.put x50 t42 (PT.put x48 t41 (PT.put x47 t40 (PT.put x46 t39 (PT.put x26 t26 (PT.put x25 t25 (PT.put x24 t7 (PT.put x23 t6 (PT.put x22 t24 (PT.put x21 t23 (PT.put x20 t20 (PT.put x19 t22 (PT.put x18 t21 (PT.put x17 t5 (PT.put x16 t4 (PT.put x15 t3 (PT.put x14 t19 (PT.put x13 t18 (PT.put x12 t17 (PT.put x11 t14 (PT.put x10 t16 (PT.put x9 t15 (PT.put x7 t13 (PT.put x6 t12 (PT.put x5 t11 (PT.put x3 t10 (PT.put x2 t9 (PT.put x1 t2 (PT.put a0 t0 PT.nil))))))))))))))))))))))))))))))))))) s) fun e r => opt2 (blkX 0 e r) fun e r => opt2 (thenX (c4_r0 rec N) e r) fun e r => finX [.tmp t2] e r))))
set_option maxHeartbeats 4000000 in
theorem d4 (rec : Rec) (N : Nat) (a0 : Value) (s : St) : callF rec N c4 [a0] s = D4 rec N a0 s := by
  rw [call_f _ _ _ _ _ rfl]
  simp (maxSteps := 4000000) only [c4, lenN, x_seq, x_ops, x_skip, x_ret, x_exit, x_cond, x_block, x_loop, ops_c, ops_n, op1_u, op1_gj, rq_c, rq_n, opQ_u, opQ_g, op2_op2, op2_op, op2_s, op2_cond, thenX_n, thenX_e, thenX_r, blkX_n, blkX_r, blkX_e, finX_r, finX_n, res_n, res_t, op_s, Nat.beq_refl, cond_true, q4_g0, sm_bin, sm_box, sm_build, sm_buildslice, sm_bytesstr, sm_compl, sm_conv, sm_eqs, sm_eqv, sm_ext, sm_extract, sm_field, sm_fieldaddr, sm_func, sm_idxaa, sm_idxl, sm_idxs, sm_iface, sm_lenc, sm_lenl, sm_lens, sm_load1, sm_loadn, sm_mm, sm_mov, sm_neg, sm_new, sm_nil, sm_not, sm_pick, sm_same, sm_slices, sm_store]
  first | done | kernel_rfl
def J4_j1 (rec : Rec) (N : Nat) (k : Value × Value × Value × Value) (s : St) : OutV (Value × Value) := opt2 (oBin (int2 addO) (.v k.2.2.2) (.v (.int .i64 1)) rec PT.nil s) fun x1 s =>
 some (.norm, ((k.1, x1), s))
set_option maxHeartbeats 4000000 in
theorem j4_j1 (rec : Rec) (N : Nat) (fs : Frm) (s : St) : opt2 (c4_j1 rec N fs s) (fun e r => some (e, (((orU (r.1.get t2), orU (r.1.get t8)), (orU (r.1.get t3), orU (r.1.get t6))), r.2))) = opt2 (J4_j1 rec N (orU (fs.get t2), orU (fs.get t3), orU (fs.get t6), orU (fs.get t8)) s) fun e r => some (e, ((r.1, (orU (fs.get t3), orU (fs.get t6))), r.2)) := by
  rw [d4_j1]
  unfold D4_j1 J4_j1
  simp (maxSteps := 4000000) only [thenX_n, thenX_e, thenX_r, x_exit, x_skip, x_ret, blkX_n, blkX_r, blkX_e, finX_r, finX_n, res_n, res_t, op2_op2, op2_op, op2_s, op2_cond, op2_bf, mov_v]
  first | done | kernel_rfl
def J4_j0 (rec : Rec) (N : Nat) (k : Value × Value × Value × Value × Value) (s : St) : OutV (Value × Value) := condV k.2.2.2.2
 (some (.ret, (((.bool false), k.2.2.2.1), s)))
 (J4_j1 rec N (k.1, k.2.1, k.2.2.1, k.2.2.2.1) s)
set_option maxHeartbeats 4000000 in
theorem j4_j0 (rec : Rec) (N : Nat) (fs : Frm) (s : St) : opt2 (c4_j0 rec N fs s) (fun e r => opt2 (blkX 1 e r) fun e r => opt2 (thenX (c4_j1 rec N) e r) fun e r => some (e, (((orU (r.1.get t2), orU (r.1.get t8)), (orU (r.1.get t3), orU (r.1.get t6))), r.2))) = opt2 (J4_j0 rec N (orU (fs.get t2), orU (fs.get t3), orU (fs.get t6), orU (fs.get t8), orU (fs.get t103)) s) fun e r => some (e, ((r.1, (orU (fs.get t3), orU (fs.get t6))), r.2)) := by
  rw [d4_j0]
  unfold D4_j0 J4_j0
  simp (maxSteps := 4000000) only [thenX_n, thenX_e, thenX_r, x_exit, x_skip, x_ret, blkX_n, blkX_r, blkX_e, finX_r, finX_n, res_n, res_t, op2_op2, op2_op, op2_s, op2_cond, op2_bf, mov_v, j4_j1 rec N]
  first | done | kernel_rfl
def Q4_q0 (rec : Rec) (N : Nat) (k : Value × Value × Value × Value × Value × Value) (s : St) : OutV (Value × Value) := opt (gval false k.2.2.2.2.1) fun x1 => opt2 (orUndef x1 (oLoad1 (.v k.2.2.2.2.2) rec PT.nil s) s) fun x2 s =>
 opt (gval false k.2.2.2.2.1) fun x3 => opt2 (orUndef x3 (some (k.2.2.1, s)) s) fun x4 s =>
 opt (gval false k.2.2.2.2.1) fun x5 => opt2 (orUndef x5 (some (k.2.2.2.1, s)) s) fun x6 s =>
 opt (gval false k.2.2.2.2.1) fun x7 => opt2 (orUndef x7 (oIdxAddrL 4 (.v x4) (.v x6) rec PT.nil s) s) fun x8 s =>
 opt (gval false k.2.2.2.2.1) fun x9 => opt2 (orUndef x9 (oFieldAddr 3 (.v x8) rec PT.nil s) s) fun x10 s =>
 opt (gval false k.2.2.2.2.1) fun x11 => opt2 (orUndef x11 (oLoad1 (.v x10) rec PT.nil s) s) fun x12 s =>
 opt (gval false k.2.2.2.2.1) fun x13 => opt2 (orUndef x13 (oBin (int2 (cmpO neI)) (.v x2) (.v x12) rec PT.nil s) s) fun x14 s =>
 opt2 (oPick (.v k.2.2.2.2.1) (.v (.bool true)) (.v x14) rec PT.nil s) fun x15 s =>
 J4_j0 rec N (k.1, k.2.1, k.2.2.1, k.2.2.2.1, x15) s
set_option maxHeartbeats 4000000 in
theorem j4_q0 (rec : Rec) (N : Nat) (fs : Frm) (s : St) : opt2 (runQ rec c4_q0 fs s) (fun fs s => opt2 (c4_j0 rec N fs s) fun e r => opt2 (blkX 1 e r) fun e r => opt2 (thenX (c4_j1 rec N) e r) fun e r => some (e, (((orU (r.1.get t2), orU (r.1.get t8)), (orU (r.1.get t3), orU (r.1.get t6))), r.2))) = opt2 (Q4_q0 rec N (orU (fs.get t2), orU (fs.get t3), orU (fs.get t6), orU (fs.get t8), orU (fs.get t91), orU (fs.get t95)) s) fun e r => some (e, ((r.1, (orU (fs.get t3), orU (fs.get t6))), r.2)) := by
  rw [d4_q0]
  unfold D4_q0 Q4_q0
  simp (maxSteps := 4000000) only [thenX_n, thenX_e, thenX_r, x_exit, x_skip, x_ret, blkX_n, blkX_r, blkX_e, finX_r, finX_n, res_n, res_t, op2_op2, op2_op, op2_s, op2_cond, op2_bf, mov_v, j4_j0 rec N]
  first | done | kernel_rfl
def Q4_q1 (rec : Rec) (N : Nat) (k : Value × Value × Value × Value × Value × Value) (s : St) : OutV (Value × Value) := opt (gval false k.2.2.2.2.1) fun x1 => opt2 (orUndef x1 (oFieldAddr 2 (.v k.2.2.2.2.2) rec PT.nil s) s) fun x2 s =>
 opt (gval false k.2.2.2.2.1) fun x3 => opt2 (orUndef x3 (oLoad1 (.v x2) rec PT.nil s) s) fun x4 s =>
 opt (gval false k.2.2.2.2.1) fun x5 => opt2 (orUndef x5 (some (k.2.2.1, s)) s) fun x6 s =>
 opt (gval false k.2.2.2.2.1) fun x7 => opt2 (orUndef x7 (some (k.2.2.2.1, s)) s) fun x8 s =>
 opt (gval false k.2.2.2.2.1) fun x9 => opt2 (orUndef x9 (oIdxAddrL 4 (.v x6) (.v x8) rec PT.nil s) s) fun x10 s =>
 opt (gval false k.2.2.2.2.1) fun x11 => opt2 (orUndef x11 (oFieldAddr 2 (.v x10) rec PT.nil s) s) fun x12 s =>
 opt (gval false k.2.2.2.2.1) fun x13 => opt2 (orUndef x13 (oLoad1 (.v x12) rec PT.nil s) s) fun x14 s =>
 opt (gval false k.2.2.2.2.1) fun x15 => opt2 (orUndef x15 (oBin (int2 (cmpO neI)) (.v x4) (.v x14) rec PT.nil s) s) fun x16 s =>
 opt2 (oPick (.v k.2.2.2.2.1) (.v (.bool true)) (.v x16) rec PT.nil s) fun x17 s =>
 opt (gval false x17) fun x18 => opt2 (orUndef x18 (some (k.2.1, s)) s) fun x19 s =>
 opt (gval false x17) fun x20 => opt2 (orUndef x20 (some (k.2.2.2.1, s)) s) fun x21 s =>
 opt (gval false x17) fun x22 => opt2 (orUndef x22 (oIdxAddrL 4 (.v x19) (.v x21) rec PT.nil s) s) fun x23 s =>
 opt (gval false x17) fun x24 => opt2 (orUndef x24 (oFieldAddr 3 (.v x23) rec PT.nil s) s) fun x25 s =>
 Q4_q0 rec N (k.1, k.2.1, k.2.2.1, k.2.2.2.1, x17, x25) s
set_option maxHeartbeats 4000000 in
theorem j4_q1 (rec : Rec) (N : Nat) (fs : Frm) (s : St) : opt2 (runQ rec c4_q1 fs s) (fun fs s => opt2 (c4_j0 rec N fs s) fun e r => opt2 (blkX 1 e r) fun e r => opt2 (thenX (c4_j1 rec N) e r) fun e r => some (e, (((orU (r.1.get t2), orU (r.1.get t8)), (orU (r.1.get t3), orU (r.1.get t6))), r.2))) = opt2 (Q4_q1 rec N (orU (fs.get t2), orU (fs.get t3), orU (fs.get t6), orU (fs.get t8), orU (fs.get t78), orU (fs.get t81)) s) fun e r => some (e, ((r.1, (orU (fs.get t3), orU (fs.get t6))), r.2)) := by
  rw [d4_q1]
  unfold D4_q1 Q4_q1
  simp (maxSteps := 4000000) only [thenX_n, thenX_e, thenX_r, x_exit, x_skip, x_ret, blkX_n, blkX_r, blkX_e, finX_r, finX_n, res_n, res_t, op2_op2, op2_op, op2_s, op2_cond, op2_bf, mov_v, j4_q0 rec N]
  first | done | kernel_rfl
def Q4_q2 (rec : Rec) (N : Nat) (k : Value × Value × Value × Value × Value × Value × Value) (s : St) : OutV (Value × Value) := opt (gval false k.2.2.2.2.1) fun x1 => opt2 (orUndef x1 (oIdxAddrL 4 (.v k.2.2.2.2.2.1) (.v k.2.2.2.2.2.2) rec PT.nil s) s) fun x2 s =>
 opt (gval false k.2.2.2.2.1) fun x3 => opt2 (orUndef x3 (oFieldAddr 1 (.v x2) rec PT.nil s) s) fun x4 s =>
 opt (gval false k.2.2.2.2.1) fun x5 => opt2 (orUndef x5 (oLoad1 (.v x4) rec PT.nil s) s) fun x6 s =>
 opt (gval false k.2.2.2.2.1) fun x7 => opt2 (orUndef x7 (some (k.2.2.1, s)) s) fun x8 s =>
 opt (gval false k.2.2.2.2.1) fun x9 => opt2 (orUndef x9 (some (k.2.2.2.1, s)) s) fun x10 s =>
 opt (gval false k.2.2.2.2.1) fun x11 => opt2 (orUndef x11 (oIdxAddrL 4 (.v x8) (.v x10) rec PT.nil s) s) fun x12 s =>
 opt (gval false k.2.2.2.2.1) fun x13 => opt2 (orUndef x13 (oFieldAddr 1 (.v x12) rec PT.nil s) s) fun x14 s =>
 opt (gval false k.2.2.2.2.1) fun x15 => opt2 (orUndef x15 (oLoad1 (.v x14) rec PT.nil s) s) fun x16 s =>
 opt (gval false k.2.2.2.2.1) fun x17 => opt2 (orUndef x17 (oBin (str2 (cmpS neBytes)) (.v x6) (.v x16) rec PT.nil s) s) fun x18 s =>
 opt2 (oPick (.v k.2.2.2.2.1) (.v (.bool true)) (.v x18) rec PT.nil s) fun x19 s =>
 opt (gval false x19) fun x20 => opt2 (orUndef x20 (some (k.2.1, s)) s) fun x21 s =>
 opt (gval false x19) fun x22 => opt2 (orUndef x22 (some (k.2.2.2.1, s)) s) fun x23 s =>
 opt (gval false x19) fun x24 => opt2 (orUndef x24 (oIdxAddrL 4 (.v x21) (.v x23) rec PT.nil s) s) fun x25 s =>
 Q4_q1 rec N (k.1, k.2.1, k.2.2.1, k.2.2.2.1, x19, x25) s
set_option maxHeartbeats 4000000 in
theorem j4_q2 (rec : Rec) (N : Nat) (fs : Frm) (s : St) : opt2 (runQ rec c4_q2 fs s) (fun fs s => opt2 (c4_j0 rec N fs s) fun e r => opt2 (blkX 1 e r) fun e r => opt2 (thenX (c4_j1 rec N) e r) fun e r => some (e, (((orU (r.1.get t2), orU (r.1.get t8)), (orU (r.1.get t3), orU (r.1.get t6))), r.2))) = opt2 (Q4_q2 rec N (orU (fs.get t2), orU (fs.get t3), orU (fs.get t6), orU (fs.get t8), orU (fs.get t65), orU (fs.get t66), orU (fs.get t67)) s) fun e r => some (e, ((r.1, (orU (fs.get t3), orU (fs.get t6))), r.2)) := by
  rw [d4_q2]
  unfold D4_q2 Q4_q2
  simp (maxSteps := 4000000) only [thenX_n, thenX_e, thenX_r, x_exit, x_skip, x_ret, blkX_n, blkX_r, blkX_e, finX_r, finX_n, res_n, res_t, op2_op2, op2_op, op2_s, op2_cond, op2_bf, mov_v, j4_q1 rec N]
  first | done | kernel_rfl
def J4_r0 (rec : Rec) (N : Nat) (k : Unit) (s : St) : Out := some (oneOf [(.bool true)], s)
set_option maxHeartbeats 4000000 in
theorem j4_r0 (rec : Rec) (N : Nat) (fs : Frm) (s : St) : opt2 (c4_r0 rec N fs s) (fun e r => finX [.tmp t2] e r) = J4_r0 rec N () s := by
  rw [d4_r0]
  unfold D4_r0 J4_r0
  simp (maxSteps := 4000000) only [thenX_n, thenX_e, thenX_r, x_exit, x_skip, x_ret, blkX_n, blkX_r, blkX_e, finX_r, finX_n, res_n, res_t, op2_op2, op2_op, op2_s, op2_cond, op2_bf, mov_v]
  first | done | kernel_rfl
def B4_l0 (rec : Rec) (N : Nat) (k : Value × Value) (v : Value × Value) (s : St) : OutV (Value × Value) := opt2 (oLenL (.v k.1) rec PT.nil s) fun x1 s =>
 opt2 (oBin (int2 (cmpO ltI)) (.v v.2) (.v x1) rec PT.nil s) fun x2 s =>
 condV x2
 (opt2 (oIdxAddrL 4 (.v k.1) (.v v.2) rec PT.nil s) fun x3 s =>
 opt2 (oFieldAddr 0 (.v x3) rec PT.nil s) fun x4 s =>
 opt2 (oLoad1 (.v x4) rec PT.nil s) fun x5 s =>
 opt2 (oIdxAddrL 4 (.v k.2) (.v v.2) rec PT.nil s) fun x6 s =>
 opt2 (oFieldAddr 0 (.v x6) rec PT.nil s) fun x7 s =>
 opt2 (oLoad1 (.v x7) rec PT.nil s) fun x8 s =>
 opt2 (oBin (int2 (cmpO neI)) (.v x5) (.v x8) rec PT.nil s) fun x9 s =>
 opt (gval false x9) fun x10 => opt2 (orUndef x10 (some (k.1, s)) s) fun x11 s =>
 opt (gval false x9) fun x12 => opt2 (orUndef x12 (some (v.2, s)) s) fun x13 s =>
 Q4_q2 rec N (v.1, k.1, k.2, v.2, x9, x11, x13) s)
 (some ((.exit 0), ((v.1, v.2), s)))
set_option maxHeartbeats 4000000 in
theorem s4_l0 (rec : Rec) (N : Nat) (fs : Frm) (s : St) : opt2 (c4_l0 rec N fs s) (fun e r => some (e, (((orU (r.1.get t2), orU (r.1.get t8)), (orU (r.1.get t3), orU (r.1.get t6))), r.2))) = opt2 (B4_l0 rec N (orU (fs.get t3), orU (fs.get t6)) (orU (fs.get t2), orU (fs.get t8)) s) fun e r => some (e, ((r.1, (orU (fs.get t3), orU (fs.get t6))), r.2)) := by
  rw [d4_l0]
  unfold D4_l0 B4_l0
  simp (maxSteps := 4000000) only [op2_op2, op2_op, op2_s, op2_cond, op2_bf, mov_v, j4_q2 rec N]
  first | done | kernel_rfl
def C4_l0 (rec : Rec) (N : Nat) (k : Value × Value) (e : AExit) (r : (Value × Value) × St) : Out := (fun s => exV (fun i => bif Nat.beq i 0 then (J4_r0 rec N () s)
 else (none))
 (some (oneOf [r.1.1], s)) e) r.2
theorem j4_l0 (rec : Rec) (N : Nat) (fs : Frm) (s : St) : opt2 (loopF (c4_l0 rec N) N fs s) (fun e r => opt2 (blkX 0 e r) fun e r => opt2 (thenX (c4_r0 rec N) e r) fun e r => finX [.tmp t2] e r) = opt2 (loopV (B4_l0 rec N (orU (fs.get t3), orU (fs.get t6))) N (orU (fs.get t2), orU (fs.get t8)) s) (C4_l0 rec N (orU (fs.get t3), orU (fs.get t6))) := by
  refine loop_j (fun fs => (orU (fs.get t2), orU (fs.get t8))) (fun fs => (orU (fs.get t3), orU (fs.get t6))) (B4_l0 rec N) (c4_l0 rec N) (s4_l0 rec N) (fun e r => opt2 (blkX 0 e r) fun e r => opt2 (thenX (c4_r0 rec N) e r) fun e r => finX [.tmp t2] e r) (C4_l0 rec N) ?_ ?_ N fs s
  · intro i fs s
    unfold C4_l0
    simp (maxSteps := 4000000) only [thenX_n, thenX_e, thenX_r, x_exit, x_skip, x_ret, blkX_n, blkX_r, blkX_e, finX_r, finX_n, res_n, res_t, exV_e, exV_r, op2_op2, op2_op, op2_s, op2_cond, op2_bf, mov_v, j4_r0 rec N]
    first | done | kernel_rfl
  · intro fs s
    unfold C4_l0
    simp (maxSteps := 4000000) only [thenX_n, thenX_e, thenX_r, x_exit, x_skip, x_ret, blkX_n, blkX_r, blkX_e, finX_r, finX_n, res_n, res_t, exV_e, exV_r, op2_op2, op2_op, op2_s, op2_cond, op2_bf, mov_v, j4_r0 rec N]
    first | done | kernel_rfl
def F4 (rec : Rec) (N : Nat) (a0 : Value) (s : St) : Out := opt2 (rec 8 [] s) fun x1 s =>
 opt2 (oNot (.v x1) rec PT.nil s) fun x2 s =>
 condV x2
 (some (oneOf [(.bool false)], s))
 (opt2 (oLenS (.v a0) rec PT.nil s) fun x3 s =>
 opt2 (oBin (int2 (cmpO gtI)) (.v x3) (.v (.int .i64 3000)) rec PT.nil s) fun x4 s =>
 condV x4
 (some (oneOf [(.bool true)], s))
 (opt2 (rec 9 [a0] s) fun x5 s =>
 opt2 (oExtract (.v x5) 0 rec PT.nil s) fun x6 s =>
 opt2 (oExtract (.v x5) 1 rec PT.nil s) fun x7 s =>
 opt2 (oExtract (.v x5) 2 rec PT.nil s) fun x8 s =>
 opt2 (rec 10 [a0] s) fun x9 s =>
 opt2 (oExtract (.v x9) 0 rec PT.nil s) fun x10 s =>
 opt2 (oExtract (.v x9) 1 rec PT.nil s) fun x11 s =>
 opt2 (oBin (int2 (cmpO geI)) (.v x11) (.v (.int .i64 0)) rec PT.nil s) fun x12 s =>
 condV x12
 (opt2 (oBin (int2 (cmpO eqI)) (.v x8) (.v (.int .i64 7)) rec PT.nil s) fun x13 s =>
 opt (gval true x13) fun x14 => opt2 (orUndef x14 (some (x7, s)) s) fun x15 s =>
 opt (gval true x13) fun x16 => opt2 (orUndef x16 (some (x11, s)) s) fun x17 s =>
 opt (gval true x13) fun x18 => opt2 (orUndef x18 (oBin (int2 (cmpO eqI)) (.v x15) (.v x17) rec PT.nil s) s) fun x19 s =>
 opt2 (oPick (.v x13) (.v x19) (.v (.bool false)) rec PT.nil s) fun x20 s =>
 opt (gval true x20) fun x21 => opt2 (orUndef x21 (some (x6, s)) s) fun x22 s =>
 opt (gval true x20) fun x23 => opt2 (orUndef x23 (oLenL (.v x22) rec PT.nil s) s) fun x24 s =>
 opt (gval true x20) fun x25 => opt2 (orUndef x25 (oBin (int2 (cmpO eqI)) (.v x24) (.v (.int .i64 0)) rec PT.nil s) s) fun x26 s =>
 opt2 (oPick (.v x20) (.v x26) (.v (.bool false)) rec PT.nil s) fun x27 s =>
 some (oneOf [x27], s))
 (opt2 (oBin (int2 (cmpO neI)) (.v x8) (.v (.int .i64 0)) rec PT.nil s) fun x28 s =>
 opt (gval false x28) fun x29 => opt2 (orUndef x29 (some (x6, s)) s) fun x30 s =>
 opt (gval false x28) fun x31 => opt2 (orUndef x31 (oLenL (.v x30) rec PT.nil s) s) fun x32 s =>
 opt (gval false x28) fun x33 => opt2 (orUndef x33 (some (x10, s)) s) fun x34 s =>
 opt (gval false x28) fun x35 => opt2 (orUndef x35 (oLenL (.v x34) rec PT.nil s) s) fun x36 s =>
 opt (gval false x28) fun x37 => opt2 (orUndef x37 (oBin (int2 (cmpO neI)) (.v x32) (.v x36) rec PT.nil s) s) fun x38 s =>
 opt2 (oPick (.v x28) (.v (.bool true)) (.v x38) rec PT.nil s) fun x39 s =>
 condV x39
 (some (oneOf [(.bool false)], s))
 (opt2 (loopV (B4_l0 rec N (x6, x10)) N ((.bool false), (.int .i64 0)) s) (C4_l0 rec N (x6, x10))))))
theorem f4 (rec : Rec) (N : Nat) (a0 : Value) (s : St) : callF rec N c4 [a0] s = F4 rec N a0 s := by
  rw [d4]
  unfold D4 F4
  simp (maxSteps := 4000000) only [mov_v, op2_s, j4_l0 rec N]
  first | done | kernel_rfl
-- c9
def D9_l0 (rec : Rec) (N : Nat) (fs : Frm) (s : St) : OutX := opt2 (oMov (.v (orU (fs.get t6))) rec PT.nil s) fun x1 s =>
 opt2 (oMov (.v (orU (fs.get t0))) rec PT.nil s) fun x2 s =>
 opt2 (oLenS (.v x2) rec PT.nil s) fun x3 s =>
 opt2 (oBin (int2 (cmpO ltI)) (.v x1) (.v x3) rec PT.nil s) fun x4 s =>
 condV x4
 (opt2 (oMov (.v (orU (fs.get t0))) rec PT.nil s) fun x5 s =>
 opt2 (oMov (.v (orU (fs.get t6))) rec PT.nil s) fun x6 s =>
 opt2 (oSliceS (.v x5) (some (.v x6)) none rec PT.nil s) fun x7 s =>
 opt2 (rec 15 [x7] s) fun x8 s =>
 opt2 (oNew [(.int .i64 0), (.string ⟨⟨[]⟩⟩), (.int .i64 0), (.int .i64 0)] rec PT.nil s) fun x9 s =>
 opt2 (oStore 4 (.v x9) (.v x8) rec PT.nil s) fun x10 s =>
 opt2 (oFieldAddr 0 (.v x9) rec PT.nil s) fun x11 s =>
 opt2 (oLoad1 (.v x11) rec PT.nil s) fun x12 s =>
 opt2 (oBin (int2 (cmpO eqI)) (.v x12) (.v (.int .i64 0)) rec PT.nil s) fun x13 s =>
 condV x13
 (opt2 (oMov (.v (orU (fs.get t6))) rec PT.nil s) fun x14 s =>
 opt2 (oMov (.v (.slice none 0 0)) rec PT.nil s) fun x15 s =>
 opt2 (oMov (.v x14) rec PT.nil s) fun x16 s =>
 opt2 (oMov (.v (.int .i64 7)) rec PT.nil s) fun x17 s =>
 some (.ret, (PT.put x17 t4 (PT.put x16 t3 (PT.put x15 t2 (PT.put x14 t30 (PT.put x13 t29 (PT.put x12 t28 (PT.put x11 t27 (PT.put x9 t7 (PT.put x8 t26 (PT.put x7 t25 (PT.put x6 t24 (PT.put x5 t23 (PT.put x4 t16 (PT.put x3 t15 (PT.put x2 t14 (PT.put x1 t13 fs)))))))))))))))), s))
 (opt2 (oMov (.v (orU (fs.get t6))) rec PT.nil s) fun x18 s =>
 opt2 (oFieldAddr 3 (.v x9) rec PT.nil s) fun x19 s =>
 opt2 (oStore 1 (.v x19) (.v x18) rec PT.nil s) fun x20 s =>
 opt2 (oMov (.v (orU (fs.get t5))) rec PT.nil s) fun x21 s =>
 opt2 (oLoadN 4 (.v x9) rec PT.nil s) fun x22 s =>
 opt2 (oBuildSlice 1 [(.int .i64 0), (.string ⟨⟨[]⟩⟩), (.int .i64 0), (.int .i64 0)] [(0, 4, (.v x22))] rec PT.nil s) fun x23 s =>
 opt2 (oAppend 4 40 (.v x21) (.v x23) rec PT.nil s) fun x24 s =>
 opt2 (oMov (.v x24) rec PT.nil s) fun x25 s =>
 opt2 (oMov (.v (orU (fs.get t6))) rec PT.nil s) fun x26 s =>
 opt2 (oFieldAddr 1 (.v x9) rec PT.nil s) fun x27 s =>
 opt2 (oLoad1 (.v x27) rec PT.nil s) fun x28 s =>
 opt2 (oLenS (.v x28) rec PT.nil s) fun x29 s =>
 opt2 (oBin (int2 addO) (.v x26) (.v x29) rec PT.nil s) fun x30 s =>
 opt2 (oMov (.v x30) rec PT.nil s) fun x31 s =>
 opt2 (oMov (.v x31) rec PT.nil s) fun x32 s =>
 opt2 (oMov (.v (orU (fs.get t0))) rec PT.nil s) fun x33 s =>
 opt2 (oMov (.v x31) rec PT.nil s) fun x34 s =>
 opt2 (oSliceS (.v x33) (some (.v x34)) none rec PT.nil s) fun x35 s =>
 opt2 (rec 14 [x35] s) fun x36 s =>
 opt2 (oBin (int2 addO) (.v x32) (.v x36) rec PT.nil s) fun x37 s =>
 opt2 (oMov (.v x37) rec PT.nil s) fun x38 s =>
 some (.norm, (PT.put x38 t6 (PT.put x37 t22 (PT.put x36 t21 (PT.put x35 t20 (PT.put x34 t19 (PT.put x33 t18 (PT.put x32 t17 (PT.put x31 t6 (PT.put x30 t41 (PT.put x29 t40 (PT.put x28 t39 (PT.put x27 t38 (PT.put x26 t37 (PT.put x25 t5 (PT.put x24 t36 (PT.put x23 t35 (PT.put x22 t34 (PT.put x21 t33 (PT.put x19 t32 (PT.put x18 t31 (PT.put x13 t29 (PT.put x12 t28 (PT.put x11 t27 (PT.put x9 t7 (PT.put x8 t26 (PT.put x7 t25 (PT.put x6 t24 (PT.put x5 t23 (PT.put x4 t16 (PT.put x3 t15 (PT.put x2 t14 (PT.put x1 t13 fs)))))))))))))))))))))))))))))))), s)))
 (some ((.exit 0), (PT.put x4 t16 (PT.put x3 t15 (PT.put x2 t14 (PT.put x1 t13 fs)))), s))
set_option maxHeartbeats 4000000 in
theorem d9_l0 (rec : Rec) (N : Nat) (fs : Frm) (s : St) : c9_l0 rec N fs s = D9_l0 rec N fs s := by
  simp (maxSteps := 4000000) only [c9_l0, lenN, x_seq, x_ops, x_skip, x_ret, x_exit, x_cond, x_block, x_loop, ops_c, ops_n, op1_u, op1_gj, rq_c, rq_n, opQ_u, opQ_g, op2_op2, op2_op, op2_s, op2_cond, thenX_n, thenX_e, thenX_r, blkX_n, blkX_r, blkX_e, finX_r, finX_n, res_n, res_t, op_s, Nat.beq_refl, cond_true]
  first | done | kernel_rfl
def D9_r0 (rec : Rec) (N : Nat) (fs : Frm) (s : St) : OutX := opt2 (oMov (.v (orU (fs.get t5))) rec PT.nil s) fun x1 s =>
 opt2 (oMov (.v (orU (fs.get t0))) rec PT.nil s) fun x2 s =>
 opt2 (oLenS (.v x2) rec PT.nil s) fun x3 s =>
 opt2 (oBuild [(.int .i64 0), (.string ⟨⟨[]⟩⟩), (.int .i64 0), (.int .i64 0)] [(3, 1, (.v x3))] rec PT.nil s) fun x4 s =>
 opt2 (oBuildSlice 1 [(.int .i64 0), (.string ⟨⟨[]⟩⟩), (.int .i64 0), (.int .i64 0)] [(0, 4, (.v x4))] rec PT.nil s) fun x5 s =>
 opt2 (oAppend 4 40 (.v x1) (.v x5) rec PT.nil s) fun x6 s =>
 opt2 (oMov (.v x6) rec PT.nil s) fun x7 s =>
 opt2 (oMov (.v (.int .i64 0)) rec PT.nil s) fun x8 s =>
 opt2 (oMov (.v (.int .i64 0)) rec PT.nil s) fun x9 s =>
 some (.ret, (PT.put x9 t4 (PT.put x8 t3 (PT.put x7 t2 (PT.put x6 t47 (PT.put x5 t46 (PT.put x4 t45 (PT.put x3 t44 (PT.put x2 t43 (PT.put x1 t42 fs))))))))), s)
set_option maxHeartbeats 4000000 in
theorem d9_r0 (rec : Rec) (N : Nat) (fs : Frm) (s : St) : c9_r0 rec N fs s = D9_r0 rec N fs s := by
  simp (maxSteps := 4000000) only [c9_r0, lenN, x_seq, x_ops, x_skip, x_ret, x_exit, x_cond, x_block, x_loop, ops_c, ops_n, op1_u, op1_gj, rq_c, rq_n, opQ_u, opQ_g, op2_op2, op2_op, op2_s, op2_cond, thenX_n, thenX_e, thenX_r, blkX_n, blkX_r, blkX_e, finX_r, finX_n, res_n, res_t, op_s, Nat.beq_refl, cond_true]
  first | done | kernel_rfl
def D9 (rec : Rec) (N : Nat) (a0 : Value) (s : St) : Out := opt2 (oMov (.v (.slice none 0 0)) rec PT.nil s) fun x1 s =>
 opt2 (oMov (.v (.int .i64 0)) rec PT.nil s) fun x2 s =>
 opt2 (oMov (.v (.int .i64 0)) rec PT.nil s) fun x3 s =>
 opt2 (oMov (.v a0) rec PT.nil s) fun x4 s =>
 opt2 (oLenS (.v x4) rec PT.nil s) fun x5 s =>
 opt2 (oBin (int2 (cmpO gtI)) (.v x5) (.v (.int .i64 8192)) rec PT.nil s) fun x6 s =>
 condV x6
 (opt2 (oMov (.v (.slice none 0 0)) rec PT.nil s) fun x7 s =>
 opt2 (oMov (.v (.int .i64 0)) rec PT.nil s) fun x8 s =>
 opt2 (oMov (.v (.int .i64 2)) rec PT.nil s) fun x9 s =>
 some (oneOf [x7, x8, x9], s))
 (opt2 (oMov (.v (.slice none 0 0)) rec PT.nil s) fun x10 s =>
 opt2 (oMov (.v a0) rec PT.nil s) fun x11 s =>
 opt2 (rec 14 [x11] s) fun x12 s =>
 opt2 (oMov (.v x12) rec PT.nil s) fun x13 s =>
 opt2 (loopF (c9_l0 rec N) N (PT.put x13 t6 (PT.put x12 t12 (PT.put x11 t11 (PT.put x10 t5 (PT.put x6 t10 (PT.put x5 t9 (PT.put x4 t8 (PT.put x3 t4 (PT.put x2 t3 (PT.put x1 t2 (PT.put a0 t0 PT.nil))))))))))) s) fun e r => opt2 (blkX 0 e r) fun e r => opt2 (thenX (c9_r0 rec N) e r) fun e r => finX [.tmp t2, .tmp t3, .tmp t4] e r)
set_option maxHeartbeats 4000000 in
theorem d9 (rec : Rec) (N : Nat) (a0 : Value) (s : St) : callF rec N c9 [a0] s = D9 rec N a0 s := by
  rw [call_f _ _ _ _ _ rfl]
  simp (maxSteps := 4000000) only [c9, lenN, x_seq, x_ops, x_skip, x_ret, x_exit, x_cond, x_block, x_loop, ops_c, ops_n, op1_u, op1_gj, rq_c, rq_n, opQ_u, opQ_g, op2_op2, op2_op, op2_s, op2_cond, thenX_n, thenX_e, thenX_r, blkX_n, blkX_r, blkX_e, finX_r, finX_n, res_n, res_t, op_s, Nat.beq_refl, cond_true]
  first | done | kernel_rfl
def J9_r0 (rec : Rec) (N : Nat) (k : Value × Value) (s : St) : Out := opt2 (oLenS (.v k.1) rec PT.nil s) fun x1 s =>
 opt2 (oBuild [(.int .i64 0), (.string ⟨⟨[]⟩⟩), (.int .i64 0), (.int .i64 0)] [(3, 1, (.v x1))] rec PT.nil s) fun x2 s =>
 opt2 (oBuildSlice 1 [(.int .i64 0), (.string ⟨⟨[]⟩⟩), (.int .i64 0), (.int .i64 0)] [(0, 4, (.v x2))] rec PT.nil s) fun x3 s =>
 opt2 (oAppend 4 40 (.v k.2) (.v x3) rec PT.nil s) fun x4 s =>
 some (oneOf [x4, (.int .i64 0), (.int .i64 0)], s)
set_option maxHeartbeats 4000000 in
theorem j9_r0 (rec : Rec) (N : Nat) (fs : Frm) (s : St) : opt2 (c9_r0 rec N fs s) (fun e r => finX [.tmp t2, .tmp t3, .tmp t4] e r) = J9_r0 rec N (orU (fs.get t0), orU (fs.get t5)) s := by
  rw [d9_r0]
  unfold D9_r0 J9_r0
  simp (maxSteps := 4000000) only [thenX_n, thenX_e, thenX_r, x_exit, x_skip, x_ret, blkX_n, blkX_r, blkX_e, finX_r, finX_n, res_n, res_t, op2_op2, op2_op, op2_s, op2_cond, op2_bf, mov_v]
  first | done | kernel_rfl
def B9_l0 (rec : Rec) (N : Nat) (k : Value) (v : Value × Value × Value × Value × Value) (s : St) : OutV (Value × Value × Value × Value × Value) := opt2 (oLenS (.v k) rec PT.nil s) fun x1 s =>
 opt2 (oBin (int2 (cmpO ltI)) (.v v.2.2.2.2) (.v x1) rec PT.nil s) fun x2 s =>
 condV x2
 (opt2 (oSliceS (.v k) (some (.v v.2.2.2.2)) none rec PT.nil s) fun x3 s =>
 opt2 (rec 15 [x3] s) fun x4 s =>
 opt2 (oNew [(.int .i64 0), (.string ⟨⟨[]⟩⟩), (.int .i64 0), (.int .i64 0)] rec PT.nil s) fun x5 s =>
 opt2 (oStore 4 (.v x5) (.v x4) rec PT.nil s) fun x6 s =>
 opt2 (oFieldAddr 0 (.v x5) rec PT.nil s) fun x7 s =>
 opt2 (oLoad1 (.v x7) rec PT.nil s) fun x8 s =>
 opt2 (oBin (int2 (cmpO eqI)) (.v x8) (.v (.int .i64 0)) rec PT.nil s) fun x9 s =>
 condV x9
 (some (.ret, (((.slice none 0 0), v.2.2.2.2, (.int .i64 7), v.2.2.2.1, v.2.2.2.2), s)))
 (opt2 (oFieldAddr 3 (.v x5) rec PT.nil s) fun x10 s =>
 opt2 (oStore 1 (.v x10) (.v v.2.2.2.2) rec PT.nil s) fun x11 s =>
 opt2 (oLoadN 4 (.v x5) rec PT.nil s) fun x12 s =>
 opt2 (oBuildSlice 1 [(.int .i64 0), (.string ⟨⟨[]⟩⟩), (.int .i64 0), (.int .i64 0)] [(0, 4, (.v x12))] rec PT.nil s) fun x13 s =>
 opt2 (oAppend 4 40 (.v v.2.2.2.1) (.v x13) rec PT.nil s) fun x14 s =>
 opt2 (oFieldAddr 1 (.v x5) rec PT.nil s) fun x15 s =>
 opt2 (oLoad1 (.v x15) rec PT.nil s) fun x16 s =>
 opt2 (oLenS (.v x16) rec PT.nil s) fun x17 s =>
 opt2 (oBin (int2 addO) (.v v.2.2.2.2) (.v x17) rec PT.nil s) fun x18 s =>
 opt2 (oSliceS (.v k) (some (.v x18)) none rec PT.nil s) fun x19 s =>
 opt2 (rec 14 [x19] s) fun x20 s =>
 opt2 (oBin (int2 addO) (.v x18) (.v x20) rec PT.nil s) fun x21 s =>
 some (.norm, ((v.1, v.2.1, v.2.2.1, x14, x21), s))))
 (some ((.exit 0), ((v.1, v.2.1, v.2.2.1, v.2.2.2.1, v.2.2.2.2), s)))
set_option maxHeartbeats 4000000 in
theorem s9_l0 (rec : Rec) (N : Nat) (fs : Frm) (s : St) : opt2 (c9_l0 rec N fs s) (fun e r => some (e, (((orU (r.1.get t2), orU (r.1.get t3), orU (r.1.get t4), orU (r.1.get t5), orU (r.1.get t6)), (orU (r.1.get t0))), r.2))) = opt2 (B9_l0 rec N (orU (fs.get t0)) (orU (fs.get t2), orU (fs.get t3), orU (fs.get t4), orU (fs.get t5), orU (fs.get t6)) s) fun e r => some (e, ((r.1, (orU (fs.get t0))), r.2)) := by
  rw [d9_l0]
  unfold D9_l0 B9_l0
  simp (maxSteps := 4000000) only [op2_op2, op2_op, op2_s, op2_cond, op2_bf, mov_v]
  first | done | kernel_rfl
def C9_l0 (rec : Rec) (N : Nat) (k : Value) (e : AExit) (r : (Value × Value × Value × Value × Value) × St) : Out := (fun s => exV (fun i => bif Nat.beq i 0 then (J9_r0 rec N (k, r.1.2.2.2.1) s)
 else (none))
 (some (oneOf [r.1.1, r.1.2.1, r.1.2.2.1], s)) e) r.2
theorem j9_l0 (rec : Rec) (N : Nat) (fs : Frm) (s : St) : opt2 (loopF (c9_l0 rec N) N fs s) (fun e r => opt2 (blkX 0 e r) fun e r => opt2 (thenX (c9_r0 rec N) e r) fun e r => finX [.tmp t2, .tmp t3, .tmp t4] e r) = opt2 (loopV (B9_l0 rec N (orU (fs.get t0))) N (orU (fs.get t2), orU (fs.get t3), orU (fs.get t4), orU (fs.get t5), orU (fs.get t6)) s) (C9_l0 rec N (orU (fs.get t0))) := by
  refine loop_j (fun fs => (orU (fs.get t2), orU (fs.get t3), orU (fs.get t4), orU (fs.get t5), orU (fs.get t6))) (fun fs => (orU (fs.get t0))) (B9_l0 rec N) (c9_l0 rec N) (s9_l0 rec N) (fun e r => opt2 (blkX 0 e r) fun e r => opt2 (thenX (c9_r0 rec N) e r) fun e r => finX [.tmp t2, .tmp t3, .tmp t4] e r) (C9_l0 rec N) ?_ ?_ N fs s
  · intro i fs s
    unfold C9_l0
    simp (maxSteps := 4000000) only [thenX_n, thenX_e, thenX_r, x_exit, x_skip, x_ret, blkX_n, blkX_r, blkX_e, finX_r, finX_n, res_n, res_t, exV_e, exV_r, op2_op2, op2_op, op2_s, op2_cond, op2_bf, mov_v, j9_r0 rec N]
    first | done | kernel_rfl
  · intro fs s
    unfold C9_l0
    simp (maxSteps := 4000000) only [thenX_n, thenX_e, thenX_r, x_exit, x_skip, x_ret, blkX_n, blkX_r, blkX_e, finX_r, finX_n, res_n, res_t, exV_e, exV_r, op2_op2, op2_op, op2_s, op2_cond, op2_bf, mov_v, j9_r0 rec N]
    first | done | kernel_rfl
def F9 (rec : Rec) (N : Nat) (a0 : Value) (s : St) : Out := opt2 (oLenS (.v a0) rec PT.nil s) fun x1 s =>
 opt2 (oBin (int2 (cmpO gtI)) (.v x1) (.v (.int .i64 8192)) rec PT.nil s) fun x2 s =>
 condV x2
 (some (oneOf [(.slice none 0 0), (.int .i64 0), (.int .i64 2)], s))
 (opt2 (rec 14 [a0] s) fun x3 s =>
 opt2 (loopV (B9_l0 rec N a0) N ((.slice none 0 0), (.int .i64 0), (.int .i64 0), (.slice none 0 0), x3) s) (C9_l0 rec N a0))
theorem f9 (rec : Rec) (N : Nat) (a0 : Value) (s : St) : callF rec N c9 [a0] s = F9 rec N a0 s := by
  rw [d9]
  unfold D9 F9
  simp (maxSteps := 4000000) only [mov_v, op2_s, j9_l0 rec N]
  first | done | kernel_rfl
-- c10
def D10_q0 (rec : Rec) (fs : Frm) (s : St) : Option (Frm × St) := opt (gval false (orU (fs.get t78))) fun x1 => opt2 (orUndef x1 (oMov (.v (orU (fs.get t0))) rec PT.nil s) s) fun x2 s =>
 opt (gval false (orU (fs.get t78))) fun x3 => opt2 (orUndef x3 (oMov (.v (orU (fs.get t5))) rec PT.nil s) s) fun x4 s =>
 opt (gval false (orU (fs.get t78))) fun x5 => opt2 (orUndef x5 (oMov (.v (orU (fs.get t8))) rec PT.nil s) s) fun x6 s =>
 opt (gval false (orU (fs.get t78))) fun x7 => opt2 (orUndef x7 (oBin (int2 addO) (.v x4) (.v x6) rec PT.nil s) s) fun x8 s =>
 opt (gval false (orU (fs.get t78))) fun x9 => opt2 (orUndef x9 (oIdxS (.v x2) (.v x8) rec PT.nil s) s) fun x10 s =>
 opt (gval false (orU (fs.get t78))) fun x11 => opt2 (orUndef x11 (rec 17 [x10] s) s) fun x12 s =>
 opt (gval true (orU (fs.get t71))) fun x13 => opt2 (orUndef x13 (oPick (.v (orU (fs.get t78))) (.v (.bool true)) (.v x12) rec PT.nil s) s) fun x14 s =>
 opt (gval true (orU (fs.get t71))) fun x15 => opt2 (orUndef x15 (oMov (.v x14) rec PT.nil s) s) fun x16 s =>
 opt (gval false x16) fun x17 => opt2 (orUndef x17 (oMov (.v (orU (fs.get t0))) rec PT.nil s) s) fun x18 s =>
 opt (gval false x16) fun x19 => opt2 (orUndef x19 (oMov (.v (orU (fs.get t5))) rec PT.nil s) s) fun x20 s =>
 opt (gval false x16) fun x21 => opt2 (orUndef x21 (oMov (.v (orU (fs.get t8))) rec PT.nil s) s) fun x22 s =>
 opt (gval false x16) fun x23 => opt2 (orUndef x23 (oBin (int2 addO) (.v x20) (.v x22) rec PT.nil s) s) fun x24 s =>
 opt (gval false x16) fun x25 => opt2 (orUndef x25 (oIdxS (.v x18) (.v x24) rec PT.nil s) s) fun x26 s =>
 opt (gval false x16) fun x27 => opt2 (orUndef x27 (oBin (int2 (cmpO eqI)) (.v x26) (.v (.int .u8 95)) rec PT.nil s) s) fun x28 s =>
 opt (gval true (orU (fs.get t71))) fun x29 => opt2 (orUndef x29 (oPick (.v x16) (.v (.bool true)) (.v x28) rec PT.nil s) s) fun x30 s =>
 opt2 (oPick (.v (orU (fs.get t71))) (.v x30) (.v (.bool false)) rec PT.nil s) fun x31 s =>
 some ((PT.put x31 t94 (PT.put x30 t93 (PT.put x28 t92 (PT.put x26 t91 (PT.put x24 t90 (PT.put x22 t89 (PT.put x20 t88 (PT.put x18 t87 (PT.put x16 t86 (PT.put x14 t85 (PT.put x12 t84 (PT.put x10 t83 (PT.put x8 t82 (PT.put x6 t81 (PT.put x4 t80 (PT.put x2 t79 fs)))))))))))))))), s)
set_option maxHeartbeats 4000000 in
theorem d10_q0 (rec : Rec) (fs : Frm) (s : St) : runOps rec c10_q0 fs s = D10_q0 rec fs s := by
  simp (maxSteps := 4000000) only [c10_q0, ops_c, ops_n, op1_u, op1_gj, rq_c, rq_n, opQ_u, opQ_g, op2_op2, op2_op, op2_s]
  first | done | kernel_rfl
def D10_q1 (rec : Rec) (fs : Frm) (s : St) : Option (Frm × St) := opt (gval true (orU (fs.get t139))) fun x1 => opt2 (orUndef x1 (oBin (int2 addO) (.v (orU (fs.get t141))) (.v (orU (fs.get t142))) rec PT.nil s) s) fun x2 s =>
 opt (gval true (orU (fs.get t139))) fun x3 => opt2 (orUndef x3 (oIdxS (.v (orU (fs.get t140))) (.v x2) rec PT.nil s) s) fun x4 s =>
 opt (gval true (orU (fs.get t139))) fun x5 => opt2 (orUndef x5 (oBin (int2 (cmpO eqI)) (.v x4) (.v (.int .u8 46)) rec PT.nil s) s) fun x6 s =>
 opt2 (oPick (.v (orU (fs.get t139))) (.v x6) (.v (.bool false)) rec PT.nil s) fun x7 s =>
 opt2 (oMov (.v x7) rec PT.nil s) fun x8 s =>
 opt (gval true x8) fun x9 => opt2 (orUndef x9 (oMov (.v (orU (fs.get t0))) rec PT.nil s) s) fun x10 s =>
 opt (gval true x8) fun x11 => opt2 (orUndef x11 (oMov (.v (orU (fs.get t5))) rec PT.nil s) s) fun x12 s =>
 opt (gval true x8) fun x13 => opt2 (orUndef x13 (oMov (.v (orU (fs.get t8))) rec PT.nil s) s) fun x14 s =>
 opt (gval true x8) fun x15 => opt2 (orUndef x15 (oBin (int2 addO) (.v x12) (.v x14) rec PT.nil s) s) fun x16 s =>
 opt (gval true x8) fun x17 => opt2 (orUndef x17 (oBin (int2 addO) (.v x16) (.v (.int .i64 1)) rec PT.nil s) s) fun x18 s =>
 opt (gval true x8) fun x19 => opt2 (orUndef x19 (rec 19 [x10, x18] s) s) fun x20 s =>
 opt (gval true x8) fun x21 => opt2 (orUndef x21 (oBin (int2 (cmpO eqI)) (.v x20) (.v (.int .i64 2)) rec PT.nil s) s) fun x22 s =>
 opt2 (oPick (.v x8) (.v x22) (.v (.bool false)) rec PT.nil s) fun x23 s =>
 some ((PT.put x23 t155 (PT.put x22 t154 (PT.put x20 t153 (PT.put x18 t152 (PT.put x16 t151 (PT.put x14 t150 (PT.put x12 t149 (PT.put x10 t148 (PT.put x8 t147 (PT.put x7 t146 (PT.put x6 t145 (PT.put x4 t144 (PT.put x2 t143 fs))))))))))))), s)
set_option maxHeartbeats 4000000 in
theorem d10_q1 (rec : Rec) (fs : Frm) (s : St) : runOps rec c10_q1 fs s = D10_q1 rec fs s := by
  simp (maxSteps := 4000000) only [c10_q1, ops_c, ops_n, op1_u, op1_gj, rq_c, rq_n, opQ_u, opQ_g, op2_op2, op2_op, op2_s]
  first | done | kernel_rfl
def D10_l0 (rec : Rec) (N : Nat) (fs : Frm) (s : St) : OutX := opt2 (oMov (.v (orU (fs.get t5))) rec PT.nil s) fun x1 s =>
 opt2 (oMov (.v (orU (fs.get t0))) rec PT.nil s) fun x2 s =>
 opt2 (oLenS (.v x2) rec PT.nil s) fun x3 s =>
 opt2 (oBin (int2 (cmpO ltI)) (.v x1) (.v x3) rec PT.nil s) fun x4 s =>
 opt2 (oMov (.v x4) rec PT.nil s) fun x5 s =>
 opt (gval true x5) fun x6 => opt2 (orUndef x6 (oMov (.v (orU (fs.get t0))) rec PT.nil s) s) fun x7 s =>
 opt (gval true x5) fun x8 => opt2 (orUndef x8 (oMov (.v (orU (fs.get t5))) rec PT.nil s) s) fun x9 s =>
 opt (gval true x5) fun x10 => opt2 (orUndef x10 (oIdxS (.v x7) (.v x9) rec PT.nil s) s) fun x11 s =>
 opt (gval true x5) fun x12 => opt2 (orUndef x12 (oBin (int2 (cmpO neI)) (.v x11) (.v (.int .u8 10)) rec PT.nil s) s) fun x13 s =>
 opt2 (oPick (.v x5) (.v x13) (.v (.bool false)) rec PT.nil s) fun x14 s =>
 condV x14
 (opt2 (oMov (.v (orU (fs.get t5))) rec PT.nil s) fun x15 s =>
 opt2 (oBin (int2 addO) (.v x15) (.v (.int .i64 1)) rec PT.nil s) fun x16 s =>
 opt2 (oMov (.v x16) rec PT.nil s) fun x17 s =>
 some (.norm, (PT.put x17 t5 (PT.put x16 t50 (PT.put x15 t49 (PT.put x14 t48 (PT.put x13 t47 (PT.put x11 t46 (PT.put x9 t45 (PT.put x7 t44 (PT.put x5 t43 (PT.put x4 t42 (PT.put x3 t41 (PT.put x2 t40 (PT.put x1 t39 fs))))))))))))), s))
 (some ((.exit 2), (PT.put x14 t48 (PT.put x13 t47 (PT.put x11 t46 (PT.put x9 t45 (PT.put x7 t44 (PT.put x5 t43 (PT.put x4 t42 (PT.put x3 t41 (PT.put x2 t40 (PT.put x1 t39 fs)))))))))), s))
set_option maxHeartbeats 4000000 in
theorem d10_l0 (rec : Rec) (N : Nat) (fs : Frm) (s : St) : c10_l0 rec N fs s = D10_l0 rec N fs s := by
  simp (maxSteps := 4000000) only [c10_l0, lenN, x_seq, x_ops, x_skip, x_ret, x_exit, x_cond, x_block, x_loop, ops_c, ops_n, op1_u, op1_gj, rq_c, rq_n, opQ_u, opQ_g, op2_op2, op2_op, op2_s, op2_cond, thenX_n, thenX_e, thenX_r, blkX_n, blkX_r, blkX_e, finX_r, finX_n, res_n, res_t, op_s, Nat.beq_refl, cond_true]
  first | done | kernel_rfl
def D10_j0 (rec : Rec) (N : Nat) (fs : Frm) (s : St) : OutX := condV (orU (fs.get t94))
 (some (.norm, fs, s))
 (some ((.exit 5), fs, s))
set_option maxHeartbeats 4000000 in
theorem d10_j0 (rec : Rec) (N : Nat) (fs : Frm) (s : St) : c10_j0 rec N fs s = D10_j0 rec N fs s := by
  simp (maxSteps := 4000000) only [c10_j0, lenN, x_seq, x_ops, x_skip, x_ret, x_exit, x_cond, x_block, x_loop, ops_c, ops_n, op1_u, op1_gj, rq_c, rq_n, opQ_u, opQ_g, op2_op2, op2_op, op2_s, op2_cond, thenX_n, thenX_e, thenX_r, blkX_n, blkX_r, blkX_e, finX_r, finX_n, res_n, res_t, op_s, Nat.beq_refl, cond_true]
  first | done | kernel_rfl
def D10_j1 (rec : Rec) (N : Nat) (fs : Frm) (s : St) : OutX := opt2 (oMov (.v (orU (fs.get t8))) rec PT.nil s) fun x1 s =>
 opt2 (oBin (int2 addO) (.v x1) (.v (.int .i64 1)) rec PT.nil s) fun x2 s =>
 opt2 (oMov (.v x2) rec PT.nil s) fun x3 s =>
 some (.norm, (PT.put x3 t8 (PT.put x2 t96 (PT.put x1 t95 fs))), s)
set_option maxHeartbeats 4000000 in
theorem d10_j1 (rec : Rec) (N : Nat) (fs : Frm) (s : St) : c10_j1 rec N fs s = D10_j1 rec N fs s := by
  simp (maxSteps := 4000000) only [c10_j1, lenN, x_seq, x_ops, x_skip, x_ret, x_exit, x_cond, x_block, x_loop, ops_c, ops_n, op1_u, op1_gj, rq_c, rq_n, opQ_u, opQ_g, op2_op2, op2_op, op2_s, op2_cond, thenX_n, thenX_e, thenX_r, blkX_n, blkX_r, blkX_e, finX_r, finX_n, res_n, res_t, op_s, Nat.beq_refl, cond_true]
  first | done | kernel_rfl
def D10_l1 (rec : Rec) (N : Nat) (fs : Frm) (s : St) : OutX := opt2 (oMov (.v (orU (fs.get t5))) rec PT.nil s) fun x1 s =>
 opt2 (oMov (.v (orU (fs.get t8))) rec PT.nil s) fun x2 s =>
 opt2 (oBin (int2 addO) (.v x1) (.v x2) rec PT.nil s) fun x3 s =>
 opt2 (oMov (.v (orU (fs.get t0))) rec PT.nil s) fun x4 s =>
 opt2 (oLenS (.v x4) rec PT.nil s) fun x5 s =>
 opt2 (oBin (int2 (cmpO ltI)) (.v x3) (.v x5) rec PT.nil s) fun x6 s =>
 opt2 (oMov (.v x6) rec PT.nil s) fun x7 s =>
 opt (gval true x7) fun x8 => opt2 (orUndef x8 (oMov (.v (orU (fs.get t0))) rec PT.nil s) s) fun x9 s =>
 opt (gval true x7) fun x10 => opt2 (orUndef x10 (oMov (.v (orU (fs.get t5))) rec PT.nil s) s) fun x11 s =>
 opt (gval true x7) fun x12 => opt2 (orUndef x12 (oMov (.v (orU (fs.get t8))) rec PT.nil s) s) fun x13 s =>
 opt (gval true x7) fun x14 => opt2 (orUndef x14 (oBin (int2 addO) (.v x11) (.v x13) rec PT.nil s) s) fun x15 s =>
 opt (gval true x7) fun x16 => opt2 (orUndef x16 (oIdxS (.v x9) (.v x15) rec PT.nil s) s) fun x17 s =>
 opt (gval true x7) fun x18 => opt2 (orUndef x18 (rec 16 [x17] s) s) fun x19 s =>
 opt (gval true x7) fun x20 => opt2 (orUndef x20 (oMov (.v x19) rec PT.nil s) s) fun x21 s =>
 opt2 (runOps rec c10_q0 (PT.put x21 t78 (PT.put x19 t77 (PT.put x17 t76 (PT.put x15 t75 (PT.put x13 t74 (PT.put x11 t73 (PT.put x9 t72 (PT.put x7 t71 (PT.put x6 t70 (PT.put x5 t69 (PT.put x4 t68 (PT.put x3 t67 (PT.put x2 t66 (PT.put x1 t65 fs)))))))))))))) s) fun fs s =>
 opt2 (c10_j0 rec N fs s) fun e r => thenX (c10_j1 rec N) e r
set_option maxHeartbeats 4000000 in
theorem d10_l1 (rec : Rec) (N : Nat) (fs : Frm) (s : St) : c10_l1 rec N fs s = D10_l1 rec N fs s := by
  simp (maxSteps := 4000000) only [c10_l1, lenN, x_seq, x_ops, x_skip, x_ret, x_exit, x_cond, x_block, x_loop, ops_c, ops_n, op1_u, op1_gj, rq_c, rq_n, opQ_u, opQ_g, op2_op2, op2_op, op2_s, op2_cond, thenX_n, thenX_e, thenX_r, blkX_n, blkX_r, blkX_e, finX_r, finX_n, res_n, res_t, op_s, Nat.beq_refl, cond_true]
  first | done | kernel_rfl
def D10_r0 (rec : Rec) (N : Nat) (fs : Frm) (s : St) : OutX := opt2 (oFieldAddr 0 (.v (orU (fs.get t7))) rec PT.nil s) fun x1 s =>
 opt2 (oStore 1 (.v x1) (.v (.int .i64 1)) rec PT.nil s) fun x2 s =>
 opt2 (oMov (.v (orU (fs.get t0))) rec PT.nil s) fun x3 s =>
 opt2 (oMov (.v (orU (fs.get t5))) rec PT.nil s) fun x4 s =>
 opt2 (oMov (.v (orU (fs.get t5))) rec PT.nil s) fun x5 s =>
 opt2 (oMov (.v (orU (fs.get t8))) rec PT.nil s) fun x6 s =>
 opt2 (oBin (int2 addO) (.v x5) (.v x6) rec PT.nil s) fun x7 s =>
 opt2 (oSliceS (.v x3) (some (.v x4)) (some (.v x7)) rec PT.nil s) fun x8 s =>
 opt2 (oFieldAddr 1 (.v (orU (fs.get t7))) rec PT.nil s) fun x9 s =>
 opt2 (oStore 1 (.v x9) (.v x8) rec PT.nil s) fun x10 s =>
 opt2 (oFieldAddr 1 (.v (orU (fs.get t7))) rec PT.nil s) fun x11 s =>
 opt2 (oLoad1 (.v x11) rec PT.nil s) fun x12 s =>
 opt2 (rec 13 [x12] s) fun x13 s =>
 condV x13
 (opt2 (oFieldAddr 0 (.v (orU (fs.get t7))) rec PT.nil s) fun x14 s =>
 opt2 (oStore 1 (.v x14) (.v (.int .i64 2)) rec PT.nil s) fun x15 s =>
 opt2 (oMov (.v (orU (fs.get t8))) rec PT.nil s) fun x16 s =>
 opt2 (oBin (int2 (cmpO gtI)) (.v x16) (.v (.int .i64 32)) rec PT.nil s) fun x17 s =>
 condV x17
 (opt2 (oMov (.v (.int .i64 0)) rec PT.nil s) fun x18 s =>
 some (.norm, (PT.put x18 t8 (PT.put x17 t110 (PT.put x16 t109 (PT.put x14 t108 (PT.put x13 t107 (PT.put x12 t106 (PT.put x11 t105 (PT.put x9 t104 (PT.put x8 t103 (PT.put x7 t102 (PT.put x6 t101 (PT.put x5 t100 (PT.put x4 t99 (PT.put x3 t98 (PT.put x1 t97 fs))))))))))))))), s))
 (some (.norm, (PT.put x17 t110 (PT.put x16 t109 (PT.put x14 t108 (PT.put x13 t107 (PT.put x12 t106 (PT.put x11 t105 (PT.put x9 t104 (PT.put x8 t103 (PT.put x7 t102 (PT.put x6 t101 (PT.put x5 t100 (PT.put x4 t99 (PT.put x3 t98 (PT.put x1 t97 fs)))))))))))))), s)))
 (opt2 (oMov (.v (orU (fs.get t8))) rec PT.nil s) fun x19 s =>
 opt2 (oBin (int2 (cmpO gtI)) (.v x19) (.v (.int .i64 32)) rec PT.nil s) fun x20 s =>
 condV x20
 (opt2 (oMov (.v (.int .i64 0)) rec PT.nil s) fun x21 s =>
 some (.norm, (PT.put x21 t8 (PT.put x20 t110 (PT.put x19 t109 (PT.put x13 t107 (PT.put x12 t106 (PT.put x11 t105 (PT.put x9 t104 (PT.put x8 t103 (PT.put x7 t102 (PT.put x6 t101 (PT.put x5 t100 (PT.put x4 t99 (PT.put x3 t98 (PT.put x1 t97 fs)))))))))))))), s))
 (some (.norm, (PT.put x20 t110 (PT.put x19 t109 (PT.put x13 t107 (PT.put x12 t106 (PT.put x11 t105 (PT.put x9 t104 (PT.put x8 t103 (PT.put x7 t102 (PT.put x6 t101 (PT.put x5 t100 (PT.put x4 t99 (PT.put x3 t98 (PT.put x1 t97 fs))))))))))))), s)))
set_option maxHeartbeats 4000000 in
theorem d10_r0 (rec : Rec) (N : Nat) (fs : Frm) (s : St) : c10_r0 rec N fs s = D10_r0 rec N fs s := by
  simp (maxSteps := 4000000) only [c10_r0, lenN, x_seq, x_ops, x_skip, x_ret, x_exit, x_cond, x_block, x_loop, ops_c, ops_n, op1_u, op1_gj, rq_c, rq_n, opQ_u, opQ_g, op2_op2, op2_op, op2_s, op2_cond, thenX_n, thenX_e, thenX_r, blkX_n, blkX_r, blkX_e, finX_r, finX_n, res_n, res_t, op_s, Nat.beq_refl, cond_true]
  first | done | kernel_rfl
def D10_j2 (rec : Rec) (N : Nat) (fs : Frm) (s : St) : OutX := condV (orU (fs.get t155))
 (opt2 (oMov (.v (orU (fs.get t0))) rec PT.nil s) fun x1 s =>
 opt2 (oMov (.v (orU (fs.get t5))) rec PT.nil s) fun x2 s =>
 opt2 (oMov (.v (orU (fs.get t8))) rec PT.nil s) fun x3 s =>
 opt2 (oBin (int2 addO) (.v x2) (.v x3) rec PT.nil s) fun x4 s =>
 opt2 (oBin (int2 addO) (.v x4) (.v (.int .i64 1)) rec PT.nil s) fun x5 s =>
 opt2 (oMov (.v (orU (fs.get t5))) rec PT.nil s) fun x6 s =>
 opt2 (oMov (.v (orU (fs.get t8))) rec PT.nil s) fun x7 s =>
 opt2 (oBin (int2 addO) (.v x6) (.v x7) rec PT.nil s) fun x8 s =>
 opt2 (oBin (int2 addO) (.v x8) (.v (.int .i64 3)) rec PT.nil s) fun x9 s =>
 opt2 (oSliceS (.v x1) (some (.v x5)) (some (.v x9)) rec PT.nil s) fun x10 s =>
 opt2 (oMov (.v x10) rec PT.nil s) fun x11 s =>
 opt2 (oMov (.v (orU (fs.get t8))) rec PT.nil s) fun x12 s =>
 opt2 (oBin (int2 addO) (.v x12) (.v (.int .i64 3)) rec PT.nil s) fun x13 s =>
 opt2 (oMov (.v x13) rec PT.nil s) fun x14 s =>
 some (.norm, (PT.put x14 t8 (PT.put x13 t167 (PT.put x12 t166 (PT.put x11 t10 (PT.put x10 t165 (PT.put x9 t164 (PT.put x8 t163 (PT.put x7 t162 (PT.put x6 t161 (PT.put x5 t160 (PT.put x4 t159 (PT.put x3 t158 (PT.put x2 t157 (PT.put x1 t156 fs)))))))))))))), s))
 (some (.norm, fs, s))
set_option maxHeartbeats 4000000 in
theorem d10_j2 (rec : Rec) (N : Nat) (fs : Frm) (s : St) : c10_j2 rec N fs s = D10_j2 rec N fs s := by
  simp (maxSteps := 4000000) only [c10_j2, lenN, x_seq, x_ops, x_skip, x_ret, x_exit, x_cond, x_block, x_loop, ops_c, ops_n, op1_u, op1_gj, rq_c, rq_n, opQ_u, opQ_g, op2_op2, op2_op, op2_s, op2_cond, thenX_n, thenX_e, thenX_r, blkX_n, blkX_r, blkX_e, finX_r, finX_n, res_n, res_t, op_s, Nat.beq_refl, cond_true]
  first | done | kernel_rfl
def D10_j3 (rec : Rec) (N : Nat) (fs : Frm) (s : St) : OutX := opt2 (oMov (.v (orU (fs.get t0))) rec PT.nil s) fun x1 s =>
 opt2 (oMov (.v (orU (fs.get t5))) rec PT.nil s) fun x2 s =>
 opt2 (oBin (int2 addO) (.v x2) (.v (.int .i64 1)) rec PT.nil s) fun x3 s =>
 opt2 (oMov (.v (orU (fs.get t5))) rec PT.nil s) fun x4 s =>
 opt2 (oBin (int2 addO) (.v x4) (.v (.int .i64 1)) rec PT.nil s) fun x5 s =>
 opt2 (oMov (.v (orU (fs.get t9))) rec PT.nil s) fun x6 s =>
 opt2 (oBin (int2 addO) (.v x5) (.v x6) rec PT.nil s) fun x7 s =>
 opt2 (oSliceS (.v x1) (some (.v x3)) (some (.v x7)) rec PT.nil s) fun x8 s =>
 opt2 (oMov (.v (orU (fs.get t10))) rec PT.nil s) fun x9 s =>
 opt2 (rec 20 [x8, x9] s) fun x10 s =>
 opt2 (oMov (.v x10) rec PT.nil s) fun x11 s =>
 opt2 (oExtract (.v x11) 0 rec PT.nil s) fun x12 s =>
 opt2 (oExtract (.v x11) 1 rec PT.nil s) fun x13 s =>
 opt2 (oMov (.v x12) rec PT.nil s) fun x14 s =>
 opt2 (oMov (.v x13) rec PT.nil s) fun x15 s =>
 opt2 (oMov (.v (orU (fs.get t9))) rec PT.nil s) fun x16 s =>
 opt2 (oBin (int2 (cmpO eqI)) (.v x16) (.v (.int .i64 0)) rec PT.nil s) fun x17 s =>
 opt2 (oMov (.v x17) rec PT.nil s) fun x18 s =>
 opt (gval false x18) fun x19 => opt2 (orUndef x19 (oMov (.v x15) rec PT.nil s) s) fun x20 s =>
 opt (gval false x18) fun x21 => opt2 (orUndef x21 (oNot (.v x20) rec PT.nil s) s) fun x22 s =>
 opt2 (oPick (.v x18) (.v (.bool true)) (.v x22) rec PT.nil s) fun x23 s =>
 condV x23
 (opt2 (oMov (.v (.int .i64 0)) rec PT.nil s) fun x24 s =>
 some (.norm, (PT.put x24 t8 (PT.put x23 t186 (PT.put x22 t185 (PT.put x20 t184 (PT.put x18 t183 (PT.put x17 t182 (PT.put x16 t181 (PT.put x15 t12 (PT.put x14 t11 (PT.put x13 t180 (PT.put x12 t179 (PT.put x11 t168 (PT.put x10 t178 (PT.put x9 t177 (PT.put x8 t176 (PT.put x7 t175 (PT.put x6 t174 (PT.put x5 t173 (PT.put x4 t172 (PT.put x3 t171 (PT.put x2 t170 (PT.put x1 t169 fs)))))))))))))))))))))), s))
 (opt2 (oMov (.v (orU (fs.get t0))) rec PT.nil s) fun x25 s =>
 opt2 (oMov (.v (orU (fs.get t5))) rec PT.nil s) fun x26 s =>
 opt2 (oMov (.v (orU (fs.get t5))) rec PT.nil s) fun x27 s =>
 opt2 (oMov (.v (orU (fs.get t8))) rec PT.nil s) fun x28 s =>
 opt2 (oBin (int2 addO) (.v x27) (.v x28) rec PT.nil s) fun x29 s =>
 opt2 (oSliceS (.v x25) (some (.v x26)) (some (.v x29)) rec PT.nil s) fun x30 s =>
 opt2 (oMov (.v x14) rec PT.nil s) fun x31 s =>
 opt2 (oMov (.v (orU (fs.get t5))) rec PT.nil s) fun x32 s =>
 opt2 (oBuild [(.int .i64 0), (.string ⟨⟨[]⟩⟩), (.int .i64 0), (.int .i64 0)] [(0, 1, (.v (.int .i64 4))), (1, 1, (.v x30)), (2, 1, (.v x31)), (3, 1, (.v x32))] rec PT.nil s) fun x33 s =>
 opt2 (oStore 4 (.v (orU (fs.get t7))) (.v x33) rec PT.nil s) fun x34 s =>
 some (.norm, (PT.put x33 t195 (PT.put x32 t194 (PT.put x31 t193 (PT.put x30 t192 (PT.put x29 t191 (PT.put x28 t190 (PT.put x27 t189 (PT.put x26 t188 (PT.put x25 t187 (PT.put x23 t186 (PT.put x22 t185 (PT.put x20 t184 (PT.put x18 t183 (PT.put x17 t182 (PT.put x16 t181 (PT.put x15 t12 (PT.put x14 t11 (PT.put x13 t180 (PT.put x12 t179 (PT.put x11 t168 (PT.put x10 t178 (PT.put x9 t177 (PT.put x8 t176 (PT.put x7 t175 (PT.put x6 t174 (PT.put x5 t173 (PT.put x4 t172 (PT.put x3 t171 (PT.put x2 t170 (PT.put x1 t169 fs)))))))))))))))))))))))))))))), s))
set_option maxHeartbeats 4000000 in
theorem d10_j3 (rec : Rec) (N : Nat) (fs : Frm) (s : St) : c10_j3 rec N fs s = D10_j3 rec N fs s := by
  simp (maxSteps := 4000000) only [c10_j3, lenN, x_seq, x_ops, x_skip, x_ret, x_exit, x_cond, x_block, x_loop, ops_c, ops_n, op1_u, op1_gj, rq_c, rq_n, opQ_u, opQ_g, op2_op2, op2_op, op2_s, op2_cond, thenX_n, thenX_e, thenX_r, blkX_n, blkX_r, blkX_e, finX_r, finX_n, res_n, res_t, op_s, Nat.beq_refl, cond_true]
  first | done | kernel_rfl
def D10_r1 (rec : Rec) (N : Nat) (fs : Frm) (s : St) : OutX := opt2 (oMov (.v (orU (fs.get t8))) rec PT.nil s) fun x1 s =>
 opt2 (oBin (int2 (cmpO eqI)) (.v x1) (.v (.int .i64 0)) rec PT.nil s) fun x2 s =>
 condV x2
 (opt2 (oMov (.v (orU (fs.get t5))) rec PT.nil s) fun x3 s =>
 opt2 (oMov (.v (.slice none 0 0)) rec PT.nil s) fun x4 s =>
 opt2 (oMov (.v x3) rec PT.nil s) fun x5 s =>
 some (.ret, (PT.put x5 t3 (PT.put x4 t2 (PT.put x3 t198 (PT.put x2 t197 (PT.put x1 t196 fs))))), s))
 (opt2 (oMov (.v (orU (fs.get t4))) rec PT.nil s) fun x6 s =>
 opt2 (oLoadN 4 (.v (orU (fs.get t7))) rec PT.nil s) fun x7 s =>
 opt2 (oBuildSlice 1 [(.int .i64 0), (.string ⟨⟨[]⟩⟩), (.int .i64 0), (.int .i64 0)] [(0, 4, (.v x7))] rec PT.nil s) fun x8 s =>
 opt2 (oAppend 4 40 (.v x6) (.v x8) rec PT.nil s) fun x9 s =>
 opt2 (oMov (.v x9) rec PT.nil s) fun x10 s =>
 opt2 (oMov (.v (orU (fs.get t5))) rec PT.nil s) fun x11 s =>
 opt2 (oMov (.v (orU (fs.get t8))) rec PT.nil s) fun x12 s =>
 opt2 (oBin (int2 addO) (.v x11) (.v x12) rec PT.nil s) fun x13 s =>
 opt2 (oMov (.v x13) rec PT.nil s) fun x14 s =>
 some (.norm, (PT.put x14 t5 (PT.put x13 t205 (PT.put x12 t204 (PT.put x11 t203 (PT.put x10 t4 (PT.put x9 t202 (PT.put x8 t201 (PT.put x7 t200 (PT.put x6 t199 (PT.put x2 t197 (PT.put x1 t196 fs))))))))))), s))
set_option maxHeartbeats 4000000 in
theorem d10_r1 (rec : Rec) (N : Nat) (fs : Frm) (s : St) : c10_r1 rec N fs s = D10_r1 rec N fs s := by
  simp (maxSteps := 4000000) only [c10_r1, lenN, x_seq, x_ops, x_skip, x_ret, x_exit, x_cond, x_block, x_loop, ops_c, ops_n, op1_u, op1_gj, rq_c, rq_n, opQ_u, opQ_g, op2_op2, op2_op, op2_s, op2_cond, thenX_n, thenX_e, thenX_r, blkX_n, blkX_r, blkX_e, finX_r, finX_n, res_n, res_t, op_s, Nat.beq_refl, cond_true]
  first | done | kernel_rfl
def D10_r2 (rec : Rec) (N : Nat) (fs : Frm) (s : St) : OutX := opt2 (oMov (.v (orU (fs.get t5))) rec PT.nil s) fun x1 s =>
 opt2 (oBuild [(.int .i64 0), (.string ⟨⟨[]⟩⟩), (.int .i64 0), (.int .i64 0)] [(3, 1, (.v x1))] rec PT.nil s) fun x2 s =>
 opt2 (oNew [(.int .i64 0), (.string ⟨⟨[]⟩⟩), (.int .i64 0), (.int .i64 0)] rec PT.nil s) fun x3 s =>
 opt2 (oStore 4 (.v x3) (.v x2) rec PT.nil s) fun x4 s =>
 opt2 (oMov (.v (.int .i64 0)) rec PT.nil s) fun x5 s =>
 opt2 (oMov (.v (orU (fs.get t6))) rec PT.nil s) fun x6 s =>
 opt2 (rec 16 [x6] s) fun x7 s =>
 opt2 (oMov (.v x7) rec PT.nil s) fun x8 s =>
 condV x8
 (opt2 (loopF (c10_l1 rec N) N (PT.put x8 t62 (PT.put x7 t64 (PT.put x6 t63 (PT.put x5 t8 (PT.put x3 t7 (PT.put x2 t52 (PT.put x1 t51 fs))))))) s) fun e r => opt2 (blkX 5 e r) fun e r => opt2 (thenX (c10_r0 rec N) e r) fun e r => opt2 (blkX 4 e r) fun e r => thenX (c10_r1 rec N) e r)
 (opt2 (oMov (.v (orU (fs.get t6))) rec PT.nil s) fun x9 s =>
 opt2 (rec 17 [x9] s) fun x10 s =>
 opt2 (oMov (.v x10) rec PT.nil s) fun x11 s =>
 condV x11
 (opt2 (oMov (.v (orU (fs.get t0))) rec PT.nil s) fun x12 s =>
 opt2 (oMov (.v (orU (fs.get t5))) rec PT.nil s) fun x13 s =>
 opt2 (rec 18 [x12, x13] s) fun x14 s =>
 opt2 (oMov (.v x14) rec PT.nil s) fun x15 s =>
 opt2 (oExtract (.v x15) 0 rec PT.nil s) fun x16 s =>
 opt2 (oExtract (.v x15) 1 rec PT.nil s) fun x17 s =>
 opt2 (oStore 4 (.v x3) (.v x16) rec PT.nil s) fun x18 s =>
 opt2 (oMov (.v x17) rec PT.nil s) fun x19 s =>
 c10_r1 rec N (PT.put x19 t8 (PT.put x17 t119 (PT.put x16 t118 (PT.put x15 t114 (PT.put x14 t117 (PT.put x13 t116 (PT.put x12 t115 (PT.put x11 t111 (PT.put x10 t113 (PT.put x9 t112 (PT.put x8 t62 (PT.put x7 t64 (PT.put x6 t63 (PT.put x5 t8 (PT.put x3 t7 (PT.put x2 t52 (PT.put x1 t51 fs))))))))))))))))) s)
 (opt2 (oMov (.v (orU (fs.get t6))) rec PT.nil s) fun x20 s =>
 opt2 (oBin (int2 (cmpO eqI)) (.v x20) (.v (.int .u8 36)) rec PT.nil s) fun x21 s =>
 opt2 (oMov (.v x21) rec PT.nil s) fun x22 s =>
 condV x22
 (opt2 (oMov (.v (orU (fs.get t0))) rec PT.nil s) fun x23 s =>
 opt2 (oMov (.v (orU (fs.get t5))) rec PT.nil s) fun x24 s =>
 opt2 (oBin (int2 addO) (.v x24) (.v (.int .i64 1)) rec PT.nil s) fun x25 s =>
 opt2 (rec 19 [x23, x25] s) fun x26 s =>
 opt2 (oMov (.v x26) rec PT.nil s) fun x27 s =>
 opt2 (oMov (.v (.string ⟨⟨[]⟩⟩)) rec PT.nil s) fun x28 s =>
 opt2 (oMov (.v x27) rec PT.nil s) fun x29 s =>
 opt2 (oBin (int2 addO) (.v (.int .i64 1)) (.v x29) rec PT.nil s) fun x30 s =>
 opt2 (oMov (.v x30) rec PT.nil s) fun x31 s =>
 opt2 (oMov (.v x27) rec PT.nil s) fun x32 s =>
 opt2 (oBin (int2 (cmpO gtI)) (.v x32) (.v (.int .i64 0)) rec PT.nil s) fun x33 s =>
 opt2 (oMov (.v x33) rec PT.nil s) fun x34 s =>
 opt (gval true x34) fun x35 => opt2 (orUndef x35 (oMov (.v (orU (fs.get t5))) rec PT.nil s) s) fun x36 s =>
 opt (gval true x34) fun x37 => opt2 (orUndef x37 (oMov (.v x31) rec PT.nil s) s) fun x38 s =>
 opt (gval true x34) fun x39 => opt2 (orUndef x39 (oBin (int2 addO) (.v x36) (.v x38) rec PT.nil s) s) fun x40 s =>
 opt (gval true x34) fun x41 => opt2 (orUndef x41 (oMov (.v (orU (fs.get t0))) rec PT.nil s) s) fun x42 s =>
 opt (gval true x34) fun x43 => opt2 (orUndef x43 (oLenS (.v x42) rec PT.nil s) s) fun x44 s =>
 opt (gval true x34) fun x45 => opt2 (orUndef x45 (oBin (int2 (cmpO ltI)) (.v x40) (.v x44) rec PT.nil s) s) fun x46 s =>
 opt2 (oPick (.v x34) (.v x46) (.v (.bool false)) rec PT.nil s) fun x47 s =>
 opt2 (oMov (.v x47) rec PT.nil s) fun x48 s =>
 opt (gval true x48) fun x49 => opt2 (orUndef x49 (oMov (.v (orU (fs.get t0))) rec PT.nil s) s) fun x50 s =>
 opt (gval true x48) fun x51 => opt2 (orUndef x51 (oMov (.v (orU (fs.get t5))) rec PT.nil s) s) fun x52 s =>
 opt (gval true x48) fun x53 => opt2 (orUndef x53 (oMov (.v x31) rec PT.nil s) s) fun x54 s =>
 opt2 (runOps rec c10_q1 (PT.put x54 t142 (PT.put x52 t141 (PT.put x50 t140 (PT.put x48 t139 (PT.put x47 t138 (PT.put x46 t137 (PT.put x44 t136 (PT.put x42 t135 (PT.put x40 t134 (PT.put x38 t133 (PT.put x36 t132 (PT.put x34 t131 (PT.put x33 t130 (PT.put x32 t129 (PT.put x31 t8 (PT.put x30 t128 (PT.put x29 t127 (PT.put x28 t10 (PT.put x27 t9 (PT.put x26 t126 (PT.put x25 t125 (PT.put x24 t124 (PT.put x23 t123 (PT.put x22 t120 (PT.put x21 t122 (PT.put x20 t121 (PT.put x11 t111 (PT.put x10 t113 (PT.put x9 t112 (PT.put x8 t62 (PT.put x7 t64 (PT.put x6 t63 (PT.put x5 t8 (PT.put x3 t7 (PT.put x2 t52 (PT.put x1 t51 fs)))))))))))))))))))))))))))))))))))) s) fun fs s =>
 opt2 (c10_j2 rec N fs s) fun e r => opt2 (thenX (c10_j3 rec N) e r) fun e r => opt2 (blkX 4 e r) fun e r => thenX (c10_r1 rec N) e r)
 (opt2 (oFieldAddr 0 (.v x3) rec PT.nil s) fun x55 s =>
 opt2 (oStore 1 (.v x55) (.v (.int .i64 7)) rec PT.nil s) fun x56 s =>
 opt2 (oMov (.v (orU (fs.get t0))) rec PT.nil s) fun x57 s =>
 opt2 (oMov (.v (orU (fs.get t5))) rec PT.nil s) fun x58 s =>
 opt2 (oSliceS (.v x57) (some (.v x58)) none rec PT.nil s) fun x59 s =>
 opt2 (rec 21 [x59] s) fun x60 s =>
 opt2 (oFieldAddr 1 (.v x3) rec PT.nil s) fun x61 s =>
 opt2 (oStore 1 (.v x61) (.v x60) rec PT.nil s) fun x62 s =>
 opt2 (oFieldAddr 1 (.v x3) rec PT.nil s) fun x63 s =>
 opt2 (oLoad1 (.v x63) rec PT.nil s) fun x64 s =>
 opt2 (oLenS (.v x64) rec PT.nil s) fun x65 s =>
 opt2 (oMov (.v x65) rec PT.nil s) fun x66 s =>
 c10_r1 rec N (PT.put x66 t8 (PT.put x65 t61 (PT.put x64 t60 (PT.put x63 t59 (PT.put x61 t58 (PT.put x60 t57 (PT.put x59 t56 (PT.put x58 t55 (PT.put x57 t54 (PT.put x55 t53 (PT.put x22 t120 (PT.put x21 t122 (PT.put x20 t121 (PT.put x11 t111 (PT.put x10 t113 (PT.put x9 t112 (PT.put x8 t62 (PT.put x7 t64 (PT.put x6 t63 (PT.put x5 t8 (PT.put x3 t7 (PT.put x2 t52 (PT.put x1 t51 fs))))))))))))))))))))))) s)))
set_option maxHeartbeats 4000000 in
theorem d10_r2 (rec : Rec) (N : Nat) (fs : Frm) (s : St) : c10_r2 rec N fs s = D10_r2 rec N fs s := by
  simp (maxSteps := 4000000) only [c10_r2, lenN, x_seq, x_ops, x_skip, x_ret, x_exit, x_cond, x_block, x_loop, ops_c, ops_n, op1_u, op1_gj, rq_c, rq_n, opQ_u, opQ_g, op2_op2, op2_op, op2_s, op2_cond, thenX_n, thenX_e, thenX_r, blkX_n, blkX_r, blkX_e, finX_r, finX_n, res_n, res_t, op_s, Nat.beq_refl, cond_true]
  first | done | kernel_rfl
def D10_l2 (rec : Rec) (N : Nat) (fs : Frm) (s : St) : OutX := opt2 (oMov (.v (orU (fs.get t5))) rec PT.nil s) fun x1 s =>
 opt2 (oMov (.v (orU (fs.get t0))) rec PT.nil s) fun x2 s =>
 opt2 (oLenS (.v x2) rec PT.nil s) fun x3 s =>
 opt2 (oBin (int2 (cmpO ltI)) (.v x1) (.v x3) rec PT.nil s) fun x4 s =>
 condV x4
 (opt2 (oMov (.v (orU (fs.get t0))) rec PT.nil s) fun x5 s =>
 opt2 (oMov (.v (orU (fs.get t5))) rec PT.nil s) fun x6 s =>
 opt2 (oIdxS (.v x5) (.v x6) rec PT.nil s) fun x7 s =>
 opt2 (oMov (.v x7) rec PT.nil s) fun x8 s =>
 opt2 (oMov (.v x8) rec PT.nil s) fun x9 s =>
 opt2 (oBin (int2 (cmpO eqI)) (.v x9) (.v (.int .u8 32)) rec PT.nil s) fun x10 s =>
 opt2 (oMov (.v x10) rec PT.nil s) fun x11 s =>
 opt (gval false x11) fun x12 => opt2 (orUndef x12 (oMov (.v x8) rec PT.nil s) s) fun x13 s =>
 opt (gval false x11) fun x14 => opt2 (orUndef x14 (oBin (int2 (cmpO eqI)) (.v x13) (.v (.int .u8 9)) rec PT.nil s) s) fun x15 s =>
 opt2 (oPick (.v x11) (.v (.bool true)) (.v x15) rec PT.nil s) fun x16 s =>
 opt2 (oMov (.v x16) rec PT.nil s) fun x17 s =>
 opt (gval false x17) fun x18 => opt2 (orUndef x18 (oMov (.v x8) rec PT.nil s) s) fun x19 s =>
 opt (gval false x17) fun x20 => opt2 (orUndef x20 (oBin (int2 (cmpO eqI)) (.v x19) (.v (.int .u8 10)) rec PT.nil s) s) fun x21 s =>
 opt2 (oPick (.v x17) (.v (.bool true)) (.v x21) rec PT.nil s) fun x22 s =>
 opt2 (oMov (.v x22) rec PT.nil s) fun x23 s =>
 opt (gval false x23) fun x24 => opt2 (orUndef x24 (oMov (.v x8) rec PT.nil s) s) fun x25 s =>
 opt (gval false x23) fun x26 => opt2 (orUndef x26 (oBin (int2 (cmpO eqI)) (.v x25) (.v (.int .u8 13)) rec PT.nil s) s) fun x27 s =>
 opt2 (oPick (.v x23) (.v (.bool true)) (.v x27) rec PT.nil s) fun x28 s =>
 condV x28
 (opt2 (oMov (.v (orU (fs.get t5))) rec PT.nil s) fun x29 s =>
 opt2 (oBin (int2 addO) (.v x29) (.v (.int .i64 1)) rec PT.nil s) fun x30 s =>
 opt2 (oMov (.v x30) rec PT.nil s) fun x31 s =>
 some (.norm, (PT.put x31 t5 (PT.put x30 t36 (PT.put x29 t35 (PT.put x28 t34 (PT.put x27 t33 (PT.put x25 t32 (PT.put x23 t31 (PT.put x22 t30 (PT.put x21 t29 (PT.put x19 t28 (PT.put x17 t27 (PT.put x16 t26 (PT.put x15 t25 (PT.put x13 t24 (PT.put x11 t23 (PT.put x10 t22 (PT.put x9 t21 (PT.put x8 t6 (PT.put x7 t20 (PT.put x6 t19 (PT.put x5 t18 (PT.put x4 t17 (PT.put x3 t16 (PT.put x2 t15 (PT.put x1 t14 fs))))))))))))))))))))))))), s))
 (opt2 (oMov (.v x8) rec PT.nil s) fun x32 s =>
 opt2 (oBin (int2 (cmpO eqI)) (.v x32) (.v (.int .u8 35)) rec PT.nil s) fun x33 s =>
 condV x33
 (opt2 (loopF (c10_l0 rec N) N (PT.put x33 t38 (PT.put x32 t37 (PT.put x28 t34 (PT.put x27 t33 (PT.put x25 t32 (PT.put x23 t31 (PT.put x22 t30 (PT.put x21 t29 (PT.put x19 t28 (PT.put x17 t27 (PT.put x16 t26 (PT.put x15 t25 (PT.put x13 t24 (PT.put x11 t23 (PT.put x10 t22 (PT.put x9 t21 (PT.put x8 t6 (PT.put x7 t20 (PT.put x6 t19 (PT.put x5 t18 (PT.put x4 t17 (PT.put x3 t16 (PT.put x2 t15 (PT.put x1 t14 fs)))))))))))))))))))))))) s) fun e r => opt2 (blkX 2 e r) fun e r => opt2 (thenX ((xExit 1) rec N) e r) fun e r => opt2 (thenX (c10_r2 rec N) e r) fun e r => blkX 1 e r)
 (opt2 (c10_r2 rec N (PT.put x33 t38 (PT.put x32 t37 (PT.put x28 t34 (PT.put x27 t33 (PT.put x25 t32 (PT.put x23 t31 (PT.put x22 t30 (PT.put x21 t29 (PT.put x19 t28 (PT.put x17 t27 (PT.put x16 t26 (PT.put x15 t25 (PT.put x13 t24 (PT.put x11 t23 (PT.put x10 t22 (PT.put x9 t21 (PT.put x8 t6 (PT.put x7 t20 (PT.put x6 t19 (PT.put x5 t18 (PT.put x4 t17 (PT.put x3 t16 (PT.put x2 t15 (PT.put x1 t14 fs)))))))))))))))))))))))) s) fun e r => blkX 1 e r)))
 (some ((.exit 0), (PT.put x4 t17 (PT.put x3 t16 (PT.put x2 t15 (PT.put x1 t14 fs)))), s))
set_option maxHeartbeats 4000000 in
theorem d10_l2 (rec : Rec) (N : Nat) (fs : Frm) (s : St) : c10_l2 rec N fs s = D10_l2 rec N fs s := by
  simp (maxSteps := 4000000) only [c10_l2, lenN, x_seq, x_ops, x_skip, x_ret, x_exit, x_cond, x_block, x_loop, ops_c, ops_n, op1_u, op1_gj, rq_c, rq_n, opQ_u, opQ_g, op2_op2, op2_op, op2_s, op2_cond, thenX_n, thenX_e, thenX_r, blkX_n, blkX_r, blkX_e, finX_r, finX_n, res_n, res_t, op_s, Nat.beq_refl, cond_true]
  first | done | kernel_rfl
def D10_r3 (rec : Rec) (N : Nat) (fs : Frm) (s : St) : OutX := opt2 (oMov (.v (orU (fs.get t4))) rec PT.nil s) fun x1 s =>
 opt2 (oMov (.v (orU (fs.get t0))) rec PT.nil s) fun x2 s =>
 opt2 (oLenS (.v x2) rec PT.nil s) fun x3 s =>
 opt2 (oBuild [(.int .i64 0), (.string ⟨⟨[]⟩⟩), (.int .i64 0), (.int .i64 0)] [(3, 1, (.v x3))] rec PT.nil s) fun x4 s =>
 opt2 (oBuildSlice 1 [(.int .i64 0), (.string ⟨⟨[]⟩⟩), (.int .i64 0), (.int .i64 0)] [(0, 4, (.v x4))] rec PT.nil s) fun x5 s =>
 opt2 (oAppend 4 40 (.v x1) (.v x5) rec PT.nil s) fun x6 s =>
 opt2 (oMov (.v x6) rec PT.nil s) fun x7 s =>
 opt2 (oMov (.v (.int .i64 (-1))) rec PT.nil s) fun x8 s =>
 some (.ret, (PT.put x8 t3 (PT.put x7 t2 (PT.put x6 t211 (PT.put x5 t210 (PT.put x4 t209 (PT.put x3 t208 (PT.put x2 t207 (PT.put x1 t206 fs)))))))), s)
set_option maxHeartbeats 4000000 in
theorem d10_r3 (rec : Rec) (N : Nat) (fs : Frm) (s : St) : c10_r3 rec N fs s = D10_r3 rec N fs s := by
  simp (maxSteps := 4000000) only [c10_r3, lenN, x_seq, x_ops, x_skip, x_ret, x_exit, x_cond, x_block, x_loop, ops_c, ops_n, op1_u, op1_gj, rq_c, rq_n, opQ_u, opQ_g, op2_op2, op2_op, op2_s, op2_cond, thenX_n, thenX_e, thenX_r, blkX_n, blkX_r, blkX_e, finX_r, finX_n, res_n, res_t, op_s, Nat.beq_refl, cond_true]
  first | done | kernel_rfl
def D10 (rec : Rec) (N : Nat) (a0 : Value) (s : St) : Out := opt2 (oMov (.v (.slice none 0 0)) rec PT.nil s) fun x1 s =>
 opt2 (oMov (.v (.int .i64 0)) rec PT.nil s) fun x2 s =>
 opt2 (oMakeSlice 4 40 [(.int .i64 0), (.string ⟨⟨[]⟩⟩), (.int .i64 0), (.int .i64 0)] (.v (.int .i64 0)) (.v (.int .i64 0)) rec PT.nil s) fun x3 s =>
 opt2 (oMov (.v x3) rec PT.nil s) fun x4 s =>
 opt2 (oMov (.v (.int .i64 0)) rec PT.nil s) fun x5 s =>
 opt2 (loopF (c10_l2 rec N) N (PT.put x5 t5 (PT.put x4 t4 (PT.put x3 t13 (PT.put x2 t3 (PT.put x1 t2 (PT.put a0 t0 PT.nil)))))) s) fun e r => opt2 (blkX 0 e r) fun e r => opt2 (thenX (c10_r3 rec N) e r) fun e r => finX [.tmp t2, .tmp t3] e r
set_option maxHeartbeats 4000000 in
theorem d10 (rec : Rec) (N : Nat) (a0 : Value) (s : St) : callF rec N c10 [a0] s = D10 rec N a0 s := by
  rw [call_f _ _ _ _ _ rfl]
  simp (maxSteps := 4000000) only [c10, lenN, x_seq, x_ops, x_skip, x_ret, x_exit, x_cond, x_block, x_loop, ops_c, ops_n, op1_u, op1_gj, rq_c, rq_n, opQ_u, opQ_g, op2_op2, op2_op, op2_s, op2_cond, thenX_n, thenX_e, thenX_r, blkX_n, blkX_r, blkX_e, finX_r, finX_n, res_n, res_t, op_s, Nat.beq_refl, cond_true]
  first | done | kernel_rfl
def B10_l0 (rec : Rec) (N : Nat) (k : Value × Value × Value × Value) (v : Value) (s : St) : OutV (Value) := opt2 (oLenS (.v k.1) rec PT.nil s) fun x1 s =>
 opt2 (oBin (int2 (cmpO ltI)) (.v v) (.v x1) rec PT.nil s) fun x2 s =>
 opt (gval true x2) fun x3 => opt2 (orUndef x3 (some (k.1, s)) s) fun x4 s =>
 opt (gval true x2) fun x5 => opt2 (orUndef x5 (some (v, s)) s) fun x6 s =>
 opt (gval true x2) fun x7 => opt2 (orUndef x7 (oIdxS (.v x4) (.v x6) rec PT.nil s) s) fun x8 s =>
 opt (gval true x2) fun x9 => opt2 (orUndef x9 (oBin (int2 (cmpO neI)) (.v x8) (.v (.int .u8 10)) rec PT.nil s) s) fun x10 s =>
 opt2 (oPick (.v x2) (.v x10) (.v (.bool false)) rec PT.nil s) fun x11 s =>
 condV x11
 (opt2 (oBin (int2 addO) (.v v) (.v (.int .i64 1)) rec PT.nil s) fun x12 s =>
 some (.norm, (x12, s)))
 (some ((.exit 2), (v, s)))
set_option maxHeartbeats 4000000 in
theorem s10_l0 (rec : Rec) (N : Nat) (fs : Frm) (s : St) : opt2 (c10_l0 rec N fs s) (fun e r => some (e, (((orU (r.1.get t5)), (orU (r.1.get t0), orU (r.1.get t2), orU (r.1.get t3), orU (r.1.get t4))), r.2))) = opt2 (B10_l0 rec N (orU (fs.get t0), orU (fs.get t2), orU (fs.get t3), orU (fs.get t4)) (orU (fs.get t5)) s) fun e r => some (e, ((r.1, (orU (fs.get t0), orU (fs.get t2), orU (fs.get t3), orU (fs.get t4))), r.2)) := by
  rw [d10_l0]
  unfold D10_l0 B10_l0
  simp (maxSteps := 4000000) only [op2_op2, op2_op, op2_s, op2_cond, op2_bf, mov_v]
  first | done | kernel_rfl
def C10_l0 (rec : Rec) (N : Nat) (k : Value × Value × Value × Value) (e : AExit) (r : (Value) × St) : OutV (Value × Value × Value × Value) := (fun s => exV (fun i => bif Nat.beq i 2 then (some (.norm, ((k.2.1, k.2.2.1, k.2.2.2, r.1), s)))
 else (bif Nat.beq i 1 then (some (.norm, ((k.2.1, k.2.2.1, k.2.2.2, r.1), s)))
 else (some ((.exit i), ((k.2.1, k.2.2.1, k.2.2.2, r.1), s)))))
 (some (.ret, ((k.2.1, k.2.2.1, k.2.2.2, r.1), s))) e) r.2
theorem j10_l0 (rec : Rec) (N : Nat) (fs : Frm) (s : St) : opt2 (loopF (c10_l0 rec N) N fs s) (fun e r => opt2 (blkX 2 e r) fun e r => opt2 (thenX ((xExit 1) rec N) e r) fun e r => opt2 (thenX (c10_r2 rec N) e r) fun e r => opt2 (blkX 1 e r) fun e r => some (e, (((orU (r.1.get t2), orU (r.1.get t3), orU (r.1.get t4), orU (r.1.get t5)), (orU (r.1.get t0))), r.2))) = opt2 (loopV (B10_l0 rec N (orU (fs.get t0), orU (fs.get t2), orU (fs.get t3), orU (fs.get t4))) N (orU (fs.get t5)) s) (fun e q => opt2 (C10_l0 rec N (orU (fs.get t0), orU (fs.get t2), orU (fs.get t3), orU (fs.get t4)) e q) fun e r => some (e, ((r.1, (orU (fs.get t0))), r.2))) := by
  refine loop_j (fun fs => (orU (fs.get t5))) (fun fs => (orU (fs.get t0), orU (fs.get t2), orU (fs.get t3), orU (fs.get t4))) (B10_l0 rec N) (c10_l0 rec N) (s10_l0 rec N) (fun e r => opt2 (blkX 2 e r) fun e r => opt2 (thenX ((xExit 1) rec N) e r) fun e r => opt2 (thenX (c10_r2 rec N) e r) fun e r => opt2 (blkX 1 e r) fun e r => some (e, (((orU (r.1.get t2), orU (r.1.get t3), orU (r.1.get t4), orU (r.1.get t5)), (orU (r.1.get t0))), r.2))) (fun k e q => opt2 (C10_l0 rec N k e q) fun e r => some (e, ((r.1, k.1), r.2))) ?_ ?_ N fs s
  · intro i fs s
    unfold C10_l0
    simp (maxSteps := 4000000) only [thenX_n, thenX_e, thenX_r, x_exit, x_skip, x_ret, blkX_n, blkX_r, blkX_e, finX_r, finX_n, res_n, res_t, exV_e, exV_r, op2_op2, op2_op, op2_s, op2_cond, op2_bf, mov_v]
    first | done | kernel_rfl
  · intro fs s
    unfold C10_l0
    simp (maxSteps := 4000000) only [thenX_n, thenX_e, thenX_r, x_exit, x_skip, x_ret, blkX_n, blkX_r, blkX_e, finX_r, finX_n, res_n, res_t, exV_e, exV_r, op2_op2, op2_op, op2_s, op2_cond, op2_bf, mov_v]
    first | done | kernel_rfl
def J10_j1 (rec : Rec) (N : Nat) (k : Value × Value × Value × Value × Value × Value × Value) (s : St) : OutV (Value) := opt2 (oBin (int2 addO) (.v k.2.2.2.2.2.2) (.v (.int .i64 1)) rec PT.nil s) fun x1 s =>
 some (.norm, (x1, s))
set_option maxHeartbeats 4000000 in
theorem j10_j1 (rec : Rec) (N : Nat) (fs : Frm) (s : St) : opt2 (c10_j1 rec N fs s) (fun e r => some (e, (((orU (r.1.get t8)), (orU (r.1.get t0), orU (r.1.get t2), orU (r.1.get t3), orU (r.1.get t4), orU (r.1.get t5), orU (r.1.get t7))), r.2))) = opt2 (J10_j1 rec N (orU (fs.get t0), orU (fs.get t2), orU (fs.get t3), orU (fs.get t4), orU (fs.get t5), orU (fs.get t7), orU (fs.get t8)) s) fun e r => some (e, ((r.1, (orU (fs.get t0), orU (fs.get t2), orU (fs.get t3), orU (fs.get t4), orU (fs.get t5), orU (fs.get t7))), r.2)) := by
  rw [d10_j1]
  unfold D10_j1 J10_j1
  simp (maxSteps := 4000000) only [thenX_n, thenX_e, thenX_r, x_exit, x_skip, x_ret, blkX_n, blkX_r, blkX_e, finX_r, finX_n, res_n, res_t, op2_op2, op2_op, op2_s, op2_cond, op2_bf, mov_v]
  first | done | kernel_rfl
def J10_j0 (rec : Rec) (N : Nat) (k : Value × Value × Value × Value × Value × Value × Value × Value) (s : St) : OutV (Value) := condV k.2.2.2.2.2.2.2
 (J10_j1 rec N (k.1, k.2.1, k.2.2.1, k.2.2.2.1, k.2.2.2.2.1, k.2.2.2.2.2.1, k.2.2.2.2.2.2.1) s)
 (some ((.exit 5), (k.2.2.2.2.2.2.1, s)))
set_option maxHeartbeats 4000000 in
theorem j10_j0 (rec : Rec) (N : Nat) (fs : Frm) (s : St) : opt2 (c10_j0 rec N fs s) (fun e r => opt2 (thenX (c10_j1 rec N) e r) fun e r => some (e, (((orU (r.1.get t8)), (orU (r.1.get t0), orU (r.1.get t2), orU (r.1.get t3), orU (r.1.get t4), orU (r.1.get t5), orU (r.1.get t7))), r.2))) = opt2 (J10_j0 rec N (orU (fs.get t0), orU (fs.get t2), orU (fs.get t3), orU (fs.get t4), orU (fs.get t5), orU (fs.get t7), orU (fs.get t8), orU (fs.get t94)) s) fun e r => some (e, ((r.1, (orU (fs.get t0), orU (fs.get t2), orU (fs.get t3), orU (fs.get t4), orU (fs.get t5), orU (fs.get t7))), r.2)) := by
  rw [d10_j0]
  unfold D10_j0 J10_j0
  simp (maxSteps := 4000000) only [thenX_n, thenX_e, thenX_r, x_exit, x_skip, x_ret, blkX_n, blkX_r, blkX_e, finX_r, finX_n, res_n, res_t, op2_op2, op2_op, op2_s, op2_cond, op2_bf, mov_v, j10_j1 rec N]
  first | done | kernel_rfl
def Q10_q0 (rec : Rec) (N : Nat) (k : Value × Value × Value × Value × Value × Value × Value × Value × Value) (s : St) : OutV (Value) := opt (gval false k.2.2.2.2.2.2.2.2) fun x1 => opt2 (orUndef x1 (some (k.1, s)) s) fun x2 s =>
 opt (gval false k.2.2.2.2.2.2.2.2) fun x3 => opt2 (orUndef x3 (some (k.2.2.2.2.1, s)) s) fun x4 s =>
 opt (gval false k.2.2.2.2.2.2.2.2) fun x5 => opt2 (orUndef x5 (some (k.2.2.2.2.2.2.1, s)) s) fun x6 s =>
 opt (gval false k.2.2.2.2.2.2.2.2) fun x7 => opt2 (orUndef x7 (oBin (int2 addO) (.v x4) (.v x6) rec PT.nil s) s) fun x8 s =>
 opt (gval false k.2.2.2.2.2.2.2.2) fun x9 => opt2 (orUndef x9 (oIdxS (.v x2) (.v x8) rec PT.nil s) s) fun x10 s =>
 opt (gval false k.2.2.2.2.2.2.2.2) fun x11 => opt2 (orUndef x11 (rec 17 [x10] s) s) fun x12 s =>
 opt (gval true k.2.2.2.2.2.2.2.1) fun x13 => opt2 (orUndef x13 (oPick (.v k.2.2.2.2.2.2.2.2) (.v (.bool true)) (.v x12) rec PT.nil s) s) fun x14 s =>
 opt (gval true k.2.2.2.2.2.2.2.1) fun x15 => opt2 (orUndef x15 (some (x14, s)) s) fun x16 s =>
 opt (gval false x16) fun x17 => opt2 (orUndef x17 (some (k.1, s)) s) fun x18 s =>
 opt (gval false x16) fun x19 => opt2 (orUndef x19 (some (k.2.2.2.2.1, s)) s) fun x20 s =>
 opt (gval false x16) fun x21 => opt2 (orUndef x21 (some (k.2.2.2.2.2.2.1, s)) s) fun x22 s =>
 opt (gval false x16) fun x23 => opt2 (orUndef x23 (oBin (int2 addO) (.v x20) (.v x22) rec PT.nil s) s) fun x24 s =>
 opt (gval false x16) fun x25 => opt2 (orUndef x25 (oIdxS (.v x18) (.v x24) rec PT.nil s) s) fun x26 s =>
 opt (gval false x16) fun x27 => opt2 (orUndef x27 (oBin (int2 (cmpO eqI)) (.v x26) (.v (.int .u8 95)) rec PT.nil s) s) fun x28 s =>
 opt (gval true k.2.2.2.2.2.2.2.1) fun x29 => opt2 (orUndef x29 (oPick (.v x16) (.v (.bool true)) (.v x28) rec PT.nil s) s) fun x30 s =>
 opt2 (oPick (.v k.2.2.2.2.2.2.2.1) (.v x30) (.v (.bool false)) rec PT.nil s) fun x31 s =>
 J10_j0 rec N (k.1, k.2.1, k.2.2.1, k.2.2.2.1, k.2.2.2.2.1, k.2.2.2.2.2.1, k.2.2.2.2.2.2.1, x31) s
set_option maxHeartbeats 4000000 in
theorem j10_q0 (rec : Rec) (N : Nat) (fs : Frm) (s : St) : opt2 (runOps rec c10_q0 fs s) (fun fs s => opt2 (c10_j0 rec N fs s) fun e r => opt2 (thenX (c10_j1 rec N) e r) fun e r => some (e, (((orU (r.1.get t8)), (orU (r.1.get t0), orU (r.1.get t2), orU (r.1.get t3), orU (r.1.get t4), orU (r.1.get t5), orU (r.1.get t7))), r.2))) = opt2 (Q10_q0 rec N (orU (fs.get t0), orU (fs.get t2), orU (fs.get t3), orU (fs.get t4), orU (fs.get t5), orU (fs.get t7), orU (fs.get t8), orU (fs.get t71), orU (fs.get t78)) s) fun e r => some (e, ((r.1, (orU (fs.get t0), orU (fs.get t2), orU (fs.get t3), orU (fs.get t4), orU (fs.get t5), orU (fs.get t7))), r.2)) := by
  rw [d10_q0]
  unfold D10_q0 Q10_q0
  simp (maxSteps := 4000000) only [thenX_n, thenX_e, thenX_r, x_exit, x_skip, x_ret, blkX_n, blkX_r, blkX_e, finX_r, finX_n, res_n, res_t, op2_op2, op2_op, op2_s, op2_cond, op2_bf, mov_v, j10_j0 rec N]
  first | done | kernel_rfl
def J10_r1 (rec : Rec) (N : Nat) (k : Value × Value × Value × Value × Value × Value × Value) (s : St) : OutV (Value × Value × Value × Value) := opt2 (oBin (int2 (cmpO eqI)) (.v k.2.2.2.2.2.2) (.v (.int .i64 0)) rec PT.nil s) fun x1 s =>
 condV x1
 (some (.ret, (((.slice none 0 0), k.2.2.2.2.1, k.2.2.2.1, k.2.2.2.2.1), s)))
 (opt2 (oLoadN 4 (.v k.2.2.2.2.2.1) rec PT.nil s) fun x2 s =>
 opt2 (oBuildSlice 1 [(.int .i64 0), (.string ⟨⟨[]⟩⟩), (.int .i64 0), (.int .i64 0)] [(0, 4, (.v x2))] rec PT.nil s) fun x3 s =>
 opt2 (oAppend 4 40 (.v k.2.2.2.1) (.v x3) rec PT.nil s) fun x4 s =>
 opt2 (oBin (int2 addO) (.v k.2.2.2.2.1) (.v k.2.2.2.2.2.2) rec PT.nil s) fun x5 s =>
 some (.norm, ((k.2.1, k.2.2.1, x4, x5), s)))
set_option maxHeartbeats 4000000 in
theorem j10_r1 (rec : Rec) (N : Nat) (fs : Frm) (s : St) : opt2 (c10_r1 rec N fs s) (fun e r => opt2 (blkX 1 e r) fun e r => some (e, (((orU (r.1.get t2), orU (r.1.get t3), orU (r.1.get t4), orU (r.1.get t5)), (orU (r.1.get t0))), r.2))) = opt2 (J10_r1 rec N (orU (fs.get t0), orU (fs.get t2), orU (fs.get t3), orU (fs.get t4), orU (fs.get t5), orU (fs.get t7), orU (fs.get t8)) s) fun e r => some (e, ((r.1, (orU (fs.get t0))), r.2)) := by
  rw [d10_r1]
  unfold D10_r1 J10_r1
  simp (maxSteps := 4000000) only [thenX_n, thenX_e, thenX_r, x_exit, x_skip, x_ret, blkX_n, blkX_r, blkX_e, finX_r, finX_n, res_n, res_t, op2_op2, op2_op, op2_s, op2_cond, op2_bf, mov_v]
  first | done | kernel_rfl
def J10_r0 (rec : Rec) (N : Nat) (k : Value × Value × Value × Value × Value × Value × Value) (s : St) : OutV (Value × Value × Value × Value) := opt2 (oFieldAddr 0 (.v k.2.2.2.2.2.1) rec PT.nil s) fun x1 s =>
 opt2 (oStore 1 (.v x1) (.v (.int .i64 1)) rec PT.nil s) fun x2 s =>
 opt2 (oBin (int2 addO) (.v k.2.2.2.2.1) (.v k.2.2.2.2.2.2) rec PT.nil s) fun x3 s =>
 opt2 (oSliceS (.v k.1) (some (.v k.2.2.2.2.1)) (some (.v x3)) rec PT.nil s) fun x4 s =>
 opt2 (oFieldAddr 1 (.v k.2.2.2.2.2.1) rec PT.nil s) fun x5 s =>
 opt2 (oStore 1 (.v x5) (.v x4) rec PT.nil s) fun x6 s =>
 opt2 (oFieldAddr 1 (.v k.2.2.2.2.2.1) rec PT.nil s) fun x7 s =>
 opt2 (oLoad1 (.v x7) rec PT.nil s) fun x8 s =>
 opt2 (rec 13 [x8] s) fun x9 s =>
 condV x9
 (opt2 (oFieldAddr 0 (.v k.2.2.2.2.2.1) rec PT.nil s) fun x10 s =>
 opt2 (oStore 1 (.v x10) (.v (.int .i64 2)) rec PT.nil s) fun x11 s =>
 opt2 (oBin (int2 (cmpO gtI)) (.v k.2.2.2.2.2.2) (.v (.int .i64 32)) rec PT.nil s) fun x12 s =>
 condV x12
 (J10_r1 rec N (k.1, k.2.1, k.2.2.1, k.2.2.2.1, k.2.2.2.2.1, k.2.2.2.2.2.1, (.int .i64 0)) s)
 (J10_r1 rec N (k.1, k.2.1, k.2.2.1, k.2.2.2.1, k.2.2.2.2.1, k.2.2.2.2.2.1, k.2.2.2.2.2.2) s))
 (opt2 (oBin (int2 (cmpO gtI)) (.v k.2.2.2.2.2.2) (.v (.int .i64 32)) rec PT.nil s) fun x13 s =>
 condV x13
 (J10_r1 rec N (k.1, k.2.1, k.2.2.1, k.2.2.2.1, k.2.2.2.2.1, k.2.2.2.2.2.1, (.int .i64 0)) s)
 (J10_r1 rec N (k.1, k.2.1, k.2.2.1, k.2.2.2.1, k.2.2.2.2.1, k.2.2.2.2.2.1, k.2.2.2.2.2.2) s))
set_option maxHeartbeats 4000000 in
theorem j10_r0 (rec : Rec) (N : Nat) (fs : Frm) (s : St) : opt2 (c10_r0 rec N fs s) (fun e r => opt2 (blkX 4 e r) fun e r => opt2 (thenX (c10_r1 rec N) e r) fun e r => opt2 (blkX 1 e r) fun e r => some (e, (((orU (r.1.get t2), orU (r.1.get t3), orU (r.1.get t4), orU (r.1.get t5)), (orU (r.1.get t0))), r.2))) = opt2 (J10_r0 rec N (orU (fs.get t0), orU (fs.get t2), orU (fs.get t3), orU (fs.get t4), orU (fs.get t5), orU (fs.get t7), orU (fs.get t8)) s) fun e r => some (e, ((r.1, (orU (fs.get t0))), r.2)) := by
  rw [d10_r0]
  unfold D10_r0 J10_r0
  simp (maxSteps := 4000000) only [thenX_n, thenX_e, thenX_r, x_exit, x_skip, x_ret, blkX_n, blkX_r, blkX_e, finX_r, finX_n, res_n, res_t, op2_op2, op2_op, op2_s, op2_cond, op2_bf, mov_v, j10_r1 rec N]
  first | done | kernel_rfl
def B10_l1 (rec : Rec) (N : Nat) (k : Value × Value × Value × Value × Value × Value) (v : Value) (s : St) : OutV (Value) := opt2 (oBin (int2 addO) (.v k.2.2.2.2.1) (.v v) rec PT.nil s) fun x1 s =>
 opt2 (oLenS (.v k.1) rec PT.nil s) fun x2 s =>
 opt2 (oBin (int2 (cmpO ltI)) (.v x1) (.v x2) rec PT.nil s) fun x3 s =>
 opt (gval true x3) fun x4 => opt2 (orUndef x4 (some (k.1, s)) s) fun x5 s =>
 opt (gval true x3) fun x6 => opt2 (orUndef x6 (some (k.2.2.2.2.1, s)) s) fun x7 s =>
 opt (gval true x3) fun x8 => opt2 (orUndef x8 (some (v, s)) s) fun x9 s =>
 opt (gval true x3) fun x10 => opt2 (orUndef x10 (oBin (int2 addO) (.v x7) (.v x9) rec PT.nil s) s) fun x11 s =>
 opt (gval true x3) fun x12 => opt2 (orUndef x12 (oIdxS (.v x5) (.v x11) rec PT.nil s) s) fun x13 s =>
 opt (gval true x3) fun x14 => opt2 (orUndef x14 (rec 16 [x13] s) s) fun x15 s =>
 opt (gval true x3) fun x16 => opt2 (orUndef x16 (some (x15, s)) s) fun x17 s =>
 Q10_q0 rec N (k.1, k.2.1, k.2.2.1, k.2.2.2.1, k.2.2.2.2.1, k.2.2.2.2.2, v, x3, x17) s
set_option maxHeartbeats 4000000 in
theorem s10_l1 (rec : Rec) (N : Nat) (fs : Frm) (s : St) : opt2 (c10_l1 rec N fs s) (fun e r => some (e, (((orU (r.1.get t8)), (orU (r.1.get t0), orU (r.1.get t2), orU (r.1.get t3), orU (r.1.get t4), orU (r.1.get t5), orU (r.1.get t7))), r.2))) = opt2 (B10_l1 rec N (orU (fs.get t0), orU (fs.get t2), orU (fs.get t3), orU (fs.get t4), orU (fs.get t5), orU (fs.get t7)) (orU (fs.get t8)) s) fun e r => some (e, ((r.1, (orU (fs.get t0), orU (fs.get t2), orU (fs.get t3), orU (fs.get t4), orU (fs.get t5), orU (fs.get t7))), r.2)) := by
  rw [d10_l1]
  unfold D10_l1 B10_l1
  simp (maxSteps := 4000000) only [op2_op2, op2_op, op2_s, op2_cond, op2_bf, mov_v, j10_q0 rec N]
  first | done | kernel_rfl
def C10_l1 (rec : Rec) (N : Nat) (k : Value × Value × Value × Value × Value × Value) (e : AExit) (r : (Value) × St) : OutV (Value × Value × Value × Value) := (fun s => exV (fun i => bif Nat.beq i 5 then (J10_r0 rec N (k.1, k.2.1, k.2.2.1, k.2.2.2.1, k.2.2.2.2.1, k.2.2.2.2.2, r.1) s)
 else (bif Nat.beq i 4 then (J10_r1 rec N (k.1, k.2.1, k.2.2.1, k.2.2.2.1, k.2.2.2.2.1, k.2.2.2.2.2, r.1) s)
 else (bif Nat.beq i 1 then (some (.norm, ((k.2.1, k.2.2.1, k.2.2.2.1, k.2.2.2.2.1), s)))
 else (some ((.exit i), ((k.2.1, k.2.2.1, k.2.2.2.1, k.2.2.2.2.1), s))))))
 (some (.ret, ((k.2.1, k.2.2.1, k.2.2.2.1, k.2.2.2.2.1), s))) e) r.2
theorem j10_l1 (rec : Rec) (N : Nat) (fs : Frm) (s : St) : opt2 (loopF (c10_l1 rec N) N fs s) (fun e r => opt2 (blkX 5 e r) fun e r => opt2 (thenX (c10_r0 rec N) e r) fun e r => opt2 (blkX 4 e r) fun e r => opt2 (thenX (c10_r1 rec N) e r) fun e r => opt2 (blkX 1 e r) fun e r => some (e, (((orU (r.1.get t2), orU (r.1.get t3), orU (r.1.get t4), orU (r.1.get t5)), (orU (r.1.get t0))), r.2))) = opt2 (loopV (B10_l1 rec N (orU (fs.get t0), orU (fs.get t2), orU (fs.get t3), orU (fs.get t4), orU (fs.get t5), orU (fs.get t7))) N (orU (fs.get t8)) s) (fun e q => opt2 (C10_l1 rec N (orU (fs.get t0), orU (fs.get t2), orU (fs.get t3), orU (fs.get t4), orU (fs.get t5), orU (fs.get t7)) e q) fun e r => some (e, ((r.1, (orU (fs.get t0))), r.2))) := by
  refine loop_j (fun fs => (orU (fs.get t8))) (fun fs => (orU (fs.get t0), orU (fs.get t2), orU (fs.get t3), orU (fs.get t4), orU (fs.get t5), orU (fs.get t7))) (B10_l1 rec N) (c10_l1 rec N) (s10_l1 rec N) (fun e r => opt2 (blkX 5 e r) fun e r => opt2 (thenX (c10_r0 rec N) e r) fun e r => opt2 (blkX 4 e r) fun e r => opt2 (thenX (c10_r1 rec N) e r) fun e r => opt2 (blkX 1 e r) fun e r => some (e, (((orU (r.1.get t2), orU (r.1.get t3), orU (r.1.get t4), orU (r.1.get t5)), (orU (r.1.get t0))), r.2))) (fun k e q => opt2 (C10_l1 rec N k e q) fun e r => some (e, ((r.1, k.1), r.2))) ?_ ?_ N fs s
  · intro i fs s
    unfold C10_l1
    simp (maxSteps := 4000000) only [thenX_n, thenX_e, thenX_r, x_exit, x_skip, x_ret, blkX_n, blkX_r, blkX_e, finX_r, finX_n, res_n, res_t, exV_e, exV_r, op2_op2, op2_op, op2_s, op2_cond, op2_bf, mov_v, j10_r0 rec N, j10_r1 rec N]
    first | done | kernel_rfl
  · intro fs s
    unfold C10_l1
    simp (maxSteps := 4000000) only [thenX_n, thenX_e, thenX_r, x_exit, x_skip, x_ret, blkX_n, blkX_r, blkX_e, finX_r, finX_n, res_n, res_t, exV_e, exV_r, op2_op2, op2_op, op2_s, op2_cond, op2_bf, mov_v, j10_r0 rec N, j10_r1 rec N]
    first | done | kernel_rfl
def J10_j3 (rec : Rec) (N : Nat) (k : Value × Value × Value × Value × Value × Value × Value × Value × Value) (s : St) : OutV (Value × Value × Value × Value) := opt2 (oBin (int2 addO) (.v k.2.2.2.2.1) (.v (.int .i64 1)) rec PT.nil s) fun x1 s =>
 opt2 (oBin (int2 addO) (.v k.2.2.2.2.1) (.v (.int .i64 1)) rec PT.nil s) fun x2 s =>
 opt2 (oBin (int2 addO) (.v x2) (.v k.2.2.2.2.2.2.2.1) rec PT.nil s) fun x3 s =>
 opt2 (oSliceS (.v k.1) (some (.v x1)) (some (.v x3)) rec PT.nil s) fun x4 s =>
 opt2 (rec 20 [x4, k.2.2.2.2.2.2.2.2] s) fun x5 s =>
 opt2 (oExtract (.v x5) 0 rec PT.nil s) fun x6 s =>
 opt2 (oExtract (.v x5) 1 rec PT.nil s) fun x7 s =>
 opt2 (oBin (int2 (cmpO eqI)) (.v k.2.2.2.2.2.2.2.1) (.v (.int .i64 0)) rec PT.nil s) fun x8 s =>
 opt (gval false x8) fun x9 => opt2 (orUndef x9 (some (x7, s)) s) fun x10 s =>
 opt (gval false x8) fun x11 => opt2 (orUndef x11 (oNot (.v x10) rec PT.nil s) s) fun x12 s =>
 opt2 (oPick (.v x8) (.v (.bool true)) (.v x12) rec PT.nil s) fun x13 s =>
 condV x13
 (J10_r1 rec N (k.1, k.2.1, k.2.2.1, k.2.2.2.1, k.2.2.2.2.1, k.2.2.2.2.2.1, (.int .i64 0)) s)
 (opt2 (oBin (int2 addO) (.v k.2.2.2.2.1) (.v k.2.2.2.2.2.2.1) rec PT.nil s) fun x14 s =>
 opt2 (oSliceS (.v k.1) (some (.v k.2.2.2.2.1)) (some (.v x14)) rec PT.nil s) fun x15 s =>
 opt2 (oBuild [(.int .i64 0), (.string ⟨⟨[]⟩⟩), (.int .i64 0), (.int .i64 0)] [(0, 1, (.v (.int .i64 4))), (1, 1, (.v x15)), (2, 1, (.v x6)), (3, 1, (.v k.2.2.2.2.1))] rec PT.nil s) fun x16 s =>
 opt2 (oStore 4 (.v k.2.2.2.2.2.1) (.v x16) rec PT.nil s) fun x17 s =>
 J10_r1 rec N (k.1, k.2.1, k.2.2.1, k.2.2.2.1, k.2.2.2.2.1, k.2.2.2.2.2.1, k.2.2.2.2.2.2.1) s)
set_option maxHeartbeats 4000000 in
theorem j10_j3 (rec : Rec) (N : Nat) (fs : Frm) (s : St) : opt2 (c10_j3 rec N fs s) (fun e r => opt2 (blkX 4 e r) fun e r => opt2 (thenX (c10_r1 rec N) e r) fun e r => opt2 (blkX 1 e r) fun e r => some (e, (((orU (r.1.get t2), orU (r.1.get t3), orU (r.1.get t4), orU (r.1.get t5)), (orU (r.1.get t0))), r.2))) = opt2 (J10_j3 rec N (orU (fs.get t0), orU (fs.get t2), orU (fs.get t3), orU (fs.get t4), orU (fs.get t5), orU (fs.get t7), orU (fs.get t8), orU (fs.get t9), orU (fs.get t10)) s) fun e r => some (e, ((r.1, (orU (fs.get t0))), r.2)) := by
  rw [d10_j3]
  unfold D10_j3 J10_j3
  simp (maxSteps := 4000000) only [thenX_n, thenX_e, thenX_r, x_exit, x_skip, x_ret, blkX_n, blkX_r, blkX_e, finX_r, finX_n, res_n, res_t, op2_op2, op2_op, op2_s, op2_cond, op2_bf, mov_v, j10_r1 rec N]
  first | done | kernel_rfl
def J10_j2 (rec : Rec) (N : Nat) (k : Value × Value × Value × Value × Value × Value × Value × Value × Value × Value) (s : St) : OutV (Value × Value × Value × Value) := condV k.2.2.2.2.2.2.2.2.2
 (opt2 (oBin (int2 addO) (.v k.2.2.2.2.1) (.v k.2.2.2.2.2.2.1) rec PT.nil s) fun x1 s =>
 opt2 (oBin (int2 addO) (.v x1) (.v (.int .i64 1)) rec PT.nil s) fun x2 s =>
 opt2 (oBin (int2 addO) (.v k.2.2.2.2.1) (.v k.2.2.2.2.2.2.1) rec PT.nil s) fun x3 s =>
 opt2 (oBin (int2 addO) (.v x3) (.v (.int .i64 3)) rec PT.nil s) fun x4 s =>
 opt2 (oSliceS (.v k.1) (some (.v x2)) (some (.v x4)) rec PT.nil s) fun x5 s =>
 opt2 (oBin (int2 addO) (.v k.2.2.2.2.2.2.1) (.v (.int .i64 3)) rec PT.nil s) fun x6 s =>
 J10_j3 rec N (k.1, k.2.1, k.2.2.1, k.2.2.2.1, k.2.2.2.2.1, k.2.2.2.2.2.1, x6, k.2.2.2.2.2.2.2.1, x5) s)
 (J10_j3 rec N (k.1, k.2.1, k.2.2.1, k.2.2.2.1, k.2.2.2.2.1, k.2.2.2.2.2.1, k.2.2.2.2.2.2.1, k.2.2.2.2.2.2.2.1, k.2.2.2.2.2.2.2.2.1) s)
set_option maxHeartbeats 4000000 in
theorem j10_j2 (rec : Rec) (N : Nat) (fs : Frm) (s : St) : opt2 (c10_j2 rec N fs s) (fun e r => opt2 (thenX (c10_j3 rec N) e r) fun e r => opt2 (blkX 4 e r) fun e r => opt2 (thenX (c10_r1 rec N) e r) fun e r => opt2 (blkX 1 e r) fun e r => some (e, (((orU (r.1.get t2), orU (r.1.get t3), orU (r.1.get t4), orU (r.1.get t5)), (orU (r.1.get t0))), r.2))) = opt2 (J10_j2 rec N (orU (fs.get t0), orU (fs.get t2), orU (fs.get t3), orU (fs.get t4), orU (fs.get t5), orU (fs.get t7), orU (fs.get t8), orU (fs.get t9), orU (fs.get t10), orU (fs.get t155)) s) fun e r => some (e, ((r.1, (orU (fs.get t0))), r.2)) := by
  rw [d10_j2]
  unfold D10_j2 J10_j2
  simp (maxSteps := 4000000) only [thenX_n, thenX_e, thenX_r, x_exit, x_skip, x_ret, blkX_n, blkX_r, blkX_e, finX_r, finX_n, res_n, res_t, op2_op2, op2_op, op2_s, op2_cond, op2_bf, mov_v, j10_j3 rec N]
  first | done | kernel_rfl
def Q10_q1 (rec : Rec) (N : Nat) (k : Value × Value × Value × Value × Value × Value × Value × Value × Value × Value × Value × Value × Value) (s : St) : OutV (Value × Value × Value × Value) := opt (gval true k.2.2.2.2.2.2.2.2.2.1) fun x1 => opt2 (orUndef x1 (oBin (int2 addO) (.v k.2.2.2.2.2.2.2.2.2.2.2.1) (.v k.2.2.2.2.2.2.2.2.2.2.2.2) rec PT.nil s) s) fun x2 s =>
 opt (gval true k.2.2.2.2.2.2.2.2.2.1) fun x3 => opt2 (orUndef x3 (oIdxS (.v k.2.2.2.2.2.2.2.2.2.2.1) (.v x2) rec PT.nil s) s) fun x4 s =>
 opt (gval true k.2.2.2.2.2.2.2.2.2.1) fun x5 => opt2 (orUndef x5 (oBin (int2 (cmpO eqI)) (.v x4) (.v (.int .u8 46)) rec PT.nil s) s) fun x6 s =>
 opt2 (oPick (.v k.2.2.2.2.2.2.2.2.2.1) (.v x6) (.v (.bool false)) rec PT.nil s) fun x7 s =>
 opt (gval true x7) fun x8 => opt2 (orUndef x8 (some (k.1, s)) s) fun x9 s =>
 opt (gval true x7) fun x10 => opt2 (orUndef x10 (some (k.2.2.2.2.1, s)) s) fun x11 s =>
 opt (gval true x7) fun x12 => opt2 (orUndef x12 (some (k.2.2.2.2.2.2.1, s)) s) fun x13 s =>
 opt (gval true x7) fun x14 => opt2 (orUndef x14 (oBin (int2 addO) (.v x11) (.v x13) rec PT.nil s) s) fun x15 s =>
 opt (gval true x7) fun x16 => opt2 (orUndef x16 (oBin (int2 addO) (.v x15) (.v (.int .i64 1)) rec PT.nil s) s) fun x17 s =>
 opt (gval true x7) fun x18 => opt2 (orUndef x18 (rec 19 [x9, x17] s) s) fun x19 s =>
 opt (gval true x7) fun x20 => opt2 (orUndef x20 (oBin (int2 (cmpO eqI)) (.v x19) (.v (.int .i64 2)) rec PT.nil s) s) fun x21 s =>
 opt2 (oPick (.v x7) (.v x21) (.v (.bool false)) rec PT.nil s) fun x22 s =>
 J10_j2 rec N (k.1, k.2.1, k.2.2.1, k.2.2.2.1, k.2.2.2.2.1, k.2.2.2.2.2.1, k.2.2.2.2.2.2.1, k.2.2.2.2.2.2.2.1, k.2.2.2.2.2.2.2.2.1, x22) s
set_option maxHeartbeats 4000000 in
theorem j10_q1 (rec : Rec) (N : Nat) (fs : Frm) (s : St) : opt2 (runOps rec c10_q1 fs s) (fun fs s => opt2 (c10_j2 rec N fs s) fun e r => opt2 (thenX (c10_j3 rec N) e r) fun e r => opt2 (blkX 4 e r) fun e r => opt2 (thenX (c10_r1 rec N) e r) fun e r => opt2 (blkX 1 e r) fun e r => some (e, (((orU (r.1.get t2), orU (r.1.get t3), orU (r.1.get t4), orU (r.1.get t5)), (orU (r.1.get t0))), r.2))) = opt2 (Q10_q1 rec N (orU (fs.get t0), orU (fs.get t2), orU (fs.get t3), orU (fs.get t4), orU (fs.get t5), orU (fs.get t7), orU (fs.get t8), orU (fs.get t9), orU (fs.get t10), orU (fs.get t139), orU (fs.get t140), orU (fs.get t141), orU (fs.get t142)) s) fun e r => some (e, ((r.1, (orU (fs.get t0))), r.2)) := by
  rw [d10_q1]
  unfold D10_q1 Q10_q1
  simp (maxSteps := 4000000) only [thenX_n, thenX_e, thenX_r, x_exit, x_skip, x_ret, blkX_n, blkX_r, blkX_e, finX_r, finX_n, res_n, res_t, op2_op2, op2_op, op2_s, op2_cond, op2_bf, mov_v, j10_j2 rec N]
  first | done | kernel_rfl
def J10_r2 (rec : Rec) (N : Nat) (k : Value × Value × Value × Value × Value × Value) (s : St) : OutV (Value × Value × Value × Value) := opt2 (oBuild [(.int .i64 0), (.string ⟨⟨[]⟩⟩), (.int .i64 0), (.int .i64 0)] [(3, 1, (.v k.2.2.2.2.1))] rec PT.nil s) fun x1 s =>
 opt2 (oNew [(.int .i64 0), (.string ⟨⟨[]⟩⟩), (.int .i64 0), (.int .i64 0)] rec PT.nil s) fun x2 s =>
 opt2 (oStore 4 (.v x2) (.v x1) rec PT.nil s) fun x3 s =>
 opt2 (rec 16 [k.2.2.2.2.2] s) fun x4 s =>
 condV x4
 (opt2 (loopV (B10_l1 rec N (k.1, k.2.1, k.2.2.1, k.2.2.2.1, k.2.2.2.2.1, x2)) N (.int .i64 0) s) (C10_l1 rec N (k.1, k.2.1, k.2.2.1, k.2.2.2.1, k.2.2.2.2.1, x2)))
 (opt2 (rec 17 [k.2.2.2.2.2] s) fun x5 s =>
 condV x5
 (opt2 (rec 18 [k.1, k.2.2.2.2.1] s) fun x6 s =>
 opt2 (oExtract (.v x6) 0 rec PT.nil s) fun x7 s =>
 opt2 (oExtract (.v x6) 1 rec PT.nil s) fun x8 s =>
 opt2 (oStore 4 (.v x2) (.v x7) rec PT.nil s) fun x9 s =>
 J10_r1 rec N (k.1, k.2.1, k.2.2.1, k.2.2.2.1, k.2.2.2.2.1, x2, x8) s)
 (opt2 (oBin (int2 (cmpO eqI)) (.v k.2.2.2.2.2) (.v (.int .u8 36)) rec PT.nil s) fun x10 s =>
 condV x10
 (opt2 (oBin (int2 addO) (.v k.2.2.2.2.1) (.v (.int .i64 1)) rec PT.nil s) fun x11 s =>
 opt2 (rec 19 [k.1, x11] s) fun x12 s =>
 opt2 (oBin (int2 addO) (.v (.int .i64 1)) (.v x12) rec PT.nil s) fun x13 s =>
 opt2 (oBin (int2 (cmpO gtI)) (.v x12) (.v (.int .i64 0)) rec PT.nil s) fun x14 s =>
 opt (gval true x14) fun x15 => opt2 (orUndef x15 (some (k.2.2.2.2.1, s)) s) fun x16 s =>
 opt (gval true x14) fun x17 => opt2 (orUndef x17 (some (x13, s)) s) fun x18 s =>
 opt (gval true x14) fun x19 => opt2 (orUndef x19 (oBin (int2 addO) (.v x16) (.v x18) rec PT.nil s) s) fun x20 s =>
 opt (gval true x14) fun x21 => opt2 (orUndef x21 (some (k.1, s)) s) fun x22 s =>
 opt (gval true x14) fun x23 => opt2 (orUndef x23 (oLenS (.v x22) rec PT.nil s) s) fun x24 s =>
 opt (gval true x14) fun x25 => opt2 (orUndef x25 (oBin (int2 (cmpO ltI)) (.v x20) (.v x24) rec PT.nil s) s) fun x26 s =>
 opt2 (oPick (.v x14) (.v x26) (.v (.bool false)) rec PT.nil s) fun x27 s =>
 opt (gval true x27) fun x28 => opt2 (orUndef x28 (some (k.1, s)) s) fun x29 s =>
 opt (gval true x27) fun x30 => opt2 (orUndef x30 (some (k.2.2.2.2.1, s)) s) fun x31 s =>
 opt (gval true x27) fun x32 => opt2 (orUndef x32 (some (x13, s)) s) fun x33 s =>
 Q10_q1 rec N (k.1, k.2.1, k.2.2.1, k.2.2.2.1, k.2.2.2.2.1, x2, x13, x12, (.string ⟨⟨[]⟩⟩), x27, x29, x31, x33) s)
 (opt2 (oFieldAddr 0 (.v x2) rec PT.nil s) fun x34 s =>
 opt2 (oStore 1 (.v x34) (.v (.int .i64 7)) rec PT.nil s) fun x35 s =>
 opt2 (oSliceS (.v k.1) (some (.v k.2.2.2.2.1)) none rec PT.nil s) fun x36 s =>
 opt2 (rec 21 [x36] s) fun x37 s =>
 opt2 (oFieldAddr 1 (.v x2) rec PT.nil s) fun x38 s =>
 opt2 (oStore 1 (.v x38) (.v x37) rec PT.nil s) fun x39 s =>
 opt2 (oFieldAddr 1 (.v x2) rec PT.nil s) fun x40 s =>
 opt2 (oLoad1 (.v x40) rec PT.nil s) fun x41 s =>
 opt2 (oLenS (.v x41) rec PT.nil s) fun x42 s =>
 J10_r1 rec N (k.1, k.2.1, k.2.2.1, k.2.2.2.1, k.2.2.2.2.1, x2, x42) s)))
set_option maxHeartbeats 4000000 in
theorem j10_r2 (rec : Rec) (N : Nat) (fs : Frm) (s : St) : opt2 (c10_r2 rec N fs s) (fun e r => opt2 (blkX 1 e r) fun e r => some (e, (((orU (r.1.get t2), orU (r.1.get t3), orU (r.1.get t4), orU (r.1.get t5)), (orU (r.1.get t0))), r.2))) = opt2 (J10_r2 rec N (orU (fs.get t0), orU (fs.get t2), orU (fs.get t3), orU (fs.get t4), orU (fs.get t5), orU (fs.get t6)) s) fun e r => some (e, ((r.1, (orU (fs.get t0))), r.2)) := by
  rw [d10_r2]
  unfold D10_r2 J10_r2
  simp (maxSteps := 4000000) only [thenX_n, thenX_e, thenX_r, x_exit, x_skip, x_ret, blkX_n, blkX_r, blkX_e, finX_r, finX_n, res_n, res_t, op2_op2, op2_op, op2_s, op2_cond, op2_bf, mov_v, j10_l1 rec N, j10_r1 rec N, j10_q1 rec N]
  first | done | kernel_rfl
def J10_r3 (rec : Rec) (N : Nat) (k : Value × Value) (s : St) : Out := opt2 (oLenS (.v k.1) rec PT.nil s) fun x1 s =>
 opt2 (oBuild [(.int .i64 0), (.string ⟨⟨[]⟩⟩), (.int .i64 0), (.int .i64 0)] [(3, 1, (.v x1))] rec PT.nil s) fun x2 s =>
 opt2 (oBuildSlice 1 [(.int .i64 0), (.string ⟨⟨[]⟩⟩), (.int .i64 0), (.int .i64 0)] [(0, 4, (.v x2))] rec PT.nil s) fun x3 s =>
 opt2 (oAppend 4 40 (.v k.2) (.v x3) rec PT.nil s) fun x4 s =>
 some (oneOf [x4, (.int .i64 (-1))], s)
set_option maxHeartbeats 4000000 in
theorem j10_r3 (rec : Rec) (N : Nat) (fs : Frm) (s : St) : opt2 (c10_r3 rec N fs s) (fun e r => finX [.tmp t2, .tmp t3] e r) = J10_r3 rec N (orU (fs.get t0), orU (fs.get t4)) s := by
  rw [d10_r3]
  unfold D10_r3 J10_r3
  simp (maxSteps := 4000000) only [thenX_n, thenX_e, thenX_r, x_exit, x_skip, x_ret, blkX_n, blkX_r, blkX_e, finX_r, finX_n, res_n, res_t, op2_op2, op2_op, op2_s, op2_cond, op2_bf, mov_v]
  first | done | kernel_rfl
def B10_l2 (rec : Rec) (N : Nat) (k : Value) (v : Value × Value × Value × Value) (s : St) : OutV (Value × Value × Value × Value) := opt2 (oLenS (.v k) rec PT.nil s) fun x1 s =>
 opt2 (oBin (int2 (cmpO ltI)) (.v v.2.2.2) (.v x1) rec PT.nil s) fun x2 s =>
 condV x2
 (opt2 (oIdxS (.v k) (.v v.2.2.2) rec PT.nil s) fun x3 s =>
 opt2 (oBin (int2 (cmpO eqI)) (.v x3) (.v (.int .u8 32)) rec PT.nil s) fun x4 s =>
 opt (gval false x4) fun x5 => opt2 (orUndef x5 (some (x3, s)) s) fun x6 s =>
 opt (gval false x4) fun x7 => opt2 (orUndef x7 (oBin (int2 (cmpO eqI)) (.v x6) (.v (.int .u8 9)) rec PT.nil s) s) fun x8 s =>
 opt2 (oPick (.v x4) (.v (.bool true)) (.v x8) rec PT.nil s) fun x9 s =>
 opt (gval false x9) fun x10 => opt2 (orUndef x10 (some (x3, s)) s) fun x11 s =>
 opt (gval false x9) fun x12 => opt2 (orUndef x12 (oBin (int2 (cmpO eqI)) (.v x11) (.v (.int .u8 10)) rec PT.nil s) s) fun x13 s =>
 opt2 (oPick (.v x9) (.v (.bool true)) (.v x13) rec PT.nil s) fun x14 s =>
 opt (gval false x14) fun x15 => opt2 (orUndef x15 (some (x3, s)) s) fun x16 s =>
 opt (gval false x14) fun x17 => opt2 (orUndef x17 (oBin (int2 (cmpO eqI)) (.v x16) (.v (.int .u8 13)) rec PT.nil s) s) fun x18 s =>
 opt2 (oPick (.v x14) (.v (.bool true)) (.v x18) rec PT.nil s) fun x19 s =>
 condV x19
 (opt2 (oBin (int2 addO) (.v v.2.2.2) (.v (.int .i64 1)) rec PT.nil s) fun x20 s =>
 some (.norm, ((v.1, v.2.1, v.2.2.1, x20), s)))
 (opt2 (oBin (int2 (cmpO eqI)) (.v x3) (.v (.int .u8 35)) rec PT.nil s) fun x21 s =>
 condV x21
 (opt2 (loopV (B10_l0 rec N (k, v.1, v.2.1, v.2.2.1)) N v.2.2.2 s) (C10_l0 rec N (k, v.1, v.2.1, v.2.2.1)))
 (J10_r2 rec N (k, v.1, v.2.1, v.2.2.1, v.2.2.2, x3) s)))
 (some ((.exit 0), ((v.1, v.2.1, v.2.2.1, v.2.2.2), s)))
set_option maxHeartbeats 4000000 in
theorem s10_l2 (rec : Rec) (N : Nat) (fs : Frm) (s : St) : opt2 (c10_l2 rec N fs s) (fun e r => some (e, (((orU (r.1.get t2), orU (r.1.get t3), orU (r.1.get t4), orU (r.1.get t5)), (orU (r.1.get t0))), r.2))) = opt2 (B10_l2 rec N (orU (fs.get t0)) (orU (fs.get t2), orU (fs.get t3), orU (fs.get t4), orU (fs.get t5)) s) fun e r => some (e, ((r.1, (orU (fs.get t0))), r.2)) := by
  rw [d10_l2]
  unfold D10_l2 B10_l2
  simp (maxSteps := 4000000) only [op2_op2, op2_op, op2_s, op2_cond, op2_bf, mov_v, j10_l0 rec N, j10_r2 rec N]
  first | done | kernel_rfl
def C10_l2 (rec : Rec) (N : Nat) (k : Value) (e : AExit) (r : (Value × Value × Value × Value) × St) : Out := (fun s => exV (fun i => bif Nat.beq i 0 then (J10_r3 rec N (k, r.1.2.2.1) s)
 else (none))
 (some (oneOf [r.1.1, r.1.2.1], s)) e) r.2
theorem j10_l2 (rec : Rec) (N : Nat) (fs : Frm) (s : St) : opt2 (loopF (c10_l2 rec N) N fs s) (fun e r => opt2 (blkX 0 e r) fun e r => opt2 (thenX (c10_r3 rec N) e r) fun e r => finX [.tmp t2, .tmp t3] e r) = opt2 (loopV (B10_l2 rec N (orU (fs.get t0))) N (orU (fs.get t2), orU (fs.get t3), orU (fs.get t4), orU (fs.get t5)) s) (C10_l2 rec N (orU (fs.get t0))) := by
  refine loop_j (fun fs => (orU (fs.get t2), orU (fs.get t3), orU (fs.get t4), orU (fs.get t5))) (fun fs => (orU (fs.get t0))) (B10_l2 rec N) (c10_l2 rec N) (s10_l2 rec N) (fun e r => opt2 (blkX 0 e r) fun e r => opt2 (thenX (c10_r3 rec N) e r) fun e r => finX [.tmp t2, .tmp t3] e r) (C10_l2 rec N) ?_ ?_ N fs s
  · intro i fs s
    unfold C10_l2
    simp (maxSteps := 4000000) only [thenX_n, thenX_e, thenX_r, x_exit, x_skip, x_ret, blkX_n, blkX_r, blkX_e, finX_r, finX_n, res_n, res_t, exV_e, exV_r, op2_op2, op2_op, op2_s, op2_cond, op2_bf, mov_v, j10_r3 rec N]
    first | done | kernel_rfl
  · intro fs s
    unfold C10_l2
    simp (maxSteps := 4000000) only [thenX_n, thenX_e, thenX_r, x_exit, x_skip, x_ret, blkX_n, blkX_r, blkX_e, finX_r, finX_n, res_n, res_t, exV_e, exV_r, op2_op2, op2_op, op2_s, op2_cond, op2_bf, mov_v, j10_r3 rec N]
    first | done | kernel_rfl
def F10 (rec : Rec) (N : Nat) (a0 : Value) (s : St) : Out := opt2 (oMakeSlice 4 40 [(.int .i64 0), (.string ⟨⟨[]⟩⟩), (.int .i64 0), (.int .i64 0)] (.v (.int .i64 0)) (.v (.int .i64 0)) rec PT.nil s) fun x1 s =>
 opt2 (loopV (B10_l2 rec N a0) N ((.slice none 0 0), (.int .i64 0), x1, (.int .i64 0)) s) (C10_l2 rec N a0)
theorem f10 (rec : Rec) (N : Nat) (a0 : Value) (s : St) : callF rec N c10 [a0] s = F10 rec N a0 s := by
  rw [d10]
  unfold D10 F10
  simp (maxSteps := 4000000) only [mov_v, op2_s, j10_l2 rec N]
  first | done | kernel_rfl
end
end Go.Proofs.Ytikdjhlcbkkkfaa.AbsLexO
