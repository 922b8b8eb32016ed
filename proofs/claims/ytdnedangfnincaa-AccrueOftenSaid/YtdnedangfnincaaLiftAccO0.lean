import Derived.Test.YtdnedangfnincaaAbsAccOE
import Derived.Test.YtdnedangfnincaaAbsZL
namespace Go.Proofs.Ytdnedangfnincaa.AbsAccO
open Go Go.Abs Go.Proofs
set_option maxRecDepth 100000
set_option linter.unusedVariables false
set_option linter.unusedSimpArgs false
noncomputable section
-- c5
theorem q5_g0 (rec : Rec) (n : Nat) (fs : Frm) (s : St) : xReg c5_g0 [(0, 1), (0, 2), (1, 2), (0, 3), (0, 4), (0, 5), (0, 6), (1, 6), (2, 6), (3, 6), (4, 6), (5, 6), (0, 7), (1, 7), (2, 7), (3, 7), (4, 7), (5, 7), (6, 7), (0, 8), (1, 8), (2, 8), (3, 8), (4, 8), (5, 8), (0, 9), (1, 9), (2, 9), (3, 9), (4, 9), (5, 9), (0, 10), (1, 10), (2, 10), (3, 10), (4, 10), (5, 10), (0, 11), (1, 11), (2, 11), (3, 11), (4, 11), (5, 11)] rec n fs s = opt2 (runQ rec [⟨(some t63), oMov (.t t9), none, none⟩,
   ⟨(some t64), oMov (.t t1), none, none⟩,
   ⟨(some t65), oMov (.t t10), none, none⟩,
   ⟨(some t66), oIdxAddrL 3 (.t t64) (.t t65), none, none⟩,
   ⟨(some t67), oFieldAddr 1 (.t t66), none, none⟩,
   ⟨(some t68), oLoad1 (.t t67), none, (some (.t t67))⟩,
   ⟨(some t69), oMov (.t t1), none, none⟩,
   ⟨(some t70), oMov (.t t10), none, none⟩,
   ⟨(some t71), oIdxAddrL 3 (.t t69) (.t t70), none, none⟩,
   ⟨(some t72), oFieldAddr 2 (.t t71), none, none⟩,
   ⟨(some t73), oLoad1 (.t t72), none, (some (.t t72))⟩,
   ⟨(some t74), oBin (int2 andO) (.t t73) (.v (.int .i64 1048575)), none, none⟩,
   ⟨(some t75), oCall 27 [(.t t63), (.t t68), (.t t74)], none, none⟩] fs s) fun fs s => some (.norm, fs, s) :=
 reg_q (ks := [0, 0, 0, 0, 0, 1, 0, 0, 0, 0, 1, 0, 2]) (okc (ok0 (qv_mov (.t t9)) rfl)
 (okc (ok0 (qv_mov (.t t1)) rfl)
 (okc (ok0 (qv_mov (.t t10)) rfl)
 (okc (ok0 (qv_idxl 3 (.t t64) (.t t65)) rfl)
 (okc (ok0 (qv_fieldaddr 1 (.t t66)) rfl)
 (okc (ok1 rfl)
 (okc (ok0 (qv_mov (.t t1)) rfl)
 (okc (ok0 (qv_mov (.t t10)) rfl)
 (okc (ok0 (qv_idxl 3 (.t t69) (.t t70)) rfl)
 (okc (ok0 (qv_fieldaddr 2 (.t t71)) rfl)
 (okc (ok1 rfl)
 (okc (ok0 (qv_bin (int2 andO) (.t t73) (.v (.int .i64 1048575))) rfl)
 (okc (ok2 rfl)
 okn))))))))))))) (by kernel_rfl) rec n fs s
theorem q5_g1 (rec : Rec) (n : Nat) (fs : Frm) (s : St) : xReg c5_g1 [(0, 1), (0, 4), (1, 4), (2, 4), (3, 4), (7, 8), (7, 12), (8, 12), (9, 12), (10, 12), (11, 12), (7, 13), (8, 13), (9, 13), (10, 13), (11, 13), (12, 13), (7, 14), (8, 14), (9, 14), (10, 14), (11, 14), (7, 15), (8, 15), (9, 15), (10, 15), (11, 15), (19, 20), (19, 24), (20, 24), (21, 24), (22, 24), (23, 24)] rec n fs s = opt2 (runQ rec (⟨(some t98), oMov (.t t2), none, none⟩ ::
   ⟨(some t99), oMov (.t t17), none, none⟩ ::
   ⟨(some t100), oIdxAddrL 1 (.t t98) (.t t99), none, none⟩ ::
   ⟨(some t101), oLoad1 (.t t100), none, (some (.t t100))⟩ ::
   ⟨(some t102), oMov (.t t15), none, none⟩ ::
   ⟨(some t103), oBin (int2 (cmpO geI)) (.t t101) (.t t102), none, none⟩ ::
   ⟨(some t104), oMov (.t t103), none, none⟩ ::
   ⟨(some t105), oMov (.t t1), (some (t104, true)), none⟩ ::
   ⟨(some t106), oMov (.t t16), (some (t104, true)), none⟩ ::
   ⟨(some t107), oIdxAddrL 3 (.t t105) (.t t106), (some (t104, true)), none⟩ ::
   ⟨(some t108), oFieldAddr 1 (.t t107), (some (t104, true)), none⟩ ::
   ⟨(some t109), oLoad1 (.t t108), (some (t104, true)), (some (.t t108))⟩ ::
   ⟨(some t110), oMov (.t t2), (some (t104, true)), none⟩ ::
   ⟨(some t111), oMov (.t t17), (some (t104, true)), none⟩ :: c5_q1) fs s) fun fs s => some (.norm, fs, s) :=
 reg_q (ks := [0, 0, 0, 1, 0, 0, 0, 0, 0, 0, 0, 1, 0, 0, 0, 1, 0, 0, 0, 0, 0, 0, 0, 1, 0, 0, 0]) (okc (ok0 (qv_mov (.t t2)) rfl)
 (okc (ok0 (qv_mov (.t t17)) rfl)
 (okc (ok0 (qv_idxl 1 (.t t98) (.t t99)) rfl)
 (okc (ok1 rfl)
 (okc (ok0 (qv_mov (.t t15)) rfl)
 (okc (ok0 (qv_bin (int2 (cmpO geI)) (.t t101) (.t t102)) rfl)
 (okc (ok0 (qv_mov (.t t103)) rfl)
 (okc (ok0 (qv_mov (.t t1)) rfl)
 (okc (ok0 (qv_mov (.t t16)) rfl)
 (okc (ok0 (qv_idxl 3 (.t t105) (.t t106)) rfl)
 (okc (ok0 (qv_fieldaddr 1 (.t t107)) rfl)
 (okc (ok1 rfl)
 (okc (ok0 (qv_mov (.t t2)) rfl)
 (okc (ok0 (qv_mov (.t t17)) rfl)
 (okc (ok0 (qv_idxl 1 (.t t110) (.t t111)) rfl)
 (okc (ok1 rfl)
 (okc (ok0 (qv_bin (int2 (cmpO geI)) (.t t109) (.t t113)) rfl)
 (okc (ok0 (qv_pick (.t t104) (.t t114) (.v (.bool false))) rfl)
 (okc (ok0 (qv_mov (.t t115)) rfl)
 (okc (ok0 (qv_mov (.t t1)) rfl)
 (okc (ok0 (qv_mov (.t t16)) rfl)
 (okc (ok0 (qv_idxl 3 (.t t117) (.t t118)) rfl)
 (okc (ok0 (qv_fieldaddr 1 (.t t119)) rfl)
 (okc (ok1 rfl)
 (okc (ok0 (qv_mov (.t t3)) rfl)
 (okc (ok0 (qv_bin (int2 (cmpO leI)) (.t t121) (.t t122)) rfl)
 (okc (ok0 (qv_pick (.t t116) (.t t123) (.v (.bool false))) rfl)
 okn))))))))))))))))))))))))))) (by kernel_rfl) rec n fs s
theorem q5_g2 (rec : Rec) (n : Nat) (fs : Frm) (s : St) : xReg c5_g2 [(0, 1), (0, 2), (1, 2), (0, 3), (1, 3), (2, 3), (0, 4), (1, 4), (0, 5), (1, 5), (0, 6), (1, 6), (0, 7), (1, 7), (2, 7), (3, 7), (4, 7), (5, 7), (6, 7), (0, 8), (1, 8), (2, 8), (3, 8), (4, 8), (5, 8), (6, 8), (7, 8), (0, 9), (1, 9), (2, 9), (3, 9), (4, 9), (5, 9), (6, 9), (0, 10), (1, 10), (2, 10), (3, 10), (4, 10), (5, 10), (6, 10), (0, 11), (1, 11), (2, 11), (3, 11), (4, 11), (5, 11), (6, 11)] rec n fs s = opt2 (runQ rec [⟨(some t179), oMov (.t t11), none, none⟩,
   ⟨(some t180), oMov (.t t9), none, none⟩,
   ⟨(some t181), oMov (.t t1), none, none⟩,
   ⟨(some t182), oMov (.t t16), none, none⟩,
   ⟨(some t183), oIdxAddrL 3 (.t t181) (.t t182), none, none⟩,
   ⟨(some t184), oFieldAddr 1 (.t t183), none, none⟩,
   ⟨(some t185), oLoad1 (.t t184), none, (some (.t t184))⟩,
   ⟨(some t186), oMov (.t t1), none, none⟩,
   ⟨(some t187), oMov (.t t16), none, none⟩,
   ⟨(some t188), oIdxAddrL 3 (.t t186) (.t t187), none, none⟩,
   ⟨(some t189), oFieldAddr 2 (.t t188), none, none⟩,
   ⟨(some t190), oLoad1 (.t t189), none, (some (.t t189))⟩,
   ⟨(some t191), oCall 14 [(.t t179), (.t t180), (.t t185), (.t t190)], none, none⟩,
   ⟨(some t18), oMov (.t t191), none, none⟩] fs s) fun fs s => some (.norm, fs, s) :=
 reg_q (ks := [0, 0, 0, 0, 0, 0, 1, 0, 0, 0, 0, 1, 2, 0]) (okc (ok0 (qv_mov (.t t11)) rfl)
 (okc (ok0 (qv_mov (.t t9)) rfl)
 (okc (ok0 (qv_mov (.t t1)) rfl)
 (okc (ok0 (qv_mov (.t t16)) rfl)
 (okc (ok0 (qv_idxl 3 (.t t181) (.t t182)) rfl)
 (okc (ok0 (qv_fieldaddr 1 (.t t183)) rfl)
 (okc (ok1 rfl)
 (okc (ok0 (qv_mov (.t t1)) rfl)
 (okc (ok0 (qv_mov (.t t16)) rfl)
 (okc (ok0 (qv_idxl 3 (.t t186) (.t t187)) rfl)
 (okc (ok0 (qv_fieldaddr 2 (.t t188)) rfl)
 (okc (ok1 rfl)
 (okc (ok2 rfl)
 (okc (ok0 (qv_mov (.t t191)) rfl)
 okn)))))))))))))) (by kernel_rfl) rec n fs s
theorem q5_g3 (rec : Rec) (n : Nat) (fs : Frm) (s : St) : xReg c5_g3 [(0, 1), (0, 2), (1, 2), (0, 3), (1, 3), (2, 3), (0, 4), (1, 4), (0, 5), (1, 5), (0, 6), (1, 6), (0, 7), (1, 7), (2, 7), (3, 7), (4, 7), (5, 7), (6, 7), (0, 8), (1, 8), (2, 8), (3, 8), (4, 8), (5, 8), (6, 8), (7, 8), (0, 9), (1, 9), (2, 9), (3, 9), (4, 9), (5, 9), (6, 9), (0, 10), (1, 10), (2, 10), (3, 10), (4, 10), (5, 10), (6, 10), (0, 11), (1, 11), (2, 11), (3, 11), (4, 11), (5, 11), (6, 11)] rec n fs s = opt2 (runQ rec [⟨(some t192), oMov (.t t13), none, none⟩,
   ⟨(some t193), oMov (.t t9), none, none⟩,
   ⟨(some t194), oMov (.t t1), none, none⟩,
   ⟨(some t195), oMov (.t t16), none, none⟩,
   ⟨(some t196), oIdxAddrL 3 (.t t194) (.t t195), none, none⟩,
   ⟨(some t197), oFieldAddr 1 (.t t196), none, none⟩,
   ⟨(some t198), oLoad1 (.t t197), none, (some (.t t197))⟩,
   ⟨(some t199), oMov (.t t1), none, none⟩,
   ⟨(some t200), oMov (.t t16), none, none⟩,
   ⟨(some t201), oIdxAddrL 3 (.t t199) (.t t200), none, none⟩,
   ⟨(some t202), oFieldAddr 2 (.t t201), none, none⟩,
   ⟨(some t203), oLoad1 (.t t202), none, (some (.t t202))⟩,
   ⟨(some t204), oCall 14 [(.t t192), (.t t193), (.t t198), (.t t203)], none, none⟩,
   ⟨(some t19), oMov (.t t204), none, none⟩] fs s) fun fs s => some (.norm, fs, s) :=
 reg_q (ks := [0, 0, 0, 0, 0, 0, 1, 0, 0, 0, 0, 1, 2, 0]) (okc (ok0 (qv_mov (.t t13)) rfl)
 (okc (ok0 (qv_mov (.t t9)) rfl)
 (okc (ok0 (qv_mov (.t t1)) rfl)
 (okc (ok0 (qv_mov (.t t16)) rfl)
 (okc (ok0 (qv_idxl 3 (.t t194) (.t t195)) rfl)
 (okc (ok0 (qv_fieldaddr 1 (.t t196)) rfl)
 (okc (ok1 rfl)
 (okc (ok0 (qv_mov (.t t1)) rfl)
 (okc (ok0 (qv_mov (.t t16)) rfl)
 (okc (ok0 (qv_idxl 3 (.t t199) (.t t200)) rfl)
 (okc (ok0 (qv_fieldaddr 2 (.t t201)) rfl)
 (okc (ok1 rfl)
 (okc (ok2 rfl)
 (okc (ok0 (qv_mov (.t t204)) rfl)
 okn)))))))))))))) (by kernel_rfl) rec n fs s
def D5_q0 (rec : Rec) (fs : Frm) (s : St) : Option (Frm × St) := opt (gval false (orU (fs.get t37))) fun x1 => opt2 (orUndef x1 (oBin (int2 (cmpO gtI)) (.v (orU (fs.get t39))) (.v (.int .i64 30)) rec PT.nil s) s) fun x2 s =>
 opt2 (oPick (.v (orU (fs.get t37))) (.v (.bool true)) (.v x2) rec PT.nil s) fun x3 s =>
 opt2 (oMov (.v x3) rec PT.nil s) fun x4 s =>
 opt (gval false x4) fun x5 => opt2 (orUndef x5 (oMov (.v (orU (fs.get t3))) rec PT.nil s) s) fun x6 s =>
 opt (gval false x4) fun x7 => opt2 (orUndef x7 (oBin (int2 (cmpO ltI)) (.v x6) (.v (.int .i64 0)) rec PT.nil s) s) fun x8 s =>
 opt2 (oPick (.v x4) (.v (.bool true)) (.v x8) rec PT.nil s) fun x9 s =>
 opt2 (oMov (.v x9) rec PT.nil s) fun x10 s =>
 opt (gval false x10) fun x11 => opt2 (orUndef x11 (oMov (.v (orU (fs.get t3))) rec PT.nil s) s) fun x12 s =>
 opt (gval false x10) fun x13 => opt2 (orUndef x13 (oBin (int2 (cmpO gtI)) (.v x12) (.v (.int .i64 109572)) rec PT.nil s) s) fun x14 s =>
 opt2 (oPick (.v x10) (.v (.bool true)) (.v x14) rec PT.nil s) fun x15 s =>
 some ((PT.put x15 t49 (PT.put x14 t48 (PT.put x12 t47 (PT.put x10 t46 (PT.put x9 t45 (PT.put x8 t44 (PT.put x6 t43 (PT.put x4 t42 (PT.put x3 t41 (PT.put x2 t40 fs)))))))))), s)
set_option maxHeartbeats 4000000 in
theorem d5_q0 (rec : Rec) (fs : Frm) (s : St) : runOps rec c5_q0 fs s = D5_q0 rec fs s := by
  simp (maxSteps := 4000000) only [c5_q0, ops_c, ops_n, op1_u, op1_gj, rq_c, rq_n, opQ_u, opQ_g, op2_op2, op2_op, op2_s]
  first | done | kernel_rfl
def D5_q1 (rec : Rec) (fs : Frm) (s : St) : Option (Frm × St) := opt (gval true (orU (fs.get t104))) fun x1 => opt2 (orUndef x1 (oIdxAddrL 1 (.v (orU (fs.get t110))) (.v (orU (fs.get t111))) rec PT.nil s) s) fun x2 s =>
 opt (gval true (orU (fs.get t104))) fun x3 => opt2 (orUndef x3 (oLoad1 (.v x2) rec PT.nil s) s) fun x4 s =>
 opt (gval true (orU (fs.get t104))) fun x5 => opt2 (orUndef x5 (oBin (int2 (cmpO geI)) (.v (orU (fs.get t109))) (.v x4) rec PT.nil s) s) fun x6 s =>
 opt2 (oPick (.v (orU (fs.get t104))) (.v x6) (.v (.bool false)) rec PT.nil s) fun x7 s =>
 opt2 (oMov (.v x7) rec PT.nil s) fun x8 s =>
 opt (gval true x8) fun x9 => opt2 (orUndef x9 (oMov (.v (orU (fs.get t1))) rec PT.nil s) s) fun x10 s =>
 opt (gval true x8) fun x11 => opt2 (orUndef x11 (oMov (.v (orU (fs.get t16))) rec PT.nil s) s) fun x12 s =>
 opt (gval true x8) fun x13 => opt2 (orUndef x13 (oIdxAddrL 3 (.v x10) (.v x12) rec PT.nil s) s) fun x14 s =>
 opt (gval true x8) fun x15 => opt2 (orUndef x15 (oFieldAddr 1 (.v x14) rec PT.nil s) s) fun x16 s =>
 opt (gval true x8) fun x17 => opt2 (orUndef x17 (oLoad1 (.v x16) rec PT.nil s) s) fun x18 s =>
 opt (gval true x8) fun x19 => opt2 (orUndef x19 (oMov (.v (orU (fs.get t3))) rec PT.nil s) s) fun x20 s =>
 opt (gval true x8) fun x21 => opt2 (orUndef x21 (oBin (int2 (cmpO leI)) (.v x18) (.v x20) rec PT.nil s) s) fun x22 s =>
 opt2 (oPick (.v x8) (.v x22) (.v (.bool false)) rec PT.nil s) fun x23 s =>
 some ((PT.put x23 t124 (PT.put x22 t123 (PT.put x20 t122 (PT.put x18 t121 (PT.put x16 t120 (PT.put x14 t119 (PT.put x12 t118 (PT.put x10 t117 (PT.put x8 t116 (PT.put x7 t115 (PT.put x6 t114 (PT.put x4 t113 (PT.put x2 t112 fs))))))))))))), s)
set_option maxHeartbeats 4000000 in
theorem d5_q1 (rec : Rec) (fs : Frm) (s : St) : runQ rec c5_q1 fs s = D5_q1 rec fs s := by
  simp (maxSteps := 4000000) only [c5_q1, ops_c, ops_n, op1_u, op1_gj, rq_c, rq_n, opQ_u, opQ_g, op2_op2, op2_op, op2_s, sm_bin, sm_box, sm_build, sm_buildslice, sm_bytesstr, sm_compl, sm_conv, sm_eqs, sm_eqv, sm_ext, sm_extract, sm_field, sm_fieldaddr, sm_func, sm_idxaa, sm_idxl, sm_idxs, sm_iface, sm_lenc, sm_lenl, sm_lens, sm_load1, sm_loadn, sm_mm, sm_mov, sm_neg, sm_new, sm_nil, sm_not, sm_pick, sm_same, sm_slices, sm_store]
  first | done | kernel_rfl
def D5_j0 (rec : Rec) (N : Nat) (fs : Frm) (s : St) : OutX := condV (orU (fs.get t49))
 (opt2 (oMov (.v (.bool true)) rec PT.nil s) fun x1 s =>
 some (.ret, (PT.put x1 t8 fs), s))
 (some (.norm, fs, s))
set_option maxHeartbeats 4000000 in
theorem d5_j0 (rec : Rec) (N : Nat) (fs : Frm) (s : St) : c5_j0 rec N fs s = D5_j0 rec N fs s := by
  simp (maxSteps := 4000000) only [c5_j0, lenN, x_regc, reg_n, reg_c, reg1_u, reg1_g, op2_cons, op2_bif, x_seq, x_ops, x_skip, x_ret, x_exit, x_cond, x_block, x_loop, ops_c, ops_n, op1_u, op1_gj, rq_c, rq_n, opQ_u, opQ_g, op2_op2, op2_op, op2_s, op2_cond, thenX_n, thenX_e, thenX_r, blkX_n, blkX_r, blkX_e, finX_r, finX_n, res_n, res_t, op_s, Nat.beq_refl, cond_true, q5_g0, q5_g1, q5_g2, q5_g3, sm_bin, sm_box, sm_build, sm_buildslice, sm_bytesstr, sm_compl, sm_conv, sm_eqs, sm_eqv, sm_ext, sm_extract, sm_field, sm_fieldaddr, sm_func, sm_idxaa, sm_idxl, sm_idxs, sm_iface, sm_lenc, sm_lenl, sm_lens, sm_load1, sm_loadn, sm_mm, sm_mov, sm_neg, sm_new, sm_nil, sm_not, sm_pick, sm_same, sm_slices, sm_store]
  first | done | kernel_rfl
def D5_l0 (rec : Rec) (N : Nat) (fs : Frm) (s : St) : OutX := opt2 (oMov (.v (orU (fs.get t10))) rec PT.nil s) fun x1 s =>
 opt2 (oMov (.v (orU (fs.get t1))) rec PT.nil s) fun x2 s =>
 opt2 (oLenL (.v x2) rec PT.nil s) fun x3 s =>
 opt2 (oBin (int2 (cmpO ltI)) (.v x1) (.v x3) rec PT.nil s) fun x4 s =>
 condV x4
 (opt2 (oMov (.v (orU (fs.get t1))) rec PT.nil s) fun x5 s =>
 opt2 (oMov (.v (orU (fs.get t10))) rec PT.nil s) fun x6 s =>
 opt2 (oIdxAddrL 3 (.v x5) (.v x6) rec PT.nil s) fun x7 s =>
 opt2 (oFieldAddr 0 (.v x7) rec PT.nil s) fun x8 s =>
 opt2 (oLoad1 (.v x8) rec PT.nil s) fun x9 s =>
 opt2 (oBin (int2 (cmpO eqI)) (.v x9) (.v (.int .i64 6)) rec PT.nil s) fun x10 s =>
 condV x10
 (opt2 (oMov (.v (orU (fs.get t9))) rec PT.nil s) fun x11 s =>
 opt2 (oMov (.v (orU (fs.get t1))) rec PT.nil s) fun x12 s =>
 opt2 (oMov (.v (orU (fs.get t10))) rec PT.nil s) fun x13 s =>
 opt2 (oIdxAddrL 3 (.v x12) (.v x13) rec PT.nil s) fun x14 s =>
 opt2 (oFieldAddr 1 (.v x14) rec PT.nil s) fun x15 s =>
 opt2 (oLoad1 (.v x15) rec PT.nil s) fun x16 s =>
 opt2 (oMov (.v (orU (fs.get t1))) rec PT.nil s) fun x17 s =>
 opt2 (oMov (.v (orU (fs.get t10))) rec PT.nil s) fun x18 s =>
 opt2 (oIdxAddrL 3 (.v x17) (.v x18) rec PT.nil s) fun x19 s =>
 opt2 (oFieldAddr 2 (.v x19) rec PT.nil s) fun x20 s =>
 opt2 (oLoad1 (.v x20) rec PT.nil s) fun x21 s =>
 opt2 (oBin (int2 andO) (.v x21) (.v (.int .i64 1048575)) rec PT.nil s) fun x22 s =>
 opt2 (rV (rec 27 [x11, x16, x22] (z0 s)) s) fun x23 s =>
 opt2 (oMov (.v (orU (fs.get t10))) rec PT.nil s) fun x24 s =>
 opt2 (oBin (int2 addO) (.v x24) (.v (.int .i64 1)) rec PT.nil s) fun x25 s =>
 opt2 (oMov (.v x25) rec PT.nil s) fun x26 s =>
 some (.norm, (PT.put x26 t10 (PT.put x25 t56 (PT.put x24 t55 (PT.put x23 t75 (PT.put x22 t74 (PT.put x21 t73 (PT.put x20 t72 (PT.put x19 t71 (PT.put x18 t70 (PT.put x17 t69 (PT.put x16 t68 (PT.put x15 t67 (PT.put x14 t66 (PT.put x13 t65 (PT.put x12 t64 (PT.put x11 t63 (PT.put x10 t62 (PT.put x9 t61 (PT.put x8 t60 (PT.put x7 t59 (PT.put x6 t58 (PT.put x5 t57 (PT.put x4 t54 (PT.put x3 t53 (PT.put x2 t52 (PT.put x1 t51 fs)))))))))))))))))))))))))), s))
 (opt2 (oMov (.v (orU (fs.get t10))) rec PT.nil s) fun x27 s =>
 opt2 (oBin (int2 addO) (.v x27) (.v (.int .i64 1)) rec PT.nil s) fun x28 s =>
 opt2 (oMov (.v x28) rec PT.nil s) fun x29 s =>
 some (.norm, (PT.put x29 t10 (PT.put x28 t56 (PT.put x27 t55 (PT.put x10 t62 (PT.put x9 t61 (PT.put x8 t60 (PT.put x7 t59 (PT.put x6 t58 (PT.put x5 t57 (PT.put x4 t54 (PT.put x3 t53 (PT.put x2 t52 (PT.put x1 t51 fs))))))))))))), s)))
 (some ((.exit 0), (PT.put x4 t54 (PT.put x3 t53 (PT.put x2 t52 (PT.put x1 t51 fs)))), s))
set_option maxHeartbeats 4000000 in
theorem d5_l0 (rec : Rec) (N : Nat) (fs : Frm) (s : St) : c5_l0 rec N fs s = D5_l0 rec N fs s := by
  simp (maxSteps := 4000000) only [c5_l0, lenN, x_regc, reg_n, reg_c, reg1_u, reg1_g, op2_cons, op2_bif, x_seq, x_ops, x_skip, x_ret, x_exit, x_cond, x_block, x_loop, ops_c, ops_n, op1_u, op1_gj, rq_c, rq_n, opQ_u, opQ_g, op2_op2, op2_op, op2_s, op2_cond, thenX_n, thenX_e, thenX_r, blkX_n, blkX_r, blkX_e, finX_r, finX_n, res_n, res_t, op_s, Nat.beq_refl, cond_true, q5_g0, q5_g1, q5_g2, q5_g3, sm_bin, sm_box, sm_build, sm_buildslice, sm_bytesstr, sm_compl, sm_conv, sm_eqs, sm_eqv, sm_ext, sm_extract, sm_field, sm_fieldaddr, sm_func, sm_idxaa, sm_idxl, sm_idxs, sm_iface, sm_lenc, sm_lenl, sm_lens, sm_load1, sm_loadn, sm_mm, sm_mov, sm_neg, sm_new, sm_nil, sm_not, sm_pick, sm_same, sm_slices, sm_store]
  first | done | kernel_rfl
def D5_j1 (rec : Rec) (N : Nat) (fs : Frm) (s : St) : OutX := condV (orU (fs.get t124))
 (opt2 (oMov (.v (orU (fs.get t2))) rec PT.nil s) fun x1 s =>
 opt2 (oMov (.v (orU (fs.get t17))) rec PT.nil s) fun x2 s =>
 opt2 (oIdxAddrL 1 (.v x1) (.v x2) rec PT.nil s) fun x3 s =>
 opt2 (oLoad1 (.v x3) rec PT.nil s) fun x4 s =>
 opt2 (oBin (int2 andO) (.v x4) (.v (.int .i64 1)) rec PT.nil s) fun x5 s =>
 opt2 (oBin (int2 (cmpO eqI)) (.v x5) (.v (.int .i64 0)) rec PT.nil s) fun x6 s =>
 condV x6
 (opt2 (oMov (.v (orU (fs.get t11))) rec PT.nil s) fun x7 s =>
 opt2 (oMov (.v (orU (fs.get t9))) rec PT.nil s) fun x8 s =>
 opt2 (oMov (.v (orU (fs.get t2))) rec PT.nil s) fun x9 s =>
 opt2 (oMov (.v (orU (fs.get t17))) rec PT.nil s) fun x10 s =>
 opt2 (oIdxAddrL 1 (.v x9) (.v x10) rec PT.nil s) fun x11 s =>
 opt2 (oLoad1 (.v x11) rec PT.nil s) fun x12 s =>
 opt2 (rec 20 [x7, x8, x12] s) fun x13 s =>
 some (.norm, (PT.put x13 t137 (PT.put x12 t136 (PT.put x11 t135 (PT.put x10 t134 (PT.put x9 t133 (PT.put x8 t132 (PT.put x7 t131 (PT.put x6 t130 (PT.put x5 t129 (PT.put x4 t128 (PT.put x3 t127 (PT.put x2 t126 (PT.put x1 t125 fs))))))))))))), s))
 (opt2 (oMov (.v (orU (fs.get t11))) rec PT.nil s) fun x14 s =>
 opt2 (oMov (.v (orU (fs.get t9))) rec PT.nil s) fun x15 s =>
 opt2 (oMov (.v (orU (fs.get t2))) rec PT.nil s) fun x16 s =>
 opt2 (oMov (.v (orU (fs.get t17))) rec PT.nil s) fun x17 s =>
 opt2 (oIdxAddrL 1 (.v x16) (.v x17) rec PT.nil s) fun x18 s =>
 opt2 (oLoad1 (.v x18) rec PT.nil s) fun x19 s =>
 opt2 (rec 22 [x14, x15, x19] s) fun x20 s =>
 some (.norm, (PT.put x20 t144 (PT.put x19 t143 (PT.put x18 t142 (PT.put x17 t141 (PT.put x16 t140 (PT.put x15 t139 (PT.put x14 t138 (PT.put x6 t130 (PT.put x5 t129 (PT.put x4 t128 (PT.put x3 t127 (PT.put x2 t126 (PT.put x1 t125 fs))))))))))))), s)))
 (some (.norm, fs, s))
set_option maxHeartbeats 4000000 in
theorem d5_j1 (rec : Rec) (N : Nat) (fs : Frm) (s : St) : c5_j1 rec N fs s = D5_j1 rec N fs s := by
  simp (maxSteps := 4000000) only [c5_j1, lenN, x_regc, reg_n, reg_c, reg1_u, reg1_g, op2_cons, op2_bif, x_seq, x_ops, x_skip, x_ret, x_exit, x_cond, x_block, x_loop, ops_c, ops_n, op1_u, op1_gj, rq_c, rq_n, opQ_u, opQ_g, op2_op2, op2_op, op2_s, op2_cond, thenX_n, thenX_e, thenX_r, blkX_n, blkX_r, blkX_e, finX_r, finX_n, res_n, res_t, op_s, Nat.beq_refl, cond_true, q5_g0, q5_g1, q5_g2, q5_g3, sm_bin, sm_box, sm_build, sm_buildslice, sm_bytesstr, sm_compl, sm_conv, sm_eqs, sm_eqv, sm_ext, sm_extract, sm_field, sm_fieldaddr, sm_func, sm_idxaa, sm_idxl, sm_idxs, sm_iface, sm_lenc, sm_lenl, sm_lens, sm_load1, sm_loadn, sm_mm, sm_mov, sm_neg, sm_new, sm_nil, sm_not, sm_pick, sm_same, sm_slices, sm_store]
  first | done | kernel_rfl
def D5_j2 (rec : Rec) (N : Nat) (fs : Frm) (s : St) : OutX := opt2 (oMov (.v (orU (fs.get t17))) rec PT.nil s) fun x1 s =>
 opt2 (oBin (int2 addO) (.v x1) (.v (.int .i64 1)) rec PT.nil s) fun x2 s =>
 opt2 (oMov (.v x2) rec PT.nil s) fun x3 s =>
 some (.norm, (PT.put x3 t17 (PT.put x2 t97 (PT.put x1 t96 fs))), s)
set_option maxHeartbeats 4000000 in
theorem d5_j2 (rec : Rec) (N : Nat) (fs : Frm) (s : St) : c5_j2 rec N fs s = D5_j2 rec N fs s := by
  simp (maxSteps := 4000000) only [c5_j2, lenN, x_regc, reg_n, reg_c, reg1_u, reg1_g, op2_cons, op2_bif, x_seq, x_ops, x_skip, x_ret, x_exit, x_cond, x_block, x_loop, ops_c, ops_n, op1_u, op1_gj, rq_c, rq_n, opQ_u, opQ_g, op2_op2, op2_op, op2_s, op2_cond, thenX_n, thenX_e, thenX_r, blkX_n, blkX_r, blkX_e, finX_r, finX_n, res_n, res_t, op_s, Nat.beq_refl, cond_true, q5_g0, q5_g1, q5_g2, q5_g3, sm_bin, sm_box, sm_build, sm_buildslice, sm_bytesstr, sm_compl, sm_conv, sm_eqs, sm_eqv, sm_ext, sm_extract, sm_field, sm_fieldaddr, sm_func, sm_idxaa, sm_idxl, sm_idxs, sm_iface, sm_lenc, sm_lenl, sm_lens, sm_load1, sm_loadn, sm_mm, sm_mov, sm_neg, sm_new, sm_nil, sm_not, sm_pick, sm_same, sm_slices, sm_store]
  first | done | kernel_rfl
def D5_l1 (rec : Rec) (N : Nat) (fs : Frm) (s : St) : OutX := opt2 (oMov (.v (orU (fs.get t17))) rec PT.nil s) fun x1 s =>
 opt2 (oMov (.v (orU (fs.get t2))) rec PT.nil s) fun x2 s =>
 opt2 (oLenL (.v x2) rec PT.nil s) fun x3 s =>
 opt2 (oBin (int2 (cmpO ltI)) (.v x1) (.v x3) rec PT.nil s) fun x4 s =>
 condV x4
 (opt2 (oMov (.v (orU (fs.get t2))) rec PT.nil s) fun x5 s =>
 opt2 (oMov (.v (orU (fs.get t17))) rec PT.nil s) fun x6 s =>
 opt2 (oIdxAddrL 1 (.v x5) (.v x6) rec PT.nil s) fun x7 s =>
 opt2 (oLoad1 (.v x7) rec PT.nil s) fun x8 s =>
 opt2 (oMov (.v (orU (fs.get t15))) rec PT.nil s) fun x9 s =>
 opt2 (oBin (int2 (cmpO geI)) (.v x8) (.v x9) rec PT.nil s) fun x10 s =>
 opt2 (oMov (.v x10) rec PT.nil s) fun x11 s =>
 opt (gval true x11) fun x12 => opt2 (orUndef x12 (oMov (.v (orU (fs.get t1))) rec PT.nil s) s) fun x13 s =>
 opt (gval true x11) fun x14 => opt2 (orUndef x14 (oMov (.v (orU (fs.get t16))) rec PT.nil s) s) fun x15 s =>
 opt (gval true x11) fun x16 => opt2 (orUndef x16 (oIdxAddrL 3 (.v x13) (.v x15) rec PT.nil s) s) fun x17 s =>
 opt (gval true x11) fun x18 => opt2 (orUndef x18 (oFieldAddr 1 (.v x17) rec PT.nil s) s) fun x19 s =>
 opt (gval true x11) fun x20 => opt2 (orUndef x20 (oLoad1 (.v x19) rec PT.nil s) s) fun x21 s =>
 opt (gval true x11) fun x22 => opt2 (orUndef x22 (oMov (.v (orU (fs.get t2))) rec PT.nil s) s) fun x23 s =>
 opt (gval true x11) fun x24 => opt2 (orUndef x24 (oMov (.v (orU (fs.get t17))) rec PT.nil s) s) fun x25 s =>
 opt2 (runQ rec c5_q1 (PT.put x25 t111 (PT.put x23 t110 (PT.put x21 t109 (PT.put x19 t108 (PT.put x17 t107 (PT.put x15 t106 (PT.put x13 t105 (PT.put x11 t104 (PT.put x10 t103 (PT.put x9 t102 (PT.put x8 t101 (PT.put x7 t100 (PT.put x6 t99 (PT.put x5 t98 (PT.put x4 t95 (PT.put x3 t94 (PT.put x2 t93 (PT.put x1 t92 fs)))))))))))))))))) s) fun fs s =>
 opt2 (c5_j1 rec N fs s) fun e r => opt2 (blkX 5 e r) fun e r => thenX (c5_j2 rec N) e r)
 (some ((.exit 4), (PT.put x4 t95 (PT.put x3 t94 (PT.put x2 t93 (PT.put x1 t92 fs)))), s))
set_option maxHeartbeats 4000000 in
theorem d5_l1 (rec : Rec) (N : Nat) (fs : Frm) (s : St) : c5_l1 rec N fs s = D5_l1 rec N fs s := by
  simp (maxSteps := 4000000) only [c5_l1, lenN, x_regc, reg_n, reg_c, reg1_u, reg1_g, op2_cons, op2_bif, x_seq, x_ops, x_skip, x_ret, x_exit, x_cond, x_block, x_loop, ops_c, ops_n, op1_u, op1_gj, rq_c, rq_n, opQ_u, opQ_g, op2_op2, op2_op, op2_s, op2_cond, thenX_n, thenX_e, thenX_r, blkX_n, blkX_r, blkX_e, finX_r, finX_n, res_n, res_t, op_s, Nat.beq_refl, cond_true, q5_g0, q5_g1, q5_g2, q5_g3, sm_bin, sm_box, sm_build, sm_buildslice, sm_bytesstr, sm_compl, sm_conv, sm_eqs, sm_eqv, sm_ext, sm_extract, sm_field, sm_fieldaddr, sm_func, sm_idxaa, sm_idxl, sm_idxs, sm_iface, sm_lenc, sm_lenl, sm_lens, sm_load1, sm_loadn, sm_mm, sm_mov, sm_neg, sm_new, sm_nil, sm_not, sm_pick, sm_same, sm_slices, sm_store]
  first | done | kernel_rfl
def D5_j3 (rec : Rec) (N : Nat) (fs : Frm) (s : St) : OutX := condV (orU (fs.get t178))
 (opt2 (oMov (.v (orU (fs.get t11))) rec PT.nil s) fun x1 s =>
 opt2 (oMov (.v (orU (fs.get t9))) rec PT.nil s) fun x2 s =>
 opt2 (oMov (.v (orU (fs.get t1))) rec PT.nil s) fun x3 s =>
 opt2 (oMov (.v (orU (fs.get t16))) rec PT.nil s) fun x4 s =>
 opt2 (oIdxAddrL 3 (.v x3) (.v x4) rec PT.nil s) fun x5 s =>
 opt2 (oFieldAddr 1 (.v x5) rec PT.nil s) fun x6 s =>
 opt2 (oLoad1 (.v x6) rec PT.nil s) fun x7 s =>
 opt2 (oMov (.v (orU (fs.get t1))) rec PT.nil s) fun x8 s =>
 opt2 (oMov (.v (orU (fs.get t16))) rec PT.nil s) fun x9 s =>
 opt2 (oIdxAddrL 3 (.v x8) (.v x9) rec PT.nil s) fun x10 s =>
 opt2 (oFieldAddr 2 (.v x10) rec PT.nil s) fun x11 s =>
 opt2 (oLoad1 (.v x11) rec PT.nil s) fun x12 s =>
 opt2 (rV (rec 14 [x1, x2, x7, x12] (z0 s)) s) fun x13 s =>
 opt2 (oMov (.v x13) rec PT.nil s) fun x14 s =>
 opt2 (oMov (.v (orU (fs.get t13))) rec PT.nil s) fun x15 s =>
 opt2 (oMov (.v (orU (fs.get t9))) rec PT.nil s) fun x16 s =>
 opt2 (oMov (.v (orU (fs.get t1))) rec PT.nil s) fun x17 s =>
 opt2 (oMov (.v (orU (fs.get t16))) rec PT.nil s) fun x18 s =>
 opt2 (oIdxAddrL 3 (.v x17) (.v x18) rec PT.nil s) fun x19 s =>
 opt2 (oFieldAddr 1 (.v x19) rec PT.nil s) fun x20 s =>
 opt2 (oLoad1 (.v x20) rec PT.nil s) fun x21 s =>
 opt2 (oMov (.v (orU (fs.get t1))) rec PT.nil s) fun x22 s =>
 opt2 (oMov (.v (orU (fs.get t16))) rec PT.nil s) fun x23 s =>
 opt2 (oIdxAddrL 3 (.v x22) (.v x23) rec PT.nil s) fun x24 s =>
 opt2 (oFieldAddr 2 (.v x24) rec PT.nil s) fun x25 s =>
 opt2 (oLoad1 (.v x25) rec PT.nil s) fun x26 s =>
 opt2 (rV (rec 14 [x15, x16, x21, x26] (z0 s)) s) fun x27 s =>
 opt2 (oMov (.v x27) rec PT.nil s) fun x28 s =>
 opt2 (oMov (.v x14) rec PT.nil s) fun x29 s =>
 opt2 (oMov (.v x28) rec PT.nil s) fun x30 s =>
 opt2 (oBin (int2 (cmpO eqI)) (.v x29) (.v x30) rec PT.nil s) fun x31 s =>
 opt2 (oMov (.v x31) rec PT.nil s) fun x32 s =>
 opt (gval true x32) fun x33 => opt2 (orUndef x33 (oMov (.v x14) rec PT.nil s) s) fun x34 s =>
 opt (gval true x32) fun x35 => opt2 (orUndef x35 (oBin (int2 (cmpO eqI)) (.v x34) (.v (.int .i64 0)) rec PT.nil s) s) fun x36 s =>
 opt2 (oPick (.v x32) (.v x36) (.v (.bool false)) rec PT.nil s) fun x37 s =>
 condV x37
 (opt2 (oMov (.v (orU (fs.get t1))) rec PT.nil s) fun x38 s =>
 opt2 (oMov (.v (orU (fs.get t16))) rec PT.nil s) fun x39 s =>
 opt2 (oIdxAddrL 3 (.v x38) (.v x39) rec PT.nil s) fun x40 s =>
 opt2 (oFieldAddr 1 (.v x40) rec PT.nil s) fun x41 s =>
 opt2 (oLoad1 (.v x41) rec PT.nil s) fun x42 s =>
 opt2 (oMov (.v x42) rec PT.nil s) fun x43 s =>
 some (.norm, (PT.put x43 t15 (PT.put x42 t216 (PT.put x41 t215 (PT.put x40 t214 (PT.put x39 t213 (PT.put x38 t212 (PT.put x37 t211 (PT.put x36 t210 (PT.put x34 t209 (PT.put x32 t208 (PT.put x31 t207 (PT.put x30 t206 (PT.put x29 t205 (PT.put x28 t19 (PT.put x27 t204 (PT.put x26 t203 (PT.put x25 t202 (PT.put x24 t201 (PT.put x23 t200 (PT.put x22 t199 (PT.put x21 t198 (PT.put x20 t197 (PT.put x19 t196 (PT.put x18 t195 (PT.put x17 t194 (PT.put x16 t193 (PT.put x15 t192 (PT.put x14 t18 (PT.put x13 t191 (PT.put x12 t190 (PT.put x11 t189 (PT.put x10 t188 (PT.put x9 t187 (PT.put x8 t186 (PT.put x7 t185 (PT.put x6 t184 (PT.put x5 t183 (PT.put x4 t182 (PT.put x3 t181 (PT.put x2 t180 (PT.put x1 t179 fs))))))))))))))))))))))))))))))))))))))))), s))
 (some (.norm, (PT.put x37 t211 (PT.put x36 t210 (PT.put x34 t209 (PT.put x32 t208 (PT.put x31 t207 (PT.put x30 t206 (PT.put x29 t205 (PT.put x28 t19 (PT.put x27 t204 (PT.put x26 t203 (PT.put x25 t202 (PT.put x24 t201 (PT.put x23 t200 (PT.put x22 t199 (PT.put x21 t198 (PT.put x20 t197 (PT.put x19 t196 (PT.put x18 t195 (PT.put x17 t194 (PT.put x16 t193 (PT.put x15 t192 (PT.put x14 t18 (PT.put x13 t191 (PT.put x12 t190 (PT.put x11 t189 (PT.put x10 t188 (PT.put x9 t187 (PT.put x8 t186 (PT.put x7 t185 (PT.put x6 t184 (PT.put x5 t183 (PT.put x4 t182 (PT.put x3 t181 (PT.put x2 t180 (PT.put x1 t179 fs))))))))))))))))))))))))))))))))))), s)))
 (some (.norm, fs, s))
set_option maxHeartbeats 4000000 in
theorem d5_j3 (rec : Rec) (N : Nat) (fs : Frm) (s : St) : c5_j3 rec N fs s = D5_j3 rec N fs s := by
  simp (maxSteps := 4000000) only [c5_j3, lenN, x_regc, reg_n, reg_c, reg1_u, reg1_g, op2_cons, op2_bif, x_seq, x_ops, x_skip, x_ret, x_exit, x_cond, x_block, x_loop, ops_c, ops_n, op1_u, op1_gj, rq_c, rq_n, opQ_u, opQ_g, op2_op2, op2_op, op2_s, op2_cond, thenX_n, thenX_e, thenX_r, blkX_n, blkX_r, blkX_e, finX_r, finX_n, res_n, res_t, op_s, Nat.beq_refl, cond_true, q5_g0, q5_g1, q5_g2, q5_g3, sm_bin, sm_box, sm_build, sm_buildslice, sm_bytesstr, sm_compl, sm_conv, sm_eqs, sm_eqv, sm_ext, sm_extract, sm_field, sm_fieldaddr, sm_func, sm_idxaa, sm_idxl, sm_idxs, sm_iface, sm_lenc, sm_lenl, sm_lens, sm_load1, sm_loadn, sm_mm, sm_mov, sm_neg, sm_new, sm_nil, sm_not, sm_pick, sm_same, sm_slices, sm_store]
  first | done | kernel_rfl
def D5_r0 (rec : Rec) (N : Nat) (fs : Frm) (s : St) : OutX := opt2 (rU (oMov (.v (orU (fs.get t1))) rec PT.nil ⟨s.heap, s.next, 0, 0⟩) PT.nil s none) fun x1 m1 =>
 (fun s => opt2 (rU (oMov (.v (orU (fs.get t16))) rec PT.nil ⟨s.heap, s.next, 0, 0⟩) PT.nil s none) fun x2 m2 =>
 (fun s => opt2 (rU (oIdxAddrL 3 (.v x1) (.v x2) rec PT.nil ⟨s.heap, s.next, 0, 0⟩) PT.nil s none) fun x3 m3 =>
 (fun s => opt2 (rU (oFieldAddr 0 (.v x3) rec PT.nil ⟨s.heap, s.next, 0, 0⟩) PT.nil s none) fun x4 m4 =>
 (fun s => opt2 (rU (oLoad1 (.v x4) rec PT.nil ⟨s.heap, s.next, 0, 0⟩) PT.nil s (some (.v x4))) fun x5 m5 =>
 (fun s => opt2 (rU (oBin (int2 (cmpO eqI)) (.v x5) (.v (.int .i64 1)) rec PT.nil ⟨s.heap, s.next, 0, 0⟩) PT.nil s none) fun x6 m6 =>
 (fun s => opt2 (rU (oMov (.v x6) rec PT.nil ⟨s.heap, s.next, 0, 0⟩) PT.nil s none) fun x7 m7 =>
 (fun s => opt (gval true x7) fun x8 => opt2 (orM x8 (rU (oMov (.v (orU (fs.get t1))) rec PT.nil ⟨s.heap, s.next, 0, 0⟩) PT.nil s none) s) fun x9 m9 =>
 (fun s => opt (gval true x7) fun x10 => opt2 (orM x10 (rU (oMov (.v (orU (fs.get t16))) rec PT.nil ⟨s.heap, s.next, 0, 0⟩) PT.nil s none) s) fun x11 m11 =>
 (fun s => opt (gval true x7) fun x12 => opt2 (orM x12 (rU (oIdxAddrL 3 (.v x9) (.v x11) rec PT.nil ⟨s.heap, s.next, 0, 0⟩) PT.nil s none) s) fun x13 m13 =>
 (fun s => opt (gval true x7) fun x14 => opt2 (orM x14 (rU (oFieldAddr 1 (.v x13) rec PT.nil ⟨s.heap, s.next, 0, 0⟩) PT.nil s none) s) fun x15 m15 =>
 (fun s => opt (gval true x7) fun x16 => opt2 (orM x16 (rU (oLoad1 (.v x15) rec PT.nil ⟨s.heap, s.next, 0, 0⟩) PT.nil s (some (.v x15))) s) fun x17 m17 =>
 (fun s => opt (gval true x7) fun x18 => opt2 (orM x18 (rU (oMov (.v (orU (fs.get t15))) rec PT.nil ⟨s.heap, s.next, 0, 0⟩) PT.nil s none) s) fun x19 m19 =>
 (fun s => opt (gval true x7) fun x20 => opt2 (orM x20 (rU (oBin (int2 (cmpO geI)) (.v x17) (.v x19) rec PT.nil ⟨s.heap, s.next, 0, 0⟩) PT.nil s none) s) fun x21 m21 =>
 (fun s => opt2 (rU (oPick (.v x7) (.v x21) (.v (.bool false)) rec PT.nil ⟨s.heap, s.next, 0, 0⟩) PT.nil s none) fun x22 m22 =>
 (fun s => opt2 (rU (oMov (.v x22) rec PT.nil ⟨s.heap, s.next, 0, 0⟩) PT.nil s none) fun x23 m23 =>
 (fun s => opt (gval true x23) fun x24 => opt2 (orM x24 (rU (oMov (.v (orU (fs.get t1))) rec PT.nil ⟨s.heap, s.next, 0, 0⟩) PT.nil s none) s) fun x25 m25 =>
 (fun s => opt (gval true x23) fun x26 => opt2 (orM x26 (rU (oMov (.v (orU (fs.get t16))) rec PT.nil ⟨s.heap, s.next, 0, 0⟩) PT.nil s none) s) fun x27 m27 =>
 (fun s => opt (gval true x23) fun x28 => opt2 (orM x28 (rU (oIdxAddrL 3 (.v x25) (.v x27) rec PT.nil ⟨s.heap, s.next, 0, 0⟩) PT.nil s none) s) fun x29 m29 =>
 (fun s => opt (gval true x23) fun x30 => opt2 (orM x30 (rU (oFieldAddr 1 (.v x29) rec PT.nil ⟨s.heap, s.next, 0, 0⟩) PT.nil s none) s) fun x31 m31 =>
 (fun s => opt (gval true x23) fun x32 => opt2 (orM x32 (rU (oLoad1 (.v x31) rec PT.nil ⟨s.heap, s.next, 0, 0⟩) PT.nil s (some (.v x31))) s) fun x33 m33 =>
 (fun s => opt (gval true x23) fun x34 => opt2 (orM x34 (rU (oMov (.v (orU (fs.get t11))) rec PT.nil ⟨s.heap, s.next, 0, 0⟩) PT.nil s none) s) fun x35 m35 =>
 (fun s => opt (gval true x23) fun x36 => opt2 (orM x36 (rU (rec 30 [x35] ⟨s.heap, s.next, 0, 0⟩) PT.nil s none) s) fun x37 m37 =>
 (fun s => opt (gval true x23) fun x38 => opt2 (orM x38 (rU (oBin (int2 (cmpO geI)) (.v x33) (.v x37) rec PT.nil ⟨s.heap, s.next, 0, 0⟩) PT.nil s none) s) fun x39 m39 =>
 (fun s => opt2 (rU (oPick (.v x23) (.v x39) (.v (.bool false)) rec PT.nil ⟨s.heap, s.next, 0, 0⟩) PT.nil s none) fun x40 m40 =>
 (fun s => opt2 (rU (oMov (.v x40) rec PT.nil ⟨s.heap, s.next, 0, 0⟩) PT.nil s none) fun x41 m41 =>
 (fun s => opt (gval true x41) fun x42 => opt2 (orM x42 (rU (oMov (.v (orU (fs.get t1))) rec PT.nil ⟨s.heap, s.next, 0, 0⟩) PT.nil s none) s) fun x43 m43 =>
 (fun s => opt (gval true x41) fun x44 => opt2 (orM x44 (rU (oMov (.v (orU (fs.get t16))) rec PT.nil ⟨s.heap, s.next, 0, 0⟩) PT.nil s none) s) fun x45 m45 =>
 (fun s => opt (gval true x41) fun x46 => opt2 (orM x46 (rU (oIdxAddrL 3 (.v x43) (.v x45) rec PT.nil ⟨s.heap, s.next, 0, 0⟩) PT.nil s none) s) fun x47 m47 =>
 (fun s => opt (gval true x41) fun x48 => opt2 (orM x48 (rU (oFieldAddr 1 (.v x47) rec PT.nil ⟨s.heap, s.next, 0, 0⟩) PT.nil s none) s) fun x49 m49 =>
 (fun s => opt (gval true x41) fun x50 => opt2 (orM x50 (rU (oLoad1 (.v x49) rec PT.nil ⟨s.heap, s.next, 0, 0⟩) PT.nil s (some (.v x49))) s) fun x51 m51 =>
 (fun s => opt (gval true x41) fun x52 => opt2 (orM x52 (rU (oMov (.v (orU (fs.get t3))) rec PT.nil ⟨s.heap, s.next, 0, 0⟩) PT.nil s none) s) fun x53 m53 =>
 (fun s => opt (gval true x41) fun x54 => opt2 (orM x54 (rU (oBin (int2 (cmpO leI)) (.v x51) (.v x53) rec PT.nil ⟨s.heap, s.next, 0, 0⟩) PT.nil s none) s) fun x55 m55 =>
 (fun s => opt2 (rU (oPick (.v x41) (.v x55) (.v (.bool false)) rec PT.nil ⟨s.heap, s.next, 0, 0⟩) PT.nil s none) fun x56 m56 =>
 (fun s => bif apartAll [m1.1, m2.1, m3.1, m4.1, m5.1, m6.1, m7.1, m9.1, m11.1, m13.1, m15.1, m17.1, m19.1, m21.1, m22.1, m23.1, m25.1, m27.1, m29.1, m31.1, m33.1, m35.1, m37.1, m39.1, m40.1, m41.1, m43.1, m45.1, m47.1, m49.1, m51.1, m53.1, m55.1, m56.1] [(0, 1), (7, 8), (7, 12), (8, 12), (9, 12), (10, 12), (11, 12), (16, 17), (16, 21), (17, 21), (18, 21), (19, 21), (20, 21), (16, 22), (17, 22), (18, 22), (19, 22), (20, 22), (26, 27), (26, 31), (27, 31), (28, 31), (29, 31), (30, 31)] then c5_j3 rec N (PT.put x56 t178 (PT.put x55 t177 (PT.put x53 t176 (PT.put x51 t175 (PT.put x49 t174 (PT.put x47 t173 (PT.put x45 t172 (PT.put x43 t171 (PT.put x41 t170 (PT.put x40 t169 (PT.put x39 t168 (PT.put x37 t167 (PT.put x35 t166 (PT.put x33 t165 (PT.put x31 t164 (PT.put x29 t163 (PT.put x27 t162 (PT.put x25 t161 (PT.put x23 t160 (PT.put x22 t159 (PT.put x21 t158 (PT.put x19 t157 (PT.put x17 t156 (PT.put x15 t155 (PT.put x13 t154 (PT.put x11 t153 (PT.put x9 t152 (PT.put x7 t151 (PT.put x6 t150 (PT.put x5 t149 (PT.put x4 t148 (PT.put x3 t147 (PT.put x2 t146 (PT.put x1 t145 fs)))))))))))))))))))))))))))))))))) s else none) m56.2) m55.2) m53.2) m51.2) m49.2) m47.2) m45.2) m43.2) m41.2) m40.2) m39.2) m37.2) m35.2) m33.2) m31.2) m29.2) m27.2) m25.2) m23.2) m22.2) m21.2) m19.2) m17.2) m15.2) m13.2) m11.2) m9.2) m7.2) m6.2) m5.2) m4.2) m3.2) m2.2) m1.2
set_option maxHeartbeats 4000000 in
theorem d5_r0 (rec : Rec) (N : Nat) (fs : Frm) (s : St) : c5_r0 rec N fs s = D5_r0 rec N fs s := by
  simp (maxSteps := 4000000) only [c5_r0, lenN, x_regc, reg_n, reg_c, reg1_u, reg1_g, op2_cons, op2_bif, x_seq, x_ops, x_skip, x_ret, x_exit, x_cond, x_block, x_loop, ops_c, ops_n, op1_u, op1_gj, rq_c, rq_n, opQ_u, opQ_g, op2_op2, op2_op, op2_s, op2_cond, thenX_n, thenX_e, thenX_r, blkX_n, blkX_r, blkX_e, finX_r, finX_n, res_n, res_t, op_s, Nat.beq_refl, cond_true, q5_g0, q5_g1, q5_g2, q5_g3, sm_bin, sm_box, sm_build, sm_buildslice, sm_bytesstr, sm_compl, sm_conv, sm_eqs, sm_eqv, sm_ext, sm_extract, sm_field, sm_fieldaddr, sm_func, sm_idxaa, sm_idxl, sm_idxs, sm_iface, sm_lenc, sm_lenl, sm_lens, sm_load1, sm_loadn, sm_mm, sm_mov, sm_neg, sm_new, sm_nil, sm_not, sm_pick, sm_same, sm_slices, sm_store]
  first | done | kernel_rfl
def D5_r1 (rec : Rec) (N : Nat) (fs : Frm) (s : St) : OutX := opt2 (oMov (.v (orU (fs.get t16))) rec PT.nil s) fun x1 s =>
 opt2 (oBin (int2 addO) (.v x1) (.v (.int .i64 1)) rec PT.nil s) fun x2 s =>
 opt2 (oMov (.v x2) rec PT.nil s) fun x3 s =>
 some (.norm, (PT.put x3 t16 (PT.put x2 t91 (PT.put x1 t90 fs))), s)
set_option maxHeartbeats 4000000 in
theorem d5_r1 (rec : Rec) (N : Nat) (fs : Frm) (s : St) : c5_r1 rec N fs s = D5_r1 rec N fs s := by
  simp (maxSteps := 4000000) only [c5_r1, lenN, x_regc, reg_n, reg_c, reg1_u, reg1_g, op2_cons, op2_bif, x_seq, x_ops, x_skip, x_ret, x_exit, x_cond, x_block, x_loop, ops_c, ops_n, op1_u, op1_gj, rq_c, rq_n, opQ_u, opQ_g, op2_op2, op2_op, op2_s, op2_cond, thenX_n, thenX_e, thenX_r, blkX_n, blkX_r, blkX_e, finX_r, finX_n, res_n, res_t, op_s, Nat.beq_refl, cond_true, q5_g0, q5_g1, q5_g2, q5_g3, sm_bin, sm_box, sm_build, sm_buildslice, sm_bytesstr, sm_compl, sm_conv, sm_eqs, sm_eqv, sm_ext, sm_extract, sm_field, sm_fieldaddr, sm_func, sm_idxaa, sm_idxl, sm_idxs, sm_iface, sm_lenc, sm_lenl, sm_lens, sm_load1, sm_loadn, sm_mm, sm_mov, sm_neg, sm_new, sm_nil, sm_not, sm_pick, sm_same, sm_slices, sm_store]
  first | done | kernel_rfl
def D5_l2 (rec : Rec) (N : Nat) (fs : Frm) (s : St) : OutX := opt2 (oMov (.v (orU (fs.get t16))) rec PT.nil s) fun x1 s =>
 opt2 (oMov (.v (orU (fs.get t1))) rec PT.nil s) fun x2 s =>
 opt2 (oLenL (.v x2) rec PT.nil s) fun x3 s =>
 opt2 (oBin (int2 (cmpO ltI)) (.v x1) (.v x3) rec PT.nil s) fun x4 s =>
 condV x4
 (opt2 (oMov (.v (.int .i64 0)) rec PT.nil s) fun x5 s =>
 opt2 (loopF (c5_l1 rec N) N (PT.put x5 t17 (PT.put x4 t89 (PT.put x3 t88 (PT.put x2 t87 (PT.put x1 t86 fs))))) s) fun e r => opt2 (blkX 4 e r) fun e r => opt2 (thenX (c5_r0 rec N) e r) fun e r => opt2 (blkX 3 e r) fun e r => thenX (c5_r1 rec N) e r)
 (some ((.exit 2), (PT.put x4 t89 (PT.put x3 t88 (PT.put x2 t87 (PT.put x1 t86 fs)))), s))
set_option maxHeartbeats 4000000 in
theorem d5_l2 (rec : Rec) (N : Nat) (fs : Frm) (s : St) : c5_l2 rec N fs s = D5_l2 rec N fs s := by
  simp (maxSteps := 4000000) only [c5_l2, lenN, x_regc, reg_n, reg_c, reg1_u, reg1_g, op2_cons, op2_bif, x_seq, x_ops, x_skip, x_ret, x_exit, x_cond, x_block, x_loop, ops_c, ops_n, op1_u, op1_gj, rq_c, rq_n, opQ_u, opQ_g, op2_op2, op2_op, op2_s, op2_cond, thenX_n, thenX_e, thenX_r, blkX_n, blkX_r, blkX_e, finX_r, finX_n, res_n, res_t, op_s, Nat.beq_refl, cond_true, q5_g0, q5_g1, q5_g2, q5_g3, sm_bin, sm_box, sm_build, sm_buildslice, sm_bytesstr, sm_compl, sm_conv, sm_eqs, sm_eqv, sm_ext, sm_extract, sm_field, sm_fieldaddr, sm_func, sm_idxaa, sm_idxl, sm_idxs, sm_iface, sm_lenc, sm_lenl, sm_lens, sm_load1, sm_loadn, sm_mm, sm_mov, sm_neg, sm_new, sm_nil, sm_not, sm_pick, sm_same, sm_slices, sm_store]
  first | done | kernel_rfl
def D5_r2 (rec : Rec) (N : Nat) (fs : Frm) (s : St) : OutX := opt2 (oMov (.v (orU (fs.get t11))) rec PT.nil s) fun x1 s =>
 opt2 (rec 30 [x1] s) fun x2 s =>
 opt2 (oMov (.v (orU (fs.get t3))) rec PT.nil s) fun x3 s =>
 opt2 (oBin (int2 (cmpO gtI)) (.v x2) (.v x3) rec PT.nil s) fun x4 s =>
 condV x4
 (opt2 (oMov (.v (.bool true)) rec PT.nil s) fun x5 s =>
 some (.ret, (PT.put x5 t8 (PT.put x4 t220 (PT.put x3 t219 (PT.put x2 t218 (PT.put x1 t217 fs))))), s))
 (opt2 (oMov (.v (orU (fs.get t11))) rec PT.nil s) fun x6 s =>
 opt2 (oMov (.v (orU (fs.get t9))) rec PT.nil s) fun x7 s =>
 opt2 (oMov (.v (orU (fs.get t3))) rec PT.nil s) fun x8 s =>
 opt2 (rec 22 [x6, x7, x8] s) fun x9 s =>
 opt2 (oMov (.v x9) rec PT.nil s) fun x10 s =>
 opt2 (oExtract (.v x10) 0 rec PT.nil s) fun x11 s =>
 opt2 (oExtract (.v x10) 1 rec PT.nil s) fun x12 s =>
 opt2 (oMov (.v x11) rec PT.nil s) fun x13 s =>
 opt2 (oMov (.v x12) rec PT.nil s) fun x14 s =>
 opt2 (oMov (.v (orU (fs.get t13))) rec PT.nil s) fun x15 s =>
 opt2 (oMov (.v (orU (fs.get t9))) rec PT.nil s) fun x16 s =>
 opt2 (oMov (.v (orU (fs.get t3))) rec PT.nil s) fun x17 s =>
 opt2 (rec 22 [x15, x16, x17] s) fun x18 s =>
 opt2 (oMov (.v x18) rec PT.nil s) fun x19 s =>
 opt2 (oExtract (.v x19) 0 rec PT.nil s) fun x20 s =>
 opt2 (oExtract (.v x19) 1 rec PT.nil s) fun x21 s =>
 opt2 (oMov (.v x20) rec PT.nil s) fun x22 s =>
 opt2 (oMov (.v x21) rec PT.nil s) fun x23 s =>
 opt2 (oMov (.v x14) rec PT.nil s) fun x24 s =>
 opt2 (oBin (int2 (cmpO neI)) (.v x24) (.v (.int .i64 0)) rec PT.nil s) fun x25 s =>
 opt2 (oMov (.v x25) rec PT.nil s) fun x26 s =>
 opt (gval false x26) fun x27 => opt2 (orUndef x27 (oMov (.v x23) rec PT.nil s) s) fun x28 s =>
 opt (gval false x26) fun x29 => opt2 (orUndef x29 (oBin (int2 (cmpO neI)) (.v x28) (.v (.int .i64 0)) rec PT.nil s) s) fun x30 s =>
 opt2 (oPick (.v x26) (.v (.bool true)) (.v x30) rec PT.nil s) fun x31 s =>
 condV x31
 (opt2 (oMov (.v x14) rec PT.nil s) fun x32 s =>
 opt2 (oMov (.v x23) rec PT.nil s) fun x33 s =>
 opt2 (oBin (int2 (cmpO eqI)) (.v x32) (.v x33) rec PT.nil s) fun x34 s =>
 opt2 (oMov (.v x34) rec PT.nil s) fun x35 s =>
 some (.ret, (PT.put x35 t8 (PT.put x34 t243 (PT.put x33 t242 (PT.put x32 t241 (PT.put x31 t240 (PT.put x30 t239 (PT.put x28 t238 (PT.put x26 t237 (PT.put x25 t236 (PT.put x24 t235 (PT.put x23 t23 (PT.put x22 t22 (PT.put x21 t234 (PT.put x20 t233 (PT.put x19 t228 (PT.put x18 t232 (PT.put x17 t231 (PT.put x16 t230 (PT.put x15 t229 (PT.put x14 t21 (PT.put x13 t20 (PT.put x12 t227 (PT.put x11 t226 (PT.put x10 t221 (PT.put x9 t225 (PT.put x8 t224 (PT.put x7 t223 (PT.put x6 t222 (PT.put x4 t220 (PT.put x3 t219 (PT.put x2 t218 (PT.put x1 t217 fs)))))))))))))))))))))))))))))))), s))
 (opt2 (oMov (.v (orU (fs.get t11))) rec PT.nil s) fun x36 s =>
 opt2 (rec 32 [x36] s) fun x37 s =>
 opt2 (oMov (.v x13) rec PT.nil s) fun x38 s =>
 opt2 (oBin (int2 addO) (.v x37) (.v x38) rec PT.nil s) fun x39 s =>
 opt2 (oMov (.v (orU (fs.get t13))) rec PT.nil s) fun x40 s =>
 opt2 (rec 32 [x40] s) fun x41 s =>
 opt2 (oMov (.v x22) rec PT.nil s) fun x42 s =>
 opt2 (oBin (int2 addO) (.v x41) (.v x42) rec PT.nil s) fun x43 s =>
 opt2 (oBin (int2 (cmpO eqI)) (.v x39) (.v x43) rec PT.nil s) fun x44 s =>
 opt2 (oMov (.v x44) rec PT.nil s) fun x45 s =>
 opt (gval true x45) fun x46 => opt2 (orUndef x46 (oMov (.v (orU (fs.get t11))) rec PT.nil s) s) fun x47 s =>
 opt (gval true x45) fun x48 => opt2 (orUndef x48 (rec 31 [x47] s) s) fun x49 s =>
 opt (gval true x45) fun x50 => opt2 (orUndef x50 (oMov (.v (orU (fs.get t13))) rec PT.nil s) s) fun x51 s =>
 opt (gval true x45) fun x52 => opt2 (orUndef x52 (rec 31 [x51] s) s) fun x53 s =>
 opt (gval true x45) fun x54 => opt2 (orUndef x54 (oBin (int2 (cmpO eqI)) (.v x49) (.v x53) rec PT.nil s) s) fun x55 s =>
 opt2 (oPick (.v x45) (.v x55) (.v (.bool false)) rec PT.nil s) fun x56 s =>
 opt2 (oMov (.v x56) rec PT.nil s) fun x57 s =>
 some (.ret, (PT.put x57 t8 (PT.put x56 t259 (PT.put x55 t258 (PT.put x53 t257 (PT.put x51 t256 (PT.put x49 t255 (PT.put x47 t254 (PT.put x45 t253 (PT.put x44 t252 (PT.put x43 t251 (PT.put x42 t250 (PT.put x41 t249 (PT.put x40 t248 (PT.put x39 t247 (PT.put x38 t246 (PT.put x37 t245 (PT.put x36 t244 (PT.put x31 t240 (PT.put x30 t239 (PT.put x28 t238 (PT.put x26 t237 (PT.put x25 t236 (PT.put x24 t235 (PT.put x23 t23 (PT.put x22 t22 (PT.put x21 t234 (PT.put x20 t233 (PT.put x19 t228 (PT.put x18 t232 (PT.put x17 t231 (PT.put x16 t230 (PT.put x15 t229 (PT.put x14 t21 (PT.put x13 t20 (PT.put x12 t227 (PT.put x11 t226 (PT.put x10 t221 (PT.put x9 t225 (PT.put x8 t224 (PT.put x7 t223 (PT.put x6 t222 (PT.put x4 t220 (PT.put x3 t219 (PT.put x2 t218 (PT.put x1 t217 fs))))))))))))))))))))))))))))))))))))))))))))), s)))
set_option maxHeartbeats 4000000 in
theorem d5_r2 (rec : Rec) (N : Nat) (fs : Frm) (s : St) : c5_r2 rec N fs s = D5_r2 rec N fs s := by
  simp (maxSteps := 4000000) only [c5_r2, lenN, x_regc, reg_n, reg_c, reg1_u, reg1_g, op2_cons, op2_bif, x_seq, x_ops, x_skip, x_ret, x_exit, x_cond, x_block, x_loop, ops_c, ops_n, op1_u, op1_gj, rq_c, rq_n, opQ_u, opQ_g, op2_op2, op2_op, op2_s, op2_cond, thenX_n, thenX_e, thenX_r, blkX_n, blkX_r, blkX_e, finX_r, finX_n, res_n, res_t, op_s, Nat.beq_refl, cond_true, q5_g0, q5_g1, q5_g2, q5_g3, sm_bin, sm_box, sm_build, sm_buildslice, sm_bytesstr, sm_compl, sm_conv, sm_eqs, sm_eqv, sm_ext, sm_extract, sm_field, sm_fieldaddr, sm_func, sm_idxaa, sm_idxl, sm_idxs, sm_iface, sm_lenc, sm_lenl, sm_lens, sm_load1, sm_loadn, sm_mm, sm_mov, sm_neg, sm_new, sm_nil, sm_not, sm_pick, sm_same, sm_slices, sm_store]
  first | done | kernel_rfl
def D5_r3 (rec : Rec) (N : Nat) (fs : Frm) (s : St) : OutX := opt2 (oMov (.v (orU (fs.get t0))) rec PT.nil s) fun x1 s =>
 opt2 (rec 11 [(.int .i64 0), x1] s) fun x2 s =>
 opt2 (oMov (.v x2) rec PT.nil s) fun x3 s =>
 opt2 (oExtract (.v x3) 0 rec PT.nil s) fun x4 s =>
 opt2 (oExtract (.v x3) 1 rec PT.nil s) fun x5 s =>
 opt2 (oMov (.v x4) rec PT.nil s) fun x6 s =>
 opt2 (oMov (.v x5) rec PT.nil s) fun x7 s =>
 opt2 (oMov (.v (orU (fs.get t0))) rec PT.nil s) fun x8 s =>
 opt2 (rec 11 [(.int .i64 0), x8] s) fun x9 s =>
 opt2 (oMov (.v x9) rec PT.nil s) fun x10 s =>
 opt2 (oExtract (.v x10) 0 rec PT.nil s) fun x11 s =>
 opt2 (oExtract (.v x10) 1 rec PT.nil s) fun x12 s =>
 opt2 (oMov (.v x11) rec PT.nil s) fun x13 s =>
 opt2 (oMov (.v x12) rec PT.nil s) fun x14 s =>
 opt2 (oMov (.v (.int .i64 0)) rec PT.nil s) fun x15 s =>
 opt2 (oMov (.v (.int .i64 0)) rec PT.nil s) fun x16 s =>
 opt2 (loopF (c5_l2 rec N) N (PT.put x16 t16 (PT.put x15 t15 (PT.put x14 t14 (PT.put x13 t13 (PT.put x12 t85 (PT.put x11 t84 (PT.put x10 t81 (PT.put x9 t83 (PT.put x8 t82 (PT.put x7 t12 (PT.put x6 t11 (PT.put x5 t80 (PT.put x4 t79 (PT.put x3 t76 (PT.put x2 t78 (PT.put x1 t77 fs)))))))))))))))) s) fun e r => opt2 (blkX 2 e r) fun e r => thenX (c5_r2 rec N) e r
set_option maxHeartbeats 4000000 in
theorem d5_r3 (rec : Rec) (N : Nat) (fs : Frm) (s : St) : c5_r3 rec N fs s = D5_r3 rec N fs s := by
  simp (maxSteps := 4000000) only [c5_r3, lenN, x_regc, reg_n, reg_c, reg1_u, reg1_g, op2_cons, op2_bif, x_seq, x_ops, x_skip, x_ret, x_exit, x_cond, x_block, x_loop, ops_c, ops_n, op1_u, op1_gj, rq_c, rq_n, opQ_u, opQ_g, op2_op2, op2_op, op2_s, op2_cond, thenX_n, thenX_e, thenX_r, blkX_n, blkX_r, blkX_e, finX_r, finX_n, res_n, res_t, op_s, Nat.beq_refl, cond_true, q5_g0, q5_g1, q5_g2, q5_g3, sm_bin, sm_box, sm_build, sm_buildslice, sm_bytesstr, sm_compl, sm_conv, sm_eqs, sm_eqv, sm_ext, sm_extract, sm_field, sm_fieldaddr, sm_func, sm_idxaa, sm_idxl, sm_idxs, sm_iface, sm_lenc, sm_lenl, sm_lens, sm_load1, sm_loadn, sm_mm, sm_mov, sm_neg, sm_new, sm_nil, sm_not, sm_pick, sm_same, sm_slices, sm_store]
  first | done | kernel_rfl
def D5_j4 (rec : Rec) (N : Nat) (fs : Frm) (s : St) : OutX := opt2 (rec 10 [] s) fun x1 s =>
 opt2 (oMov (.v x1) rec PT.nil s) fun x2 s =>
 opt2 (oMov (.v (.int .i64 0)) rec PT.nil s) fun x3 s =>
 opt2 (loopF (c5_l0 rec N) N (PT.put x3 t10 (PT.put x2 t9 (PT.put x1 t50 fs))) s) fun e r => opt2 (blkX 0 e r) fun e r => thenX (c5_r3 rec N) e r
set_option maxHeartbeats 4000000 in
theorem d5_j4 (rec : Rec) (N : Nat) (fs : Frm) (s : St) : c5_j4 rec N fs s = D5_j4 rec N fs s := by
  simp (maxSteps := 4000000) only [c5_j4, lenN, x_regc, reg_n, reg_c, reg1_u, reg1_g, op2_cons, op2_bif, x_seq, x_ops, x_skip, x_ret, x_exit, x_cond, x_block, x_loop, ops_c, ops_n, op1_u, op1_gj, rq_c, rq_n, opQ_u, opQ_g, op2_op2, op2_op, op2_s, op2_cond, thenX_n, thenX_e, thenX_r, blkX_n, blkX_r, blkX_e, finX_r, finX_n, res_n, res_t, op_s, Nat.beq_refl, cond_true, q5_g0, q5_g1, q5_g2, q5_g3, sm_bin, sm_box, sm_build, sm_buildslice, sm_bytesstr, sm_compl, sm_conv, sm_eqs, sm_eqv, sm_ext, sm_extract, sm_field, sm_fieldaddr, sm_func, sm_idxaa, sm_idxl, sm_idxs, sm_iface, sm_lenc, sm_lenl, sm_lens, sm_load1, sm_loadn, sm_mm, sm_mov, sm_neg, sm_new, sm_nil, sm_not, sm_pick, sm_same, sm_slices, sm_store]
  first | done | kernel_rfl
def D5 (rec : Rec) (N : Nat) (a0 : Value) (a1 : Value) (a2 : Value) (a3 : Value) (s : St) : Out := opt2 (oMov (.v (.bool false)) rec PT.nil s) fun x1 s =>
 opt2 (rec 9 [] s) fun x2 s =>
 opt2 (oNot (.v x2) rec PT.nil s) fun x3 s =>
 condV x3
 (opt2 (oMov (.v (.bool false)) rec PT.nil s) fun x4 s =>
 some (oneOf [x4], s))
 (opt2 (oMov (.v a0) rec PT.nil s) fun x5 s =>
 opt2 (oBin (int2 (cmpO ltI)) (.v x5) (.v (.int .i64 0)) rec PT.nil s) fun x6 s =>
 opt2 (oMov (.v x6) rec PT.nil s) fun x7 s =>
 opt (gval false x7) fun x8 => opt2 (orUndef x8 (oMov (.v a0) rec PT.nil s) s) fun x9 s =>
 opt (gval false x7) fun x10 => opt2 (orUndef x10 (oBin (int2 (cmpO gtI)) (.v x9) (.v (.int .i64 1099511627776)) rec PT.nil s) s) fun x11 s =>
 opt2 (oPick (.v x7) (.v (.bool true)) (.v x11) rec PT.nil s) fun x12 s =>
 opt2 (oMov (.v x12) rec PT.nil s) fun x13 s =>
 opt (gval false x13) fun x14 => opt2 (orUndef x14 (oMov (.v a1) rec PT.nil s) s) fun x15 s =>
 opt (gval false x13) fun x16 => opt2 (orUndef x16 (oLenL (.v x15) rec PT.nil s) s) fun x17 s =>
 opt (gval false x13) fun x18 => opt2 (orUndef x18 (oBin (int2 (cmpO gtI)) (.v x17) (.v (.int .i64 30)) rec PT.nil s) s) fun x19 s =>
 opt2 (oPick (.v x13) (.v (.bool true)) (.v x19) rec PT.nil s) fun x20 s =>
 opt2 (oMov (.v x20) rec PT.nil s) fun x21 s =>
 opt (gval false x21) fun x22 => opt2 (orUndef x22 (oMov (.v a2) rec PT.nil s) s) fun x23 s =>
 opt (gval false x21) fun x24 => opt2 (orUndef x24 (oLenL (.v x23) rec PT.nil s) s) fun x25 s =>
 opt2 (runOps rec c5_q0 (PT.put x25 t39 (PT.put x23 t38 (PT.put x21 t37 (PT.put x20 t36 (PT.put x19 t35 (PT.put x17 t34 (PT.put x15 t33 (PT.put x13 t32 (PT.put x12 t31 (PT.put x11 t30 (PT.put x9 t29 (PT.put x7 t28 (PT.put x6 t27 (PT.put x5 t26 (PT.put x3 t25 (PT.put x2 t24 (PT.put x1 t8 (PT.put a3 t3 (PT.put a2 t2 (PT.put a1 t1 (PT.put a0 t0 PT.nil))))))))))))))))))))) s) fun fs s =>
 opt2 (c5_j0 rec N fs s) fun e r => opt2 (thenX (c5_j4 rec N) e r) fun e r => finX [.tmp t8] e r)
set_option maxHeartbeats 4000000 in
theorem d5 (rec : Rec) (N : Nat) (a0 : Value) (a1 : Value) (a2 : Value) (a3 : Value) (s : St) : callF rec N c5 [a0, a1, a2, a3] s = D5 rec N a0 a1 a2 a3 s := by
  rw [call_f _ _ _ _ _ rfl]
  simp (maxSteps := 4000000) only [c5, lenN, x_regc, reg_n, reg_c, reg1_u, reg1_g, op2_cons, op2_bif, x_seq, x_ops, x_skip, x_ret, x_exit, x_cond, x_block, x_loop, ops_c, ops_n, op1_u, op1_gj, rq_c, rq_n, opQ_u, opQ_g, op2_op2, op2_op, op2_s, op2_cond, thenX_n, thenX_e, thenX_r, blkX_n, blkX_r, blkX_e, finX_r, finX_n, res_n, res_t, op_s, Nat.beq_refl, cond_true, q5_g0, q5_g1, q5_g2, q5_g3, sm_bin, sm_box, sm_build, sm_buildslice, sm_bytesstr, sm_compl, sm_conv, sm_eqs, sm_eqv, sm_ext, sm_extract, sm_field, sm_fieldaddr, sm_func, sm_idxaa, sm_idxl, sm_idxs, sm_iface, sm_lenc, sm_lenl, sm_lens, sm_load1, sm_loadn, sm_mm, sm_mov, sm_neg, sm_new, sm_nil, sm_not, sm_pick, sm_same, sm_slices, sm_store]
  first | done | kernel_rfl
def J5_j2 (rec : Rec) (N : Nat) (k : Value × Value × Value × Value × Value × Value × Value × Value × Value × Value) (s : St) : OutV (Value) := opt2 (oBin (int2 addO) (.v k.2.2.2.2.2.2.2.2.2) (.v (.int .i64 1)) rec PT.nil s) fun x1 s =>
 some (.norm, (x1, s))
set_option maxHeartbeats 4000000 in
theorem j5_j2 (rec : Rec) (N : Nat) (fs : Frm) (s : St) : opt2 (c5_j2 rec N fs s) (fun e r => some (e, (((orU (r.1.get t17)), (orU (r.1.get t1), orU (r.1.get t2), orU (r.1.get t3), orU (r.1.get t8), orU (r.1.get t9), orU (r.1.get t11), orU (r.1.get t13), orU (r.1.get t15), orU (r.1.get t16))), r.2))) = opt2 (J5_j2 rec N (orU (fs.get t1), orU (fs.get t2), orU (fs.get t3), orU (fs.get t8), orU (fs.get t9), orU (fs.get t11), orU (fs.get t13), orU (fs.get t15), orU (fs.get t16), orU (fs.get t17)) s) fun e r => some (e, ((r.1, (orU (fs.get t1), orU (fs.get t2), orU (fs.get t3), orU (fs.get t8), orU (fs.get t9), orU (fs.get t11), orU (fs.get t13), orU (fs.get t15), orU (fs.get t16))), r.2)) := by
  rw [d5_j2]
  unfold D5_j2 J5_j2
  simp (maxSteps := 4000000) only [thenX_n, thenX_e, thenX_r, x_exit, x_skip, x_ret, blkX_n, blkX_r, blkX_e, finX_r, finX_n, res_n, res_t, op2_op2, op2_op, op2_s, op2_cond, op2_bf, mov_v]
  first | done | kernel_rfl
def J5_j1 (rec : Rec) (N : Nat) (k : Value × Value × Value × Value × Value × Value × Value × Value × Value × Value × Value) (s : St) : OutV (Value) := condV k.2.2.2.2.2.2.2.2.2.2
 (opt2 (oIdxAddrL 1 (.v k.2.1) (.v k.2.2.2.2.2.2.2.2.2.1) rec PT.nil s) fun x1 s =>
 opt2 (oLoad1 (.v x1) rec PT.nil s) fun x2 s =>
 opt2 (oBin (int2 andO) (.v x2) (.v (.int .i64 1)) rec PT.nil s) fun x3 s =>
 opt2 (oBin (int2 (cmpO eqI)) (.v x3) (.v (.int .i64 0)) rec PT.nil s) fun x4 s =>
 condV x4
 (opt2 (oIdxAddrL 1 (.v k.2.1) (.v k.2.2.2.2.2.2.2.2.2.1) rec PT.nil s) fun x5 s =>
 opt2 (oLoad1 (.v x5) rec PT.nil s) fun x6 s =>
 opt2 (rec 20 [k.2.2.2.2.2.1, k.2.2.2.2.1, x6] s) fun x7 s =>
 J5_j2 rec N (k.1, k.2.1, k.2.2.1, k.2.2.2.1, k.2.2.2.2.1, k.2.2.2.2.2.1, k.2.2.2.2.2.2.1, k.2.2.2.2.2.2.2.1, k.2.2.2.2.2.2.2.2.1, k.2.2.2.2.2.2.2.2.2.1) s)
 (opt2 (oIdxAddrL 1 (.v k.2.1) (.v k.2.2.2.2.2.2.2.2.2.1) rec PT.nil s) fun x8 s =>
 opt2 (oLoad1 (.v x8) rec PT.nil s) fun x9 s =>
 opt2 (rec 22 [k.2.2.2.2.2.1, k.2.2.2.2.1, x9] s) fun x10 s =>
 J5_j2 rec N (k.1, k.2.1, k.2.2.1, k.2.2.2.1, k.2.2.2.2.1, k.2.2.2.2.2.1, k.2.2.2.2.2.2.1, k.2.2.2.2.2.2.2.1, k.2.2.2.2.2.2.2.2.1, k.2.2.2.2.2.2.2.2.2.1) s))
 (J5_j2 rec N (k.1, k.2.1, k.2.2.1, k.2.2.2.1, k.2.2.2.2.1, k.2.2.2.2.2.1, k.2.2.2.2.2.2.1, k.2.2.2.2.2.2.2.1, k.2.2.2.2.2.2.2.2.1, k.2.2.2.2.2.2.2.2.2.1) s)
set_option maxHeartbeats 4000000 in
theorem j5_j1 (rec : Rec) (N : Nat) (fs : Frm) (s : St) : opt2 (c5_j1 rec N fs s) (fun e r => opt2 (blkX 5 e r) fun e r => opt2 (thenX (c5_j2 rec N) e r) fun e r => some (e, (((orU (r.1.get t17)), (orU (r.1.get t1), orU (r.1.get t2), orU (r.1.get t3), orU (r.1.get t8), orU (r.1.get t9), orU (r.1.get t11), orU (r.1.get t13), orU (r.1.get t15), orU (r.1.get t16))), r.2))) = opt2 (J5_j1 rec N (orU (fs.get t1), orU (fs.get t2), orU (fs.get t3), orU (fs.get t8), orU (fs.get t9), orU (fs.get t11), orU (fs.get t13), orU (fs.get t15), orU (fs.get t16), orU (fs.get t17), orU (fs.get t124)) s) fun e r => some (e, ((r.1, (orU (fs.get t1), orU (fs.get t2), orU (fs.get t3), orU (fs.get t8), orU (fs.get t9), orU (fs.get t11), orU (fs.get t13), orU (fs.get t15), orU (fs.get t16))), r.2)) := by
  rw [d5_j1]
  unfold D5_j1 J5_j1
  simp (maxSteps := 4000000) only [thenX_n, thenX_e, thenX_r, x_exit, x_skip, x_ret, blkX_n, blkX_r, blkX_e, finX_r, finX_n, res_n, res_t, op2_op2, op2_op, op2_s, op2_cond, op2_bf, mov_v, j5_j2 rec N]
  first | done | kernel_rfl
def Q5_q1 (rec : Rec) (N : Nat) (k : Value × Value × Value × Value × Value × Value × Value × Value × Value × Value × Value × Value × Value × Value) (s : St) : OutV (Value) := opt (gval true k.2.2.2.2.2.2.2.2.2.2.1) fun x1 => opt2 (orUndef x1 (oIdxAddrL 1 (.v k.2.2.2.2.2.2.2.2.2.2.2.2.1) (.v k.2.2.2.2.2.2.2.2.2.2.2.2.2) rec PT.nil s) s) fun x2 s =>
 opt (gval true k.2.2.2.2.2.2.2.2.2.2.1) fun x3 => opt2 (orUndef x3 (oLoad1 (.v x2) rec PT.nil s) s) fun x4 s =>
 opt (gval true k.2.2.2.2.2.2.2.2.2.2.1) fun x5 => opt2 (orUndef x5 (oBin (int2 (cmpO geI)) (.v k.2.2.2.2.2.2.2.2.2.2.2.1) (.v x4) rec PT.nil s) s) fun x6 s =>
 opt2 (oPick (.v k.2.2.2.2.2.2.2.2.2.2.1) (.v x6) (.v (.bool false)) rec PT.nil s) fun x7 s =>
 opt (gval true x7) fun x8 => opt2 (orUndef x8 (some (k.1, s)) s) fun x9 s =>
 opt (gval true x7) fun x10 => opt2 (orUndef x10 (some (k.2.2.2.2.2.2.2.2.1, s)) s) fun x11 s =>
 opt (gval true x7) fun x12 => opt2 (orUndef x12 (oIdxAddrL 3 (.v x9) (.v x11) rec PT.nil s) s) fun x13 s =>
 opt (gval true x7) fun x14 => opt2 (orUndef x14 (oFieldAddr 1 (.v x13) rec PT.nil s) s) fun x15 s =>
 opt (gval true x7) fun x16 => opt2 (orUndef x16 (oLoad1 (.v x15) rec PT.nil s) s) fun x17 s =>
 opt (gval true x7) fun x18 => opt2 (orUndef x18 (some (k.2.2.1, s)) s) fun x19 s =>
 opt (gval true x7) fun x20 => opt2 (orUndef x20 (oBin (int2 (cmpO leI)) (.v x17) (.v x19) rec PT.nil s) s) fun x21 s =>
 opt2 (oPick (.v x7) (.v x21) (.v (.bool false)) rec PT.nil s) fun x22 s =>
 J5_j1 rec N (k.1, k.2.1, k.2.2.1, k.2.2.2.1, k.2.2.2.2.1, k.2.2.2.2.2.1, k.2.2.2.2.2.2.1, k.2.2.2.2.2.2.2.1, k.2.2.2.2.2.2.2.2.1, k.2.2.2.2.2.2.2.2.2.1, x22) s
set_option maxHeartbeats 4000000 in
theorem j5_q1 (rec : Rec) (N : Nat) (fs : Frm) (s : St) : opt2 (runQ rec c5_q1 fs s) (fun fs s => opt2 (c5_j1 rec N fs s) fun e r => opt2 (blkX 5 e r) fun e r => opt2 (thenX (c5_j2 rec N) e r) fun e r => some (e, (((orU (r.1.get t17)), (orU (r.1.get t1), orU (r.1.get t2), orU (r.1.get t3), orU (r.1.get t8), orU (r.1.get t9), orU (r.1.get t11), orU (r.1.get t13), orU (r.1.get t15), orU (r.1.get t16))), r.2))) = opt2 (Q5_q1 rec N (orU (fs.get t1), orU (fs.get t2), orU (fs.get t3), orU (fs.get t8), orU (fs.get t9), orU (fs.get t11), orU (fs.get t13), orU (fs.get t15), orU (fs.get t16), orU (fs.get t17), orU (fs.get t104), orU (fs.get t109), orU (fs.get t110), orU (fs.get t111)) s) fun e r => some (e, ((r.1, (orU (fs.get t1), orU (fs.get t2), orU (fs.get t3), orU (fs.get t8), orU (fs.get t9), orU (fs.get t11), orU (fs.get t13), orU (fs.get t15), orU (fs.get t16))), r.2)) := by
  rw [d5_q1]
  unfold D5_q1 Q5_q1
  simp (maxSteps := 4000000) only [thenX_n, thenX_e, thenX_r, x_exit, x_skip, x_ret, blkX_n, blkX_r, blkX_e, finX_r, finX_n, res_n, res_t, op2_op2, op2_op, op2_s, op2_cond, op2_bf, mov_v, j5_j1 rec N]
  first | done | kernel_rfl
def J5_r1 (rec : Rec) (N : Nat) (k : Value × Value × Value × Value × Value × Value × Value × Value × Value) (s : St) : OutV (Value × Value) := opt2 (oBin (int2 addO) (.v k.2.2.2.2.2.2.2.2) (.v (.int .i64 1)) rec PT.nil s) fun x1 s =>
 some (.norm, ((k.2.2.2.2.2.2.2.1, x1), s))
set_option maxHeartbeats 4000000 in
theorem j5_r1 (rec : Rec) (N : Nat) (fs : Frm) (s : St) : opt2 (c5_r1 rec N fs s) (fun e r => some (e, (((orU (r.1.get t15), orU (r.1.get t16)), (orU (r.1.get t1), orU (r.1.get t2), orU (r.1.get t3), orU (r.1.get t8), orU (r.1.get t9), orU (r.1.get t11), orU (r.1.get t13))), r.2))) = opt2 (J5_r1 rec N (orU (fs.get t1), orU (fs.get t2), orU (fs.get t3), orU (fs.get t8), orU (fs.get t9), orU (fs.get t11), orU (fs.get t13), orU (fs.get t15), orU (fs.get t16)) s) fun e r => some (e, ((r.1, (orU (fs.get t1), orU (fs.get t2), orU (fs.get t3), orU (fs.get t8), orU (fs.get t9), orU (fs.get t11), orU (fs.get t13))), r.2)) := by
  rw [d5_r1]
  unfold D5_r1 J5_r1
  simp (maxSteps := 4000000) only [thenX_n, thenX_e, thenX_r, x_exit, x_skip, x_ret, blkX_n, blkX_r, blkX_e, finX_r, finX_n, res_n, res_t, op2_op2, op2_op, op2_s, op2_cond, op2_bf, mov_v]
  first | done | kernel_rfl
def J5_j3 (rec : Rec) (N : Nat) (k : Value × Value × Value × Value × Value × Value × Value × Value × Value × Value) (s : St) : OutV (Value × Value) := condV k.2.2.2.2.2.2.2.2.2
 (opt2 (oIdxAddrL 3 (.v k.1) (.v k.2.2.2.2.2.2.2.2.1) rec PT.nil s) fun x1 s =>
 opt2 (oFieldAddr 1 (.v x1) rec PT.nil s) fun x2 s =>
 opt2 (oLoad1 (.v x2) rec PT.nil s) fun x3 s =>
 opt2 (oIdxAddrL 3 (.v k.1) (.v k.2.2.2.2.2.2.2.2.1) rec PT.nil s) fun x4 s =>
 opt2 (oFieldAddr 2 (.v x4) rec PT.nil s) fun x5 s =>
 opt2 (oLoad1 (.v x5) rec PT.nil s) fun x6 s =>
 opt2 (rV (rec 14 [k.2.2.2.2.2.1, k.2.2.2.2.1, x3, x6] (z0 s)) s) fun x7 s =>
 opt2 (oIdxAddrL 3 (.v k.1) (.v k.2.2.2.2.2.2.2.2.1) rec PT.nil s) fun x8 s =>
 opt2 (oFieldAddr 1 (.v x8) rec PT.nil s) fun x9 s =>
 opt2 (oLoad1 (.v x9) rec PT.nil s) fun x10 s =>
 opt2 (oIdxAddrL 3 (.v k.1) (.v k.2.2.2.2.2.2.2.2.1) rec PT.nil s) fun x11 s =>
 opt2 (oFieldAddr 2 (.v x11) rec PT.nil s) fun x12 s =>
 opt2 (oLoad1 (.v x12) rec PT.nil s) fun x13 s =>
 opt2 (rV (rec 14 [k.2.2.2.2.2.2.1, k.2.2.2.2.1, x10, x13] (z0 s)) s) fun x14 s =>
 opt2 (oBin (int2 (cmpO eqI)) (.v x7) (.v x14) rec PT.nil s) fun x15 s =>
 opt (gval true x15) fun x16 => opt2 (orUndef x16 (some (x7, s)) s) fun x17 s =>
 opt (gval true x15) fun x18 => opt2 (orUndef x18 (oBin (int2 (cmpO eqI)) (.v x17) (.v (.int .i64 0)) rec PT.nil s) s) fun x19 s =>
 opt2 (oPick (.v x15) (.v x19) (.v (.bool false)) rec PT.nil s) fun x20 s =>
 condV x20
 (opt2 (oIdxAddrL 3 (.v k.1) (.v k.2.2.2.2.2.2.2.2.1) rec PT.nil s) fun x21 s =>
 opt2 (oFieldAddr 1 (.v x21) rec PT.nil s) fun x22 s =>
 opt2 (oLoad1 (.v x22) rec PT.nil s) fun x23 s =>
 J5_r1 rec N (k.1, k.2.1, k.2.2.1, k.2.2.2.1, k.2.2.2.2.1, k.2.2.2.2.2.1, k.2.2.2.2.2.2.1, x23, k.2.2.2.2.2.2.2.2.1) s)
 (J5_r1 rec N (k.1, k.2.1, k.2.2.1, k.2.2.2.1, k.2.2.2.2.1, k.2.2.2.2.2.1, k.2.2.2.2.2.2.1, k.2.2.2.2.2.2.2.1, k.2.2.2.2.2.2.2.2.1) s))
 (J5_r1 rec N (k.1, k.2.1, k.2.2.1, k.2.2.2.1, k.2.2.2.2.1, k.2.2.2.2.2.1, k.2.2.2.2.2.2.1, k.2.2.2.2.2.2.2.1, k.2.2.2.2.2.2.2.2.1) s)
set_option maxHeartbeats 4000000 in
theorem j5_j3 (rec : Rec) (N : Nat) (fs : Frm) (s : St) : opt2 (c5_j3 rec N fs s) (fun e r => opt2 (blkX 3 e r) fun e r => opt2 (thenX (c5_r1 rec N) e r) fun e r => some (e, (((orU (r.1.get t15), orU (r.1.get t16)), (orU (r.1.get t1), orU (r.1.get t2), orU (r.1.get t3), orU (r.1.get t8), orU (r.1.get t9), orU (r.1.get t11), orU (r.1.get t13))), r.2))) = opt2 (J5_j3 rec N (orU (fs.get t1), orU (fs.get t2), orU (fs.get t3), orU (fs.get t8), orU (fs.get t9), orU (fs.get t11), orU (fs.get t13), orU (fs.get t15), orU (fs.get t16), orU (fs.get t178)) s) fun e r => some (e, ((r.1, (orU (fs.get t1), orU (fs.get t2), orU (fs.get t3), orU (fs.get t8), orU (fs.get t9), orU (fs.get t11), orU (fs.get t13))), r.2)) := by
  rw [d5_j3]
  unfold D5_j3 J5_j3
  simp (maxSteps := 4000000) only [thenX_n, thenX_e, thenX_r, x_exit, x_skip, x_ret, blkX_n, blkX_r, blkX_e, finX_r, finX_n, res_n, res_t, op2_op2, op2_op, op2_s, op2_cond, op2_bf, mov_v, j5_r1 rec N]
  first | done | kernel_rfl
def J5_r0 (rec : Rec) (N : Nat) (k : Value × Value × Value × Value × Value × Value × Value × Value × Value) (s : St) : OutV (Value × Value) := opt2 (rU (oMov (.v k.1) rec PT.nil ⟨s.heap, s.next, 0, 0⟩) PT.nil s none) fun x1 m1 =>
 (fun s => opt2 (rU (oMov (.v k.2.2.2.2.2.2.2.2) rec PT.nil ⟨s.heap, s.next, 0, 0⟩) PT.nil s none) fun x2 m2 =>
 (fun s => opt2 (rU (oIdxAddrL 3 (.v x1) (.v x2) rec PT.nil ⟨s.heap, s.next, 0, 0⟩) PT.nil s none) fun x3 m3 =>
 (fun s => opt2 (rU (oFieldAddr 0 (.v x3) rec PT.nil ⟨s.heap, s.next, 0, 0⟩) PT.nil s none) fun x4 m4 =>
 (fun s => opt2 (rU (oLoad1 (.v x4) rec PT.nil ⟨s.heap, s.next, 0, 0⟩) PT.nil s (some (.v x4))) fun x5 m5 =>
 (fun s => opt2 (rU (oBin (int2 (cmpO eqI)) (.v x5) (.v (.int .i64 1)) rec PT.nil ⟨s.heap, s.next, 0, 0⟩) PT.nil s none) fun x6 m6 =>
 (fun s => opt2 (rU (oMov (.v x6) rec PT.nil ⟨s.heap, s.next, 0, 0⟩) PT.nil s none) fun x7 m7 =>
 (fun s => opt (gval true x7) fun x8 => opt2 (orM x8 (rU (oMov (.v k.1) rec PT.nil ⟨s.heap, s.next, 0, 0⟩) PT.nil s none) s) fun x9 m9 =>
 (fun s => opt (gval true x7) fun x10 => opt2 (orM x10 (rU (oMov (.v k.2.2.2.2.2.2.2.2) rec PT.nil ⟨s.heap, s.next, 0, 0⟩) PT.nil s none) s) fun x11 m11 =>
 (fun s => opt (gval true x7) fun x12 => opt2 (orM x12 (rU (oIdxAddrL 3 (.v x9) (.v x11) rec PT.nil ⟨s.heap, s.next, 0, 0⟩) PT.nil s none) s) fun x13 m13 =>
 (fun s => opt (gval true x7) fun x14 => opt2 (orM x14 (rU (oFieldAddr 1 (.v x13) rec PT.nil ⟨s.heap, s.next, 0, 0⟩) PT.nil s none) s) fun x15 m15 =>
 (fun s => opt (gval true x7) fun x16 => opt2 (orM x16 (rU (oLoad1 (.v x15) rec PT.nil ⟨s.heap, s.next, 0, 0⟩) PT.nil s (some (.v x15))) s) fun x17 m17 =>
 (fun s => opt (gval true x7) fun x18 => opt2 (orM x18 (rU (oMov (.v k.2.2.2.2.2.2.2.1) rec PT.nil ⟨s.heap, s.next, 0, 0⟩) PT.nil s none) s) fun x19 m19 =>
 (fun s => opt (gval true x7) fun x20 => opt2 (orM x20 (rU (oBin (int2 (cmpO geI)) (.v x17) (.v x19) rec PT.nil ⟨s.heap, s.next, 0, 0⟩) PT.nil s none) s) fun x21 m21 =>
 (fun s => opt2 (rU (oPick (.v x7) (.v x21) (.v (.bool false)) rec PT.nil ⟨s.heap, s.next, 0, 0⟩) PT.nil s none) fun x22 m22 =>
 (fun s => opt2 (rU (oMov (.v x22) rec PT.nil ⟨s.heap, s.next, 0, 0⟩) PT.nil s none) fun x23 m23 =>
 (fun s => opt (gval true x23) fun x24 => opt2 (orM x24 (rU (oMov (.v k.1) rec PT.nil ⟨s.heap, s.next, 0, 0⟩) PT.nil s none) s) fun x25 m25 =>
 (fun s => opt (gval true x23) fun x26 => opt2 (orM x26 (rU (oMov (.v k.2.2.2.2.2.2.2.2) rec PT.nil ⟨s.heap, s.next, 0, 0⟩) PT.nil s none) s) fun x27 m27 =>
 (fun s => opt (gval true x23) fun x28 => opt2 (orM x28 (rU (oIdxAddrL 3 (.v x25) (.v x27) rec PT.nil ⟨s.heap, s.next, 0, 0⟩) PT.nil s none) s) fun x29 m29 =>
 (fun s => opt (gval true x23) fun x30 => opt2 (orM x30 (rU (oFieldAddr 1 (.v x29) rec PT.nil ⟨s.heap, s.next, 0, 0⟩) PT.nil s none) s) fun x31 m31 =>
 (fun s => opt (gval true x23) fun x32 => opt2 (orM x32 (rU (oLoad1 (.v x31) rec PT.nil ⟨s.heap, s.next, 0, 0⟩) PT.nil s (some (.v x31))) s) fun x33 m33 =>
 (fun s => opt (gval true x23) fun x34 => opt2 (orM x34 (rU (oMov (.v k.2.2.2.2.2.1) rec PT.nil ⟨s.heap, s.next, 0, 0⟩) PT.nil s none) s) fun x35 m35 =>
 (fun s => opt (gval true x23) fun x36 => opt2 (orM x36 (rU (rec 30 [x35] ⟨s.heap, s.next, 0, 0⟩) PT.nil s none) s) fun x37 m37 =>
 (fun s => opt (gval true x23) fun x38 => opt2 (orM x38 (rU (oBin (int2 (cmpO geI)) (.v x33) (.v x37) rec PT.nil ⟨s.heap, s.next, 0, 0⟩) PT.nil s none) s) fun x39 m39 =>
 (fun s => opt2 (rU (oPick (.v x23) (.v x39) (.v (.bool false)) rec PT.nil ⟨s.heap, s.next, 0, 0⟩) PT.nil s none) fun x40 m40 =>
 (fun s => opt2 (rU (oMov (.v x40) rec PT.nil ⟨s.heap, s.next, 0, 0⟩) PT.nil s none) fun x41 m41 =>
 (fun s => opt (gval true x41) fun x42 => opt2 (orM x42 (rU (oMov (.v k.1) rec PT.nil ⟨s.heap, s.next, 0, 0⟩) PT.nil s none) s) fun x43 m43 =>
 (fun s => opt (gval true x41) fun x44 => opt2 (orM x44 (rU (oMov (.v k.2.2.2.2.2.2.2.2) rec PT.nil ⟨s.heap, s.next, 0, 0⟩) PT.nil s none) s) fun x45 m45 =>
 (fun s => opt (gval true x41) fun x46 => opt2 (orM x46 (rU (oIdxAddrL 3 (.v x43) (.v x45) rec PT.nil ⟨s.heap, s.next, 0, 0⟩) PT.nil s none) s) fun x47 m47 =>
 (fun s => opt (gval true x41) fun x48 => opt2 (orM x48 (rU (oFieldAddr 1 (.v x47) rec PT.nil ⟨s.heap, s.next, 0, 0⟩) PT.nil s none) s) fun x49 m49 =>
 (fun s => opt (gval true x41) fun x50 => opt2 (orM x50 (rU (oLoad1 (.v x49) rec PT.nil ⟨s.heap, s.next, 0, 0⟩) PT.nil s (some (.v x49))) s) fun x51 m51 =>
 (fun s => opt (gval true x41) fun x52 => opt2 (orM x52 (rU (oMov (.v k.2.2.1) rec PT.nil ⟨s.heap, s.next, 0, 0⟩) PT.nil s none) s) fun x53 m53 =>
 (fun s => opt (gval true x41) fun x54 => opt2 (orM x54 (rU (oBin (int2 (cmpO leI)) (.v x51) (.v x53) rec PT.nil ⟨s.heap, s.next, 0, 0⟩) PT.nil s none) s) fun x55 m55 =>
 (fun s => opt2 (rU (oPick (.v x41) (.v x55) (.v (.bool false)) rec PT.nil ⟨s.heap, s.next, 0, 0⟩) PT.nil s none) fun x56 m56 =>
 (fun s => bif apartAll [m1.1, m2.1, m3.1, m4.1, m5.1, m6.1, m7.1, m9.1, m11.1, m13.1, m15.1, m17.1, m19.1, m21.1, m22.1, m23.1, m25.1, m27.1, m29.1, m31.1, m33.1, m35.1, m37.1, m39.1, m40.1, m41.1, m43.1, m45.1, m47.1, m49.1, m51.1, m53.1, m55.1, m56.1] [(0, 1), (7, 8), (7, 12), (8, 12), (9, 12), (10, 12), (11, 12), (16, 17), (16, 21), (17, 21), (18, 21), (19, 21), (20, 21), (16, 22), (17, 22), (18, 22), (19, 22), (20, 22), (26, 27), (26, 31), (27, 31), (28, 31), (29, 31), (30, 31)] then J5_j3 rec N (k.1, k.2.1, k.2.2.1, k.2.2.2.1, k.2.2.2.2.1, k.2.2.2.2.2.1, k.2.2.2.2.2.2.1, k.2.2.2.2.2.2.2.1, k.2.2.2.2.2.2.2.2, x56) s else none) m56.2) m55.2) m53.2) m51.2) m49.2) m47.2) m45.2) m43.2) m41.2) m40.2) m39.2) m37.2) m35.2) m33.2) m31.2) m29.2) m27.2) m25.2) m23.2) m22.2) m21.2) m19.2) m17.2) m15.2) m13.2) m11.2) m9.2) m7.2) m6.2) m5.2) m4.2) m3.2) m2.2) m1.2
set_option maxHeartbeats 4000000 in
theorem j5_r0 (rec : Rec) (N : Nat) (fs : Frm) (s : St) : opt2 (c5_r0 rec N fs s) (fun e r => opt2 (blkX 3 e r) fun e r => opt2 (thenX (c5_r1 rec N) e r) fun e r => some (e, (((orU (r.1.get t15), orU (r.1.get t16)), (orU (r.1.get t1), orU (r.1.get t2), orU (r.1.get t3), orU (r.1.get t8), orU (r.1.get t9), orU (r.1.get t11), orU (r.1.get t13))), r.2))) = opt2 (J5_r0 rec N (orU (fs.get t1), orU (fs.get t2), orU (fs.get t3), orU (fs.get t8), orU (fs.get t9), orU (fs.get t11), orU (fs.get t13), orU (fs.get t15), orU (fs.get t16)) s) fun e r => some (e, ((r.1, (orU (fs.get t1), orU (fs.get t2), orU (fs.get t3), orU (fs.get t8), orU (fs.get t9), orU (fs.get t11), orU (fs.get t13))), r.2)) := by
  rw [d5_r0]
  unfold D5_r0 J5_r0
  simp (maxSteps := 4000000) only [thenX_n, thenX_e, thenX_r, x_exit, x_skip, x_ret, blkX_n, blkX_r, blkX_e, finX_r, finX_n, res_n, res_t, op2_op2, op2_op, op2_s, op2_cond, op2_bf, mov_v, j5_j3 rec N]
  first | done | kernel_rfl
def B5_l1 (rec : Rec) (N : Nat) (k : Value × Value × Value × Value × Value × Value × Value × Value × Value) (v : Value) (s : St) : OutV (Value) := opt2 (oLenL (.v k.2.1) rec PT.nil s) fun x1 s =>
 opt2 (oBin (int2 (cmpO ltI)) (.v v) (.v x1) rec PT.nil s) fun x2 s =>
 condV x2
 (opt2 (oIdxAddrL 1 (.v k.2.1) (.v v) rec PT.nil s) fun x3 s =>
 opt2 (oLoad1 (.v x3) rec PT.nil s) fun x4 s =>
 opt2 (oBin (int2 (cmpO geI)) (.v x4) (.v k.2.2.2.2.2.2.2.1) rec PT.nil s) fun x5 s =>
 opt (gval true x5) fun x6 => opt2 (orUndef x6 (some (k.1, s)) s) fun x7 s =>
 opt (gval true x5) fun x8 => opt2 (orUndef x8 (some (k.2.2.2.2.2.2.2.2, s)) s) fun x9 s =>
 opt (gval true x5) fun x10 => opt2 (orUndef x10 (oIdxAddrL 3 (.v x7) (.v x9) rec PT.nil s) s) fun x11 s =>
 opt (gval true x5) fun x12 => opt2 (orUndef x12 (oFieldAddr 1 (.v x11) rec PT.nil s) s) fun x13 s =>
 opt (gval true x5) fun x14 => opt2 (orUndef x14 (oLoad1 (.v x13) rec PT.nil s) s) fun x15 s =>
 opt (gval true x5) fun x16 => opt2 (orUndef x16 (some (k.2.1, s)) s) fun x17 s =>
 opt (gval true x5) fun x18 => opt2 (orUndef x18 (some (v, s)) s) fun x19 s =>
 Q5_q1 rec N (k.1, k.2.1, k.2.2.1, k.2.2.2.1, k.2.2.2.2.1, k.2.2.2.2.2.1, k.2.2.2.2.2.2.1, k.2.2.2.2.2.2.2.1, k.2.2.2.2.2.2.2.2, v, x5, x15, x17, x19) s)
 (some ((.exit 4), (v, s)))
set_option maxHeartbeats 4000000 in
theorem s5_l1 (rec : Rec) (N : Nat) (fs : Frm) (s : St) : opt2 (c5_l1 rec N fs s) (fun e r => some (e, (((orU (r.1.get t17)), (orU (r.1.get t1), orU (r.1.get t2), orU (r.1.get t3), orU (r.1.get t8), orU (r.1.get t9), orU (r.1.get t11), orU (r.1.get t13), orU (r.1.get t15), orU (r.1.get t16))), r.2))) = opt2 (B5_l1 rec N (orU (fs.get t1), orU (fs.get t2), orU (fs.get t3), orU (fs.get t8), orU (fs.get t9), orU (fs.get t11), orU (fs.get t13), orU (fs.get t15), orU (fs.get t16)) (orU (fs.get t17)) s) fun e r => some (e, ((r.1, (orU (fs.get t1), orU (fs.get t2), orU (fs.get t3), orU (fs.get t8), orU (fs.get t9), orU (fs.get t11), orU (fs.get t13), orU (fs.get t15), orU (fs.get t16))), r.2)) := by
  rw [d5_l1]
  unfold D5_l1 B5_l1
  simp (maxSteps := 4000000) only [op2_op2, op2_op, op2_s, op2_cond, op2_bf, mov_v, j5_q1 rec N]
  first | done | kernel_rfl
def C5_l1 (rec : Rec) (N : Nat) (k : Value × Value × Value × Value × Value × Value × Value × Value × Value) (e : AExit) (r : (Value) × St) : OutV (Value × Value) := (fun s => exV (fun i => bif Nat.beq i 4 then (J5_r0 rec N (k.1, k.2.1, k.2.2.1, k.2.2.2.1, k.2.2.2.2.1, k.2.2.2.2.2.1, k.2.2.2.2.2.2.1, k.2.2.2.2.2.2.2.1, k.2.2.2.2.2.2.2.2) s)
 else (bif Nat.beq i 3 then (J5_r1 rec N (k.1, k.2.1, k.2.2.1, k.2.2.2.1, k.2.2.2.2.1, k.2.2.2.2.2.1, k.2.2.2.2.2.2.1, k.2.2.2.2.2.2.2.1, k.2.2.2.2.2.2.2.2) s)
 else (some ((.exit i), ((k.2.2.2.2.2.2.2.1, k.2.2.2.2.2.2.2.2), s)))))
 (some (.ret, ((k.2.2.2.2.2.2.2.1, k.2.2.2.2.2.2.2.2), s))) e) r.2
theorem j5_l1 (rec : Rec) (N : Nat) (fs : Frm) (s : St) : opt2 (loopF (c5_l1 rec N) N fs s) (fun e r => opt2 (blkX 4 e r) fun e r => opt2 (thenX (c5_r0 rec N) e r) fun e r => opt2 (blkX 3 e r) fun e r => opt2 (thenX (c5_r1 rec N) e r) fun e r => some (e, (((orU (r.1.get t15), orU (r.1.get t16)), (orU (r.1.get t1), orU (r.1.get t2), orU (r.1.get t3), orU (r.1.get t8), orU (r.1.get t9), orU (r.1.get t11), orU (r.1.get t13))), r.2))) = opt2 (loopV (B5_l1 rec N (orU (fs.get t1), orU (fs.get t2), orU (fs.get t3), orU (fs.get t8), orU (fs.get t9), orU (fs.get t11), orU (fs.get t13), orU (fs.get t15), orU (fs.get t16))) N (orU (fs.get t17)) s) (fun e q => opt2 (C5_l1 rec N (orU (fs.get t1), orU (fs.get t2), orU (fs.get t3), orU (fs.get t8), orU (fs.get t9), orU (fs.get t11), orU (fs.get t13), orU (fs.get t15), orU (fs.get t16)) e q) fun e r => some (e, ((r.1, (orU (fs.get t1), orU (fs.get t2), orU (fs.get t3), orU (fs.get t8), orU (fs.get t9), orU (fs.get t11), orU (fs.get t13))), r.2))) := by
  refine loop_j (fun fs => (orU (fs.get t17))) (fun fs => (orU (fs.get t1), orU (fs.get t2), orU (fs.get t3), orU (fs.get t8), orU (fs.get t9), orU (fs.get t11), orU (fs.get t13), orU (fs.get t15), orU (fs.get t16))) (B5_l1 rec N) (c5_l1 rec N) (s5_l1 rec N) (fun e r => opt2 (blkX 4 e r) fun e r => opt2 (thenX (c5_r0 rec N) e r) fun e r => opt2 (blkX 3 e r) fun e r => opt2 (thenX (c5_r1 rec N) e r) fun e r => some (e, (((orU (r.1.get t15), orU (r.1.get t16)), (orU (r.1.get t1), orU (r.1.get t2), orU (r.1.get t3), orU (r.1.get t8), orU (r.1.get t9), orU (r.1.get t11), orU (r.1.get t13))), r.2))) (fun k e q => opt2 (C5_l1 rec N k e q) fun e r => some (e, ((r.1, (k.1, k.2.1, k.2.2.1, k.2.2.2.1, k.2.2.2.2.1, k.2.2.2.2.2.1, k.2.2.2.2.2.2.1)), r.2))) ?_ ?_ N fs s
  · intro i fs s
    unfold C5_l1
    simp (maxSteps := 4000000) only [thenX_n, thenX_e, thenX_r, x_exit, x_skip, x_ret, blkX_n, blkX_r, blkX_e, finX_r, finX_n, res_n, res_t, exV_e, exV_r, op2_op2, op2_op, op2_s, op2_cond, op2_bf, mov_v, j5_r0 rec N, j5_r1 rec N]
    first | done | kernel_rfl
  · intro fs s
    unfold C5_l1
    simp (maxSteps := 4000000) only [thenX_n, thenX_e, thenX_r, x_exit, x_skip, x_ret, blkX_n, blkX_r, blkX_e, finX_r, finX_n, res_n, res_t, exV_e, exV_r, op2_op2, op2_op, op2_s, op2_cond, op2_bf, mov_v, j5_r0 rec N, j5_r1 rec N]
    first | done | kernel_rfl
def J5_r2 (rec : Rec) (N : Nat) (k : Value × Value × Value × Value) (s : St) : Out := opt2 (rec 30 [k.2.2.1] s) fun x1 s =>
 opt2 (oBin (int2 (cmpO gtI)) (.v x1) (.v k.1) rec PT.nil s) fun x2 s =>
 condV x2
 (some (oneOf [(.bool true)], s))
 (opt2 (rec 22 [k.2.2.1, k.2.1, k.1] s) fun x3 s =>
 opt2 (oExtract (.v x3) 0 rec PT.nil s) fun x4 s =>
 opt2 (oExtract (.v x3) 1 rec PT.nil s) fun x5 s =>
 opt2 (rec 22 [k.2.2.2, k.2.1, k.1] s) fun x6 s =>
 opt2 (oExtract (.v x6) 0 rec PT.nil s) fun x7 s =>
 opt2 (oExtract (.v x6) 1 rec PT.nil s) fun x8 s =>
 opt2 (oBin (int2 (cmpO neI)) (.v x5) (.v (.int .i64 0)) rec PT.nil s) fun x9 s =>
 opt (gval false x9) fun x10 => opt2 (orUndef x10 (some (x8, s)) s) fun x11 s =>
 opt (gval false x9) fun x12 => opt2 (orUndef x12 (oBin (int2 (cmpO neI)) (.v x11) (.v (.int .i64 0)) rec PT.nil s) s) fun x13 s =>
 opt2 (oPick (.v x9) (.v (.bool true)) (.v x13) rec PT.nil s) fun x14 s =>
 condV x14
 (opt2 (oBin (int2 (cmpO eqI)) (.v x5) (.v x8) rec PT.nil s) fun x15 s =>
 some (oneOf [x15], s))
 (opt2 (rec 32 [k.2.2.1] s) fun x16 s =>
 opt2 (oBin (int2 addO) (.v x16) (.v x4) rec PT.nil s) fun x17 s =>
 opt2 (rec 32 [k.2.2.2] s) fun x18 s =>
 opt2 (oBin (int2 addO) (.v x18) (.v x7) rec PT.nil s) fun x19 s =>
 opt2 (oBin (int2 (cmpO eqI)) (.v x17) (.v x19) rec PT.nil s) fun x20 s =>
 opt (gval true x20) fun x21 => opt2 (orUndef x21 (some (k.2.2.1, s)) s) fun x22 s =>
 opt (gval true x20) fun x23 => opt2 (orUndef x23 (rec 31 [x22] s) s) fun x24 s =>
 opt (gval true x20) fun x25 => opt2 (orUndef x25 (some (k.2.2.2, s)) s) fun x26 s =>
 opt (gval true x20) fun x27 => opt2 (orUndef x27 (rec 31 [x26] s) s) fun x28 s =>
 opt (gval true x20) fun x29 => opt2 (orUndef x29 (oBin (int2 (cmpO eqI)) (.v x24) (.v x28) rec PT.nil s) s) fun x30 s =>
 opt2 (oPick (.v x20) (.v x30) (.v (.bool false)) rec PT.nil s) fun x31 s =>
 some (oneOf [x31], s)))
set_option maxHeartbeats 4000000 in
theorem j5_r2 (rec : Rec) (N : Nat) (fs : Frm) (s : St) : opt2 (c5_r2 rec N fs s) (fun e r => finX [.tmp t8] e r) = J5_r2 rec N (orU (fs.get t3), orU (fs.get t9), orU (fs.get t11), orU (fs.get t13)) s := by
  rw [d5_r2]
  unfold D5_r2 J5_r2
  simp (maxSteps := 4000000) only [thenX_n, thenX_e, thenX_r, x_exit, x_skip, x_ret, blkX_n, blkX_r, blkX_e, finX_r, finX_n, res_n, res_t, op2_op2, op2_op, op2_s, op2_cond, op2_bf, mov_v]
  first | done | kernel_rfl
def B5_l2 (rec : Rec) (N : Nat) (k : Value × Value × Value × Value × Value × Value × Value) (v : Value × Value) (s : St) : OutV (Value × Value) := opt2 (oLenL (.v k.1) rec PT.nil s) fun x1 s =>
 opt2 (oBin (int2 (cmpO ltI)) (.v v.2) (.v x1) rec PT.nil s) fun x2 s =>
 condV x2
 (opt2 (loopV (B5_l1 rec N (k.1, k.2.1, k.2.2.1, k.2.2.2.1, k.2.2.2.2.1, k.2.2.2.2.2.1, k.2.2.2.2.2.2, v.1, v.2)) N (.int .i64 0) s) (C5_l1 rec N (k.1, k.2.1, k.2.2.1, k.2.2.2.1, k.2.2.2.2.1, k.2.2.2.2.2.1, k.2.2.2.2.2.2, v.1, v.2)))
 (some ((.exit 2), ((v.1, v.2), s)))
set_option maxHeartbeats 4000000 in
theorem s5_l2 (rec : Rec) (N : Nat) (fs : Frm) (s : St) : opt2 (c5_l2 rec N fs s) (fun e r => some (e, (((orU (r.1.get t15), orU (r.1.get t16)), (orU (r.1.get t1), orU (r.1.get t2), orU (r.1.get t3), orU (r.1.get t8), orU (r.1.get t9), orU (r.1.get t11), orU (r.1.get t13))), r.2))) = opt2 (B5_l2 rec N (orU (fs.get t1), orU (fs.get t2), orU (fs.get t3), orU (fs.get t8), orU (fs.get t9), orU (fs.get t11), orU (fs.get t13)) (orU (fs.get t15), orU (fs.get t16)) s) fun e r => some (e, ((r.1, (orU (fs.get t1), orU (fs.get t2), orU (fs.get t3), orU (fs.get t8), orU (fs.get t9), orU (fs.get t11), orU (fs.get t13))), r.2)) := by
  rw [d5_l2]
  unfold D5_l2 B5_l2
  simp (maxSteps := 4000000) only [op2_op2, op2_op, op2_s, op2_cond, op2_bf, mov_v, j5_l1 rec N]
  first | done | kernel_rfl
def C5_l2 (rec : Rec) (N : Nat) (k : Value × Value × Value × Value × Value × Value × Value) (e : AExit) (r : (Value × Value) × St) : Out := (fun s => exV (fun i => bif Nat.beq i 2 then (J5_r2 rec N (k.2.2.1, k.2.2.2.2.1, k.2.2.2.2.2.1, k.2.2.2.2.2.2) s)
 else (none))
 (some (oneOf [k.2.2.2.1], s)) e) r.2
theorem j5_l2 (rec : Rec) (N : Nat) (fs : Frm) (s : St) : opt2 (loopF (c5_l2 rec N) N fs s) (fun e r => opt2 (blkX 2 e r) fun e r => opt2 (thenX (c5_r2 rec N) e r) fun e r => finX [.tmp t8] e r) = opt2 (loopV (B5_l2 rec N (orU (fs.get t1), orU (fs.get t2), orU (fs.get t3), orU (fs.get t8), orU (fs.get t9), orU (fs.get t11), orU (fs.get t13))) N (orU (fs.get t15), orU (fs.get t16)) s) (C5_l2 rec N (orU (fs.get t1), orU (fs.get t2), orU (fs.get t3), orU (fs.get t8), orU (fs.get t9), orU (fs.get t11), orU (fs.get t13))) := by
  refine loop_j (fun fs => (orU (fs.get t15), orU (fs.get t16))) (fun fs => (orU (fs.get t1), orU (fs.get t2), orU (fs.get t3), orU (fs.get t8), orU (fs.get t9), orU (fs.get t11), orU (fs.get t13))) (B5_l2 rec N) (c5_l2 rec N) (s5_l2 rec N) (fun e r => opt2 (blkX 2 e r) fun e r => opt2 (thenX (c5_r2 rec N) e r) fun e r => finX [.tmp t8] e r) (C5_l2 rec N) ?_ ?_ N fs s
  · intro i fs s
    unfold C5_l2
    simp (maxSteps := 4000000) only [thenX_n, thenX_e, thenX_r, x_exit, x_skip, x_ret, blkX_n, blkX_r, blkX_e, finX_r, finX_n, res_n, res_t, exV_e, exV_r, op2_op2, op2_op, op2_s, op2_cond, op2_bf, mov_v, j5_r2 rec N]
    first | done | kernel_rfl
  · intro fs s
    unfold C5_l2
    simp (maxSteps := 4000000) only [thenX_n, thenX_e, thenX_r, x_exit, x_skip, x_ret, blkX_n, blkX_r, blkX_e, finX_r, finX_n, res_n, res_t, exV_e, exV_r, op2_op2, op2_op, op2_s, op2_cond, op2_bf, mov_v, j5_r2 rec N]
    first | done | kernel_rfl
def J5_r3 (rec : Rec) (N : Nat) (k : Value × Value × Value × Value × Value × Value) (s : St) : Out := opt2 (rec 11 [(.int .i64 0), k.1] s) fun x1 s =>
 opt2 (oExtract (.v x1) 0 rec PT.nil s) fun x2 s =>
 opt2 (oExtract (.v x1) 1 rec PT.nil s) fun x3 s =>
 opt2 (rec 11 [(.int .i64 0), k.1] s) fun x4 s =>
 opt2 (oExtract (.v x4) 0 rec PT.nil s) fun x5 s =>
 opt2 (oExtract (.v x4) 1 rec PT.nil s) fun x6 s =>
 opt2 (loopV (B5_l2 rec N (k.2.1, k.2.2.1, k.2.2.2.1, k.2.2.2.2.1, k.2.2.2.2.2, x2, x5)) N ((.int .i64 0), (.int .i64 0)) s) (C5_l2 rec N (k.2.1, k.2.2.1, k.2.2.2.1, k.2.2.2.2.1, k.2.2.2.2.2, x2, x5))
set_option maxHeartbeats 4000000 in
theorem j5_r3 (rec : Rec) (N : Nat) (fs : Frm) (s : St) : opt2 (c5_r3 rec N fs s) (fun e r => finX [.tmp t8] e r) = J5_r3 rec N (orU (fs.get t0), orU (fs.get t1), orU (fs.get t2), orU (fs.get t3), orU (fs.get t8), orU (fs.get t9)) s := by
  rw [d5_r3]
  unfold D5_r3 J5_r3
  simp (maxSteps := 4000000) only [thenX_n, thenX_e, thenX_r, x_exit, x_skip, x_ret, blkX_n, blkX_r, blkX_e, finX_r, finX_n, res_n, res_t, op2_op2, op2_op, op2_s, op2_cond, op2_bf, mov_v, j5_l2 rec N]
  first | done | kernel_rfl
def B5_l0 (rec : Rec) (N : Nat) (k : Value × Value × Value × Value × Value × Value) (v : Value) (s : St) : OutV (Value) := opt2 (oLenL (.v k.2.1) rec PT.nil s) fun x1 s =>
 opt2 (oBin (int2 (cmpO ltI)) (.v v) (.v x1) rec PT.nil s) fun x2 s =>
 condV x2
 (opt2 (oIdxAddrL 3 (.v k.2.1) (.v v) rec PT.nil s) fun x3 s =>
 opt2 (oFieldAddr 0 (.v x3) rec PT.nil s) fun x4 s =>
 opt2 (oLoad1 (.v x4) rec PT.nil s) fun x5 s =>
 opt2 (oBin (int2 (cmpO eqI)) (.v x5) (.v (.int .i64 6)) rec PT.nil s) fun x6 s =>
 condV x6
 (opt2 (oIdxAddrL 3 (.v k.2.1) (.v v) rec PT.nil s) fun x7 s =>
 opt2 (oFieldAddr 1 (.v x7) rec PT.nil s) fun x8 s =>
 opt2 (oLoad1 (.v x8) rec PT.nil s) fun x9 s =>
 opt2 (oIdxAddrL 3 (.v k.2.1) (.v v) rec PT.nil s) fun x10 s =>
 opt2 (oFieldAddr 2 (.v x10) rec PT.nil s) fun x11 s =>
 opt2 (oLoad1 (.v x11) rec PT.nil s) fun x12 s =>
 opt2 (oBin (int2 andO) (.v x12) (.v (.int .i64 1048575)) rec PT.nil s) fun x13 s =>
 opt2 (rV (rec 27 [k.2.2.2.2.2, x9, x13] (z0 s)) s) fun x14 s =>
 opt2 (oBin (int2 addO) (.v v) (.v (.int .i64 1)) rec PT.nil s) fun x15 s =>
 some (.norm, (x15, s)))
 (opt2 (oBin (int2 addO) (.v v) (.v (.int .i64 1)) rec PT.nil s) fun x16 s =>
 some (.norm, (x16, s))))
 (some ((.exit 0), (v, s)))
set_option maxHeartbeats 4000000 in
theorem s5_l0 (rec : Rec) (N : Nat) (fs : Frm) (s : St) : opt2 (c5_l0 rec N fs s) (fun e r => some (e, (((orU (r.1.get t10)), (orU (r.1.get t0), orU (r.1.get t1), orU (r.1.get t2), orU (r.1.get t3), orU (r.1.get t8), orU (r.1.get t9))), r.2))) = opt2 (B5_l0 rec N (orU (fs.get t0), orU (fs.get t1), orU (fs.get t2), orU (fs.get t3), orU (fs.get t8), orU (fs.get t9)) (orU (fs.get t10)) s) fun e r => some (e, ((r.1, (orU (fs.get t0), orU (fs.get t1), orU (fs.get t2), orU (fs.get t3), orU (fs.get t8), orU (fs.get t9))), r.2)) := by
  rw [d5_l0]
  unfold D5_l0 B5_l0
  simp (maxSteps := 4000000) only [op2_op2, op2_op, op2_s, op2_cond, op2_bf, mov_v]
  first | done | kernel_rfl
def C5_l0 (rec : Rec) (N : Nat) (k : Value × Value × Value × Value × Value × Value) (e : AExit) (r : (Value) × St) : Out := (fun s => exV (fun i => bif Nat.beq i 0 then (J5_r3 rec N (k.1, k.2.1, k.2.2.1, k.2.2.2.1, k.2.2.2.2.1, k.2.2.2.2.2) s)
 else (none))
 (some (oneOf [k.2.2.2.2.1], s)) e) r.2
theorem j5_l0 (rec : Rec) (N : Nat) (fs : Frm) (s : St) : opt2 (loopF (c5_l0 rec N) N fs s) (fun e r => opt2 (blkX 0 e r) fun e r => opt2 (thenX (c5_r3 rec N) e r) fun e r => finX [.tmp t8] e r) = opt2 (loopV (B5_l0 rec N (orU (fs.get t0), orU (fs.get t1), orU (fs.get t2), orU (fs.get t3), orU (fs.get t8), orU (fs.get t9))) N (orU (fs.get t10)) s) (C5_l0 rec N (orU (fs.get t0), orU (fs.get t1), orU (fs.get t2), orU (fs.get t3), orU (fs.get t8), orU (fs.get t9))) := by
  refine loop_j (fun fs => (orU (fs.get t10))) (fun fs => (orU (fs.get t0), orU (fs.get t1), orU (fs.get t2), orU (fs.get t3), orU (fs.get t8), orU (fs.get t9))) (B5_l0 rec N) (c5_l0 rec N) (s5_l0 rec N) (fun e r => opt2 (blkX 0 e r) fun e r => opt2 (thenX (c5_r3 rec N) e r) fun e r => finX [.tmp t8] e r) (C5_l0 rec N) ?_ ?_ N fs s
  · intro i fs s
    unfold C5_l0
    simp (maxSteps := 4000000) only [thenX_n, thenX_e, thenX_r, x_exit, x_skip, x_ret, blkX_n, blkX_r, blkX_e, finX_r, finX_n, res_n, res_t, exV_e, exV_r, op2_op2, op2_op, op2_s, op2_cond, op2_bf, mov_v, j5_r3 rec N]
    first | done | kernel_rfl
  · intro fs s
    unfold C5_l0
    simp (maxSteps := 4000000) only [thenX_n, thenX_e, thenX_r, x_exit, x_skip, x_ret, blkX_n, blkX_r, blkX_e, finX_r, finX_n, res_n, res_t, exV_e, exV_r, op2_op2, op2_op, op2_s, op2_cond, op2_bf, mov_v, j5_r3 rec N]
    first | done | kernel_rfl
def J5_j4 (rec : Rec) (N : Nat) (k : Value × Value × Value × Value × Value) (s : St) : Out := opt2 (rec 10 [] s) fun x1 s =>
 opt2 (loopV (B5_l0 rec N (k.1, k.2.1, k.2.2.1, k.2.2.2.1, k.2.2.2.2, x1)) N (.int .i64 0) s) (C5_l0 rec N (k.1, k.2.1, k.2.2.1, k.2.2.2.1, k.2.2.2.2, x1))
set_option maxHeartbeats 4000000 in
theorem j5_j4 (rec : Rec) (N : Nat) (fs : Frm) (s : St) : opt2 (c5_j4 rec N fs s) (fun e r => finX [.tmp t8] e r) = J5_j4 rec N (orU (fs.get t0), orU (fs.get t1), orU (fs.get t2), orU (fs.get t3), orU (fs.get t8)) s := by
  rw [d5_j4]
  unfold D5_j4 J5_j4
  simp (maxSteps := 4000000) only [thenX_n, thenX_e, thenX_r, x_exit, x_skip, x_ret, blkX_n, blkX_r, blkX_e, finX_r, finX_n, res_n, res_t, op2_op2, op2_op, op2_s, op2_cond, op2_bf, mov_v, j5_l0 rec N]
  first | done | kernel_rfl
def J5_j0 (rec : Rec) (N : Nat) (k : Value × Value × Value × Value × Value × Value) (s : St) : Out := condV k.2.2.2.2.2
 (some (oneOf [(.bool true)], s))
 (J5_j4 rec N (k.1, k.2.1, k.2.2.1, k.2.2.2.1, k.2.2.2.2.1) s)
set_option maxHeartbeats 4000000 in
theorem j5_j0 (rec : Rec) (N : Nat) (fs : Frm) (s : St) : opt2 (c5_j0 rec N fs s) (fun e r => opt2 (thenX (c5_j4 rec N) e r) fun e r => finX [.tmp t8] e r) = J5_j0 rec N (orU (fs.get t0), orU (fs.get t1), orU (fs.get t2), orU (fs.get t3), orU (fs.get t8), orU (fs.get t49)) s := by
  rw [d5_j0]
  unfold D5_j0 J5_j0
  simp (maxSteps := 4000000) only [thenX_n, thenX_e, thenX_r, x_exit, x_skip, x_ret, blkX_n, blkX_r, blkX_e, finX_r, finX_n, res_n, res_t, op2_op2, op2_op, op2_s, op2_cond, op2_bf, mov_v, j5_j4 rec N]
  first | done | kernel_rfl
def Q5_q0 (rec : Rec) (N : Nat) (k : Value × Value × Value × Value × Value × Value × Value) (s : St) : Out := opt (gval false k.2.2.2.2.2.1) fun x1 => opt2 (orUndef x1 (oBin (int2 (cmpO gtI)) (.v k.2.2.2.2.2.2) (.v (.int .i64 30)) rec PT.nil s) s) fun x2 s =>
 opt2 (oPick (.v k.2.2.2.2.2.1) (.v (.bool true)) (.v x2) rec PT.nil s) fun x3 s =>
 opt (gval false x3) fun x4 => opt2 (orUndef x4 (some (k.2.2.2.1, s)) s) fun x5 s =>
 opt (gval false x3) fun x6 => opt2 (orUndef x6 (oBin (int2 (cmpO ltI)) (.v x5) (.v (.int .i64 0)) rec PT.nil s) s) fun x7 s =>
 opt2 (oPick (.v x3) (.v (.bool true)) (.v x7) rec PT.nil s) fun x8 s =>
 opt (gval false x8) fun x9 => opt2 (orUndef x9 (some (k.2.2.2.1, s)) s) fun x10 s =>
 opt (gval false x8) fun x11 => opt2 (orUndef x11 (oBin (int2 (cmpO gtI)) (.v x10) (.v (.int .i64 109572)) rec PT.nil s) s) fun x12 s =>
 opt2 (oPick (.v x8) (.v (.bool true)) (.v x12) rec PT.nil s) fun x13 s =>
 J5_j0 rec N (k.1, k.2.1, k.2.2.1, k.2.2.2.1, k.2.2.2.2.1, x13) s
set_option maxHeartbeats 4000000 in
theorem j5_q0 (rec : Rec) (N : Nat) (fs : Frm) (s : St) : opt2 (runOps rec c5_q0 fs s) (fun fs s => opt2 (c5_j0 rec N fs s) fun e r => opt2 (thenX (c5_j4 rec N) e r) fun e r => finX [.tmp t8] e r) = Q5_q0 rec N (orU (fs.get t0), orU (fs.get t1), orU (fs.get t2), orU (fs.get t3), orU (fs.get t8), orU (fs.get t37), orU (fs.get t39)) s := by
  rw [d5_q0]
  unfold D5_q0 Q5_q0
  simp (maxSteps := 4000000) only [thenX_n, thenX_e, thenX_r, x_exit, x_skip, x_ret, blkX_n, blkX_r, blkX_e, finX_r, finX_n, res_n, res_t, op2_op2, op2_op, op2_s, op2_cond, op2_bf, mov_v, j5_j0 rec N]
  first | done | kernel_rfl
def F5 (rec : Rec) (N : Nat) (a0 : Value) (a1 : Value) (a2 : Value) (a3 : Value) (s : St) : Out := opt2 (rec 9 [] s) fun x1 s =>
 opt2 (oNot (.v x1) rec PT.nil s) fun x2 s =>
 condV x2
 (some (oneOf [(.bool false)], s))
 (opt2 (oBin (int2 (cmpO ltI)) (.v a0) (.v (.int .i64 0)) rec PT.nil s) fun x3 s =>
 opt (gval false x3) fun x4 => opt2 (orUndef x4 (some (a0, s)) s) fun x5 s =>
 opt (gval false x3) fun x6 => opt2 (orUndef x6 (oBin (int2 (cmpO gtI)) (.v x5) (.v (.int .i64 1099511627776)) rec PT.nil s) s) fun x7 s =>
 opt2 (oPick (.v x3) (.v (.bool true)) (.v x7) rec PT.nil s) fun x8 s =>
 opt (gval false x8) fun x9 => opt2 (orUndef x9 (some (a1, s)) s) fun x10 s =>
 opt (gval false x8) fun x11 => opt2 (orUndef x11 (oLenL (.v x10) rec PT.nil s) s) fun x12 s =>
 opt (gval false x8) fun x13 => opt2 (orUndef x13 (oBin (int2 (cmpO gtI)) (.v x12) (.v (.int .i64 30)) rec PT.nil s) s) fun x14 s =>
 opt2 (oPick (.v x8) (.v (.bool true)) (.v x14) rec PT.nil s) fun x15 s =>
 opt (gval false x15) fun x16 => opt2 (orUndef x16 (some (a2, s)) s) fun x17 s =>
 opt (gval false x15) fun x18 => opt2 (orUndef x18 (oLenL (.v x17) rec PT.nil s) s) fun x19 s =>
 Q5_q0 rec N (a0, a1, a2, a3, (.bool false), x15, x19) s)
theorem f5 (rec : Rec) (N : Nat) (a0 : Value) (a1 : Value) (a2 : Value) (a3 : Value) (s : St) : callF rec N c5 [a0, a1, a2, a3] s = F5 rec N a0 a1 a2 a3 s := by
  rw [d5]
  unfold D5 F5
  simp (maxSteps := 4000000) only [mov_v, op2_s, j5_q0 rec N]
  first | done | kernel_rfl
end
end Go.Proofs.Ytdnedangfnincaa.AbsAccO
