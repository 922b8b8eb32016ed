import Derived.Test.YtikdjhlcbkkkfaaAbsLexOE
import Derived.Test.YtikdjhlcbkkkfaaAbsZL
namespace Go.Proofs.Ytikdjhlcbkkkfaa.AbsLexO
open Go Go.Abs Go.Proofs
set_option maxRecDepth 100000
set_option linter.unusedVariables false
set_option linter.unusedSimpArgs false
noncomputable section
-- c7
theorem q7_g0 (rec : Rec) (n : Nat) (fs : Frm) (s : St) : xReg c7_g0 [(0, 1), (7, 8), (7, 12), (8, 12), (9, 12), (10, 12), (11, 12), (7, 13), (8, 13), (9, 13), (10, 13), (11, 13), (7, 14), (8, 14), (9, 14), (10, 14), (11, 14), (12, 14), (13, 14), (7, 15), (8, 15), (9, 15), (10, 15), (11, 15), (12, 15), (13, 15), (14, 15), (7, 16), (8, 16), (9, 16), (10, 16), (11, 16), (12, 16), (13, 16), (7, 17), (8, 17), (9, 17), (10, 17), (11, 17), (12, 17), (13, 17), (7, 18), (8, 18), (9, 18), (10, 18), (11, 18), (12, 18), (13, 18), (7, 19), (8, 19), (9, 19), (10, 19), (11, 19), (12, 19), (13, 19), (7, 20), (8, 20), (9, 20), (10, 20), (11, 20), (24, 25), (24, 26), (25, 26), (24, 27), (24, 28), (24, 29), (24, 30), (25, 30), (26, 30), (27, 30), (28, 30), (29, 30), (24, 31), (25, 31), (26, 31), (27, 31), (28, 31), (29, 31), (30, 31), (24, 32), (25, 32), (26, 32), (27, 32), (28, 32), (29, 32), (24, 33), (25, 33), (26, 33), (27, 33), (28, 33), (29, 33), (24, 34), (25, 34), (26, 34), (27, 34), (28, 34), (29, 34), (24, 35), (25, 35), (26, 35), (27, 35), (28, 35), (29, 35), (30, 35), (31, 35), (32, 35), (33, 35), (34, 35), (24, 36), (25, 36), (26, 36), (27, 36), (28, 36), (29, 36), (30, 36), (31, 36), (32, 36), (33, 36), (34, 36), (35, 36), (24, 37), (25, 37), (26, 37), (27, 37), (28, 37), (29, 37), (30, 37), (31, 37), (32, 37), (33, 37), (34, 37), (24, 38), (25, 38), (26, 38), (27, 38), (28, 38), (29, 38), (30, 38), (31, 38), (32, 38), (33, 38), (34, 38), (24, 39), (25, 39), (26, 39), (27, 39), (28, 39), (29, 39), (30, 39), (31, 39), (32, 39), (33, 39), (34, 39), (24, 40), (25, 40), (26, 40), (27, 40), (28, 40), (29, 40), (30, 40), (31, 40), (32, 40), (33, 40), (34, 40), (24, 41), (25, 41), (26, 41), (27, 41), (28, 41), (29, 41), (24, 43), (25, 43), (26, 43), (27, 43), (28, 43), (29, 43), (30, 43), (31, 43), (32, 43), (33, 43), (34, 43), (35, 43), (36, 43), (37, 43), (38, 43), (39, 43), (40, 43), (41, 43), (42, 43), (24, 44), (25, 44), (26, 44), (27, 44), (28, 44), (29, 44), (30, 44), (31, 44), (32, 44), (33, 44), (34, 44), (35, 44), (36, 44), (37, 44), (38, 44), (39, 44), (40, 44), (41, 44), (42, 44), (43, 44), (24, 45), (25, 45), (26, 45), (27, 45), (28, 45), (29, 45), (30, 45), (31, 45), (32, 45), (33, 45), (34, 45), (35, 45), (36, 45), (37, 45), (38, 45), (39, 45), (40, 45), (41, 45), (42, 45), (24, 46), (25, 46), (26, 46), (27, 46), (28, 46), (29, 46), (30, 46), (31, 46), (32, 46), (33, 46), (34, 46), (35, 46), (36, 46), (37, 46), (38, 46), (39, 46), (40, 46), (41, 46), (42, 46), (24, 47), (25, 47), (26, 47), (27, 47), (28, 47), (29, 47), (30, 47), (31, 47), (32, 47), (33, 47), (34, 47), (35, 47), (36, 47), (37, 47), (38, 47), (39, 47), (40, 47), (41, 47), (42, 47)] rec n fs s = opt2 (runQ rec (⟨(some t31), oMov (.t t3), none, none⟩ ::
   ⟨(some t32), oMov (.t t7), none, none⟩ ::
   ⟨(some t33), oIdxAddrL 4 (.t t31) (.t t32), none, none⟩ ::
   ⟨(some t34), oFieldAddr 3 (.t t33), none, none⟩ ::
   ⟨(some t35), oLoad1 (.t t34), none, (some (.t t34))⟩ ::
   ⟨(some t36), oBin (int2 (cmpO ltI)) (.t t35) (.v (.int .i64 0)), none, none⟩ ::
   ⟨(some t37), oMov (.t t36), none, none⟩ ::
   ⟨(some t38), oMov (.t t3), (some (t37, false)), none⟩ ::
   ⟨(some t39), oMov (.t t7), (some (t37, false)), none⟩ ::
   ⟨(some t40), oIdxAddrL 4 (.t t38) (.t t39), (some (t37, false)), none⟩ ::
   ⟨(some t41), oFieldAddr 3 (.t t40), (some (t37, false)), none⟩ ::
   ⟨(some t42), oLoad1 (.t t41), (some (t37, false)), (some (.t t41))⟩ ::
   ⟨(some t43), oMov (.t t0), (some (t37, false)), none⟩ ::
   ⟨(some t44), oLenS (.t t43), (some (t37, false)), none⟩ :: c7_q2) fs s) fun fs s => some (.norm, fs, s) :=
 reg_q (ks := [0, 0, 0, 0, 1, 0, 0, 0, 0, 0, 0, 1, 0, 0, 0, 0, 0, 0, 1, 0, 0, 0, 0, 0, 0, 0, 0, 0, 0, 1, 0, 0, 0, 0, 1, 0, 0, 0, 0, 1, 0, 0, 0, 0, 0, 0, 0, 1, 0, 0]) (okc (ok0 (qv_mov (.t t3)) rfl)
 (okc (ok0 (qv_mov (.t t7)) rfl)
 (okc (ok0 (qv_idxl 4 (.t t31) (.t t32)) rfl)
 (okc (ok0 (qv_fieldaddr 3 (.t t33)) rfl)
 (okc (ok1 rfl)
 (okc (ok0 (qv_bin (int2 (cmpO ltI)) (.t t35) (.v (.int .i64 0))) rfl)
 (okc (ok0 (qv_mov (.t t36)) rfl)
 (okc (ok0 (qv_mov (.t t3)) rfl)
 (okc (ok0 (qv_mov (.t t7)) rfl)
 (okc (ok0 (qv_idxl 4 (.t t38) (.t t39)) rfl)
 (okc (ok0 (qv_fieldaddr 3 (.t t40)) rfl)
 (okc (ok1 rfl)
 (okc (ok0 (qv_mov (.t t0)) rfl)
 (okc (ok0 (qv_lens (.t t43)) rfl)
 (okc (ok0 (qv_mov (.t t3)) rfl)
 (okc (ok0 (qv_mov (.t t7)) rfl)
 (okc (ok0 (qv_idxl 4 (.t t45) (.t t46)) rfl)
 (okc (ok0 (qv_fieldaddr 1 (.t t47)) rfl)
 (okc (ok1 rfl)
 (okc (ok0 (qv_lens (.t t49)) rfl)
 (okc (ok0 (qv_bin (int2 subO) (.t t44) (.t t50)) rfl)
 (okc (ok0 (qv_bin (int2 (cmpO gtI)) (.t t42) (.t t51)) rfl)
 (okc (ok0 (qv_pick (.t t37) (.v (.bool true)) (.t t52)) rfl)
 (okc (ok0 (qv_mov (.t t53)) rfl)
 (okc (ok0 (qv_mov (.t t0)) rfl)
 (okc (ok0 (qv_mov (.t t3)) rfl)
 (okc (ok0 (qv_mov (.t t7)) rfl)
 (okc (ok0 (qv_idxl 4 (.t t56) (.t t57)) rfl)
 (okc (ok0 (qv_fieldaddr 3 (.t t58)) rfl)
 (okc (ok1 rfl)
 (okc (ok0 (qv_mov (.t t3)) rfl)
 (okc (ok0 (qv_mov (.t t7)) rfl)
 (okc (ok0 (qv_idxl 4 (.t t61) (.t t62)) rfl)
 (okc (ok0 (qv_fieldaddr 3 (.t t63)) rfl)
 (okc (ok1 rfl)
 (okc (ok0 (qv_mov (.t t3)) rfl)
 (okc (ok0 (qv_mov (.t t7)) rfl)
 (okc (ok0 (qv_idxl 4 (.t t66) (.t t67)) rfl)
 (okc (ok0 (qv_fieldaddr 1 (.t t68)) rfl)
 (okc (ok1 rfl)
 (okc (ok0 (qv_lens (.t t70)) rfl)
 (okc (ok0 (qv_bin (int2 addO) (.t t65) (.t t71)) rfl)
 (okc (ok0 (qv_slices (.t t55) (some (.t t60)) (some (.t t72))) rfl)
 (okc (ok0 (qv_mov (.t t3)) rfl)
 (okc (ok0 (qv_mov (.t t7)) rfl)
 (okc (ok0 (qv_idxl 4 (.t t74) (.t t75)) rfl)
 (okc (ok0 (qv_fieldaddr 1 (.t t76)) rfl)
 (okc (ok1 rfl)
 (okc (ok0 (qv_bin (str2 (cmpS neBytes)) (.t t73) (.t t78)) rfl)
 (okc (ok0 (qv_pick (.t t54) (.v (.bool true)) (.t t79)) rfl)
 okn)))))))))))))))))))))))))))))))))))))))))))))))))) (by kernel_rfl) rec n fs s
theorem q7_g1 (rec : Rec) (n : Nat) (fs : Frm) (s : St) : xReg c7_g1 [(0, 1), (0, 5), (1, 5), (2, 5), (3, 5), (4, 5), (0, 6), (1, 6), (2, 6), (3, 6), (4, 6), (5, 6), (0, 7), (1, 7), (2, 7), (3, 7), (4, 7), (0, 8), (1, 8), (2, 8), (3, 8), (4, 8), (0, 9), (1, 9), (2, 9), (3, 9), (4, 9), (12, 13), (12, 17), (13, 17), (14, 17), (15, 17), (16, 17), (12, 18), (13, 18), (14, 18), (15, 18), (16, 18), (17, 18), (12, 19), (13, 19), (14, 19), (15, 19), (16, 19), (12, 20), (13, 20), (14, 20), (15, 20), (16, 20), (12, 21), (13, 21), (14, 21), (15, 21), (16, 21), (25, 26), (25, 30), (26, 30), (27, 30), (28, 30), (29, 30), (25, 31), (26, 31), (27, 31), (28, 31), (29, 31), (30, 31), (25, 32), (26, 32), (27, 32), (28, 32), (29, 32), (25, 33), (26, 33), (27, 33), (28, 33), (29, 33), (25, 34), (26, 34), (27, 34), (28, 34), (29, 34)] rec n fs s = opt2 (runQ rec (⟨(some t110), oMov (.t t8), none, none⟩ ::
   ⟨(some t111), oMov (.t t11), none, none⟩ ::
   ⟨(some t112), oIdxAddrL 4 (.t t110) (.t t111), none, none⟩ ::
   ⟨(some t113), oFieldAddr 0 (.t t112), none, none⟩ ::
   ⟨(some t114), oLoad1 (.t t113), none, (some (.t t113))⟩ ::
   ⟨(some t115), oMov (.t t3), none, none⟩ ::
   ⟨(some t116), oMov (.t t11), none, none⟩ ::
   ⟨(some t117), oIdxAddrL 4 (.t t115) (.t t116), none, none⟩ ::
   ⟨(some t118), oFieldAddr 0 (.t t117), none, none⟩ ::
   ⟨(some t119), oLoad1 (.t t118), none, (some (.t t118))⟩ ::
   ⟨(some t120), oBin (int2 (cmpO neI)) (.t t114) (.t t119), none, none⟩ ::
   ⟨(some t121), oMov (.t t120), none, none⟩ ::
   ⟨(some t122), oMov (.t t8), (some (t121, false)), none⟩ ::
   ⟨(some t123), oMov (.t t11), (some (t121, false)), none⟩ :: c7_q4) fs s) fun fs s => some (.norm, fs, s) :=
 reg_q (ks := [0, 0, 0, 0, 1, 0, 0, 0, 0, 1, 0, 0, 0, 0, 0, 0, 1, 0, 0, 0, 0, 1, 0, 0, 0, 0, 0, 0, 0, 1, 0, 0, 0, 0, 1, 0, 0]) (okc (ok0 (qv_mov (.t t8)) rfl)
 (okc (ok0 (qv_mov (.t t11)) rfl)
 (okc (ok0 (qv_idxl 4 (.t t110) (.t t111)) rfl)
 (okc (ok0 (qv_fieldaddr 0 (.t t112)) rfl)
 (okc (ok1 rfl)
 (okc (ok0 (qv_mov (.t t3)) rfl)
 (okc (ok0 (qv_mov (.t t11)) rfl)
 (okc (ok0 (qv_idxl 4 (.t t115) (.t t116)) rfl)
 (okc (ok0 (qv_fieldaddr 0 (.t t117)) rfl)
 (okc (ok1 rfl)
 (okc (ok0 (qv_bin (int2 (cmpO neI)) (.t t114) (.t t119)) rfl)
 (okc (ok0 (qv_mov (.t t120)) rfl)
 (okc (ok0 (qv_mov (.t t8)) rfl)
 (okc (ok0 (qv_mov (.t t11)) rfl)
 (okc (ok0 (qv_idxl 4 (.t t122) (.t t123)) rfl)
 (okc (ok0 (qv_fieldaddr 1 (.t t124)) rfl)
 (okc (ok1 rfl)
 (okc (ok0 (qv_mov (.t t3)) rfl)
 (okc (ok0 (qv_mov (.t t11)) rfl)
 (okc (ok0 (qv_idxl 4 (.t t127) (.t t128)) rfl)
 (okc (ok0 (qv_fieldaddr 1 (.t t129)) rfl)
 (okc (ok1 rfl)
 (okc (ok0 (qv_bin (str2 (cmpS neBytes)) (.t t126) (.t t131)) rfl)
 (okc (ok0 (qv_pick (.t t121) (.v (.bool true)) (.t t132)) rfl)
 (okc (ok0 (qv_mov (.t t133)) rfl)
 (okc (ok0 (qv_mov (.t t8)) rfl)
 (okc (ok0 (qv_mov (.t t11)) rfl)
 (okc (ok0 (qv_idxl 4 (.t t135) (.t t136)) rfl)
 (okc (ok0 (qv_fieldaddr 2 (.t t137)) rfl)
 (okc (ok1 rfl)
 (okc (ok0 (qv_mov (.t t3)) rfl)
 (okc (ok0 (qv_mov (.t t11)) rfl)
 (okc (ok0 (qv_idxl 4 (.t t140) (.t t141)) rfl)
 (okc (ok0 (qv_fieldaddr 2 (.t t142)) rfl)
 (okc (ok1 rfl)
 (okc (ok0 (qv_bin (int2 (cmpO neI)) (.t t139) (.t t144)) rfl)
 (okc (ok0 (qv_pick (.t t134) (.v (.bool true)) (.t t145)) rfl)
 okn))))))))))))))))))))))))))))))))))))) (by kernel_rfl) rec n fs s
def D7_q0 (rec : Rec) (fs : Frm) (s : St) : Option (Frm × St) := opt (gval false (orU (fs.get t54))) fun x1 => opt2 (orUndef x1 (oSliceS (.v (orU (fs.get t55))) (some (.v (orU (fs.get t60)))) (some (.v (orU (fs.get t72)))) rec PT.nil s) s) fun x2 s =>
 opt (gval false (orU (fs.get t54))) fun x3 => opt2 (orUndef x3 (oMov (.v (orU (fs.get t3))) rec PT.nil s) s) fun x4 s =>
 opt (gval false (orU (fs.get t54))) fun x5 => opt2 (orUndef x5 (oMov (.v (orU (fs.get t7))) rec PT.nil s) s) fun x6 s =>
 opt (gval false (orU (fs.get t54))) fun x7 => opt2 (orUndef x7 (oIdxAddrL 4 (.v x4) (.v x6) rec PT.nil s) s) fun x8 s =>
 opt (gval false (orU (fs.get t54))) fun x9 => opt2 (orUndef x9 (oFieldAddr 1 (.v x8) rec PT.nil s) s) fun x10 s =>
 opt (gval false (orU (fs.get t54))) fun x11 => opt2 (orUndef x11 (oLoad1 (.v x10) rec PT.nil s) s) fun x12 s =>
 opt (gval false (orU (fs.get t54))) fun x13 => opt2 (orUndef x13 (oBin (str2 (cmpS neBytes)) (.v x2) (.v x12) rec PT.nil s) s) fun x14 s =>
 opt2 (oPick (.v (orU (fs.get t54))) (.v (.bool true)) (.v x14) rec PT.nil s) fun x15 s =>
 some ((PT.put x15 t80 (PT.put x14 t79 (PT.put x12 t78 (PT.put x10 t77 (PT.put x8 t76 (PT.put x6 t75 (PT.put x4 t74 (PT.put x2 t73 fs)))))))), s)
set_option maxHeartbeats 4000000 in
theorem d7_q0 (rec : Rec) (fs : Frm) (s : St) : runQ rec c7_q0 fs s = D7_q0 rec fs s := by
  simp (maxSteps := 4000000) only [c7_q0, ops_c, ops_n, op1_u, op1_gj, rq_c, rq_n, opQ_u, opQ_g, op2_op2, op2_op, op2_s, sm_bin, sm_box, sm_build, sm_buildslice, sm_bytesstr, sm_compl, sm_conv, sm_eqs, sm_eqv, sm_ext, sm_extract, sm_field, sm_fieldaddr, sm_func, sm_idxaa, sm_idxl, sm_idxs, sm_iface, sm_lenc, sm_lenl, sm_lens, sm_load1, sm_loadn, sm_mm, sm_mov, sm_neg, sm_new, sm_nil, sm_not, sm_pick, sm_same, sm_slices, sm_store]
  first | done | kernel_rfl
def D7_q1 (rec : Rec) (fs : Frm) (s : St) : Option (Frm × St) := opt (gval false (orU (fs.get t54))) fun x1 => opt2 (orUndef x1 (oFieldAddr 3 (.v (orU (fs.get t58))) rec PT.nil s) s) fun x2 s =>
 opt (gval false (orU (fs.get t54))) fun x3 => opt2 (orUndef x3 (oLoad1 (.v x2) rec PT.nil s) s) fun x4 s =>
 opt (gval false (orU (fs.get t54))) fun x5 => opt2 (orUndef x5 (oMov (.v (orU (fs.get t3))) rec PT.nil s) s) fun x6 s =>
 opt (gval false (orU (fs.get t54))) fun x7 => opt2 (orUndef x7 (oMov (.v (orU (fs.get t7))) rec PT.nil s) s) fun x8 s =>
 opt (gval false (orU (fs.get t54))) fun x9 => opt2 (orUndef x9 (oIdxAddrL 4 (.v x6) (.v x8) rec PT.nil s) s) fun x10 s =>
 opt (gval false (orU (fs.get t54))) fun x11 => opt2 (orUndef x11 (oFieldAddr 3 (.v x10) rec PT.nil s) s) fun x12 s =>
 opt (gval false (orU (fs.get t54))) fun x13 => opt2 (orUndef x13 (oLoad1 (.v x12) rec PT.nil s) s) fun x14 s =>
 opt (gval false (orU (fs.get t54))) fun x15 => opt2 (orUndef x15 (oMov (.v (orU (fs.get t3))) rec PT.nil s) s) fun x16 s =>
 opt (gval false (orU (fs.get t54))) fun x17 => opt2 (orUndef x17 (oMov (.v (orU (fs.get t7))) rec PT.nil s) s) fun x18 s =>
 opt (gval false (orU (fs.get t54))) fun x19 => opt2 (orUndef x19 (oIdxAddrL 4 (.v x16) (.v x18) rec PT.nil s) s) fun x20 s =>
 opt (gval false (orU (fs.get t54))) fun x21 => opt2 (orUndef x21 (oFieldAddr 1 (.v x20) rec PT.nil s) s) fun x22 s =>
 opt (gval false (orU (fs.get t54))) fun x23 => opt2 (orUndef x23 (oLoad1 (.v x22) rec PT.nil s) s) fun x24 s =>
 opt (gval false (orU (fs.get t54))) fun x25 => opt2 (orUndef x25 (oLenS (.v x24) rec PT.nil s) s) fun x26 s =>
 opt (gval false (orU (fs.get t54))) fun x27 => opt2 (orUndef x27 (oBin (int2 addO) (.v x14) (.v x26) rec PT.nil s) s) fun x28 s =>
 runQ rec c7_q0 (PT.put x28 t72 (PT.put x26 t71 (PT.put x24 t70 (PT.put x22 t69 (PT.put x20 t68 (PT.put x18 t67 (PT.put x16 t66 (PT.put x14 t65 (PT.put x12 t64 (PT.put x10 t63 (PT.put x8 t62 (PT.put x6 t61 (PT.put x4 t60 (PT.put x2 t59 fs)))))))))))))) s
set_option maxHeartbeats 4000000 in
theorem d7_q1 (rec : Rec) (fs : Frm) (s : St) : runQ rec c7_q1 fs s = D7_q1 rec fs s := by
  simp (maxSteps := 4000000) only [c7_q1, ops_c, ops_n, op1_u, op1_gj, rq_c, rq_n, opQ_u, opQ_g, op2_op2, op2_op, op2_s, sm_bin, sm_box, sm_build, sm_buildslice, sm_bytesstr, sm_compl, sm_conv, sm_eqs, sm_eqv, sm_ext, sm_extract, sm_field, sm_fieldaddr, sm_func, sm_idxaa, sm_idxl, sm_idxs, sm_iface, sm_lenc, sm_lenl, sm_lens, sm_load1, sm_loadn, sm_mm, sm_mov, sm_neg, sm_new, sm_nil, sm_not, sm_pick, sm_same, sm_slices, sm_store]
  first | done | kernel_rfl
def D7_q2 (rec : Rec) (fs : Frm) (s : St) : Option (Frm × St) := opt (gval false (orU (fs.get t37))) fun x1 => opt2 (orUndef x1 (oMov (.v (orU (fs.get t3))) rec PT.nil s) s) fun x2 s =>
 opt (gval false (orU (fs.get t37))) fun x3 => opt2 (orUndef x3 (oMov (.v (orU (fs.get t7))) rec PT.nil s) s) fun x4 s =>
 opt (gval false (orU (fs.get t37))) fun x5 => opt2 (orUndef x5 (oIdxAddrL 4 (.v x2) (.v x4) rec PT.nil s) s) fun x6 s =>
 opt (gval false (orU (fs.get t37))) fun x7 => opt2 (orUndef x7 (oFieldAddr 1 (.v x6) rec PT.nil s) s) fun x8 s =>
 opt (gval false (orU (fs.get t37))) fun x9 => opt2 (orUndef x9 (oLoad1 (.v x8) rec PT.nil s) s) fun x10 s =>
 opt (gval false (orU (fs.get t37))) fun x11 => opt2 (orUndef x11 (oLenS (.v x10) rec PT.nil s) s) fun x12 s =>
 opt (gval false (orU (fs.get t37))) fun x13 => opt2 (orUndef x13 (oBin (int2 subO) (.v (orU (fs.get t44))) (.v x12) rec PT.nil s) s) fun x14 s =>
 opt (gval false (orU (fs.get t37))) fun x15 => opt2 (orUndef x15 (oBin (int2 (cmpO gtI)) (.v (orU (fs.get t42))) (.v x14) rec PT.nil s) s) fun x16 s =>
 opt2 (oPick (.v (orU (fs.get t37))) (.v (.bool true)) (.v x16) rec PT.nil s) fun x17 s =>
 opt2 (oMov (.v x17) rec PT.nil s) fun x18 s =>
 opt (gval false x18) fun x19 => opt2 (orUndef x19 (oMov (.v (orU (fs.get t0))) rec PT.nil s) s) fun x20 s =>
 opt (gval false x18) fun x21 => opt2 (orUndef x21 (oMov (.v (orU (fs.get t3))) rec PT.nil s) s) fun x22 s =>
 opt (gval false x18) fun x23 => opt2 (orUndef x23 (oMov (.v (orU (fs.get t7))) rec PT.nil s) s) fun x24 s =>
 opt (gval false x18) fun x25 => opt2 (orUndef x25 (oIdxAddrL 4 (.v x22) (.v x24) rec PT.nil s) s) fun x26 s =>
 runQ rec c7_q1 (PT.put x26 t58 (PT.put x24 t57 (PT.put x22 t56 (PT.put x20 t55 (PT.put x18 t54 (PT.put x17 t53 (PT.put x16 t52 (PT.put x14 t51 (PT.put x12 t50 (PT.put x10 t49 (PT.put x8 t48 (PT.put x6 t47 (PT.put x4 t46 (PT.put x2 t45 fs)))))))))))))) s
set_option maxHeartbeats 4000000 in
theorem d7_q2 (rec : Rec) (fs : Frm) (s : St) : runQ rec c7_q2 fs s = D7_q2 rec fs s := by
  simp (maxSteps := 4000000) only [c7_q2, ops_c, ops_n, op1_u, op1_gj, rq_c, rq_n, opQ_u, opQ_g, op2_op2, op2_op, op2_s, sm_bin, sm_box, sm_build, sm_buildslice, sm_bytesstr, sm_compl, sm_conv, sm_eqs, sm_eqv, sm_ext, sm_extract, sm_field, sm_fieldaddr, sm_func, sm_idxaa, sm_idxl, sm_idxs, sm_iface, sm_lenc, sm_lenl, sm_lens, sm_load1, sm_loadn, sm_mm, sm_mov, sm_neg, sm_new, sm_nil, sm_not, sm_pick, sm_same, sm_slices, sm_store]
  first | done | kernel_rfl
def D7_q3 (rec : Rec) (fs : Frm) (s : St) : Option (Frm × St) := opt (gval false (orU (fs.get t134))) fun x1 => opt2 (orUndef x1 (oFieldAddr 2 (.v (orU (fs.get t137))) rec PT.nil s) s) fun x2 s =>
 opt (gval false (orU (fs.get t134))) fun x3 => opt2 (orUndef x3 (oLoad1 (.v x2) rec PT.nil s) s) fun x4 s =>
 opt (gval false (orU (fs.get t134))) fun x5 => opt2 (orUndef x5 (oMov (.v (orU (fs.get t3))) rec PT.nil s) s) fun x6 s =>
 opt (gval false (orU (fs.get t134))) fun x7 => opt2 (orUndef x7 (oMov (.v (orU (fs.get t11))) rec PT.nil s) s) fun x8 s =>
 opt (gval false (orU (fs.get t134))) fun x9 => opt2 (orUndef x9 (oIdxAddrL 4 (.v x6) (.v x8) rec PT.nil s) s) fun x10 s =>
 opt (gval false (orU (fs.get t134))) fun x11 => opt2 (orUndef x11 (oFieldAddr 2 (.v x10) rec PT.nil s) s) fun x12 s =>
 opt (gval false (orU (fs.get t134))) fun x13 => opt2 (orUndef x13 (oLoad1 (.v x12) rec PT.nil s) s) fun x14 s =>
 opt (gval false (orU (fs.get t134))) fun x15 => opt2 (orUndef x15 (oBin (int2 (cmpO neI)) (.v x4) (.v x14) rec PT.nil s) s) fun x16 s =>
 opt2 (oPick (.v (orU (fs.get t134))) (.v (.bool true)) (.v x16) rec PT.nil s) fun x17 s =>
 some ((PT.put x17 t146 (PT.put x16 t145 (PT.put x14 t144 (PT.put x12 t143 (PT.put x10 t142 (PT.put x8 t141 (PT.put x6 t140 (PT.put x4 t139 (PT.put x2 t138 fs))))))))), s)
set_option maxHeartbeats 4000000 in
theorem d7_q3 (rec : Rec) (fs : Frm) (s : St) : runQ rec c7_q3 fs s = D7_q3 rec fs s := by
  simp (maxSteps := 4000000) only [c7_q3, ops_c, ops_n, op1_u, op1_gj, rq_c, rq_n, opQ_u, opQ_g, op2_op2, op2_op, op2_s, sm_bin, sm_box, sm_build, sm_buildslice, sm_bytesstr, sm_compl, sm_conv, sm_eqs, sm_eqv, sm_ext, sm_extract, sm_field, sm_fieldaddr, sm_func, sm_idxaa, sm_idxl, sm_idxs, sm_iface, sm_lenc, sm_lenl, sm_lens, sm_load1, sm_loadn, sm_mm, sm_mov, sm_neg, sm_new, sm_nil, sm_not, sm_pick, sm_same, sm_slices, sm_store]
  first | done | kernel_rfl
def D7_q4 (rec : Rec) (fs : Frm) (s : St) : Option (Frm × St) := opt (gval false (orU (fs.get t121))) fun x1 => opt2 (orUndef x1 (oIdxAddrL 4 (.v (orU (fs.get t122))) (.v (orU (fs.get t123))) rec PT.nil s) s) fun x2 s =>
 opt (gval false (orU (fs.get t121))) fun x3 => opt2 (orUndef x3 (oFieldAddr 1 (.v x2) rec PT.nil s) s) fun x4 s =>
 opt (gval false (orU (fs.get t121))) fun x5 => opt2 (orUndef x5 (oLoad1 (.v x4) rec PT.nil s) s) fun x6 s =>
 opt (gval false (orU (fs.get t121))) fun x7 => opt2 (orUndef x7 (oMov (.v (orU (fs.get t3))) rec PT.nil s) s) fun x8 s =>
 opt (gval false (orU (fs.get t121))) fun x9 => opt2 (orUndef x9 (oMov (.v (orU (fs.get t11))) rec PT.nil s) s) fun x10 s =>
 opt (gval false (orU (fs.get t121))) fun x11 => opt2 (orUndef x11 (oIdxAddrL 4 (.v x8) (.v x10) rec PT.nil s) s) fun x12 s =>
 opt (gval false (orU (fs.get t121))) fun x13 => opt2 (orUndef x13 (oFieldAddr 1 (.v x12) rec PT.nil s) s) fun x14 s =>
 opt (gval false (orU (fs.get t121))) fun x15 => opt2 (orUndef x15 (oLoad1 (.v x14) rec PT.nil s) s) fun x16 s =>
 opt (gval false (orU (fs.get t121))) fun x17 => opt2 (orUndef x17 (oBin (str2 (cmpS neBytes)) (.v x6) (.v x16) rec PT.nil s) s) fun x18 s =>
 opt2 (oPick (.v (orU (fs.get t121))) (.v (.bool true)) (.v x18) rec PT.nil s) fun x19 s =>
 opt2 (oMov (.v x19) rec PT.nil s) fun x20 s =>
 opt (gval false x20) fun x21 => opt2 (orUndef x21 (oMov (.v (orU (fs.get t8))) rec PT.nil s) s) fun x22 s =>
 opt (gval false x20) fun x23 => opt2 (orUndef x23 (oMov (.v (orU (fs.get t11))) rec PT.nil s) s) fun x24 s =>
 opt (gval false x20) fun x25 => opt2 (orUndef x25 (oIdxAddrL 4 (.v x22) (.v x24) rec PT.nil s) s) fun x26 s =>
 runQ rec c7_q3 (PT.put x26 t137 (PT.put x24 t136 (PT.put x22 t135 (PT.put x20 t134 (PT.put x19 t133 (PT.put x18 t132 (PT.put x16 t131 (PT.put x14 t130 (PT.put x12 t129 (PT.put x10 t128 (PT.put x8 t127 (PT.put x6 t126 (PT.put x4 t125 (PT.put x2 t124 fs)))))))))))))) s
set_option maxHeartbeats 4000000 in
theorem d7_q4 (rec : Rec) (fs : Frm) (s : St) : runQ rec c7_q4 fs s = D7_q4 rec fs s := by
  simp (maxSteps := 4000000) only [c7_q4, ops_c, ops_n, op1_u, op1_gj, rq_c, rq_n, opQ_u, opQ_g, op2_op2, op2_op, op2_s, sm_bin, sm_box, sm_build, sm_buildslice, sm_bytesstr, sm_compl, sm_conv, sm_eqs, sm_eqv, sm_ext, sm_extract, sm_field, sm_fieldaddr, sm_func, sm_idxaa, sm_idxl, sm_idxs, sm_iface, sm_lenc, sm_lenl, sm_lens, sm_load1, sm_loadn, sm_mm, sm_mov, sm_neg, sm_new, sm_nil, sm_not, sm_pick, sm_same, sm_slices, sm_store]
  first | done | kernel_rfl
def D7_j0 (rec : Rec) (N : Nat) (fs : Frm) (s : St) : OutX := condV (orU (fs.get t80))
 (opt2 (oMov (.v (.bool false)) rec PT.nil s) fun x1 s =>
 some (.ret, (PT.put x1 t2 fs), s))
 (some (.norm, fs, s))
set_option maxHeartbeats 4000000 in
theorem d7_j0 (rec : Rec) (N : Nat) (fs : Frm) (s : St) : c7_j0 rec N fs s = D7_j0 rec N fs s := by
  simp (maxSteps := 4000000) only [c7_j0, lenN, x_seq, x_ops, x_skip, x_ret, x_exit, x_cond, x_block, x_loop, ops_c, ops_n, op1_u, op1_gj, rq_c, rq_n, opQ_u, opQ_g, op2_op2, op2_op, op2_s, op2_cond, thenX_n, thenX_e, thenX_r, blkX_n, blkX_r, blkX_e, finX_r, finX_n, res_n, res_t, op_s, Nat.beq_refl, cond_true, q7_g0, q7_g1, sm_bin, sm_box, sm_build, sm_buildslice, sm_bytesstr, sm_compl, sm_conv, sm_eqs, sm_eqv, sm_ext, sm_extract, sm_field, sm_fieldaddr, sm_func, sm_idxaa, sm_idxl, sm_idxs, sm_iface, sm_lenc, sm_lenl, sm_lens, sm_load1, sm_loadn, sm_mm, sm_mov, sm_neg, sm_new, sm_nil, sm_not, sm_pick, sm_same, sm_slices, sm_store]
  first | done | kernel_rfl
def D7_j1 (rec : Rec) (N : Nat) (fs : Frm) (s : St) : OutX := opt2 (oMov (.v (orU (fs.get t6))) rec PT.nil s) fun x1 s =>
 opt2 (oMov (.v (orU (fs.get t3))) rec PT.nil s) fun x2 s =>
 opt2 (oMov (.v (orU (fs.get t7))) rec PT.nil s) fun x3 s =>
 opt2 (oIdxAddrL 4 (.v x2) (.v x3) rec PT.nil s) fun x4 s =>
 opt2 (oFieldAddr 1 (.v x4) rec PT.nil s) fun x5 s =>
 opt2 (oLoad1 (.v x5) rec PT.nil s) fun x6 s =>
 opt2 (oBin (str2 catO) (.v x1) (.v x6) rec PT.nil s) fun x7 s =>
 opt2 (oBin (str2 catO) (.v x7) (.v (.string ⟨⟨[32]⟩⟩)) rec PT.nil s) fun x8 s =>
 opt2 (oMov (.v x8) rec PT.nil s) fun x9 s =>
 some (.norm, (PT.put x9 t6 (PT.put x8 t88 (PT.put x7 t87 (PT.put x6 t86 (PT.put x5 t85 (PT.put x4 t84 (PT.put x3 t83 (PT.put x2 t82 (PT.put x1 t81 fs))))))))), s)
set_option maxHeartbeats 4000000 in
theorem d7_j1 (rec : Rec) (N : Nat) (fs : Frm) (s : St) : c7_j1 rec N fs s = D7_j1 rec N fs s := by
  simp (maxSteps := 4000000) only [c7_j1, lenN, x_seq, x_ops, x_skip, x_ret, x_exit, x_cond, x_block, x_loop, ops_c, ops_n, op1_u, op1_gj, rq_c, rq_n, opQ_u, opQ_g, op2_op2, op2_op, op2_s, op2_cond, thenX_n, thenX_e, thenX_r, blkX_n, blkX_r, blkX_e, finX_r, finX_n, res_n, res_t, op_s, Nat.beq_refl, cond_true, q7_g0, q7_g1, sm_bin, sm_box, sm_build, sm_buildslice, sm_bytesstr, sm_compl, sm_conv, sm_eqs, sm_eqv, sm_ext, sm_extract, sm_field, sm_fieldaddr, sm_func, sm_idxaa, sm_idxl, sm_idxs, sm_iface, sm_lenc, sm_lenl, sm_lens, sm_load1, sm_loadn, sm_mm, sm_mov, sm_neg, sm_new, sm_nil, sm_not, sm_pick, sm_same, sm_slices, sm_store]
  first | done | kernel_rfl
def D7_j2 (rec : Rec) (N : Nat) (fs : Frm) (s : St) : OutX := opt2 (oMov (.v (orU (fs.get t7))) rec PT.nil s) fun x1 s =>
 opt2 (oBin (int2 addO) (.v x1) (.v (.int .i64 1)) rec PT.nil s) fun x2 s =>
 opt2 (oMov (.v x2) rec PT.nil s) fun x3 s =>
 some (.norm, (PT.put x3 t7 (PT.put x2 t30 (PT.put x1 t29 fs))), s)
set_option maxHeartbeats 4000000 in
theorem d7_j2 (rec : Rec) (N : Nat) (fs : Frm) (s : St) : c7_j2 rec N fs s = D7_j2 rec N fs s := by
  simp (maxSteps := 4000000) only [c7_j2, lenN, x_seq, x_ops, x_skip, x_ret, x_exit, x_cond, x_block, x_loop, ops_c, ops_n, op1_u, op1_gj, rq_c, rq_n, opQ_u, opQ_g, op2_op2, op2_op, op2_s, op2_cond, thenX_n, thenX_e, thenX_r, blkX_n, blkX_r, blkX_e, finX_r, finX_n, res_n, res_t, op_s, Nat.beq_refl, cond_true, q7_g0, q7_g1, sm_bin, sm_box, sm_build, sm_buildslice, sm_bytesstr, sm_compl, sm_conv, sm_eqs, sm_eqv, sm_ext, sm_extract, sm_field, sm_fieldaddr, sm_func, sm_idxaa, sm_idxl, sm_idxs, sm_iface, sm_lenc, sm_lenl, sm_lens, sm_load1, sm_loadn, sm_mm, sm_mov, sm_neg, sm_new, sm_nil, sm_not, sm_pick, sm_same, sm_slices, sm_store]
  first | done | kernel_rfl
def D7_l0 (rec : Rec) (N : Nat) (fs : Frm) (s : St) : OutX := opt2 (oMov (.v (orU (fs.get t7))) rec PT.nil s) fun x1 s =>
 opt2 (oMov (.v (orU (fs.get t3))) rec PT.nil s) fun x2 s =>
 opt2 (oLenL (.v x2) rec PT.nil s) fun x3 s =>
 opt2 (oBin (int2 (cmpO ltI)) (.v x1) (.v x3) rec PT.nil s) fun x4 s =>
 condV x4
 (opt2 (oMov (.v (orU (fs.get t3))) rec PT.nil s) fun x5 s =>
 opt2 (oMov (.v (orU (fs.get t7))) rec PT.nil s) fun x6 s =>
 opt2 (oIdxAddrL 4 (.v x5) (.v x6) rec PT.nil s) fun x7 s =>
 opt2 (oFieldAddr 3 (.v x7) rec PT.nil s) fun x8 s =>
 opt2 (oLoad1 (.v x8) rec PT.nil s) fun x9 s =>
 opt2 (oBin (int2 (cmpO ltI)) (.v x9) (.v (.int .i64 0)) rec PT.nil s) fun x10 s =>
 opt2 (oMov (.v x10) rec PT.nil s) fun x11 s =>
 opt (gval false x11) fun x12 => opt2 (orUndef x12 (oMov (.v (orU (fs.get t3))) rec PT.nil s) s) fun x13 s =>
 opt (gval false x11) fun x14 => opt2 (orUndef x14 (oMov (.v (orU (fs.get t7))) rec PT.nil s) s) fun x15 s =>
 opt (gval false x11) fun x16 => opt2 (orUndef x16 (oIdxAddrL 4 (.v x13) (.v x15) rec PT.nil s) s) fun x17 s =>
 opt (gval false x11) fun x18 => opt2 (orUndef x18 (oFieldAddr 3 (.v x17) rec PT.nil s) s) fun x19 s =>
 opt (gval false x11) fun x20 => opt2 (orUndef x20 (oLoad1 (.v x19) rec PT.nil s) s) fun x21 s =>
 opt (gval false x11) fun x22 => opt2 (orUndef x22 (oMov (.v (orU (fs.get t0))) rec PT.nil s) s) fun x23 s =>
 opt (gval false x11) fun x24 => opt2 (orUndef x24 (oLenS (.v x23) rec PT.nil s) s) fun x25 s =>
 opt2 (runQ rec c7_q2 (PT.put x25 t44 (PT.put x23 t43 (PT.put x21 t42 (PT.put x19 t41 (PT.put x17 t40 (PT.put x15 t39 (PT.put x13 t38 (PT.put x11 t37 (PT.put x10 t36 (PT.put x9 t35 (PT.put x8 t34 (PT.put x7 t33 (PT.put x6 t32 (PT.put x5 t31 (PT.put x4 t28 (PT.put x3 t27 (PT.put x2 t26 (PT.put x1 t25 fs)))))))))))))))))) s) fun fs s =>
 opt2 (c7_j0 rec N fs s) fun e r => opt2 (thenX (c7_j1 rec N) e r) fun e r => opt2 (blkX 1 e r) fun e r => thenX (c7_j2 rec N) e r)
 (some ((.exit 0), (PT.put x4 t28 (PT.put x3 t27 (PT.put x2 t26 (PT.put x1 t25 fs)))), s))
set_option maxHeartbeats 4000000 in
theorem d7_l0 (rec : Rec) (N : Nat) (fs : Frm) (s : St) : c7_l0 rec N fs s = D7_l0 rec N fs s := by
  simp (maxSteps := 4000000) only [c7_l0, lenN, x_seq, x_ops, x_skip, x_ret, x_exit, x_cond, x_block, x_loop, ops_c, ops_n, op1_u, op1_gj, rq_c, rq_n, opQ_u, opQ_g, op2_op2, op2_op, op2_s, op2_cond, thenX_n, thenX_e, thenX_r, blkX_n, blkX_r, blkX_e, finX_r, finX_n, res_n, res_t, op_s, Nat.beq_refl, cond_true, q7_g0, q7_g1, sm_bin, sm_box, sm_build, sm_buildslice, sm_bytesstr, sm_compl, sm_conv, sm_eqs, sm_eqv, sm_ext, sm_extract, sm_field, sm_fieldaddr, sm_func, sm_idxaa, sm_idxl, sm_idxs, sm_iface, sm_lenc, sm_lenl, sm_lens, sm_load1, sm_loadn, sm_mm, sm_mov, sm_neg, sm_new, sm_nil, sm_not, sm_pick, sm_same, sm_slices, sm_store]
  first | done | kernel_rfl
def D7_j3 (rec : Rec) (N : Nat) (fs : Frm) (s : St) : OutX := condV (orU (fs.get t146))
 (opt2 (oMov (.v (.bool false)) rec PT.nil s) fun x1 s =>
 some (.ret, (PT.put x1 t2 fs), s))
 (some (.norm, fs, s))
set_option maxHeartbeats 4000000 in
theorem d7_j3 (rec : Rec) (N : Nat) (fs : Frm) (s : St) : c7_j3 rec N fs s = D7_j3 rec N fs s := by
  simp (maxSteps := 4000000) only [c7_j3, lenN, x_seq, x_ops, x_skip, x_ret, x_exit, x_cond, x_block, x_loop, ops_c, ops_n, op1_u, op1_gj, rq_c, rq_n, opQ_u, opQ_g, op2_op2, op2_op, op2_s, op2_cond, thenX_n, thenX_e, thenX_r, blkX_n, blkX_r, blkX_e, finX_r, finX_n, res_n, res_t, op_s, Nat.beq_refl, cond_true, q7_g0, q7_g1, sm_bin, sm_box, sm_build, sm_buildslice, sm_bytesstr, sm_compl, sm_conv, sm_eqs, sm_eqv, sm_ext, sm_extract, sm_field, sm_fieldaddr, sm_func, sm_idxaa, sm_idxl, sm_idxs, sm_iface, sm_lenc, sm_lenl, sm_lens, sm_load1, sm_loadn, sm_mm, sm_mov, sm_neg, sm_new, sm_nil, sm_not, sm_pick, sm_same, sm_slices, sm_store]
  first | done | kernel_rfl
def D7_j4 (rec : Rec) (N : Nat) (fs : Frm) (s : St) : OutX := opt2 (oMov (.v (orU (fs.get t11))) rec PT.nil s) fun x1 s =>
 opt2 (oBin (int2 addO) (.v x1) (.v (.int .i64 1)) rec PT.nil s) fun x2 s =>
 opt2 (oMov (.v x2) rec PT.nil s) fun x3 s =>
 some (.norm, (PT.put x3 t11 (PT.put x2 t109 (PT.put x1 t108 fs))), s)
set_option maxHeartbeats 4000000 in
theorem d7_j4 (rec : Rec) (N : Nat) (fs : Frm) (s : St) : c7_j4 rec N fs s = D7_j4 rec N fs s := by
  simp (maxSteps := 4000000) only [c7_j4, lenN, x_seq, x_ops, x_skip, x_ret, x_exit, x_cond, x_block, x_loop, ops_c, ops_n, op1_u, op1_gj, rq_c, rq_n, opQ_u, opQ_g, op2_op2, op2_op, op2_s, op2_cond, thenX_n, thenX_e, thenX_r, blkX_n, blkX_r, blkX_e, finX_r, finX_n, res_n, res_t, op_s, Nat.beq_refl, cond_true, q7_g0, q7_g1, sm_bin, sm_box, sm_build, sm_buildslice, sm_bytesstr, sm_compl, sm_conv, sm_eqs, sm_eqv, sm_ext, sm_extract, sm_field, sm_fieldaddr, sm_func, sm_idxaa, sm_idxl, sm_idxs, sm_iface, sm_lenc, sm_lenl, sm_lens, sm_load1, sm_loadn, sm_mm, sm_mov, sm_neg, sm_new, sm_nil, sm_not, sm_pick, sm_same, sm_slices, sm_store]
  first | done | kernel_rfl
def D7_l1 (rec : Rec) (N : Nat) (fs : Frm) (s : St) : OutX := opt2 (oMov (.v (orU (fs.get t11))) rec PT.nil s) fun x1 s =>
 opt2 (oMov (.v (orU (fs.get t3))) rec PT.nil s) fun x2 s =>
 opt2 (oLenL (.v x2) rec PT.nil s) fun x3 s =>
 opt2 (oBin (int2 (cmpO ltI)) (.v x1) (.v x3) rec PT.nil s) fun x4 s =>
 condV x4
 (opt2 (oMov (.v (orU (fs.get t8))) rec PT.nil s) fun x5 s =>
 opt2 (oMov (.v (orU (fs.get t11))) rec PT.nil s) fun x6 s =>
 opt2 (oIdxAddrL 4 (.v x5) (.v x6) rec PT.nil s) fun x7 s =>
 opt2 (oFieldAddr 0 (.v x7) rec PT.nil s) fun x8 s =>
 opt2 (oLoad1 (.v x8) rec PT.nil s) fun x9 s =>
 opt2 (oMov (.v (orU (fs.get t3))) rec PT.nil s) fun x10 s =>
 opt2 (oMov (.v (orU (fs.get t11))) rec PT.nil s) fun x11 s =>
 opt2 (oIdxAddrL 4 (.v x10) (.v x11) rec PT.nil s) fun x12 s =>
 opt2 (oFieldAddr 0 (.v x12) rec PT.nil s) fun x13 s =>
 opt2 (oLoad1 (.v x13) rec PT.nil s) fun x14 s =>
 opt2 (oBin (int2 (cmpO neI)) (.v x9) (.v x14) rec PT.nil s) fun x15 s =>
 opt2 (oMov (.v x15) rec PT.nil s) fun x16 s =>
 opt (gval false x16) fun x17 => opt2 (orUndef x17 (oMov (.v (orU (fs.get t8))) rec PT.nil s) s) fun x18 s =>
 opt (gval false x16) fun x19 => opt2 (orUndef x19 (oMov (.v (orU (fs.get t11))) rec PT.nil s) s) fun x20 s =>
 opt2 (runQ rec c7_q4 (PT.put x20 t123 (PT.put x18 t122 (PT.put x16 t121 (PT.put x15 t120 (PT.put x14 t119 (PT.put x13 t118 (PT.put x12 t117 (PT.put x11 t116 (PT.put x10 t115 (PT.put x9 t114 (PT.put x8 t113 (PT.put x7 t112 (PT.put x6 t111 (PT.put x5 t110 (PT.put x4 t107 (PT.put x3 t106 (PT.put x2 t105 (PT.put x1 t104 fs)))))))))))))))))) s) fun fs s =>
 opt2 (c7_j3 rec N fs s) fun e r => opt2 (blkX 3 e r) fun e r => thenX (c7_j4 rec N) e r)
 (some ((.exit 2), (PT.put x4 t107 (PT.put x3 t106 (PT.put x2 t105 (PT.put x1 t104 fs)))), s))
set_option maxHeartbeats 4000000 in
theorem d7_l1 (rec : Rec) (N : Nat) (fs : Frm) (s : St) : c7_l1 rec N fs s = D7_l1 rec N fs s := by
  simp (maxSteps := 4000000) only [c7_l1, lenN, x_seq, x_ops, x_skip, x_ret, x_exit, x_cond, x_block, x_loop, ops_c, ops_n, op1_u, op1_gj, rq_c, rq_n, opQ_u, opQ_g, op2_op2, op2_op, op2_s, op2_cond, thenX_n, thenX_e, thenX_r, blkX_n, blkX_r, blkX_e, finX_r, finX_n, res_n, res_t, op_s, Nat.beq_refl, cond_true, q7_g0, q7_g1, sm_bin, sm_box, sm_build, sm_buildslice, sm_bytesstr, sm_compl, sm_conv, sm_eqs, sm_eqv, sm_ext, sm_extract, sm_field, sm_fieldaddr, sm_func, sm_idxaa, sm_idxl, sm_idxs, sm_iface, sm_lenc, sm_lenl, sm_lens, sm_load1, sm_loadn, sm_mm, sm_mov, sm_neg, sm_new, sm_nil, sm_not, sm_pick, sm_same, sm_slices, sm_store]
  first | done | kernel_rfl
def D7_r0 (rec : Rec) (N : Nat) (fs : Frm) (s : St) : OutX := opt2 (oMov (.v (.bool true)) rec PT.nil s) fun x1 s =>
 some (.ret, (PT.put x1 t2 fs), s)
set_option maxHeartbeats 4000000 in
theorem d7_r0 (rec : Rec) (N : Nat) (fs : Frm) (s : St) : c7_r0 rec N fs s = D7_r0 rec N fs s := by
  simp (maxSteps := 4000000) only [c7_r0, lenN, x_seq, x_ops, x_skip, x_ret, x_exit, x_cond, x_block, x_loop, ops_c, ops_n, op1_u, op1_gj, rq_c, rq_n, opQ_u, opQ_g, op2_op2, op2_op, op2_s, op2_cond, thenX_n, thenX_e, thenX_r, blkX_n, blkX_r, blkX_e, finX_r, finX_n, res_n, res_t, op_s, Nat.beq_refl, cond_true, q7_g0, q7_g1, sm_bin, sm_box, sm_build, sm_buildslice, sm_bytesstr, sm_compl, sm_conv, sm_eqs, sm_eqv, sm_ext, sm_extract, sm_field, sm_fieldaddr, sm_func, sm_idxaa, sm_idxl, sm_idxs, sm_iface, sm_lenc, sm_lenl, sm_lens, sm_load1, sm_loadn, sm_mm, sm_mov, sm_neg, sm_new, sm_nil, sm_not, sm_pick, sm_same, sm_slices, sm_store]
  first | done | kernel_rfl
def D7_r1 (rec : Rec) (N : Nat) (fs : Frm) (s : St) : OutX := opt2 (oMov (.v (orU (fs.get t6))) rec PT.nil s) fun x1 s =>
 opt2 (rec 9 [x1] s) fun x2 s =>
 opt2 (oMov (.v x2) rec PT.nil s) fun x3 s =>
 opt2 (oExtract (.v x3) 0 rec PT.nil s) fun x4 s =>
 opt2 (oExtract (.v x3) 1 rec PT.nil s) fun x5 s =>
 opt2 (oExtract (.v x3) 2 rec PT.nil s) fun x6 s =>
 opt2 (oMov (.v x4) rec PT.nil s) fun x7 s =>
 opt2 (oMov (.v x5) rec PT.nil s) fun x8 s =>
 opt2 (oMov (.v x6) rec PT.nil s) fun x9 s =>
 opt2 (oMov (.v x9) rec PT.nil s) fun x10 s =>
 opt2 (oBin (int2 (cmpO neI)) (.v x10) (.v (.int .i64 0)) rec PT.nil s) fun x11 s =>
 opt2 (oMov (.v x11) rec PT.nil s) fun x12 s =>
 opt (gval false x12) fun x13 => opt2 (orUndef x13 (oMov (.v x7) rec PT.nil s) s) fun x14 s =>
 opt (gval false x12) fun x15 => opt2 (orUndef x15 (oLenL (.v x14) rec PT.nil s) s) fun x16 s =>
 opt (gval false x12) fun x17 => opt2 (orUndef x17 (oMov (.v (orU (fs.get t3))) rec PT.nil s) s) fun x18 s =>
 opt (gval false x12) fun x19 => opt2 (orUndef x19 (oLenL (.v x18) rec PT.nil s) s) fun x20 s =>
 opt (gval false x12) fun x21 => opt2 (orUndef x21 (oBin (int2 (cmpO neI)) (.v x16) (.v x20) rec PT.nil s) s) fun x22 s =>
 opt2 (oPick (.v x12) (.v (.bool true)) (.v x22) rec PT.nil s) fun x23 s =>
 condV x23
 (opt2 (oMov (.v (.bool false)) rec PT.nil s) fun x24 s =>
 some (.ret, (PT.put x24 t2 (PT.put x23 t103 (PT.put x22 t102 (PT.put x20 t101 (PT.put x18 t100 (PT.put x16 t99 (PT.put x14 t98 (PT.put x12 t97 (PT.put x11 t96 (PT.put x10 t95 (PT.put x9 t10 (PT.put x8 t9 (PT.put x7 t8 (PT.put x6 t94 (PT.put x5 t93 (PT.put x4 t92 (PT.put x3 t89 (PT.put x2 t91 (PT.put x1 t90 fs))))))))))))))))))), s))
 (opt2 (oMov (.v (.int .i64 0)) rec PT.nil s) fun x25 s =>
 opt2 (loopF (c7_l1 rec N) N (PT.put x25 t11 (PT.put x23 t103 (PT.put x22 t102 (PT.put x20 t101 (PT.put x18 t100 (PT.put x16 t99 (PT.put x14 t98 (PT.put x12 t97 (PT.put x11 t96 (PT.put x10 t95 (PT.put x9 t10 (PT.put x8 t9 (PT.put x7 t8 (PT.put x6 t94 (PT.put x5 t93 (PT.put x4 t92 (PT.put x3 t89 (PT.put x2 t91 (PT.put x1 t90 fs))))))))))))))))))) s) fun e r => opt2 (blkX 2 e r) fun e r => thenX (c7_r0 rec N) e r)
set_option maxHeartbeats 4000000 in
theorem d7_r1 (rec : Rec) (N : Nat) (fs : Frm) (s : St) : c7_r1 rec N fs s = D7_r1 rec N fs s := by
  simp (maxSteps := 4000000) only [c7_r1, lenN, x_seq, x_ops, x_skip, x_ret, x_exit, x_cond, x_block, x_loop, ops_c, ops_n, op1_u, op1_gj, rq_c, rq_n, opQ_u, opQ_g, op2_op2, op2_op, op2_s, op2_cond, thenX_n, thenX_e, thenX_r, blkX_n, blkX_r, blkX_e, finX_r, finX_n, res_n, res_t, op_s, Nat.beq_refl, cond_true, q7_g0, q7_g1, sm_bin, sm_box, sm_build, sm_buildslice, sm_bytesstr, sm_compl, sm_conv, sm_eqs, sm_eqv, sm_ext, sm_extract, sm_field, sm_fieldaddr, sm_func, sm_idxaa, sm_idxl, sm_idxs, sm_iface, sm_lenc, sm_lenl, sm_lens, sm_load1, sm_loadn, sm_mm, sm_mov, sm_neg, sm_new, sm_nil, sm_not, sm_pick, sm_same, sm_slices, sm_store]
  first | done | kernel_rfl
def D7 (rec : Rec) (N : Nat) (a0 : Value) (s : St) : Out := opt2 (oMov (.v (.bool false)) rec PT.nil s) fun x1 s =>
 opt2 (rec 8 [] s) fun x2 s =>
 opt2 (oNot (.v x2) rec PT.nil s) fun x3 s =>
 condV x3
 (opt2 (oMov (.v (.bool false)) rec PT.nil s) fun x4 s =>
 some (oneOf [x4], s))
 (opt2 (oMov (.v a0) rec PT.nil s) fun x5 s =>
 opt2 (oLenS (.v x5) rec PT.nil s) fun x6 s =>
 opt2 (oBin (int2 (cmpO gtI)) (.v x6) (.v (.int .i64 2500)) rec PT.nil s) fun x7 s =>
 condV x7
 (opt2 (oMov (.v (.bool true)) rec PT.nil s) fun x8 s =>
 some (oneOf [x8], s))
 (opt2 (oMov (.v a0) rec PT.nil s) fun x9 s =>
 opt2 (rec 9 [x9] s) fun x10 s =>
 opt2 (oMov (.v x10) rec PT.nil s) fun x11 s =>
 opt2 (oExtract (.v x11) 0 rec PT.nil s) fun x12 s =>
 opt2 (oExtract (.v x11) 1 rec PT.nil s) fun x13 s =>
 opt2 (oExtract (.v x11) 2 rec PT.nil s) fun x14 s =>
 opt2 (oMov (.v x12) rec PT.nil s) fun x15 s =>
 opt2 (oMov (.v x13) rec PT.nil s) fun x16 s =>
 opt2 (oMov (.v x14) rec PT.nil s) fun x17 s =>
 opt2 (oMov (.v x17) rec PT.nil s) fun x18 s =>
 opt2 (oBin (int2 (cmpO neI)) (.v x18) (.v (.int .i64 0)) rec PT.nil s) fun x19 s =>
 condV x19
 (opt2 (oMov (.v (.bool true)) rec PT.nil s) fun x20 s =>
 some (oneOf [x20], s))
 (opt2 (oMov (.v (.string ⟨⟨[]⟩⟩)) rec PT.nil s) fun x21 s =>
 opt2 (oMov (.v (.int .i64 0)) rec PT.nil s) fun x22 s =>
 opt2 (loopF (c7_l0 rec N) N (PT.put x22 t7 (PT.put x21 t6 (PT.put x19 t24 (PT.put x18 t23 (PT.put x17 t5 (PT.put x16 t4 (PT.put x15 t3 (PT.put x14 t22 (PT.put x13 t21 (PT.put x12 t20 (PT.put x11 t17 (PT.put x10 t19 (PT.put x9 t18 (PT.put x7 t16 (PT.put x6 t15 (PT.put x5 t14 (PT.put x3 t13 (PT.put x2 t12 (PT.put x1 t2 (PT.put a0 t0 PT.nil)))))))))))))))))))) s) fun e r => opt2 (blkX 0 e r) fun e r => opt2 (thenX (c7_r1 rec N) e r) fun e r => finX [.tmp t2] e r)))
set_option maxHeartbeats 4000000 in
theorem d7 (rec : Rec) (N : Nat) (a0 : Value) (s : St) : callF rec N c7 [a0] s = D7 rec N a0 s := by
  rw [call_f _ _ _ _ _ rfl]
  simp (maxSteps := 4000000) only [c7, lenN, x_seq, x_ops, x_skip, x_ret, x_exit, x_cond, x_block, x_loop, ops_c, ops_n, op1_u, op1_gj, rq_c, rq_n, opQ_u, opQ_g, op2_op2, op2_op, op2_s, op2_cond, thenX_n, thenX_e, thenX_r, blkX_n, blkX_r, blkX_e, finX_r, finX_n, res_n, res_t, op_s, Nat.beq_refl, cond_true, q7_g0, q7_g1, sm_bin, sm_box, sm_build, sm_buildslice, sm_bytesstr, sm_compl, sm_conv, sm_eqs, sm_eqv, sm_ext, sm_extract, sm_field, sm_fieldaddr, sm_func, sm_idxaa, sm_idxl, sm_idxs, sm_iface, sm_lenc, sm_lenl, sm_lens, sm_load1, sm_loadn, sm_mm, sm_mov, sm_neg, sm_new, sm_nil, sm_not, sm_pick, sm_same, sm_slices, sm_store]
  first | done | kernel_rfl
def J7_j2 (rec : Rec) (N : Nat) (k : Value × Value × Value × Value × Value) (s : St) : OutV (Value × Value × Value) := opt2 (oBin (int2 addO) (.v k.2.2.2.2) (.v (.int .i64 1)) rec PT.nil s) fun x1 s =>
 some (.norm, ((k.2.1, k.2.2.2.1, x1), s))
set_option maxHeartbeats 4000000 in
theorem j7_j2 (rec : Rec) (N : Nat) (fs : Frm) (s : St) : opt2 (c7_j2 rec N fs s) (fun e r => some (e, (((orU (r.1.get t2), orU (r.1.get t6), orU (r.1.get t7)), (orU (r.1.get t0), orU (r.1.get t3))), r.2))) = opt2 (J7_j2 rec N (orU (fs.get t0), orU (fs.get t2), orU (fs.get t3), orU (fs.get t6), orU (fs.get t7)) s) fun e r => some (e, ((r.1, (orU (fs.get t0), orU (fs.get t3))), r.2)) := by
  rw [d7_j2]
  unfold D7_j2 J7_j2
  simp (maxSteps := 4000000) only [thenX_n, thenX_e, thenX_r, x_exit, x_skip, x_ret, blkX_n, blkX_r, blkX_e, finX_r, finX_n, res_n, res_t, op2_op2, op2_op, op2_s, op2_cond, op2_bf, mov_v]
  first | done | kernel_rfl
def J7_j1 (rec : Rec) (N : Nat) (k : Value × Value × Value × Value × Value) (s : St) : OutV (Value × Value × Value) := opt2 (oIdxAddrL 4 (.v k.2.2.1) (.v k.2.2.2.2) rec PT.nil s) fun x1 s =>
 opt2 (oFieldAddr 1 (.v x1) rec PT.nil s) fun x2 s =>
 opt2 (oLoad1 (.v x2) rec PT.nil s) fun x3 s =>
 opt2 (oBin (str2 catO) (.v k.2.2.2.1) (.v x3) rec PT.nil s) fun x4 s =>
 opt2 (oBin (str2 catO) (.v x4) (.v (.string ⟨⟨[32]⟩⟩)) rec PT.nil s) fun x5 s =>
 J7_j2 rec N (k.1, k.2.1, k.2.2.1, x5, k.2.2.2.2) s
set_option maxHeartbeats 4000000 in
theorem j7_j1 (rec : Rec) (N : Nat) (fs : Frm) (s : St) : opt2 (c7_j1 rec N fs s) (fun e r => opt2 (blkX 1 e r) fun e r => opt2 (thenX (c7_j2 rec N) e r) fun e r => some (e, (((orU (r.1.get t2), orU (r.1.get t6), orU (r.1.get t7)), (orU (r.1.get t0), orU (r.1.get t3))), r.2))) = opt2 (J7_j1 rec N (orU (fs.get t0), orU (fs.get t2), orU (fs.get t3), orU (fs.get t6), orU (fs.get t7)) s) fun e r => some (e, ((r.1, (orU (fs.get t0), orU (fs.get t3))), r.2)) := by
  rw [d7_j1]
  unfold D7_j1 J7_j1
  simp (maxSteps := 4000000) only [thenX_n, thenX_e, thenX_r, x_exit, x_skip, x_ret, blkX_n, blkX_r, blkX_e, finX_r, finX_n, res_n, res_t, op2_op2, op2_op, op2_s, op2_cond, op2_bf, mov_v, j7_j2 rec N]
  first | done | kernel_rfl
def J7_j0 (rec : Rec) (N : Nat) (k : Value × Value × Value × Value × Value × Value) (s : St) : OutV (Value × Value × Value) := condV k.2.2.2.2.2
 (some (.ret, (((.bool false), k.2.2.2.1, k.2.2.2.2.1), s)))
 (J7_j1 rec N (k.1, k.2.1, k.2.2.1, k.2.2.2.1, k.2.2.2.2.1) s)
set_option maxHeartbeats 4000000 in
theorem j7_j0 (rec : Rec) (N : Nat) (fs : Frm) (s : St) : opt2 (c7_j0 rec N fs s) (fun e r => opt2 (thenX (c7_j1 rec N) e r) fun e r => opt2 (blkX 1 e r) fun e r => opt2 (thenX (c7_j2 rec N) e r) fun e r => some (e, (((orU (r.1.get t2), orU (r.1.get t6), orU (r.1.get t7)), (orU (r.1.get t0), orU (r.1.get t3))), r.2))) = opt2 (J7_j0 rec N (orU (fs.get t0), orU (fs.get t2), orU (fs.get t3), orU (fs.get t6), orU (fs.get t7), orU (fs.get t80)) s) fun e r => some (e, ((r.1, (orU (fs.get t0), orU (fs.get t3))), r.2)) := by
  rw [d7_j0]
  unfold D7_j0 J7_j0
  simp (maxSteps := 4000000) only [thenX_n, thenX_e, thenX_r, x_exit, x_skip, x_ret, blkX_n, blkX_r, blkX_e, finX_r, finX_n, res_n, res_t, op2_op2, op2_op, op2_s, op2_cond, op2_bf, mov_v, j7_j1 rec N]
  first | done | kernel_rfl
def Q7_q0 (rec : Rec) (N : Nat) (k : Value × Value × Value × Value × Value × Value × Value × Value × Value) (s : St) : OutV (Value × Value × Value) := opt (gval false k.2.2.2.2.2.1) fun x1 => opt2 (orUndef x1 (oSliceS (.v k.2.2.2.2.2.2.1) (some (.v k.2.2.2.2.2.2.2.1)) (some (.v k.2.2.2.2.2.2.2.2)) rec PT.nil s) s) fun x2 s =>
 opt (gval false k.2.2.2.2.2.1) fun x3 => opt2 (orUndef x3 (some (k.2.2.1, s)) s) fun x4 s =>
 opt (gval false k.2.2.2.2.2.1) fun x5 => opt2 (orUndef x5 (some (k.2.2.2.2.1, s)) s) fun x6 s =>
 opt (gval false k.2.2.2.2.2.1) fun x7 => opt2 (orUndef x7 (oIdxAddrL 4 (.v x4) (.v x6) rec PT.nil s) s) fun x8 s =>
 opt (gval false k.2.2.2.2.2.1) fun x9 => opt2 (orUndef x9 (oFieldAddr 1 (.v x8) rec PT.nil s) s) fun x10 s =>
 opt (gval false k.2.2.2.2.2.1) fun x11 => opt2 (orUndef x11 (oLoad1 (.v x10) rec PT.nil s) s) fun x12 s =>
 opt (gval false k.2.2.2.2.2.1) fun x13 => opt2 (orUndef x13 (oBin (str2 (cmpS neBytes)) (.v x2) (.v x12) rec PT.nil s) s) fun x14 s =>
 opt2 (oPick (.v k.2.2.2.2.2.1) (.v (.bool true)) (.v x14) rec PT.nil s) fun x15 s =>
 J7_j0 rec N (k.1, k.2.1, k.2.2.1, k.2.2.2.1, k.2.2.2.2.1, x15) s
set_option maxHeartbeats 4000000 in
theorem j7_q0 (rec : Rec) (N : Nat) (fs : Frm) (s : St) : opt2 (runQ rec c7_q0 fs s) (fun fs s => opt2 (c7_j0 rec N fs s) fun e r => opt2 (thenX (c7_j1 rec N) e r) fun e r => opt2 (blkX 1 e r) fun e r => opt2 (thenX (c7_j2 rec N) e r) fun e r => some (e, (((orU (r.1.get t2), orU (r.1.get t6), orU (r.1.get t7)), (orU (r.1.get t0), orU (r.1.get t3))), r.2))) = opt2 (Q7_q0 rec N (orU (fs.get t0), orU (fs.get t2), orU (fs.get t3), orU (fs.get t6), orU (fs.get t7), orU (fs.get t54), orU (fs.get t55), orU (fs.get t60), orU (fs.get t72)) s) fun e r => some (e, ((r.1, (orU (fs.get t0), orU (fs.get t3))), r.2)) := by
  rw [d7_q0]
  unfold D7_q0 Q7_q0
  simp (maxSteps := 4000000) only [thenX_n, thenX_e, thenX_r, x_exit, x_skip, x_ret, blkX_n, blkX_r, blkX_e, finX_r, finX_n, res_n, res_t, op2_op2, op2_op, op2_s, op2_cond, op2_bf, mov_v, j7_j0 rec N]
  first | done | kernel_rfl
def Q7_q1 (rec : Rec) (N : Nat) (k : Value × Value × Value × Value × Value × Value × Value × Value) (s : St) : OutV (Value × Value × Value) := opt (gval false k.2.2.2.2.2.1) fun x1 => opt2 (orUndef x1 (oFieldAddr 3 (.v k.2.2.2.2.2.2.2) rec PT.nil s) s) fun x2 s =>
 opt (gval false k.2.2.2.2.2.1) fun x3 => opt2 (orUndef x3 (oLoad1 (.v x2) rec PT.nil s) s) fun x4 s =>
 opt (gval false k.2.2.2.2.2.1) fun x5 => opt2 (orUndef x5 (some (k.2.2.1, s)) s) fun x6 s =>
 opt (gval false k.2.2.2.2.2.1) fun x7 => opt2 (orUndef x7 (some (k.2.2.2.2.1, s)) s) fun x8 s =>
 opt (gval false k.2.2.2.2.2.1) fun x9 => opt2 (orUndef x9 (oIdxAddrL 4 (.v x6) (.v x8) rec PT.nil s) s) fun x10 s =>
 opt (gval false k.2.2.2.2.2.1) fun x11 => opt2 (orUndef x11 (oFieldAddr 3 (.v x10) rec PT.nil s) s) fun x12 s =>
 opt (gval false k.2.2.2.2.2.1) fun x13 => opt2 (orUndef x13 (oLoad1 (.v x12) rec PT.nil s) s) fun x14 s =>
 opt (gval false k.2.2.2.2.2.1) fun x15 => opt2 (orUndef x15 (some (k.2.2.1, s)) s) fun x16 s =>
 opt (gval false k.2.2.2.2.2.1) fun x17 => opt2 (orUndef x17 (some (k.2.2.2.2.1, s)) s) fun x18 s =>
 opt (gval false k.2.2.2.2.2.1) fun x19 => opt2 (orUndef x19 (oIdxAddrL 4 (.v x16) (.v x18) rec PT.nil s) s) fun x20 s =>
 opt (gval false k.2.2.2.2.2.1) fun x21 => opt2 (orUndef x21 (oFieldAddr 1 (.v x20) rec PT.nil s) s) fun x22 s =>
 opt (gval false k.2.2.2.2.2.1) fun x23 => opt2 (orUndef x23 (oLoad1 (.v x22) rec PT.nil s) s) fun x24 s =>
 opt (gval false k.2.2.2.2.2.1) fun x25 => opt2 (orUndef x25 (oLenS (.v x24) rec PT.nil s) s) fun x26 s =>
 opt (gval false k.2.2.2.2.2.1) fun x27 => opt2 (orUndef x27 (oBin (int2 addO) (.v x14) (.v x26) rec PT.nil s) s) fun x28 s =>
 Q7_q0 rec N (k.1, k.2.1, k.2.2.1, k.2.2.2.1, k.2.2.2.2.1, k.2.2.2.2.2.1, k.2.2.2.2.2.2.1, x4, x28) s
set_option maxHeartbeats 4000000 in
theorem j7_q1 (rec : Rec) (N : Nat) (fs : Frm) (s : St) : opt2 (runQ rec c7_q1 fs s) (fun fs s => opt2 (c7_j0 rec N fs s) fun e r => opt2 (thenX (c7_j1 rec N) e r) fun e r => opt2 (blkX 1 e r) fun e r => opt2 (thenX (c7_j2 rec N) e r) fun e r => some (e, (((orU (r.1.get t2), orU (r.1.get t6), orU (r.1.get t7)), (orU (r.1.get t0), orU (r.1.get t3))), r.2))) = opt2 (Q7_q1 rec N (orU (fs.get t0), orU (fs.get t2), orU (fs.get t3), orU (fs.get t6), orU (fs.get t7), orU (fs.get t54), orU (fs.get t55), orU (fs.get t58)) s) fun e r => some (e, ((r.1, (orU (fs.get t0), orU (fs.get t3))), r.2)) := by
  rw [d7_q1]
  unfold D7_q1 Q7_q1
  simp (maxSteps := 4000000) only [thenX_n, thenX_e, thenX_r, x_exit, x_skip, x_ret, blkX_n, blkX_r, blkX_e, finX_r, finX_n, res_n, res_t, op2_op2, op2_op, op2_s, op2_cond, op2_bf, mov_v, j7_q0 rec N]
  first | done | kernel_rfl
def Q7_q2 (rec : Rec) (N : Nat) (k : Value × Value × Value × Value × Value × Value × Value × Value) (s : St) : OutV (Value × Value × Value) := opt (gval false k.2.2.2.2.2.1) fun x1 => opt2 (orUndef x1 (some (k.2.2.1, s)) s) fun x2 s =>
 opt (gval false k.2.2.2.2.2.1) fun x3 => opt2 (orUndef x3 (some (k.2.2.2.2.1, s)) s) fun x4 s =>
 opt (gval false k.2.2.2.2.2.1) fun x5 => opt2 (orUndef x5 (oIdxAddrL 4 (.v x2) (.v x4) rec PT.nil s) s) fun x6 s =>
 opt (gval false k.2.2.2.2.2.1) fun x7 => opt2 (orUndef x7 (oFieldAddr 1 (.v x6) rec PT.nil s) s) fun x8 s =>
 opt (gval false k.2.2.2.2.2.1) fun x9 => opt2 (orUndef x9 (oLoad1 (.v x8) rec PT.nil s) s) fun x10 s =>
 opt (gval false k.2.2.2.2.2.1) fun x11 => opt2 (orUndef x11 (oLenS (.v x10) rec PT.nil s) s) fun x12 s =>
 opt (gval false k.2.2.2.2.2.1) fun x13 => opt2 (orUndef x13 (oBin (int2 subO) (.v k.2.2.2.2.2.2.2) (.v x12) rec PT.nil s) s) fun x14 s =>
 opt (gval false k.2.2.2.2.2.1) fun x15 => opt2 (orUndef x15 (oBin (int2 (cmpO gtI)) (.v k.2.2.2.2.2.2.1) (.v x14) rec PT.nil s) s) fun x16 s =>
 opt2 (oPick (.v k.2.2.2.2.2.1) (.v (.bool true)) (.v x16) rec PT.nil s) fun x17 s =>
 opt (gval false x17) fun x18 => opt2 (orUndef x18 (some (k.1, s)) s) fun x19 s =>
 opt (gval false x17) fun x20 => opt2 (orUndef x20 (some (k.2.2.1, s)) s) fun x21 s =>
 opt (gval false x17) fun x22 => opt2 (orUndef x22 (some (k.2.2.2.2.1, s)) s) fun x23 s =>
 opt (gval false x17) fun x24 => opt2 (orUndef x24 (oIdxAddrL 4 (.v x21) (.v x23) rec PT.nil s) s) fun x25 s =>
 Q7_q1 rec N (k.1, k.2.1, k.2.2.1, k.2.2.2.1, k.2.2.2.2.1, x17, x19, x25) s
set_option maxHeartbeats 4000000 in
theorem j7_q2 (rec : Rec) (N : Nat) (fs : Frm) (s : St) : opt2 (runQ rec c7_q2 fs s) (fun fs s => opt2 (c7_j0 rec N fs s) fun e r => opt2 (thenX (c7_j1 rec N) e r) fun e r => opt2 (blkX 1 e r) fun e r => opt2 (thenX (c7_j2 rec N) e r) fun e r => some (e, (((orU (r.1.get t2), orU (r.1.get t6), orU (r.1.get t7)), (orU (r.1.get t0), orU (r.1.get t3))), r.2))) = opt2 (Q7_q2 rec N (orU (fs.get t0), orU (fs.get t2), orU (fs.get t3), orU (fs.get t6), orU (fs.get t7), orU (fs.get t37), orU (fs.get t42), orU (fs.get t44)) s) fun e r => some (e, ((r.1, (orU (fs.get t0), orU (fs.get t3))), r.2)) := by
  rw [d7_q2]
  unfold D7_q2 Q7_q2
  simp (maxSteps := 4000000) only [thenX_n, thenX_e, thenX_r, x_exit, x_skip, x_ret, blkX_n, blkX_r, blkX_e, finX_r, finX_n, res_n, res_t, op2_op2, op2_op, op2_s, op2_cond, op2_bf, mov_v, j7_q1 rec N]
  first | done | kernel_rfl
def J7_j4 (rec : Rec) (N : Nat) (k : Value × Value × Value × Value) (s : St) : OutV (Value × Value) := opt2 (oBin (int2 addO) (.v k.2.2.2) (.v (.int .i64 1)) rec PT.nil s) fun x1 s =>
 some (.norm, ((k.1, x1), s))
set_option maxHeartbeats 4000000 in
theorem j7_j4 (rec : Rec) (N : Nat) (fs : Frm) (s : St) : opt2 (c7_j4 rec N fs s) (fun e r => some (e, (((orU (r.1.get t2), orU (r.1.get t11)), (orU (r.1.get t3), orU (r.1.get t8))), r.2))) = opt2 (J7_j4 rec N (orU (fs.get t2), orU (fs.get t3), orU (fs.get t8), orU (fs.get t11)) s) fun e r => some (e, ((r.1, (orU (fs.get t3), orU (fs.get t8))), r.2)) := by
  rw [d7_j4]
  unfold D7_j4 J7_j4
  simp (maxSteps := 4000000) only [thenX_n, thenX_e, thenX_r, x_exit, x_skip, x_ret, blkX_n, blkX_r, blkX_e, finX_r, finX_n, res_n, res_t, op2_op2, op2_op, op2_s, op2_cond, op2_bf, mov_v]
  first | done | kernel_rfl
def J7_j3 (rec : Rec) (N : Nat) (k : Value × Value × Value × Value × Value) (s : St) : OutV (Value × Value) := condV k.2.2.2.2
 (some (.ret, (((.bool false), k.2.2.2.1), s)))
 (J7_j4 rec N (k.1, k.2.1, k.2.2.1, k.2.2.2.1) s)
set_option maxHeartbeats 4000000 in
theorem j7_j3 (rec : Rec) (N : Nat) (fs : Frm) (s : St) : opt2 (c7_j3 rec N fs s) (fun e r => opt2 (blkX 3 e r) fun e r => opt2 (thenX (c7_j4 rec N) e r) fun e r => some (e, (((orU (r.1.get t2), orU (r.1.get t11)), (orU (r.1.get t3), orU (r.1.get t8))), r.2))) = opt2 (J7_j3 rec N (orU (fs.get t2), orU (fs.get t3), orU (fs.get t8), orU (fs.get t11), orU (fs.get t146)) s) fun e r => some (e, ((r.1, (orU (fs.get t3), orU (fs.get t8))), r.2)) := by
  rw [d7_j3]
  unfold D7_j3 J7_j3
  simp (maxSteps := 4000000) only [thenX_n, thenX_e, thenX_r, x_exit, x_skip, x_ret, blkX_n, blkX_r, blkX_e, finX_r, finX_n, res_n, res_t, op2_op2, op2_op, op2_s, op2_cond, op2_bf, mov_v, j7_j4 rec N]
  first | done | kernel_rfl
def Q7_q3 (rec : Rec) (N : Nat) (k : Value × Value × Value × Value × Value × Value) (s : St) : OutV (Value × Value) := opt (gval false k.2.2.2.2.1) fun x1 => opt2 (orUndef x1 (oFieldAddr 2 (.v k.2.2.2.2.2) rec PT.nil s) s) fun x2 s =>
 opt (gval false k.2.2.2.2.1) fun x3 => opt2 (orUndef x3 (oLoad1 (.v x2) rec PT.nil s) s) fun x4 s =>
 opt (gval false k.2.2.2.2.1) fun x5 => opt2 (orUndef x5 (some (k.2.1, s)) s) fun x6 s =>
 opt (gval false k.2.2.2.2.1) fun x7 => opt2 (orUndef x7 (some (k.2.2.2.1, s)) s) fun x8 s =>
 opt (gval false k.2.2.2.2.1) fun x9 => opt2 (orUndef x9 (oIdxAddrL 4 (.v x6) (.v x8) rec PT.nil s) s) fun x10 s =>
 opt (gval false k.2.2.2.2.1) fun x11 => opt2 (orUndef x11 (oFieldAddr 2 (.v x10) rec PT.nil s) s) fun x12 s =>
 opt (gval false k.2.2.2.2.1) fun x13 => opt2 (orUndef x13 (oLoad1 (.v x12) rec PT.nil s) s) fun x14 s =>
 opt (gval false k.2.2.2.2.1) fun x15 => opt2 (orUndef x15 (oBin (int2 (cmpO neI)) (.v x4) (.v x14) rec PT.nil s) s) fun x16 s =>
 opt2 (oPick (.v k.2.2.2.2.1) (.v (.bool true)) (.v x16) rec PT.nil s) fun x17 s =>
 J7_j3 rec N (k.1, k.2.1, k.2.2.1, k.2.2.2.1, x17) s
set_option maxHeartbeats 4000000 in
theorem j7_q3 (rec : Rec) (N : Nat) (fs : Frm) (s : St) : opt2 (runQ rec c7_q3 fs s) (fun fs s => opt2 (c7_j3 rec N fs s) fun e r => opt2 (blkX 3 e r) fun e r => opt2 (thenX (c7_j4 rec N) e r) fun e r => some (e, (((orU (r.1.get t2), orU (r.1.get t11)), (orU (r.1.get t3), orU (r.1.get t8))), r.2))) = opt2 (Q7_q3 rec N (orU (fs.get t2), orU (fs.get t3), orU (fs.get t8), orU (fs.get t11), orU (fs.get t134), orU (fs.get t137)) s) fun e r => some (e, ((r.1, (orU (fs.get t3), orU (fs.get t8))), r.2)) := by
  rw [d7_q3]
  unfold D7_q3 Q7_q3
  simp (maxSteps := 4000000) only [thenX_n, thenX_e, thenX_r, x_exit, x_skip, x_ret, blkX_n, blkX_r, blkX_e, finX_r, finX_n, res_n, res_t, op2_op2, op2_op, op2_s, op2_cond, op2_bf, mov_v, j7_j3 rec N]
  first | done | kernel_rfl
def Q7_q4 (rec : Rec) (N : Nat) (k : Value × Value × Value × Value × Value × Value × Value) (s : St) : OutV (Value × Value) := opt (gval false k.2.2.2.2.1) fun x1 => opt2 (orUndef x1 (oIdxAddrL 4 (.v k.2.2.2.2.2.1) (.v k.2.2.2.2.2.2) rec PT.nil s) s) fun x2 s =>
 opt (gval false k.2.2.2.2.1) fun x3 => opt2 (orUndef x3 (oFieldAddr 1 (.v x2) rec PT.nil s) s) fun x4 s =>
 opt (gval false k.2.2.2.2.1) fun x5 => opt2 (orUndef x5 (oLoad1 (.v x4) rec PT.nil s) s) fun x6 s =>
 opt (gval false k.2.2.2.2.1) fun x7 => opt2 (orUndef x7 (some (k.2.1, s)) s) fun x8 s =>
 opt (gval false k.2.2.2.2.1) fun x9 => opt2 (orUndef x9 (some (k.2.2.2.1, s)) s) fun x10 s =>
 opt (gval false k.2.2.2.2.1) fun x11 => opt2 (orUndef x11 (oIdxAddrL 4 (.v x8) (.v x10) rec PT.nil s) s) fun x12 s =>
 opt (gval false k.2.2.2.2.1) fun x13 => opt2 (orUndef x13 (oFieldAddr 1 (.v x12) rec PT.nil s) s) fun x14 s =>
 opt (gval false k.2.2.2.2.1) fun x15 => opt2 (orUndef x15 (oLoad1 (.v x14) rec PT.nil s) s) fun x16 s =>
 opt (gval false k.2.2.2.2.1) fun x17 => opt2 (orUndef x17 (oBin (str2 (cmpS neBytes)) (.v x6) (.v x16) rec PT.nil s) s) fun x18 s =>
 opt2 (oPick (.v k.2.2.2.2.1) (.v (.bool true)) (.v x18) rec PT.nil s) fun x19 s =>
 opt (gval false x19) fun x20 => opt2 (orUndef x20 (some (k.2.2.1, s)) s) fun x21 s =>
 opt (gval false x19) fun x22 => opt2 (orUndef x22 (some (k.2.2.2.1, s)) s) fun x23 s =>
 opt (gval false x19) fun x24 => opt2 (orUndef x24 (oIdxAddrL 4 (.v x21) (.v x23) rec PT.nil s) s) fun x25 s =>
 Q7_q3 rec N (k.1, k.2.1, k.2.2.1, k.2.2.2.1, x19, x25) s
set_option maxHeartbeats 4000000 in
theorem j7_q4 (rec : Rec) (N : Nat) (fs : Frm) (s : St) : opt2 (runQ rec c7_q4 fs s) (fun fs s => opt2 (c7_j3 rec N fs s) fun e r => opt2 (blkX 3 e r) fun e r => opt2 (thenX (c7_j4 rec N) e r) fun e r => some (e, (((orU (r.1.get t2), orU (r.1.get t11)), (orU (r.1.get t3), orU (r.1.get t8))), r.2))) = opt2 (Q7_q4 rec N (orU (fs.get t2), orU (fs.get t3), orU (fs.get t8), orU (fs.get t11), orU (fs.get t121), orU (fs.get t122), orU (fs.get t123)) s) fun e r => some (e, ((r.1, (orU (fs.get t3), orU (fs.get t8))), r.2)) := by
  rw [d7_q4]
  unfold D7_q4 Q7_q4
  simp (maxSteps := 4000000) only [thenX_n, thenX_e, thenX_r, x_exit, x_skip, x_ret, blkX_n, blkX_r, blkX_e, finX_r, finX_n, res_n, res_t, op2_op2, op2_op, op2_s, op2_cond, op2_bf, mov_v, j7_q3 rec N]
  first | done | kernel_rfl
def J7_r0 (rec : Rec) (N : Nat) (k : Unit) (s : St) : Out := some (oneOf [(.bool true)], s)
set_option maxHeartbeats 4000000 in
theorem j7_r0 (rec : Rec) (N : Nat) (fs : Frm) (s : St) : opt2 (c7_r0 rec N fs s) (fun e r => finX [.tmp t2] e r) = J7_r0 rec N () s := by
  rw [d7_r0]
  unfold D7_r0 J7_r0
  simp (maxSteps := 4000000) only [thenX_n, thenX_e, thenX_r, x_exit, x_skip, x_ret, blkX_n, blkX_r, blkX_e, finX_r, finX_n, res_n, res_t, op2_op2, op2_op, op2_s, op2_cond, op2_bf, mov_v]
  first | done | kernel_rfl
def B7_l1 (rec : Rec) (N : Nat) (k : Value × Value) (v : Value × Value) (s : St) : OutV (Value × Value) := opt2 (oLenL (.v k.1) rec PT.nil s) fun x1 s =>
 opt2 (oBin (int2 (cmpO ltI)) (.v v.2) (.v x1) rec PT.nil s) fun x2 s =>
 condV x2
 (opt2 (oIdxAddrL 4 (.v k.2) (.v v.2) rec PT.nil s) fun x3 s =>
 opt2 (oFieldAddr 0 (.v x3) rec PT.nil s) fun x4 s =>
 opt2 (oLoad1 (.v x4) rec PT.nil s) fun x5 s =>
 opt2 (oIdxAddrL 4 (.v k.1) (.v v.2) rec PT.nil s) fun x6 s =>
 opt2 (oFieldAddr 0 (.v x6) rec PT.nil s) fun x7 s =>
 opt2 (oLoad1 (.v x7) rec PT.nil s) fun x8 s =>
 opt2 (oBin (int2 (cmpO neI)) (.v x5) (.v x8) rec PT.nil s) fun x9 s =>
 opt (gval false x9) fun x10 => opt2 (orUndef x10 (some (k.2, s)) s) fun x11 s =>
 opt (gval false x9) fun x12 => opt2 (orUndef x12 (some (v.2, s)) s) fun x13 s =>
 Q7_q4 rec N (v.1, k.1, k.2, v.2, x9, x11, x13) s)
 (some ((.exit 2), ((v.1, v.2), s)))
set_option maxHeartbeats 4000000 in
theorem s7_l1 (rec : Rec) (N : Nat) (fs : Frm) (s : St) : opt2 (c7_l1 rec N fs s) (fun e r => some (e, (((orU (r.1.get t2), orU (r.1.get t11)), (orU (r.1.get t3), orU (r.1.get t8))), r.2))) = opt2 (B7_l1 rec N (orU (fs.get t3), orU (fs.get t8)) (orU (fs.get t2), orU (fs.get t11)) s) fun e r => some (e, ((r.1, (orU (fs.get t3), orU (fs.get t8))), r.2)) := by
  rw [d7_l1]
  unfold D7_l1 B7_l1
  simp (maxSteps := 4000000) only [op2_op2, op2_op, op2_s, op2_cond, op2_bf, mov_v, j7_q4 rec N]
  first | done | kernel_rfl
def C7_l1 (rec : Rec) (N : Nat) (k : Value × Value) (e : AExit) (r : (Value × Value) × St) : Out := (fun s => exV (fun i => bif Nat.beq i 2 then (J7_r0 rec N () s)
 else (none))
 (some (oneOf [r.1.1], s)) e) r.2
theorem j7_l1 (rec : Rec) (N : Nat) (fs : Frm) (s : St) : opt2 (loopF (c7_l1 rec N) N fs s) (fun e r => opt2 (blkX 2 e r) fun e r => opt2 (thenX (c7_r0 rec N) e r) fun e r => finX [.tmp t2] e r) = opt2 (loopV (B7_l1 rec N (orU (fs.get t3), orU (fs.get t8))) N (orU (fs.get t2), orU (fs.get t11)) s) (C7_l1 rec N (orU (fs.get t3), orU (fs.get t8))) := by
  refine loop_j (fun fs => (orU (fs.get t2), orU (fs.get t11))) (fun fs => (orU (fs.get t3), orU (fs.get t8))) (B7_l1 rec N) (c7_l1 rec N) (s7_l1 rec N) (fun e r => opt2 (blkX 2 e r) fun e r => opt2 (thenX (c7_r0 rec N) e r) fun e r => finX [.tmp t2] e r) (C7_l1 rec N) ?_ ?_ N fs s
  · intro i fs s
    unfold C7_l1
    simp (maxSteps := 4000000) only [thenX_n, thenX_e, thenX_r, x_exit, x_skip, x_ret, blkX_n, blkX_r, blkX_e, finX_r, finX_n, res_n, res_t, exV_e, exV_r, op2_op2, op2_op, op2_s, op2_cond, op2_bf, mov_v, j7_r0 rec N]
    first | done | kernel_rfl
  · intro fs s
    unfold C7_l1
    simp (maxSteps := 4000000) only [thenX_n, thenX_e, thenX_r, x_exit, x_skip, x_ret, blkX_n, blkX_r, blkX_e, finX_r, finX_n, res_n, res_t, exV_e, exV_r, op2_op2, op2_op, op2_s, op2_cond, op2_bf, mov_v, j7_r0 rec N]
    first | done | kernel_rfl
def J7_r1 (rec : Rec) (N : Nat) (k : Value × Value × Value) (s : St) : Out := opt2 (rec 9 [k.2.2] s) fun x1 s =>
 opt2 (oExtract (.v x1) 0 rec PT.nil s) fun x2 s =>
 opt2 (oExtract (.v x1) 1 rec PT.nil s) fun x3 s =>
 opt2 (oExtract (.v x1) 2 rec PT.nil s) fun x4 s =>
 opt2 (oBin (int2 (cmpO neI)) (.v x4) (.v (.int .i64 0)) rec PT.nil s) fun x5 s =>
 opt (gval false x5) fun x6 => opt2 (orUndef x6 (some (x2, s)) s) fun x7 s =>
 opt (gval false x5) fun x8 => opt2 (orUndef x8 (oLenL (.v x7) rec PT.nil s) s) fun x9 s =>
 opt (gval false x5) fun x10 => opt2 (orUndef x10 (some (k.2.1, s)) s) fun x11 s =>
 opt (gval false x5) fun x12 => opt2 (orUndef x12 (oLenL (.v x11) rec PT.nil s) s) fun x13 s =>
 opt (gval false x5) fun x14 => opt2 (orUndef x14 (oBin (int2 (cmpO neI)) (.v x9) (.v x13) rec PT.nil s) s) fun x15 s =>
 opt2 (oPick (.v x5) (.v (.bool true)) (.v x15) rec PT.nil s) fun x16 s =>
 condV x16
 (some (oneOf [(.bool false)], s))
 (opt2 (loopV (B7_l1 rec N (k.2.1, x2)) N (k.1, (.int .i64 0)) s) (C7_l1 rec N (k.2.1, x2)))
set_option maxHeartbeats 4000000 in
theorem j7_r1 (rec : Rec) (N : Nat) (fs : Frm) (s : St) : opt2 (c7_r1 rec N fs s) (fun e r => finX [.tmp t2] e r) = J7_r1 rec N (orU (fs.get t2), orU (fs.get t3), orU (fs.get t6)) s := by
  rw [d7_r1]
  unfold D7_r1 J7_r1
  simp (maxSteps := 4000000) only [thenX_n, thenX_e, thenX_r, x_exit, x_skip, x_ret, blkX_n, blkX_r, blkX_e, finX_r, finX_n, res_n, res_t, op2_op2, op2_op, op2_s, op2_cond, op2_bf, mov_v, j7_l1 rec N]
  first | done | kernel_rfl
def B7_l0 (rec : Rec) (N : Nat) (k : Value × Value) (v : Value × Value × Value) (s : St) : OutV (Value × Value × Value) := opt2 (oLenL (.v k.2) rec PT.nil s) fun x1 s =>
 opt2 (oBin (int2 (cmpO ltI)) (.v v.2.2) (.v x1) rec PT.nil s) fun x2 s =>
 condV x2
 (opt2 (oIdxAddrL 4 (.v k.2) (.v v.2.2) rec PT.nil s) fun x3 s =>
 opt2 (oFieldAddr 3 (.v x3) rec PT.nil s) fun x4 s =>
 opt2 (oLoad1 (.v x4) rec PT.nil s) fun x5 s =>
 opt2 (oBin (int2 (cmpO ltI)) (.v x5) (.v (.int .i64 0)) rec PT.nil s) fun x6 s =>
 opt (gval false x6) fun x7 => opt2 (orUndef x7 (some (k.2, s)) s) fun x8 s =>
 opt (gval false x6) fun x9 => opt2 (orUndef x9 (some (v.2.2, s)) s) fun x10 s =>
 opt (gval false x6) fun x11 => opt2 (orUndef x11 (oIdxAddrL 4 (.v x8) (.v x10) rec PT.nil s) s) fun x12 s =>
 opt (gval false x6) fun x13 => opt2 (orUndef x13 (oFieldAddr 3 (.v x12) rec PT.nil s) s) fun x14 s =>
 opt (gval false x6) fun x15 => opt2 (orUndef x15 (oLoad1 (.v x14) rec PT.nil s) s) fun x16 s =>
 opt (gval false x6) fun x17 => opt2 (orUndef x17 (some (k.1, s)) s) fun x18 s =>
 opt (gval false x6) fun x19 => opt2 (orUndef x19 (oLenS (.v x18) rec PT.nil s) s) fun x20 s =>
 Q7_q2 rec N (k.1, v.1, k.2, v.2.1, v.2.2, x6, x16, x20) s)
 (some ((.exit 0), ((v.1, v.2.1, v.2.2), s)))
set_option maxHeartbeats 4000000 in
theorem s7_l0 (rec : Rec) (N : Nat) (fs : Frm) (s : St) : opt2 (c7_l0 rec N fs s) (fun e r => some (e, (((orU (r.1.get t2), orU (r.1.get t6), orU (r.1.get t7)), (orU (r.1.get t0), orU (r.1.get t3))), r.2))) = opt2 (B7_l0 rec N (orU (fs.get t0), orU (fs.get t3)) (orU (fs.get t2), orU (fs.get t6), orU (fs.get t7)) s) fun e r => some (e, ((r.1, (orU (fs.get t0), orU (fs.get t3))), r.2)) := by
  rw [d7_l0]
  unfold D7_l0 B7_l0
  simp (maxSteps := 4000000) only [op2_op2, op2_op, op2_s, op2_cond, op2_bf, mov_v, j7_q2 rec N]
  first | done | kernel_rfl
def C7_l0 (rec : Rec) (N : Nat) (k : Value × Value) (e : AExit) (r : (Value × Value × Value) × St) : Out := (fun s => exV (fun i => bif Nat.beq i 0 then (J7_r1 rec N (r.1.1, k.2, r.1.2.1) s)
 else (none))
 (some (oneOf [r.1.1], s)) e) r.2
theorem j7_l0 (rec : Rec) (N : Nat) (fs : Frm) (s : St) : opt2 (loopF (c7_l0 rec N) N fs s) (fun e r => opt2 (blkX 0 e r) fun e r => opt2 (thenX (c7_r1 rec N) e r) fun e r => finX [.tmp t2] e r) = opt2 (loopV (B7_l0 rec N (orU (fs.get t0), orU (fs.get t3))) N (orU (fs.get t2), orU (fs.get t6), orU (fs.get t7)) s) (C7_l0 rec N (orU (fs.get t0), orU (fs.get t3))) := by
  refine loop_j (fun fs => (orU (fs.get t2), orU (fs.get t6), orU (fs.get t7))) (fun fs => (orU (fs.get t0), orU (fs.get t3))) (B7_l0 rec N) (c7_l0 rec N) (s7_l0 rec N) (fun e r => opt2 (blkX 0 e r) fun e r => opt2 (thenX (c7_r1 rec N) e r) fun e r => finX [.tmp t2] e r) (C7_l0 rec N) ?_ ?_ N fs s
  · intro i fs s
    unfold C7_l0
    simp (maxSteps := 4000000) only [thenX_n, thenX_e, thenX_r, x_exit, x_skip, x_ret, blkX_n, blkX_r, blkX_e, finX_r, finX_n, res_n, res_t, exV_e, exV_r, op2_op2, op2_op, op2_s, op2_cond, op2_bf, mov_v, j7_r1 rec N]
    first | done | kernel_rfl
  · intro fs s
    unfold C7_l0
    simp (maxSteps := 4000000) only [thenX_n, thenX_e, thenX_r, x_exit, x_skip, x_ret, blkX_n, blkX_r, blkX_e, finX_r, finX_n, res_n, res_t, exV_e, exV_r, op2_op2, op2_op, op2_s, op2_cond, op2_bf, mov_v, j7_r1 rec N]
    first | done | kernel_rfl
def F7 (rec : Rec) (N : Nat) (a0 : Value) (s : St) : Out := opt2 (rec 8 [] s) fun x1 s =>
 opt2 (oNot (.v x1) rec PT.nil s) fun x2 s =>
 condV x2
 (some (oneOf [(.bool false)], s))
 (opt2 (oLenS (.v a0) rec PT.nil s) fun x3 s =>
 opt2 (oBin (int2 (cmpO gtI)) (.v x3) (.v (.int .i64 2500)) rec PT.nil s) fun x4 s =>
 condV x4
 (some (oneOf [(.bool true)], s))
 (opt2 (rec 9 [a0] s) fun x5 s =>
 opt2 (oExtract (.v x5) 0 rec PT.nil s) fun x6 s =>
 opt2 (oExtract (.v x5) 1 rec PT.nil s) fun x7 s =>
 opt2 (oExtract (.v x5) 2 rec PT.nil s) fun x8 s =>
 opt2 (oBin (int2 (cmpO neI)) (.v x8) (.v (.int .i64 0)) rec PT.nil s) fun x9 s =>
 condV x9
 (some (oneOf [(.bool true)], s))
 (opt2 (loopV (B7_l0 rec N (a0, x6)) N ((.bool false), (.string ⟨⟨[]⟩⟩), (.int .i64 0)) s) (C7_l0 rec N (a0, x6)))))
theorem f7 (rec : Rec) (N : Nat) (a0 : Value) (s : St) : callF rec N c7 [a0] s = F7 rec N a0 s := by
  rw [d7]
  unfold D7 F7
  simp (maxSteps := 4000000) only [mov_v, op2_s, j7_l0 rec N]
  first | done | kernel_rfl
-- c9
def D9_l0 (rec : Rec) (N : Nat) (fs : Frm) (s : St) : OutX := opt2 (oMov (.v (orU (fs.get t6))) rec PT.nil s) fun x1 s =>
 opt2 (oMov (.v (orU (fs.get t0))) rec PT.nil s) fun x2 s =>
 opt2 (oLenS (.v x2) rec PT.nil s) fun x3 s =>
 opt2 (oBin (int2 (cmpO ltI)) (.v x1) (.v x3) rec PT.nil s) fun x4 s =>
 condV x4
 (opt2 (oMov (.v (orU (fs.get t0))) rec PT.nil s) fun x5 s =>
 opt2 (oMov (.v (orU (fs.get t6))) rec PT.nil s) fun x6 s =>
 opt2 (oSliceS (.v x5) (some (.v x6)) none rec PT.nil s) fun x7 s =>
 opt2 (rec 15 [x7] s) fun x8 s =>
 opt2 (oNew [(.int .i64 0), (.string ⟨⟨[]⟩⟩), (.int .i64 0), (.int .i64 0)] rec PT.nil s) fun x9 s =>
 opt2 (oStore 4 (.v x9) (.v x8) rec PT.nil s) fun x10 s =>
 opt2 (oFieldAddr 0 (.v x9) rec PT.nil s) fun x11 s =>
 opt2 (oLoad1 (.v x11) rec PT.nil s) fun x12 s =>
 opt2 (oBin (int2 (cmpO eqI)) (.v x12) (.v (.int .i64 0)) rec PT.nil s) fun x13 s =>
 condV x13
 (opt2 (oMov (.v (orU (fs.get t6))) rec PT.nil s) fun x14 s =>
 opt2 (oMov (.v (.slice none 0 0)) rec PT.nil s) fun x15 s =>
 opt2 (oMov (.v x14) rec PT.nil s) fun x16 s =>
 opt2 (oMov (.v (.int .i64 7)) rec PT.nil s) fun x17 s =>
 some (.ret, (PT.put x17 t4 (PT.put x16 t3 (PT.put x15 t2 (PT.put x14 t30 (PT.put x13 t29 (PT.put x12 t28 (PT.put x11 t27 (PT.put x9 t7 (PT.put x8 t26 (PT.put x7 t25 (PT.put x6 t24 (PT.put x5 t23 (PT.put x4 t16 (PT.put x3 t15 (PT.put x2 t14 (PT.put x1 t13 fs)))))))))))))))), s))
 (opt2 (oMov (.v (orU (fs.get t6))) rec PT.nil s) fun x18 s =>
 opt2 (oFieldAddr 3 (.v x9) rec PT.nil s) fun x19 s =>
 opt2 (oStore 1 (.v x19) (.v x18) rec PT.nil s) fun x20 s =>
 opt2 (oMov (.v (orU (fs.get t5))) rec PT.nil s) fun x21 s =>
 opt2 (oLoadN 4 (.v x9) rec PT.nil s) fun x22 s =>
 opt2 (oBuildSlice 1 [(.int .i64 0), (.string ⟨⟨[]⟩⟩), (.int .i64 0), (.int .i64 0)] [(0, 4, (.v x22))] rec PT.nil s) fun x23 s =>
 opt2 (oAppend 4 40 (.v x21) (.v x23) rec PT.nil s) fun x24 s =>
 opt2 (oMov (.v x24) rec PT.nil s) fun x25 s =>
 opt2 (oMov (.v (orU (fs.get t6))) rec PT.nil s) fun x26 s =>
 opt2 (oFieldAddr 1 (.v x9) rec PT.nil s) fun x27 s =>
 opt2 (oLoad1 (.v x27) rec PT.nil s) fun x28 s =>
 opt2 (oLenS (.v x28) rec PT.nil s) fun x29 s =>
 opt2 (oBin (int2 addO) (.v x26) (.v x29) rec PT.nil s) fun x30 s =>
 opt2 (oMov (.v x30) rec PT.nil s) fun x31 s =>
 opt2 (oMov (.v x31) rec PT.nil s) fun x32 s =>
 opt2 (oMov (.v (orU (fs.get t0))) rec PT.nil s) fun x33 s =>
 opt2 (oMov (.v x31) rec PT.nil s) fun x34 s =>
 opt2 (oSliceS (.v x33) (some (.v x34)) none rec PT.nil s) fun x35 s =>
 opt2 (rec 14 [x35] s) fun x36 s =>
 opt2 (oBin (int2 addO) (.v x32) (.v x36) rec PT.nil s) fun x37 s =>
 opt2 (oMov (.v x37) rec PT.nil s) fun x38 s =>
 some (.norm, (PT.put x38 t6 (PT.put x37 t22 (PT.put x36 t21 (PT.put x35 t20 (PT.put x34 t19 (PT.put x33 t18 (PT.put x32 t17 (PT.put x31 t6 (PT.put x30 t41 (PT.put x29 t40 (PT.put x28 t39 (PT.put x27 t38 (PT.put x26 t37 (PT.put x25 t5 (PT.put x24 t36 (PT.put x23 t35 (PT.put x22 t34 (PT.put x21 t33 (PT.put x19 t32 (PT.put x18 t31 (PT.put x13 t29 (PT.put x12 t28 (PT.put x11 t27 (PT.put x9 t7 (PT.put x8 t26 (PT.put x7 t25 (PT.put x6 t24 (PT.put x5 t23 (PT.put x4 t16 (PT.put x3 t15 (PT.put x2 t14 (PT.put x1 t13 fs)))))))))))))))))))))))))))))))), s)))
 (some ((.exit 0), (PT.put x4 t16 (PT.put x3 t15 (PT.put x2 t14 (PT.put x1 t13 fs)))), s))
set_option maxHeartbeats 4000000 in
theorem d9_l0 (rec : Rec) (N : Nat) (fs : Frm) (s : St) : c9_l0 rec N fs s = D9_l0 rec N fs s := by
  simp (maxSteps := 4000000) only [c9_l0, lenN, x_seq, x_ops, x_skip, x_ret, x_exit, x_cond, x_block, x_loop, ops_c, ops_n, op1_u, op1_gj, rq_c, rq_n, opQ_u, opQ_g, op2_op2, op2_op, op2_s, op2_cond, thenX_n, thenX_e, thenX_r, blkX_n, blkX_r, blkX_e, finX_r, finX_n, res_n, res_t, op_s, Nat.beq_refl, cond_true]
  first | done | kernel_rfl
def D9_r0 (rec : Rec) (N : Nat) (fs : Frm) (s : St) : OutX := opt2 (oMov (.v (orU (fs.get t5))) rec PT.nil s) fun x1 s =>
 opt2 (oMov (.v (orU (fs.get t0))) rec PT.nil s) fun x2 s =>
 opt2 (oLenS (.v x2) rec PT.nil s) fun x3 s =>
 opt2 (oBuild [(.int .i64 0), (.string ⟨⟨[]⟩⟩), (.int .i64 0), (.int .i64 0)] [(3, 1, (.v x3))] rec PT.nil s) fun x4 s =>
 opt2 (oBuildSlice 1 [(.int .i64 0), (.string ⟨⟨[]⟩⟩), (.int .i64 0), (.int .i64 0)] [(0, 4, (.v x4))] rec PT.nil s) fun x5 s =>
 opt2 (oAppend 4 40 (.v x1) (.v x5) rec PT.nil s) fun x6 s =>
 opt2 (oMov (.v x6) rec PT.nil s) fun x7 s =>
 opt2 (oMov (.v (.int .i64 0)) rec PT.nil s) fun x8 s =>
 opt2 (oMov (.v (.int .i64 0)) rec PT.nil s) fun x9 s =>
 some (.ret, (PT.put x9 t4 (PT.put x8 t3 (PT.put x7 t2 (PT.put x6 t47 (PT.put x5 t46 (PT.put x4 t45 (PT.put x3 t44 (PT.put x2 t43 (PT.put x1 t42 fs))))))))), s)
set_option maxHeartbeats 4000000 in
theorem d9_r0 (rec : Rec) (N : Nat) (fs : Frm) (s : St) : c9_r0 rec N fs s = D9_r0 rec N fs s := by
  simp (maxSteps := 4000000) only [c9_r0, lenN, x_seq, x_ops, x_skip, x_ret, x_exit, x_cond, x_block, x_loop, ops_c, ops_n, op1_u, op1_gj, rq_c, rq_n, opQ_u, opQ_g, op2_op2, op2_op, op2_s, op2_cond, thenX_n, thenX_e, thenX_r, blkX_n, blkX_r, blkX_e, finX_r, finX_n, res_n, res_t, op_s, Nat.beq_refl, cond_true]
  first | done | kernel_rfl
def D9 (rec : Rec) (N : Nat) (a0 : Value) (s : St) : Out := opt2 (oMov (.v (.slice none 0 0)) rec PT.nil s) fun x1 s =>
 opt2 (oMov (.v (.int .i64 0)) rec PT.nil s) fun x2 s =>
 opt2 (oMov (.v (.int .i64 0)) rec PT.nil s) fun x3 s =>
 opt2 (oMov (.v a0) rec PT.nil s) fun x4 s =>
 opt2 (oLenS (.v x4) rec PT.nil s) fun x5 s =>
 opt2 (oBin (int2 (cmpO gtI)) (.v x5) (.v (.int .i64 8192)) rec PT.nil s) fun x6 s =>
 condV x6
 (opt2 (oMov (.v (.slice none 0 0)) rec PT.nil s) fun x7 s =>
 opt2 (oMov (.v (.int .i64 0)) rec PT.nil s) fun x8 s =>
 opt2 (oMov (.v (.int .i64 2)) rec PT.nil s) fun x9 s =>
 some (oneOf [x7, x8, x9], s))
 (opt2 (oMov (.v (.slice none 0 0)) rec PT.nil s) fun x10 s =>
 opt2 (oMov (.v a0) rec PT.nil s) fun x11 s =>
 opt2 (rec 14 [x11] s) fun x12 s =>
 opt2 (oMov (.v x12) rec PT.nil s) fun x13 s =>
 opt2 (loopF (c9_l0 rec N) N (PT.put x13 t6 (PT.put x12 t12 (PT.put x11 t11 (PT.put x10 t5 (PT.put x6 t10 (PT.put x5 t9 (PT.put x4 t8 (PT.put x3 t4 (PT.put x2 t3 (PT.put x1 t2 (PT.put a0 t0 PT.nil))))))))))) s) fun e r => opt2 (blkX 0 e r) fun e r => opt2 (thenX (c9_r0 rec N) e r) fun e r => finX [.tmp t2, .tmp t3, .tmp t4] e r)
set_option maxHeartbeats 4000000 in
theorem d9 (rec : Rec) (N : Nat) (a0 : Value) (s : St) : callF rec N c9 [a0] s = D9 rec N a0 s := by
  rw [call_f _ _ _ _ _ rfl]
  simp (maxSteps := 4000000) only [c9, lenN, x_seq, x_ops, x_skip, x_ret, x_exit, x_cond, x_block, x_loop, ops_c, ops_n, op1_u, op1_gj, rq_c, rq_n, opQ_u, opQ_g, op2_op2, op2_op, op2_s, op2_cond, thenX_n, thenX_e, thenX_r, blkX_n, blkX_r, blkX_e, finX_r, finX_n, res_n, res_t, op_s, Nat.beq_refl, cond_true]
  first | done | kernel_rfl
def J9_r0 (rec : Rec) (N : Nat) (k : Value × Value) (s : St) : Out := opt2 (oLenS (.v k.1) rec PT.nil s) fun x1 s =>
 opt2 (oBuild [(.int .i64 0), (.string ⟨⟨[]⟩⟩), (.int .i64 0), (.int .i64 0)] [(3, 1, (.v x1))] rec PT.nil s) fun x2 s =>
 opt2 (oBuildSlice 1 [(.int .i64 0), (.string ⟨⟨[]⟩⟩), (.int .i64 0), (.int .i64 0)] [(0, 4, (.v x2))] rec PT.nil s) fun x3 s =>
 opt2 (oAppend 4 40 (.v k.2) (.v x3) rec PT.nil s) fun x4 s =>
 some (oneOf [x4, (.int .i64 0), (.int .i64 0)], s)
set_option maxHeartbeats 4000000 in
theorem j9_r0 (rec : Rec) (N : Nat) (fs : Frm) (s : St) : opt2 (c9_r0 rec N fs s) (fun e r => finX [.tmp t2, .tmp t3, .tmp t4] e r) = J9_r0 rec N (orU (fs.get t0), orU (fs.get t5)) s := by
  rw [d9_r0]
  unfold D9_r0 J9_r0
  simp (maxSteps := 4000000) only [thenX_n, thenX_e, thenX_r, x_exit, x_skip, x_ret, blkX_n, blkX_r, blkX_e, finX_r, finX_n, res_n, res_t, op2_op2, op2_op, op2_s, op2_cond, op2_bf, mov_v]
  first | done | kernel_rfl
def B9_l0 (rec : Rec) (N : Nat) (k : Value) (v : Value × Value × Value × Value × Value) (s : St) : OutV (Value × Value × Value × Value × Value) := opt2 (oLenS (.v k) rec PT.nil s) fun x1 s =>
 opt2 (oBin (int2 (cmpO ltI)) (.v v.2.2.2.2) (.v x1) rec PT.nil s) fun x2 s =>
 condV x2
 (opt2 (oSliceS (.v k) (some (.v v.2.2.2.2)) none rec PT.nil s) fun x3 s =>
 opt2 (rec 15 [x3] s) fun x4 s =>
 opt2 (oNew [(.int .i64 0), (.string ⟨⟨[]⟩⟩), (.int .i64 0), (.int .i64 0)] rec PT.nil s) fun x5 s =>
 opt2 (oStore 4 (.v x5) (.v x4) rec PT.nil s) fun x6 s =>
 opt2 (oFieldAddr 0 (.v x5) rec PT.nil s) fun x7 s =>
 opt2 (oLoad1 (.v x7) rec PT.nil s) fun x8 s =>
 opt2 (oBin (int2 (cmpO eqI)) (.v x8) (.v (.int .i64 0)) rec PT.nil s) fun x9 s =>
 condV x9
 (some (.ret, (((.slice none 0 0), v.2.2.2.2, (.int .i64 7), v.2.2.2.1, v.2.2.2.2), s)))
 (opt2 (oFieldAddr 3 (.v x5) rec PT.nil s) fun x10 s =>
 opt2 (oStore 1 (.v x10) (.v v.2.2.2.2) rec PT.nil s) fun x11 s =>
 opt2 (oLoadN 4 (.v x5) rec PT.nil s) fun x12 s =>
 opt2 (oBuildSlice 1 [(.int .i64 0), (.string ⟨⟨[]⟩⟩), (.int .i64 0), (.int .i64 0)] [(0, 4, (.v x12))] rec PT.nil s) fun x13 s =>
 opt2 (oAppend 4 40 (.v v.2.2.2.1) (.v x13) rec PT.nil s) fun x14 s =>
 opt2 (oFieldAddr 1 (.v x5) rec PT.nil s) fun x15 s =>
 opt2 (oLoad1 (.v x15) rec PT.nil s) fun x16 s =>
 opt2 (oLenS (.v x16) rec PT.nil s) fun x17 s =>
 opt2 (oBin (int2 addO) (.v v.2.2.2.2) (.v x17) rec PT.nil s) fun x18 s =>
 opt2 (oSliceS (.v k) (some (.v x18)) none rec PT.nil s) fun x19 s =>
 opt2 (rec 14 [x19] s) fun x20 s =>
 opt2 (oBin (int2 addO) (.v x18) (.v x20) rec PT.nil s) fun x21 s =>
 some (.norm, ((v.1, v.2.1, v.2.2.1, x14, x21), s))))
 (some ((.exit 0), ((v.1, v.2.1, v.2.2.1, v.2.2.2.1, v.2.2.2.2), s)))
set_option maxHeartbeats 4000000 in
theorem s9_l0 (rec : Rec) (N : Nat) (fs : Frm) (s : St) : opt2 (c9_l0 rec N fs s) (fun e r => some (e, (((orU (r.1.get t2), orU (r.1.get t3), orU (r.1.get t4), orU (r.1.get t5), orU (r.1.get t6)), (orU (r.1.get t0))), r.2))) = opt2 (B9_l0 rec N (orU (fs.get t0)) (orU (fs.get t2), orU (fs.get t3), orU (fs.get t4), orU (fs.get t5), orU (fs.get t6)) s) fun e r => some (e, ((r.1, (orU (fs.get t0))), r.2)) := by
  rw [d9_l0]
  unfold D9_l0 B9_l0
  simp (maxSteps := 4000000) only [op2_op2, op2_op, op2_s, op2_cond, op2_bf, mov_v]
  first | done | kernel_rfl
def C9_l0 (rec : Rec) (N : Nat) (k : Value) (e : AExit) (r : (Value × Value × Value × Value × Value) × St) : Out := (fun s => exV (fun i => bif Nat.beq i 0 then (J9_r0 rec N (k, r.1.2.2.2.1) s)
 else (none))
 (some (oneOf [r.1.1, r.1.2.1, r.1.2.2.1], s)) e) r.2
theorem j9_l0 (rec : Rec) (N : Nat) (fs : Frm) (s : St) : opt2 (loopF (c9_l0 rec N) N fs s) (fun e r => opt2 (blkX 0 e r) fun e r => opt2 (thenX (c9_r0 rec N) e r) fun e r => finX [.tmp t2, .tmp t3, .tmp t4] e r) = opt2 (loopV (B9_l0 rec N (orU (fs.get t0))) N (orU (fs.get t2), orU (fs.get t3), orU (fs.get t4), orU (fs.get t5), orU (fs.get t6)) s) (C9_l0 rec N (orU (fs.get t0))) := by
  refine loop_j (fun fs => (orU (fs.get t2), orU (fs.get t3), orU (fs.get t4), orU (fs.get t5), orU (fs.get t6))) (fun fs => (orU (fs.get t0))) (B9_l0 rec N) (c9_l0 rec N) (s9_l0 rec N) (fun e r => opt2 (blkX 0 e r) fun e r => opt2 (thenX (c9_r0 rec N) e r) fun e r => finX [.tmp t2, .tmp t3, .tmp t4] e r) (C9_l0 rec N) ?_ ?_ N fs s
  · intro i fs s
    unfold C9_l0
    simp (maxSteps := 4000000) only [thenX_n, thenX_e, thenX_r, x_exit, x_skip, x_ret, blkX_n, blkX_r, blkX_e, finX_r, finX_n, res_n, res_t, exV_e, exV_r, op2_op2, op2_op, op2_s, op2_cond, op2_bf, mov_v, j9_r0 rec N]
    first | done | kernel_rfl
  · intro fs s
    unfold C9_l0
    simp (maxSteps := 4000000) only [thenX_n, thenX_e, thenX_r, x_exit, x_skip, x_ret, blkX_n, blkX_r, blkX_e, finX_r, finX_n, res_n, res_t, exV_e, exV_r, op2_op2, op2_op, op2_s, op2_cond, op2_bf, mov_v, j9_r0 rec N]
    first | done | kernel_rfl
def F9 (rec : Rec) (N : Nat) (a0 : Value) (s : St) : Out := opt2 (oLenS (.v a0) rec PT.nil s) fun x1 s =>
 opt2 (oBin (int2 (cmpO gtI)) (.v x1) (.v (.int .i64 8192)) rec PT.nil s) fun x2 s =>
 condV x2
 (some (oneOf [(.slice none 0 0), (.int .i64 0), (.int .i64 2)], s))
 (opt2 (rec 14 [a0] s) fun x3 s =>
 opt2 (loopV (B9_l0 rec N a0) N ((.slice none 0 0), (.int .i64 0), (.int .i64 0), (.slice none 0 0), x3) s) (C9_l0 rec N a0))
theorem f9 (rec : Rec) (N : Nat) (a0 : Value) (s : St) : callF rec N c9 [a0] s = F9 rec N a0 s := by
  rw [d9]
  unfold D9 F9
  simp (maxSteps := 4000000) only [mov_v, op2_s, j9_l0 rec N]
  first | done | kernel_rfl
-- c12
def D12_j0 (rec : Rec) (N : Nat) (fs : Frm) (s : St) : OutX := condV (orU (fs.get t4))
 (opt2 (oMov (.v (.bool true)) rec PT.nil s) fun x1 s =>
 some (.ret, (PT.put x1 t2 fs), s))
 (some (.norm, fs, s))
set_option maxHeartbeats 4000000 in
theorem d12_j0 (rec : Rec) (N : Nat) (fs : Frm) (s : St) : c12_j0 rec N fs s = D12_j0 rec N fs s := by
  simp (maxSteps := 4000000) only [c12_j0, lenN, x_seq, x_ops, x_skip, x_ret, x_exit, x_cond, x_block, x_loop, ops_c, ops_n, op1_u, op1_gj, rq_c, rq_n, opQ_u, opQ_g, op2_op2, op2_op, op2_s, op2_cond, thenX_n, thenX_e, thenX_r, blkX_n, blkX_r, blkX_e, finX_r, finX_n, res_n, res_t, op_s, Nat.beq_refl, cond_true]
  first | done | kernel_rfl
def D12_j1 (rec : Rec) (N : Nat) (fs : Frm) (s : St) : OutX := opt2 (oMov (.v (.bool false)) rec PT.nil s) fun x1 s =>
 some (.ret, (PT.put x1 t2 fs), s)
set_option maxHeartbeats 4000000 in
theorem d12_j1 (rec : Rec) (N : Nat) (fs : Frm) (s : St) : c12_j1 rec N fs s = D12_j1 rec N fs s := by
  simp (maxSteps := 4000000) only [c12_j1, lenN, x_seq, x_ops, x_skip, x_ret, x_exit, x_cond, x_block, x_loop, ops_c, ops_n, op1_u, op1_gj, rq_c, rq_n, opQ_u, opQ_g, op2_op2, op2_op, op2_s, op2_cond, thenX_n, thenX_e, thenX_r, blkX_n, blkX_r, blkX_e, finX_r, finX_n, res_n, res_t, op_s, Nat.beq_refl, cond_true]
  first | done | kernel_rfl
def D12 (rec : Rec) (N : Nat) (a0 : Value) (s : St) : Out := opt2 (oMov (.v (.bool false)) rec PT.nil s) fun x1 s =>
 opt2 (oMov (.v a0) rec PT.nil s) fun x2 s =>
 opt2 (oBin (str2 (cmpS eqBytes)) (.v x2) (.v (.string ⟨⟨[105, 110, 112, 117, 116]⟩⟩)) rec PT.nil s) fun x3 s =>
 opt2 (oMov (.v x3) rec PT.nil s) fun x4 s =>
 condV x4
 (opt2 (c12_j0 rec N (PT.put x4 t4 (PT.put x3 t5 (PT.put x2 t3 (PT.put x1 t2 (PT.put a0 t0 PT.nil))))) s) fun e r => opt2 (blkX 0 e r) fun e r => opt2 (thenX (c12_j1 rec N) e r) fun e r => finX [.tmp t2] e r)
 (opt2 (oBin (str2 (cmpS eqBytes)) (.v x2) (.v (.string ⟨⟨[114, 117, 108, 101]⟩⟩)) rec PT.nil s) fun x5 s =>
 opt2 (oMov (.v x5) rec PT.nil s) fun x6 s =>
 condV x6
 (opt2 (c12_j0 rec N (PT.put x6 t4 (PT.put x5 t6 (PT.put x4 t4 (PT.put x3 t5 (PT.put x2 t3 (PT.put x1 t2 (PT.put a0 t0 PT.nil))))))) s) fun e r => opt2 (blkX 0 e r) fun e r => opt2 (thenX (c12_j1 rec N) e r) fun e r => finX [.tmp t2] e r)
 (opt2 (oBin (str2 (cmpS eqBytes)) (.v x2) (.v (.string ⟨⟨[116, 97, 98, 108, 101]⟩⟩)) rec PT.nil s) fun x7 s =>
 opt2 (oMov (.v x7) rec PT.nil s) fun x8 s =>
 condV x8
 (opt2 (c12_j0 rec N (PT.put x8 t4 (PT.put x7 t7 (PT.put x6 t4 (PT.put x5 t6 (PT.put x4 t4 (PT.put x3 t5 (PT.put x2 t3 (PT.put x1 t2 (PT.put a0 t0 PT.nil))))))))) s) fun e r => opt2 (blkX 0 e r) fun e r => opt2 (thenX (c12_j1 rec N) e r) fun e r => finX [.tmp t2] e r)
 (opt2 (oBin (str2 (cmpS eqBytes)) (.v x2) (.v (.string ⟨⟨[98, 111, 111, 108]⟩⟩)) rec PT.nil s) fun x9 s =>
 opt2 (oMov (.v x9) rec PT.nil s) fun x10 s =>
 condV x10
 (opt2 (c12_j0 rec N (PT.put x10 t4 (PT.put x9 t8 (PT.put x8 t4 (PT.put x7 t7 (PT.put x6 t4 (PT.put x5 t6 (PT.put x4 t4 (PT.put x3 t5 (PT.put x2 t3 (PT.put x1 t2 (PT.put a0 t0 PT.nil))))))))))) s) fun e r => opt2 (blkX 0 e r) fun e r => opt2 (thenX (c12_j1 rec N) e r) fun e r => finX [.tmp t2] e r)
 (opt2 (oBin (str2 (cmpS eqBytes)) (.v x2) (.v (.string ⟨⟨[99, 111, 117, 110, 116]⟩⟩)) rec PT.nil s) fun x11 s =>
 opt2 (oMov (.v x11) rec PT.nil s) fun x12 s =>
 condV x12
 (opt2 (c12_j0 rec N (PT.put x12 t4 (PT.put x11 t9 (PT.put x10 t4 (PT.put x9 t8 (PT.put x8 t4 (PT.put x7 t7 (PT.put x6 t4 (PT.put x5 t6 (PT.put x4 t4 (PT.put x3 t5 (PT.put x2 t3 (PT.put x1 t2 (PT.put a0 t0 PT.nil))))))))))))) s) fun e r => opt2 (blkX 0 e r) fun e r => opt2 (thenX (c12_j1 rec N) e r) fun e r => finX [.tmp t2] e r)
 (opt2 (oBin (str2 (cmpS eqBytes)) (.v x2) (.v (.string ⟨⟨[109, 111, 110, 101, 121]⟩⟩)) rec PT.nil s) fun x13 s =>
 opt2 (oMov (.v x13) rec PT.nil s) fun x14 s =>
 condV x14
 (opt2 (c12_j0 rec N (PT.put x14 t4 (PT.put x13 t10 (PT.put x12 t4 (PT.put x11 t9 (PT.put x10 t4 (PT.put x9 t8 (PT.put x8 t4 (PT.put x7 t7 (PT.put x6 t4 (PT.put x5 t6 (PT.put x4 t4 (PT.put x3 t5 (PT.put x2 t3 (PT.put x1 t2 (PT.put a0 t0 PT.nil))))))))))))))) s) fun e r => opt2 (blkX 0 e r) fun e r => opt2 (thenX (c12_j1 rec N) e r) fun e r => finX [.tmp t2] e r)
 (opt2 (oBin (str2 (cmpS eqBytes)) (.v x2) (.v (.string ⟨⟨[114, 97, 116, 101]⟩⟩)) rec PT.nil s) fun x15 s =>
 opt2 (oMov (.v x15) rec PT.nil s) fun x16 s =>
 condV x16
 (opt2 (c12_j0 rec N (PT.put x16 t4 (PT.put x15 t11 (PT.put x14 t4 (PT.put x13 t10 (PT.put x12 t4 (PT.put x11 t9 (PT.put x10 t4 (PT.put x9 t8 (PT.put x8 t4 (PT.put x7 t7 (PT.put x6 t4 (PT.put x5 t6 (PT.put x4 t4 (PT.put x3 t5 (PT.put x2 t3 (PT.put x1 t2 (PT.put a0 t0 PT.nil))))))))))))))))) s) fun e r => opt2 (blkX 0 e r) fun e r => opt2 (thenX (c12_j1 rec N) e r) fun e r => finX [.tmp t2] e r)
 (opt2 (oBin (str2 (cmpS eqBytes)) (.v x2) (.v (.string ⟨⟨[100, 97, 116, 101]⟩⟩)) rec PT.nil s) fun x17 s =>
 opt2 (oMov (.v x17) rec PT.nil s) fun x18 s =>
 condV x18
 (opt2 (c12_j0 rec N (PT.put x18 t4 (PT.put x17 t12 (PT.put x16 t4 (PT.put x15 t11 (PT.put x14 t4 (PT.put x13 t10 (PT.put x12 t4 (PT.put x11 t9 (PT.put x10 t4 (PT.put x9 t8 (PT.put x8 t4 (PT.put x7 t7 (PT.put x6 t4 (PT.put x5 t6 (PT.put x4 t4 (PT.put x3 t5 (PT.put x2 t3 (PT.put x1 t2 (PT.put a0 t0 PT.nil))))))))))))))))))) s) fun e r => opt2 (blkX 0 e r) fun e r => opt2 (thenX (c12_j1 rec N) e r) fun e r => finX [.tmp t2] e r)
 (opt2 (oBin (str2 (cmpS eqBytes)) (.v x2) (.v (.string ⟨⟨[109, 111, 110, 101, 121, 115]⟩⟩)) rec PT.nil s) fun x19 s =>
 opt2 (oMov (.v x19) rec PT.nil s) fun x20 s =>
 condV x20
 (opt2 (c12_j0 rec N (PT.put x20 t4 (PT.put x19 t13 (PT.put x18 t4 (PT.put x17 t12 (PT.put x16 t4 (PT.put x15 t11 (PT.put x14 t4 (PT.put x13 t10 (PT.put x12 t4 (PT.put x11 t9 (PT.put x10 t4 (PT.put x9 t8 (PT.put x8 t4 (PT.put x7 t7 (PT.put x6 t4 (PT.put x5 t6 (PT.put x4 t4 (PT.put x3 t5 (PT.put x2 t3 (PT.put x1 t2 (PT.put a0 t0 PT.nil))))))))))))))))))))) s) fun e r => opt2 (blkX 0 e r) fun e r => opt2 (thenX (c12_j1 rec N) e r) fun e r => finX [.tmp t2] e r)
 (opt2 (oBin (str2 (cmpS eqBytes)) (.v x2) (.v (.string ⟨⟨[105, 102]⟩⟩)) rec PT.nil s) fun x21 s =>
 opt2 (oMov (.v x21) rec PT.nil s) fun x22 s =>
 condV x22
 (opt2 (c12_j0 rec N (PT.put x22 t4 (PT.put x21 t14 (PT.put x20 t4 (PT.put x19 t13 (PT.put x18 t4 (PT.put x17 t12 (PT.put x16 t4 (PT.put x15 t11 (PT.put x14 t4 (PT.put x13 t10 (PT.put x12 t4 (PT.put x11 t9 (PT.put x10 t4 (PT.put x9 t8 (PT.put x8 t4 (PT.put x7 t7 (PT.put x6 t4 (PT.put x5 t6 (PT.put x4 t4 (PT.put x3 t5 (PT.put x2 t3 (PT.put x1 t2 (PT.put a0 t0 PT.nil))))))))))))))))))))))) s) fun e r => opt2 (blkX 0 e r) fun e r => opt2 (thenX (c12_j1 rec N) e r) fun e r => finX [.tmp t2] e r)
 (opt2 (oBin (str2 (cmpS eqBytes)) (.v x2) (.v (.string ⟨⟨[116, 104, 101, 110]⟩⟩)) rec PT.nil s) fun x23 s =>
 opt2 (oMov (.v x23) rec PT.nil s) fun x24 s =>
 condV x24
 (opt2 (c12_j0 rec N (PT.put x24 t4 (PT.put x23 t15 (PT.put x22 t4 (PT.put x21 t14 (PT.put x20 t4 (PT.put x19 t13 (PT.put x18 t4 (PT.put x17 t12 (PT.put x16 t4 (PT.put x15 t11 (PT.put x14 t4 (PT.put x13 t10 (PT.put x12 t4 (PT.put x11 t9 (PT.put x10 t4 (PT.put x9 t8 (PT.put x8 t4 (PT.put x7 t7 (PT.put x6 t4 (PT.put x5 t6 (PT.put x4 t4 (PT.put x3 t5 (PT.put x2 t3 (PT.put x1 t2 (PT.put a0 t0 PT.nil))))))))))))))))))))))))) s) fun e r => opt2 (blkX 0 e r) fun e r => opt2 (thenX (c12_j1 rec N) e r) fun e r => finX [.tmp t2] e r)
 (opt2 (oBin (str2 (cmpS eqBytes)) (.v x2) (.v (.string ⟨⟨[101, 108, 115, 101]⟩⟩)) rec PT.nil s) fun x25 s =>
 opt2 (oMov (.v x25) rec PT.nil s) fun x26 s =>
 condV x26
 (opt2 (c12_j0 rec N (PT.put x26 t4 (PT.put x25 t16 (PT.put x24 t4 (PT.put x23 t15 (PT.put x22 t4 (PT.put x21 t14 (PT.put x20 t4 (PT.put x19 t13 (PT.put x18 t4 (PT.put x17 t12 (PT.put x16 t4 (PT.put x15 t11 (PT.put x14 t4 (PT.put x13 t10 (PT.put x12 t4 (PT.put x11 t9 (PT.put x10 t4 (PT.put x9 t8 (PT.put x8 t4 (PT.put x7 t7 (PT.put x6 t4 (PT.put x5 t6 (PT.put x4 t4 (PT.put x3 t5 (PT.put x2 t3 (PT.put x1 t2 (PT.put a0 t0 PT.nil))))))))))))))))))))))))))) s) fun e r => opt2 (blkX 0 e r) fun e r => opt2 (thenX (c12_j1 rec N) e r) fun e r => finX [.tmp t2] e r)
 (opt2 (oBin (str2 (cmpS eqBytes)) (.v x2) (.v (.string ⟨⟨[97, 110, 100]⟩⟩)) rec PT.nil s) fun x27 s =>
 opt2 (oMov (.v x27) rec PT.nil s) fun x28 s =>
 condV x28
 (opt2 (c12_j0 rec N (PT.put x28 t4 (PT.put x27 t17 (PT.put x26 t4 (PT.put x25 t16 (PT.put x24 t4 (PT.put x23 t15 (PT.put x22 t4 (PT.put x21 t14 (PT.put x20 t4 (PT.put x19 t13 (PT.put x18 t4 (PT.put x17 t12 (PT.put x16 t4 (PT.put x15 t11 (PT.put x14 t4 (PT.put x13 t10 (PT.put x12 t4 (PT.put x11 t9 (PT.put x10 t4 (PT.put x9 t8 (PT.put x8 t4 (PT.put x7 t7 (PT.put x6 t4 (PT.put x5 t6 (PT.put x4 t4 (PT.put x3 t5 (PT.put x2 t3 (PT.put x1 t2 (PT.put a0 t0 PT.nil))))))))))))))))))))))))))))) s) fun e r => opt2 (blkX 0 e r) fun e r => opt2 (thenX (c12_j1 rec N) e r) fun e r => finX [.tmp t2] e r)
 (opt2 (oBin (str2 (cmpS eqBytes)) (.v x2) (.v (.string ⟨⟨[111, 114]⟩⟩)) rec PT.nil s) fun x29 s =>
 opt2 (oMov (.v x29) rec PT.nil s) fun x30 s =>
 condV x30
 (opt2 (c12_j0 rec N (PT.put x30 t4 (PT.put x29 t18 (PT.put x28 t4 (PT.put x27 t17 (PT.put x26 t4 (PT.put x25 t16 (PT.put x24 t4 (PT.put x23 t15 (PT.put x22 t4 (PT.put x21 t14 (PT.put x20 t4 (PT.put x19 t13 (PT.put x18 t4 (PT.put x17 t12 (PT.put x16 t4 (PT.put x15 t11 (PT.put x14 t4 (PT.put x13 t10 (PT.put x12 t4 (PT.put x11 t9 (PT.put x10 t4 (PT.put x9 t8 (PT.put x8 t4 (PT.put x7 t7 (PT.put x6 t4 (PT.put x5 t6 (PT.put x4 t4 (PT.put x3 t5 (PT.put x2 t3 (PT.put x1 t2 (PT.put a0 t0 PT.nil))))))))))))))))))))))))))))))) s) fun e r => opt2 (blkX 0 e r) fun e r => opt2 (thenX (c12_j1 rec N) e r) fun e r => finX [.tmp t2] e r)
 (opt2 (oBin (str2 (cmpS eqBytes)) (.v x2) (.v (.string ⟨⟨[110, 111, 116]⟩⟩)) rec PT.nil s) fun x31 s =>
 opt2 (oMov (.v x31) rec PT.nil s) fun x32 s =>
 condV x32
 (opt2 (c12_j0 rec N (PT.put x32 t4 (PT.put x31 t19 (PT.put x30 t4 (PT.put x29 t18 (PT.put x28 t4 (PT.put x27 t17 (PT.put x26 t4 (PT.put x25 t16 (PT.put x24 t4 (PT.put x23 t15 (PT.put x22 t4 (PT.put x21 t14 (PT.put x20 t4 (PT.put x19 t13 (PT.put x18 t4 (PT.put x17 t12 (PT.put x16 t4 (PT.put x15 t11 (PT.put x14 t4 (PT.put x13 t10 (PT.put x12 t4 (PT.put x11 t9 (PT.put x10 t4 (PT.put x9 t8 (PT.put x8 t4 (PT.put x7 t7 (PT.put x6 t4 (PT.put x5 t6 (PT.put x4 t4 (PT.put x3 t5 (PT.put x2 t3 (PT.put x1 t2 (PT.put a0 t0 PT.nil))))))))))))))))))))))))))))))))) s) fun e r => opt2 (blkX 0 e r) fun e r => opt2 (thenX (c12_j1 rec N) e r) fun e r => finX [.tmp t2] e r)
 (opt2 (oBin (str2 (cmpS eqBytes)) (.v x2) (.v (.string ⟨⟨[109, 105, 110]⟩⟩)) rec PT.nil s) fun x33 s =>
 opt2 (oMov (.v x33) rec PT.nil s) fun x34 s =>
 condV x34
 (opt2 (c12_j0 rec N (PT.put x34 t4 (PT.put x33 t20 (PT.put x32 t4 (PT.put x31 t19 (PT.put x30 t4 (PT.put x29 t18 (PT.put x28 t4 (PT.put x27 t17 (PT.put x26 t4 (PT.put x25 t16 (PT.put x24 t4 (PT.put x23 t15 (PT.put x22 t4 (PT.put x21 t14 (PT.put x20 t4 (PT.put x19 t13 (PT.put x18 t4 (PT.put x17 t12 (PT.put x16 t4 (PT.put x15 t11 (PT.put x14 t4 (PT.put x13 t10 (PT.put x12 t4 (PT.put x11 t9 (PT.put x10 t4 (PT.put x9 t8 (PT.put x8 t4 (PT.put x7 t7 (PT.put x6 t4 (PT.put x5 t6 (PT.put x4 t4 (PT.put x3 t5 (PT.put x2 t3 (PT.put x1 t2 (PT.put a0 t0 PT.nil))))))))))))))))))))))))))))))))))) s) fun e r => opt2 (blkX 0 e r) fun e r => opt2 (thenX (c12_j1 rec N) e r) fun e r => finX [.tmp t2] e r)
 (opt2 (oBin (str2 (cmpS eqBytes)) (.v x2) (.v (.string ⟨⟨[109, 97, 120]⟩⟩)) rec PT.nil s) fun x35 s =>
 opt2 (oMov (.v x35) rec PT.nil s) fun x36 s =>
 condV x36
 (opt2 (c12_j0 rec N (PT.put x36 t4 (PT.put x35 t21 (PT.put x34 t4 (PT.put x33 t20 (PT.put x32 t4 (PT.put x31 t19 (PT.put x30 t4 (PT.put x29 t18 (PT.put x28 t4 (PT.put x27 t17 (PT.put x26 t4 (PT.put x25 t16 (PT.put x24 t4 (PT.put x23 t15 (PT.put x22 t4 (PT.put x21 t14 (PT.put x20 t4 (PT.put x19 t13 (PT.put x18 t4 (PT.put x17 t12 (PT.put x16 t4 (PT.put x15 t11 (PT.put x14 t4 (PT.put x13 t10 (PT.put x12 t4 (PT.put x11 t9 (PT.put x10 t4 (PT.put x9 t8 (PT.put x8 t4 (PT.put x7 t7 (PT.put x6 t4 (PT.put x5 t6 (PT.put x4 t4 (PT.put x3 t5 (PT.put x2 t3 (PT.put x1 t2 (PT.put a0 t0 PT.nil))))))))))))))))))))))))))))))))))))) s) fun e r => opt2 (blkX 0 e r) fun e r => opt2 (thenX (c12_j1 rec N) e r) fun e r => finX [.tmp t2] e r)
 (opt2 (oBin (str2 (cmpS eqBytes)) (.v x2) (.v (.string ⟨⟨[115, 117, 109]⟩⟩)) rec PT.nil s) fun x37 s =>
 opt2 (oMov (.v x37) rec PT.nil s) fun x38 s =>
 condV x38
 (opt2 (c12_j0 rec N (PT.put x38 t4 (PT.put x37 t22 (PT.put x36 t4 (PT.put x35 t21 (PT.put x34 t4 (PT.put x33 t20 (PT.put x32 t4 (PT.put x31 t19 (PT.put x30 t4 (PT.put x29 t18 (PT.put x28 t4 (PT.put x27 t17 (PT.put x26 t4 (PT.put x25 t16 (PT.put x24 t4 (PT.put x23 t15 (PT.put x22 t4 (PT.put x21 t14 (PT.put x20 t4 (PT.put x19 t13 (PT.put x18 t4 (PT.put x17 t12 (PT.put x16 t4 (PT.put x15 t11 (PT.put x14 t4 (PT.put x13 t10 (PT.put x12 t4 (PT.put x11 t9 (PT.put x10 t4 (PT.put x9 t8 (PT.put x8 t4 (PT.put x7 t7 (PT.put x6 t4 (PT.put x5 t6 (PT.put x4 t4 (PT.put x3 t5 (PT.put x2 t3 (PT.put x1 t2 (PT.put a0 t0 PT.nil))))))))))))))))))))))))))))))))))))))) s) fun e r => opt2 (blkX 0 e r) fun e r => opt2 (thenX (c12_j1 rec N) e r) fun e r => finX [.tmp t2] e r)
 (opt2 (oBin (str2 (cmpS eqBytes)) (.v x2) (.v (.string ⟨⟨[105, 110]⟩⟩)) rec PT.nil s) fun x39 s =>
 opt2 (oMov (.v x39) rec PT.nil s) fun x40 s =>
 condV x40
 (opt2 (c12_j0 rec N (PT.put x40 t4 (PT.put x39 t23 (PT.put x38 t4 (PT.put x37 t22 (PT.put x36 t4 (PT.put x35 t21 (PT.put x34 t4 (PT.put x33 t20 (PT.put x32 t4 (PT.put x31 t19 (PT.put x30 t4 (PT.put x29 t18 (PT.put x28 t4 (PT.put x27 t17 (PT.put x26 t4 (PT.put x25 t16 (PT.put x24 t4 (PT.put x23 t15 (PT.put x22 t4 (PT.put x21 t14 (PT.put x20 t4 (PT.put x19 t13 (PT.put x18 t4 (PT.put x17 t12 (PT.put x16 t4 (PT.put x15 t11 (PT.put x14 t4 (PT.put x13 t10 (PT.put x12 t4 (PT.put x11 t9 (PT.put x10 t4 (PT.put x9 t8 (PT.put x8 t4 (PT.put x7 t7 (PT.put x6 t4 (PT.put x5 t6 (PT.put x4 t4 (PT.put x3 t5 (PT.put x2 t3 (PT.put x1 t2 (PT.put a0 t0 PT.nil))))))))))))))))))))))))))))))))))))))))) s) fun e r => opt2 (blkX 0 e r) fun e r => opt2 (thenX (c12_j1 rec N) e r) fun e r => finX [.tmp t2] e r)
 (opt2 (oBin (str2 (cmpS eqBytes)) (.v x2) (.v (.string ⟨⟨[108, 101, 110]⟩⟩)) rec PT.nil s) fun x41 s =>
 opt2 (oMov (.v x41) rec PT.nil s) fun x42 s =>
 condV x42
 (opt2 (c12_j0 rec N (PT.put x42 t4 (PT.put x41 t24 (PT.put x40 t4 (PT.put x39 t23 (PT.put x38 t4 (PT.put x37 t22 (PT.put x36 t4 (PT.put x35 t21 (PT.put x34 t4 (PT.put x33 t20 (PT.put x32 t4 (PT.put x31 t19 (PT.put x30 t4 (PT.put x29 t18 (PT.put x28 t4 (PT.put x27 t17 (PT.put x26 t4 (PT.put x25 t16 (PT.put x24 t4 (PT.put x23 t15 (PT.put x22 t4 (PT.put x21 t14 (PT.put x20 t4 (PT.put x19 t13 (PT.put x18 t4 (PT.put x17 t12 (PT.put x16 t4 (PT.put x15 t11 (PT.put x14 t4 (PT.put x13 t10 (PT.put x12 t4 (PT.put x11 t9 (PT.put x10 t4 (PT.put x9 t8 (PT.put x8 t4 (PT.put x7 t7 (PT.put x6 t4 (PT.put x5 t6 (PT.put x4 t4 (PT.put x3 t5 (PT.put x2 t3 (PT.put x1 t2 (PT.put a0 t0 PT.nil))))))))))))))))))))))))))))))))))))))))))) s) fun e r => opt2 (blkX 0 e r) fun e r => opt2 (thenX (c12_j1 rec N) e r) fun e r => finX [.tmp t2] e r)
 (opt2 (oBin (str2 (cmpS eqBytes)) (.v x2) (.v (.string ⟨⟨[97, 116]⟩⟩)) rec PT.nil s) fun x43 s =>
 opt2 (oMov (.v x43) rec PT.nil s) fun x44 s =>
 condV x44
 (opt2 (c12_j0 rec N (PT.put x44 t4 (PT.put x43 t25 (PT.put x42 t4 (PT.put x41 t24 (PT.put x40 t4 (PT.put x39 t23 (PT.put x38 t4 (PT.put x37 t22 (PT.put x36 t4 (PT.put x35 t21 (PT.put x34 t4 (PT.put x33 t20 (PT.put x32 t4 (PT.put x31 t19 (PT.put x30 t4 (PT.put x29 t18 (PT.put x28 t4 (PT.put x27 t17 (PT.put x26 t4 (PT.put x25 t16 (PT.put x24 t4 (PT.put x23 t15 (PT.put x22 t4 (PT.put x21 t14 (PT.put x20 t4 (PT.put x19 t13 (PT.put x18 t4 (PT.put x17 t12 (PT.put x16 t4 (PT.put x15 t11 (PT.put x14 t4 (PT.put x13 t10 (PT.put x12 t4 (PT.put x11 t9 (PT.put x10 t4 (PT.put x9 t8 (PT.put x8 t4 (PT.put x7 t7 (PT.put x6 t4 (PT.put x5 t6 (PT.put x4 t4 (PT.put x3 t5 (PT.put x2 t3 (PT.put x1 t2 (PT.put a0 t0 PT.nil))))))))))))))))))))))))))))))))))))))))))))) s) fun e r => opt2 (blkX 0 e r) fun e r => opt2 (thenX (c12_j1 rec N) e r) fun e r => finX [.tmp t2] e r)
 (opt2 (oBin (str2 (cmpS eqBytes)) (.v x2) (.v (.string ⟨⟨[116, 114, 117, 101]⟩⟩)) rec PT.nil s) fun x45 s =>
 opt2 (oMov (.v x45) rec PT.nil s) fun x46 s =>
 condV x46
 (opt2 (c12_j0 rec N (PT.put x46 t4 (PT.put x45 t26 (PT.put x44 t4 (PT.put x43 t25 (PT.put x42 t4 (PT.put x41 t24 (PT.put x40 t4 (PT.put x39 t23 (PT.put x38 t4 (PT.put x37 t22 (PT.put x36 t4 (PT.put x35 t21 (PT.put x34 t4 (PT.put x33 t20 (PT.put x32 t4 (PT.put x31 t19 (PT.put x30 t4 (PT.put x29 t18 (PT.put x28 t4 (PT.put x27 t17 (PT.put x26 t4 (PT.put x25 t16 (PT.put x24 t4 (PT.put x23 t15 (PT.put x22 t4 (PT.put x21 t14 (PT.put x20 t4 (PT.put x19 t13 (PT.put x18 t4 (PT.put x17 t12 (PT.put x16 t4 (PT.put x15 t11 (PT.put x14 t4 (PT.put x13 t10 (PT.put x12 t4 (PT.put x11 t9 (PT.put x10 t4 (PT.put x9 t8 (PT.put x8 t4 (PT.put x7 t7 (PT.put x6 t4 (PT.put x5 t6 (PT.put x4 t4 (PT.put x3 t5 (PT.put x2 t3 (PT.put x1 t2 (PT.put a0 t0 PT.nil))))))))))))))))))))))))))))))))))))))))))))))) s) fun e r => opt2 (blkX 0 e r) fun e r => opt2 (thenX (c12_j1 rec N) e r) fun e r => finX [.tmp t2] e r)
 (opt2 (oBin (str2 (cmpS eqBytes)) (.v x2) (.v (.string ⟨⟨[102, 97, 108, 115, 101]⟩⟩)) rec PT.nil s) fun x47 s =>
 opt2 (oMov (.v x47) rec PT.nil s) fun x48 s =>
 opt2 (c12_j0 rec N (PT.put x48 t4 (PT.put x47 t27 (PT.put x46 t4 (PT.put x45 t26 (PT.put x44 t4 (PT.put x43 t25 (PT.put x42 t4 (PT.put x41 t24 (PT.put x40 t4 (PT.put x39 t23 (PT.put x38 t4 (PT.put x37 t22 (PT.put x36 t4 (PT.put x35 t21 (PT.put x34 t4 (PT.put x33 t20 (PT.put x32 t4 (PT.put x31 t19 (PT.put x30 t4 (PT.put x29 t18 (PT.put x28 t4 (PT.put x27 t17 (PT.put x26 t4 (PT.put x25 t16 (PT.put x24 t4 (PT.put x23 t15 (PT.put x22 t4 (PT.put x21 t14 (PT.put x20 t4 (PT.put x19 t13 (PT.put x18 t4 (PT.put x17 t12 (PT.put x16 t4 (PT.put x15 t11 (PT.put x14 t4 (PT.put x13 t10 (PT.put x12 t4 (PT.put x11 t9 (PT.put x10 t4 (PT.put x9 t8 (PT.put x8 t4 (PT.put x7 t7 (PT.put x6 t4 (PT.put x5 t6 (PT.put x4 t4 (PT.put x3 t5 (PT.put x2 t3 (PT.put x1 t2 (PT.put a0 t0 PT.nil))))))))))))))))))))))))))))))))))))))))))))))))) s) fun e r => opt2 (blkX 0 e r) fun e r => opt2 (thenX (c12_j1 rec N) e r) fun e r => finX [.tmp t2] e r))))))))))))))))))))))
set_option maxHeartbeats 4000000 in
theorem d12 (rec : Rec) (N : Nat) (a0 : Value) (s : St) : callF rec N c12 [a0] s = D12 rec N a0 s := by
  rw [call_f _ _ _ _ _ rfl]
  simp (maxSteps := 4000000) only [c12, lenN, x_seq, x_ops, x_skip, x_ret, x_exit, x_cond, x_block, x_loop, ops_c, ops_n, op1_u, op1_gj, rq_c, rq_n, opQ_u, opQ_g, op2_op2, op2_op, op2_s, op2_cond, thenX_n, thenX_e, thenX_r, blkX_n, blkX_r, blkX_e, finX_r, finX_n, res_n, res_t, op_s, Nat.beq_refl, cond_true]
  first | done | kernel_rfl
def J12_j1 (rec : Rec) (N : Nat) (k : Unit) (s : St) : Out := some (oneOf [(.bool false)], s)
set_option maxHeartbeats 4000000 in
theorem j12_j1 (rec : Rec) (N : Nat) (fs : Frm) (s : St) : opt2 (c12_j1 rec N fs s) (fun e r => finX [.tmp t2] e r) = J12_j1 rec N () s := by
  rw [d12_j1]
  unfold D12_j1 J12_j1
  simp (maxSteps := 4000000) only [thenX_n, thenX_e, thenX_r, x_exit, x_skip, x_ret, blkX_n, blkX_r, blkX_e, finX_r, finX_n, res_n, res_t, op2_op2, op2_op, op2_s, op2_cond, op2_bf, mov_v]
  first | done | kernel_rfl
def J12_j0 (rec : Rec) (N : Nat) (k : Value) (s : St) : Out := condV k
 (some (oneOf [(.bool true)], s))
 (J12_j1 rec N () s)
set_option maxHeartbeats 4000000 in
theorem j12_j0 (rec : Rec) (N : Nat) (fs : Frm) (s : St) : opt2 (c12_j0 rec N fs s) (fun e r => opt2 (blkX 0 e r) fun e r => opt2 (thenX (c12_j1 rec N) e r) fun e r => finX [.tmp t2] e r) = J12_j0 rec N (orU (fs.get t4)) s := by
  rw [d12_j0]
  unfold D12_j0 J12_j0
  simp (maxSteps := 4000000) only [thenX_n, thenX_e, thenX_r, x_exit, x_skip, x_ret, blkX_n, blkX_r, blkX_e, finX_r, finX_n, res_n, res_t, op2_op2, op2_op, op2_s, op2_cond, op2_bf, mov_v, j12_j1 rec N]
  first | done | kernel_rfl
def F12 (rec : Rec) (N : Nat) (a0 : Value) (s : St) : Out := opt2 (oBin (str2 (cmpS eqBytes)) (.v a0) (.v (.string ⟨⟨[105, 110, 112, 117, 116]⟩⟩)) rec PT.nil s) fun x1 s =>
 condV x1
 (J12_j0 rec N x1 s)
 (opt2 (oBin (str2 (cmpS eqBytes)) (.v a0) (.v (.string ⟨⟨[114, 117, 108, 101]⟩⟩)) rec PT.nil s) fun x2 s =>
 condV x2
 (J12_j0 rec N x2 s)
 (opt2 (oBin (str2 (cmpS eqBytes)) (.v a0) (.v (.string ⟨⟨[116, 97, 98, 108, 101]⟩⟩)) rec PT.nil s) fun x3 s =>
 condV x3
 (J12_j0 rec N x3 s)
 (opt2 (oBin (str2 (cmpS eqBytes)) (.v a0) (.v (.string ⟨⟨[98, 111, 111, 108]⟩⟩)) rec PT.nil s) fun x4 s =>
 condV x4
 (J12_j0 rec N x4 s)
 (opt2 (oBin (str2 (cmpS eqBytes)) (.v a0) (.v (.string ⟨⟨[99, 111, 117, 110, 116]⟩⟩)) rec PT.nil s) fun x5 s =>
 condV x5
 (J12_j0 rec N x5 s)
 (opt2 (oBin (str2 (cmpS eqBytes)) (.v a0) (.v (.string ⟨⟨[109, 111, 110, 101, 121]⟩⟩)) rec PT.nil s) fun x6 s =>
 condV x6
 (J12_j0 rec N x6 s)
 (opt2 (oBin (str2 (cmpS eqBytes)) (.v a0) (.v (.string ⟨⟨[114, 97, 116, 101]⟩⟩)) rec PT.nil s) fun x7 s =>
 condV x7
 (J12_j0 rec N x7 s)
 (opt2 (oBin (str2 (cmpS eqBytes)) (.v a0) (.v (.string ⟨⟨[100, 97, 116, 101]⟩⟩)) rec PT.nil s) fun x8 s =>
 condV x8
 (J12_j0 rec N x8 s)
 (opt2 (oBin (str2 (cmpS eqBytes)) (.v a0) (.v (.string ⟨⟨[109, 111, 110, 101, 121, 115]⟩⟩)) rec PT.nil s) fun x9 s =>
 condV x9
 (J12_j0 rec N x9 s)
 (opt2 (oBin (str2 (cmpS eqBytes)) (.v a0) (.v (.string ⟨⟨[105, 102]⟩⟩)) rec PT.nil s) fun x10 s =>
 condV x10
 (J12_j0 rec N x10 s)
 (opt2 (oBin (str2 (cmpS eqBytes)) (.v a0) (.v (.string ⟨⟨[116, 104, 101, 110]⟩⟩)) rec PT.nil s) fun x11 s =>
 condV x11
 (J12_j0 rec N x11 s)
 (opt2 (oBin (str2 (cmpS eqBytes)) (.v a0) (.v (.string ⟨⟨[101, 108, 115, 101]⟩⟩)) rec PT.nil s) fun x12 s =>
 condV x12
 (J12_j0 rec N x12 s)
 (opt2 (oBin (str2 (cmpS eqBytes)) (.v a0) (.v (.string ⟨⟨[97, 110, 100]⟩⟩)) rec PT.nil s) fun x13 s =>
 condV x13
 (J12_j0 rec N x13 s)
 (opt2 (oBin (str2 (cmpS eqBytes)) (.v a0) (.v (.string ⟨⟨[111, 114]⟩⟩)) rec PT.nil s) fun x14 s =>
 condV x14
 (J12_j0 rec N x14 s)
 (opt2 (oBin (str2 (cmpS eqBytes)) (.v a0) (.v (.string ⟨⟨[110, 111, 116]⟩⟩)) rec PT.nil s) fun x15 s =>
 condV x15
 (J12_j0 rec N x15 s)
 (opt2 (oBin (str2 (cmpS eqBytes)) (.v a0) (.v (.string ⟨⟨[109, 105, 110]⟩⟩)) rec PT.nil s) fun x16 s =>
 condV x16
 (J12_j0 rec N x16 s)
 (opt2 (oBin (str2 (cmpS eqBytes)) (.v a0) (.v (.string ⟨⟨[109, 97, 120]⟩⟩)) rec PT.nil s) fun x17 s =>
 condV x17
 (J12_j0 rec N x17 s)
 (opt2 (oBin (str2 (cmpS eqBytes)) (.v a0) (.v (.string ⟨⟨[115, 117, 109]⟩⟩)) rec PT.nil s) fun x18 s =>
 condV x18
 (J12_j0 rec N x18 s)
 (opt2 (oBin (str2 (cmpS eqBytes)) (.v a0) (.v (.string ⟨⟨[105, 110]⟩⟩)) rec PT.nil s) fun x19 s =>
 condV x19
 (J12_j0 rec N x19 s)
 (opt2 (oBin (str2 (cmpS eqBytes)) (.v a0) (.v (.string ⟨⟨[108, 101, 110]⟩⟩)) rec PT.nil s) fun x20 s =>
 condV x20
 (J12_j0 rec N x20 s)
 (opt2 (oBin (str2 (cmpS eqBytes)) (.v a0) (.v (.string ⟨⟨[97, 116]⟩⟩)) rec PT.nil s) fun x21 s =>
 condV x21
 (J12_j0 rec N x21 s)
 (opt2 (oBin (str2 (cmpS eqBytes)) (.v a0) (.v (.string ⟨⟨[116, 114, 117, 101]⟩⟩)) rec PT.nil s) fun x22 s =>
 condV x22
 (J12_j0 rec N x22 s)
 (opt2 (oBin (str2 (cmpS eqBytes)) (.v a0) (.v (.string ⟨⟨[102, 97, 108, 115, 101]⟩⟩)) rec PT.nil s) fun x23 s =>
 J12_j0 rec N x23 s))))))))))))))))))))))
theorem f12 (rec : Rec) (N : Nat) (a0 : Value) (s : St) : callF rec N c12 [a0] s = F12 rec N a0 s := by
  rw [d12]
  unfold D12 F12
  simp (maxSteps := 4000000) only [mov_v, op2_s, j12_j0 rec N]
  first | done | kernel_rfl
end
end Go.Proofs.Ytikdjhlcbkkkfaa.AbsLexO
