import Derived.Test.YtdfmhjbmenfaeaaDoorSymL
import Derived.Test.YtdfmhjbmenfaeaaDoorDecCalDX
namespace Go.Proofs.YtdfmhjbmenfaeaaDoor.AbsCalD
open Go Go.Abs Go.Proofs
set_option maxRecDepth 100000
set_option linter.unusedVariables false
set_option linter.unusedSimpArgs false
attribute [local congr] opt2_cg opt_cg condV_cg cond_cg
/-! CalDays -/
theorem eqb_e (b : Bool) (rec : Rec) (s : St) : oEqv eqB false (.v (.bool b)) (.v (.bool b)) rec PT.nil s = some (.bool true, s) := by cases b <;> rfl
theorem neb_e (b : Bool) (rec : Rec) (s : St) : oEqv eqB true (.v (.bool b)) (.v (.bool b)) rec PT.nil s = some (.bool false, s) := by cases b <;> rfl
theorem eqs_e (l : List UInt8) : str2 (cmpS eqBytes) (.string ⟨⟨l⟩⟩) (.string ⟨⟨l⟩⟩) = some (.bool true) := by
  show some (Value.bool (eqBytes l l)) = _
  rw [eqBytes_eq, decide_eq_true rfl]
theorem tail4 (N : Nat) (n y m w v : Int) (b : Bool) (fs : Frm) (s : St) (g0 : fs.get t0 = some (.int .i64 n)) (g1 : fs.get t1 = some (.int .i64 y)) (g2 : fs.get t2 = some (.int .i64 m)) (g24 : fs.get t24 = some (.bool b)) (g25 : fs.get t25 = some (.int .i64 v)) (g26 : fs.get t26 = some (.bool b)) (g27 : fs.get t27 = some (.int .i64 w)) (g99 : fs.get t99 = some (.bool true)) (g100 : fs.get t100 = some (.int .i64 v))
    (hw : ∀ s, callN E (N + 501) 16 [.int .i64 n] s = some (.int .i64 w, s)) (T : List UInt8) (s' s'' : St) (h15 : callN E (N + 501) 15 [.int .i64 n] s = some (.string ⟨⟨T⟩⟩, s')) (h21 : callN E (N + 501) 21 [.int .i64 n] s' = some (.string ⟨⟨T⟩⟩, s'')) :
    ∃ fs', runOps (callN E (N + 501)) c4_q6 fs s = some (fs', s'') ∧ fs'.get t10 = some (.bool true) := by
  have ev : decide (v = v) = true := decide_eq_true rfl
  have ew : decide (w = w) = true := decide_eq_true rfl
  have ed : decide (daysF y m = daysF y m) = true := decide_eq_true rfl
  rw [d4_q6]
  unfold D4_q6
  simp only [op2_s', op_s', op2_op, op2_op2, op2_cond, ev_v', call_r', map_c', map_n', bin_e', pick_e', not_e, ext_e', nth_z', nth_1', nth_2', nth_3', gval_e, gval_u', cmp_e, orUndef_t', orUndef_f', condV_t', condV_f', cond_true, cond_false, eqI_eq, neI_eq, ltI_eq, leI_eq, gtI_eq', geI_eq, Bool.not_true, Bool.not_false, beq_self_eq_true, tf_beq, ft_beq, eq_self, decide_true, decide_false, oneOf1, orU_some, g0, g24, g25, g26, g99, g100, ev, eqb_e]
  generalize hF0 : PT.put (Value.int IntKind.i64 n) t110 _ = F0
  obtain ⟨F, hF⟩ : ∃ F : Frm, F = F0 := ⟨_, rfl⟩
  rw [← hF]
  have f0 : F.get t0 = some (.int .i64 n) := by rw [hF, ← hF0]; exact (by kernel_rfl : _ = fs.get t0).trans g0
  have f1 : F.get t1 = some (.int .i64 y) := by rw [hF, ← hF0]; exact (by kernel_rfl : _ = fs.get t1).trans g1
  have f2 : F.get t2 = some (.int .i64 m) := by rw [hF, ← hF0]; exact (by kernel_rfl : _ = fs.get t2).trans g2
  have f27 : F.get t27 = some (.int .i64 w) := by rw [hF, ← hF0]; exact (by kernel_rfl : _ = fs.get t27).trans g27
  have f109 : F.get t109 = some (.bool true) := by rw [hF, ← hF0]; kernel_rfl
  have f110 : F.get t110 = some (.int .i64 n) := by rw [hF, ← hF0]; kernel_rfl
  clear hF hF0 F0
  rw [d4_q5]
  unfold D4_q5
  simp only [op2_s', op_s', op2_op, op2_op2, op2_cond, ev_v', call_r', map_c', map_n', bin_e', pick_e', not_e, ext_e', nth_z', nth_1', nth_2', nth_3', gval_e, gval_u', cmp_e, orUndef_t', orUndef_f', condV_t', condV_f', cond_true, cond_false, eqI_eq, neI_eq, ltI_eq, leI_eq, gtI_eq', geI_eq, Bool.not_true, Bool.not_false, beq_self_eq_true, tf_beq, ft_beq, eq_self, decide_true, decide_false, oneOf1, orU_some, f0, f27, f109, f110, hw, ew, h15, h21, eqs_e]
  generalize hG0 : PT.put (Value.bool true) t120 _ = G0
  obtain ⟨G, hG⟩ : ∃ G : Frm, G = G0 := ⟨_, rfl⟩
  rw [← hG]
  have k1 : G.get t1 = some (.int .i64 y) := by rw [hG, ← hG0]; exact (by kernel_rfl : _ = F.get t1).trans f1
  have k2 : G.get t2 = some (.int .i64 m) := by rw [hG, ← hG0]; exact (by kernel_rfl : _ = F.get t2).trans f2
  have k115 : G.get t115 = some (.bool true) := by rw [hG, ← hG0]; kernel_rfl
  have k120 : G.get t120 = some (.bool true) := by rw [hG, ← hG0]; kernel_rfl
  clear hG hG0 G0
  have h22 := fun s => e22 (N + 500) y s
  have h23 := fun s => e23 (N + 500) y s
  rw [d4_q4]
  unfold D4_q4
  simp only [op2_s', op_s', op2_op, op2_op2, op2_cond, ev_v', call_r', map_c', map_n', bin_e', pick_e', not_e, ext_e', nth_z', nth_1', nth_2', nth_3', gval_e, gval_u', cmp_e, orUndef_t', orUndef_f', condV_t', condV_f', cond_true, cond_false, eqI_eq, neI_eq, ltI_eq, leI_eq, gtI_eq', geI_eq, Bool.not_true, Bool.not_false, beq_self_eq_true, tf_beq, ft_beq, eq_self, decide_true, decide_false, oneOf1, orU_some, k1, k115, k120, h22, h23, eqb_e]
  generalize hH0 : PT.put (Value.int IntKind.i64 y) t130 _ = H0
  obtain ⟨H, hH⟩ : ∃ H : Frm, H = H0 := ⟨_, rfl⟩
  rw [← hH]
  have l1 : H.get t1 = some (.int .i64 y) := by rw [hH, ← hH0]; exact (by kernel_rfl : _ = G.get t1).trans k1
  have l2 : H.get t2 = some (.int .i64 m) := by rw [hH, ← hH0]; exact (by kernel_rfl : _ = G.get t2).trans k2
  have l129 : H.get t129 = some (.bool true) := by rw [hH, ← hH0]; kernel_rfl
  have l130 : H.get t130 = some (.int .i64 y) := by rw [hH, ← hH0]; kernel_rfl
  clear hH hH0 H0
  have h17 := fun s => e17 (N + 499) y m s
  have h24 := fun s => e24 (N + 499) y m s
  rw [d4_q3]
  unfold D4_q3
  simp only [op2_s', op_s', op2_op, op2_op2, op2_cond, ev_v', call_r', map_c', map_n', bin_e', pick_e', not_e, ext_e', nth_z', nth_1', nth_2', nth_3', gval_e, gval_u', cmp_e, orUndef_t', orUndef_f', condV_t', condV_f', cond_true, cond_false, eqI_eq, neI_eq, ltI_eq, leI_eq, gtI_eq', geI_eq, Bool.not_true, Bool.not_false, beq_self_eq_true, tf_beq, ft_beq, eq_self, decide_true, decide_false, oneOf1, orU_some, l1, l2, l129, l130, h17, h24, ed]
  exact ⟨_, rfl, by kernel_rfl⟩
set_option maxHeartbeats 2000000 in
theorem days4 (N : Nat) (n y m d q a b c w : Int) (ok : Bool) (s s1 : St) (haw : callN E (N + 501) 10 [] s = some (.bool true, s1))
    (h14 : ∀ s, callN E (N + 501) 14 [.int .i64 n] s = some (tupOf [.int .i64 a, .int .i64 b, .int .i64 c, .bool ok], s)) (h18 : ∀ s, callN E (N + 501) 18 [.int .i64 n] s = some (tupOf [.int .i64 a, .int .i64 b, .int .i64 c, .bool ok], s))
    (hw : ∀ s, callN E (N + 501) 16 [.int .i64 n] s = some (.int .i64 w, s)) (hok : (ok = true ∧ int2 remO (.int .i64 n) (.int .i64 7) = some (.int .i64 w)) ∨ (ok = false ∧ w = -1))
    (T : List UInt8) (s2 s3 : St) (h15 : callN E (N + 501) 15 [.int .i64 n] s1 = some (.string ⟨⟨T⟩⟩, s2)) (h21 : callN E (N + 501) 21 [.int .i64 n] s2 = some (.string ⟨⟨T⟩⟩, s3)) :
    callF (callN E (N + 501)) (N + 501) c4 [.int .i64 n, .int .i64 y, .int .i64 m, .int .i64 d, .int .i64 q] s = some (.bool true, s3) := by
  obtain ⟨v, vb, o1, o2⟩ := e_of (N + 1) y m d s1
  obtain ⟨x, xb, p1, p2⟩ := e_months N n q s1
  have o1' : callN E (N + 501) 11 [.int .i64 y, .int .i64 m, .int .i64 d] s1 = some (tupOf [.int .i64 v, .bool vb], s1) := o1
  have o2' : callN E (N + 501) 19 [.int .i64 y, .int .i64 m, .int .i64 d] s1 = some (tupOf [.int .i64 v, .bool vb], s1) := o2
  have ea : decide (a = a) = true := decide_eq_true rfl
  have eb : decide (b = b) = true := decide_eq_true rfl
  have ec : decide (c = c) = true := decide_eq_true rfl
  have ev : decide (v = v) = true := decide_eq_true rfl
  rw [d4]
  unfold D4
  simp only [op2_s', op_s', op2_op, op2_op2, op2_cond, ev_v', call_r', map_c', map_n', bin_e', pick_e', not_e, ext_e', nth_z', nth_1', nth_2', nth_3', gval_e, gval_u', cmp_e, orUndef_t', orUndef_f', condV_t', condV_f', cond_true, cond_false, eqI_eq, neI_eq, ltI_eq, leI_eq, gtI_eq', geI_eq, Bool.not_true, Bool.not_false, beq_self_eq_true, tf_beq, ft_beq, eq_self, decide_true, decide_false, oneOf1, orU_some, haw, h14]
  rw [d4_q0]
  unfold D4_q0
  simp only [op2_s']
  generalize hF0 : PT.put (orU (PT.get _ t36)) t14 _ = F0
  obtain ⟨F, hF⟩ : ∃ F : Frm, F = F0 := ⟨_, rfl⟩
  rw [← hF]
  have f0 : F.get t0 = some (.int .i64 n) := by rw [hF, ← hF0]; kernel_rfl
  have f1 : F.get t1 = some (.int .i64 y) := by rw [hF, ← hF0]; kernel_rfl
  have f2 : F.get t2 = some (.int .i64 m) := by rw [hF, ← hF0]; kernel_rfl
  have f3 : F.get t3 = some (.int .i64 d) := by rw [hF, ← hF0]; kernel_rfl
  have f4 : F.get t4 = some (.int .i64 q) := by rw [hF, ← hF0]; kernel_rfl
  have f11 : F.get t11 = some (.int .i64 a) := by rw [hF, ← hF0]; kernel_rfl
  have f12 : F.get t12 = some (.int .i64 b) := by rw [hF, ← hF0]; kernel_rfl
  have f13 : F.get t13 = some (.int .i64 c) := by rw [hF, ← hF0]; kernel_rfl
  have f14 : F.get t14 = some (.bool ok) := by rw [hF, ← hF0]; kernel_rfl
  clear hF hF0 F0
  simp only [op2_s', op_s', op2_op, op2_op2, op2_cond, ev_v', call_r', map_c', map_n', bin_e', pick_e', not_e, ext_e', nth_z', nth_1', nth_2', nth_3', gval_e, gval_u', cmp_e, orUndef_t', orUndef_f', condV_t', condV_f', cond_true, cond_false, eqI_eq, neI_eq, ltI_eq, leI_eq, gtI_eq', geI_eq, Bool.not_true, Bool.not_false, beq_self_eq_true, tf_beq, ft_beq, eq_self, decide_true, decide_false, oneOf1, orU_some, f0, h18]
  rw [d4_q1]
  unfold D4_q1
  simp only [op2_s']
  generalize hG0 : PT.put (orU (PT.get _ t43)) t18 _ = G0
  obtain ⟨G, hG⟩ : ∃ G : Frm, G = G0 := ⟨_, rfl⟩
  rw [← hG]
  have g0 : G.get t0 = some (.int .i64 n) := by rw [hG, ← hG0]; exact (by kernel_rfl : _ = F.get t0).trans f0
  have g1 : G.get t1 = some (.int .i64 y) := by rw [hG, ← hG0]; exact (by kernel_rfl : _ = F.get t1).trans f1
  have g2 : G.get t2 = some (.int .i64 m) := by rw [hG, ← hG0]; exact (by kernel_rfl : _ = F.get t2).trans f2
  have g3 : G.get t3 = some (.int .i64 d) := by rw [hG, ← hG0]; exact (by kernel_rfl : _ = F.get t3).trans f3
  have g4 : G.get t4 = some (.int .i64 q) := by rw [hG, ← hG0]; exact (by kernel_rfl : _ = F.get t4).trans f4
  have g11 : G.get t11 = some (.int .i64 a) := by rw [hG, ← hG0]; exact (by kernel_rfl : _ = F.get t11).trans f11
  have g12 : G.get t12 = some (.int .i64 b) := by rw [hG, ← hG0]; exact (by kernel_rfl : _ = F.get t12).trans f12
  have g13 : G.get t13 = some (.int .i64 c) := by rw [hG, ← hG0]; exact (by kernel_rfl : _ = F.get t13).trans f13
  have g14 : G.get t14 = some (.bool ok) := by rw [hG, ← hG0]; exact (by kernel_rfl : _ = F.get t14).trans f14
  have g15 : G.get t15 = some (.int .i64 a) := by rw [hG, ← hG0]; kernel_rfl
  have g16 : G.get t16 = some (.int .i64 b) := by rw [hG, ← hG0]; kernel_rfl
  have g17 : G.get t17 = some (.int .i64 c) := by rw [hG, ← hG0]; kernel_rfl
  have g18 : G.get t18 = some (.bool ok) := by rw [hG, ← hG0]; kernel_rfl
  clear hG hG0 G0
  simp only [op2_s', op_s', op2_op, op2_op2, op2_cond, ev_v', call_r', map_c', map_n', bin_e', pick_e', not_e, ext_e', nth_z', nth_1', nth_2', nth_3', gval_e, gval_u', cmp_e, orUndef_t', orUndef_f', condV_t', condV_f', cond_true, cond_false, eqI_eq, neI_eq, ltI_eq, leI_eq, gtI_eq', geI_eq, Bool.not_true, Bool.not_false, beq_self_eq_true, tf_beq, ft_beq, eq_self, decide_true, decide_false, oneOf1, orU_some, g11, g12, g13, g15, g16, neI_eq, ea, eb]
  rw [d4_q2]
  unfold D4_q2
  generalize hH0 : PT.put (Value.int IntKind.i64 c) t53 _ = H0
  obtain ⟨H, hH⟩ : ∃ H : Frm, H = H0 := ⟨_, rfl⟩
  rw [← hH]
  have k52 : H.get t52 = some (.bool false) := by rw [hH, ← hH0]; kernel_rfl
  have k53 : H.get t53 = some (.int .i64 c) := by rw [hH, ← hH0]; kernel_rfl
  have k17 : H.get t17 = some (.int .i64 c) := by rw [hH, ← hH0]; exact (by kernel_rfl : _ = G.get t17).trans g17
  have k14 : H.get t14 = some (.bool ok) := by rw [hH, ← hH0]; exact (by kernel_rfl : _ = G.get t14).trans g14
  have k18 : H.get t18 = some (.bool ok) := by rw [hH, ← hH0]; exact (by kernel_rfl : _ = G.get t18).trans g18
  have k0 : H.get t0 = some (.int .i64 n) := by rw [hH, ← hH0]; exact (by kernel_rfl : _ = G.get t0).trans g0
  have k1 : H.get t1 = some (.int .i64 y) := by rw [hH, ← hH0]; exact (by kernel_rfl : _ = G.get t1).trans g1
  have k2 : H.get t2 = some (.int .i64 m) := by rw [hH, ← hH0]; exact (by kernel_rfl : _ = G.get t2).trans g2
  have k3 : H.get t3 = some (.int .i64 d) := by rw [hH, ← hH0]; exact (by kernel_rfl : _ = G.get t3).trans g3
  have k4 : H.get t4 = some (.int .i64 q) := by rw [hH, ← hH0]; exact (by kernel_rfl : _ = G.get t4).trans g4
  clear hH hH0 H0
  simp only [op2_s', op_s', op2_op, op2_op2, op2_cond, ev_v', call_r', map_c', map_n', bin_e', pick_e', not_e, ext_e', nth_z', nth_1', nth_2', nth_3', gval_e, gval_u', cmp_e, orUndef_t', orUndef_f', condV_t', condV_f', cond_true, cond_false, eqI_eq, neI_eq, ltI_eq, leI_eq, gtI_eq', geI_eq, Bool.not_true, Bool.not_false, beq_self_eq_true, tf_beq, ft_beq, eq_self, decide_true, decide_false, oneOf1, orU_some, k52, k53, k17, k14, k18, neI_eq, ec, neb_e]
  generalize hJ0 : PT.put (Value.bool false) t61 _ = J0
  obtain ⟨J, hJ⟩ : ∃ J : Frm, J = J0 := ⟨_, rfl⟩
  rw [← hJ]
  have j0 : J.get t0 = some (.int .i64 n) := by rw [hJ, ← hJ0]; exact (by kernel_rfl : _ = H.get t0).trans k0
  have j1 : J.get t1 = some (.int .i64 y) := by rw [hJ, ← hJ0]; exact (by kernel_rfl : _ = H.get t1).trans k1
  have j2 : J.get t2 = some (.int .i64 m) := by rw [hJ, ← hJ0]; exact (by kernel_rfl : _ = H.get t2).trans k2
  have j3 : J.get t3 = some (.int .i64 d) := by rw [hJ, ← hJ0]; exact (by kernel_rfl : _ = H.get t3).trans k3
  have j4 : J.get t4 = some (.int .i64 q) := by rw [hJ, ← hJ0]; exact (by kernel_rfl : _ = H.get t4).trans k4
  have j18 : J.get t18 = some (.bool ok) := by rw [hJ, ← hJ0]; exact (by kernel_rfl : _ = H.get t18).trans k18
  have j61 : J.get t61 = some (.bool false) := by rw [hJ, ← hJ0]; kernel_rfl
  clear hJ hJ0 J0
  have fin : ∀ fs : Frm, fs.get t0 = some (.int .i64 n) → fs.get t1 = some (.int .i64 y) → fs.get t2 = some (.int .i64 m) → fs.get t24 = some (.bool xb) → fs.get t25 = some (.int .i64 x) → fs.get t26 = some (.bool xb) → fs.get t27 = some (.int .i64 w) → fs.get t99 = some (.bool true) → fs.get t100 = some (.int .i64 x) →
      (opt2 (runOps (callN E (N + 501)) c4_q6 fs s1) fun fs s => some (oneOf [(orU (fs.get t10))], s)) = some (.bool true, s3) := by
    intro fs a0 a1 a2 a24 a25 a26 a27 a99 a100
    obtain ⟨fs', r1, r2⟩ := tail4 N n y m w x xb fs s1 a0 a1 a2 a24 a25 a26 a27 a99 a100 hw T s2 s3 h15 h21
    rw [r1, op2_s', r2]
    rfl
  rcases hok with ⟨rfl, hr⟩ | ⟨rfl, rfl⟩
  · simp only [op2_s', op_s', op2_op, op2_op2, op2_cond, ev_v', call_r', map_c', map_n', bin_e', pick_e', not_e, ext_e', nth_z', nth_1', nth_2', nth_3', gval_e, gval_u', cmp_e, orUndef_t', orUndef_f', condV_t', condV_f', cond_true, cond_false, eqI_eq, neI_eq, ltI_eq, leI_eq, gtI_eq', geI_eq, Bool.not_true, Bool.not_false, beq_self_eq_true, tf_beq, ft_beq, eq_self, decide_true, decide_false, oneOf1, orU_some, j0, j1, j2, j3, j4, j18, j61, o1', o2', p1, p2, hr, ev, eqb_e]
    exact fin _ ((by kernel_rfl : _ = J.get t0).trans j0) ((by kernel_rfl : _ = J.get t1).trans j1) ((by kernel_rfl : _ = J.get t2).trans j2) (by kernel_rfl) (by kernel_rfl) (by kernel_rfl) (by kernel_rfl) (by kernel_rfl) (by kernel_rfl)
  · simp only [op2_s', op_s', op2_op, op2_op2, op2_cond, ev_v', call_r', map_c', map_n', bin_e', pick_e', not_e, ext_e', nth_z', nth_1', nth_2', nth_3', gval_e, gval_u', cmp_e, orUndef_t', orUndef_f', condV_t', condV_f', cond_true, cond_false, eqI_eq, neI_eq, ltI_eq, leI_eq, gtI_eq', geI_eq, Bool.not_true, Bool.not_false, beq_self_eq_true, tf_beq, ft_beq, eq_self, decide_true, decide_false, oneOf1, orU_some, j0, j1, j2, j3, j4, j18, j61, o1', o2', p1, p2, ev, eqb_e]
    exact fin _ ((by kernel_rfl : _ = J.get t0).trans j0) ((by kernel_rfl : _ = J.get t1).trans j1) ((by kernel_rfl : _ = J.get t2).trans j2) (by kernel_rfl) (by kernel_rfl) (by kernel_rfl) (by kernel_rfl) (by kernel_rfl) (by kernel_rfl)
theorem days_ok (N : Nat) (n y m d q : Int) (s s1 : St) (haw : callN E (N + 501) 10 [] s = some (.bool true, s1)) (ht : s1.getC 0 = some tabC) (hl : s1.next + 20 ≤ lim) (h8 : 0 < s1.next) :
    ∃ s3, callF (callN E (N + 501)) (N + 501) c4 [.int .i64 n, .int .i64 y, .int .i64 m, .int .i64 d, .int .i64 q] s = some (.bool true, s3) ∧ s3.getC 0 = some tabC := by
  have hw := fun s => e16 (N + 499) n s
  by_cases hn : 0 ≤ n ∧ n ≤ 109572
  · obtain ⟨a, k, c, hdt⟩ := date_ex n hn.1 hn.2
    obtain ⟨s2, t1, t2⟩ := text N n a c k s1 hdt ht
    obtain ⟨s3, u1, u2⟩ := dayText N n a c k s2 hdt (by rw [t2.1]; omega)
    rw [if_pos hn] at hw
    exact ⟨s3, days4 N n y m d q a ((k : Int) + 1) c (n % 7) true s s1 haw (fun s => e14 (N + 1) n a c k s hdt) (fun s => e18 (N + 1) n a c k s hdt) hw (.inl ⟨rfl, rem_e _ _ (by omega) (by omega)⟩) _ s2 s3 t1 u1, by rw [u2.2.2 0 (by rw [t2.1]; exact h8), t2.2, ht]⟩
  · rw [if_neg hn] at hw
    exact ⟨s1, days4 N n y m d q 0 0 0 (-1) false s s1 haw (fun s => e14o (N + 1) n s hn) (fun s => e18o (N + 1) n s hn) hw (.inr ⟨rfl, rfl⟩) [] s1 s1 (text_no N n s1 hn) (dayText_no N n s1 hn), ht⟩
end Go.Proofs.YtdfmhjbmenfaeaaDoor.AbsCalD
