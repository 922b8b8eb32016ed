import Derived.Test.YtdnedangfnincaaAccSA
import Derived.Test.YtdnedangfnincaaAbsZO
import Derived.Lib.Mul64
namespace Go.Proofs.Ytdnedangfnincaa.AbsAccO
open Go Go.Abs Go.Proofs
set_option maxRecDepth 100000
set_option linter.unusedVariables false
set_option linter.unusedSimpArgs false

attribute [local congr] h_opt2 h_opt h_condV h_cond
/-! two limbs -/
def W (n : Nat) : Value := aggOf [.int .i64 ((n / 18446744073709551616 : Nat) : Int), .int .u64 ((n % 18446744073709551616 : Nat) : Int)]
theorem r82 (M : Nat) (hM : 1 ≤ M) (a b : Nat) (ha : a < 18446744073709551616) (hb : b < 18446744073709551616) (s : St) :
    callN E M 82 [.int .u64 (a : Int), .int .u64 (b : Int)] s = some (tupOf [.int .u64 ((a * b / 18446744073709551616 : Nat) : Int), .int .u64 ((a * b % 18446744073709551616 : Nat) : Int)], s) := by
  obtain ⟨m, rfl⟩ : ∃ m, M = m + 1 := ⟨M - 1, by omega⟩
  obtain ⟨h1, h2, h3, h4⟩ := Go.Lib.mul64_hi a b ha hb
  have p1 := Go.Lib.half_mul_le (a := a / 4294967296) (b := b / 4294967296) (by omega) (by omega)
  have p2 := Go.Lib.half_mul_le (a := a / 4294967296) (b := b % 4294967296) (by omega) (by omega)
  have p3 := Go.Lib.half_mul_le (a := a % 4294967296) (b := b / 4294967296) (by omega) (by omega)
  have f1 := mulU _ _ (show a / 4294967296 * (b / 4294967296) < 18446744073709551616 by omega)
  have f2 := mulU _ _ (show a / 4294967296 * (b % 4294967296) < 18446744073709551616 by omega)
  have f3 := mulU _ _ (show a % 4294967296 * (b / 4294967296) < 18446744073709551616 by omega)
  have f4 := mulU _ _ h1
  rw [x82]
  unfold F82
  simp (disch := omega) only [op2_s, op_s, bin_e, pick_e, not_e, ext_e, nth_z, nth_1, nth_2, nth_3, gval_e, gval_u, cmp_e, orUndef_t, orUndef_f, condV_t, condV_f, cond_true, cond_false, eqI_eq, neI_eq, ltI_eq, leI_eq, gtI_eq, geI_eq, Bool.not_true, Bool.not_false, bf_tt, bf_tf, bf_ft, bf_ff, decide_true, decide_false, oneOf_1, oneOf_2, oneOf_3, thenV_n, thenV_e, thenV_r, exV_e, exV_r, Nat.beq_refl, eq_self, and32_u, shr32_u, f1, f2, f3, f4, mulW, addU, h4]
theorem W_load (n : Nat) : W n = aggOf [.int .i64 ((n / 18446744073709551616 : Nat) : Int), .int .u64 ((n % 18446744073709551616 : Nat) : Int)] := rfl
theorem bu (a b : Int) (rec : Rec) (s : St) : oBuild [(.int .i64 0), (.int .u64 0)] [(0, 1, (.v (.int .i64 a))), (1, 1, (.v (.int .u64 b)))] rec PT.nil s = some (aggOf [.int .i64 a, .int .u64 b], s) := nrfl rfl
/-- product, of numbers that are not below nought -/
theorem r77 (M : Nat) (hM : 2 ≤ M) (a b : Nat) (ha : a < 9223372036854775808) (hb : b < 9223372036854775808) (s : St) (h8 : 8 ≤ s.next) (hn : s.next + 1 ≤ lim) :
    ∃ s', callN E M 77 [.int .i64 (a : Int), .int .i64 (b : Int)] s = some (W (a * b), s') ∧ Grew 1 s s' ∧ Mine s s' := by
  have hlim : lim = 1000000000 := rfl
  obtain ⟨m, rfl⟩ : ∃ m, M = m + 1 := ⟨M - 1, by omega⟩
  have hp : a * b / 18446744073709551616 < 9223372036854775808 := by
    have := Nat.mul_le_mul (show a ≤ 9223372036854775807 by omega) (show b ≤ 9223372036854775807 by omega)
    omega
  have e1 : decide ((a : Int) < 0) = false := decide_eq_false (by omega)
  have e2 : decide ((b : Int) < 0) = false := decide_eq_false (by omega)
  rw [x77]
  unfold F77
  simp (disch := (first | omega | (simp only [an_next, set_next, St.seen_next, jn_next, z0_next]; try omega; done))) only [op2_s, op_s, bin_e, pick_e, not_e, ext_e, nth_z, nth_1, nth_2, nth_3, gval_e, gval_u, cmp_e, orUndef_t, orUndef_f, condV_t, condV_f, cond_true, cond_false, eqI_eq, neI_eq, ltI_eq, leI_eq, gtI_eq, geI_eq, Bool.not_true, Bool.not_false, bf_tt, bf_tf, bf_ft, bf_ff, decide_true, decide_false, oneOf_1, oneOf_2, oneOf_3, thenV_n, thenV_e, thenV_r, exV_e, exV_r, Nat.beq_refl, eq_self, new_a, boxA, an_ati, an_atp, an_ats, an_atb, an_ne, set_ati, set_atp, set_ats, set_atb, set_ne, seen_getC, loadn_o, store_2, store_i, store_b, store_s, store_p, load_u, cut_22, put_22, cut_53, cut_55, put_55, put_50, put_51, put_52, put_53, store_5, nth_z, nth_1, nth_2, nth_3, nth_4, nil_u, fa_0, an_next, set_next, St.seen_next, jn_next, z0_next, jn_getC, z0_getC, rU_z, rU_seen, rU_set, rU_an, rU_sl, toU, toI, r82, e1, e2, bu, fin_c]
  refine ⟨_, rfl, ?_, ?_⟩
  · (repeat (first | exact Grew.refl _ | assumption | refine Grew.seen ?_ _ | refine Grew.set ?_ _ _ (by (first | omega | (simp only [an_next, set_next, St.seen_next, jn_next, z0_next]; try omega; done))) (by (first | omega | (simp only [an_next, set_next, St.seen_next, jn_next, z0_next]; try omega; done))) | refine Grew.an ?_ _ (by (first | omega | (simp only [an_next, set_next, St.seen_next, jn_next, z0_next]; try omega; done)))))
  · (repeat (first | exact Mine.refl _ | assumption | refine Mine.seen ?_ _ (by (first | omega | (simp only [an_next, set_next, St.seen_next, jn_next, z0_next]; try omega; done))) (by (first | omega | (simp only [an_next, set_next, St.seen_next, jn_next, z0_next]; try omega; done))) | refine Mine.set ?_ _ _ (by (first | omega | (simp only [an_next, set_next, St.seen_next, jn_next, z0_next]; try omega; done))) (by (first | omega | (simp only [an_next, set_next, St.seen_next, jn_next, z0_next]; try omega; done))) | refine Mine.an ?_ _ (by (first | omega | (simp only [an_next, set_next, St.seen_next, jn_next, z0_next]; try omega; done)))))
end Go.Proofs.Ytdnedangfnincaa.AbsAccO
namespace Go.Proofs.Ytdnedangfnincaa.AbsAccO
open Go Go.Abs Go.Proofs
set_option maxRecDepth 100000
set_option linter.unusedVariables false
set_option linter.unusedSimpArgs false

attribute [local congr] h_opt2 h_opt h_condV h_cond
/-! sums of two limbs -/
theorem bu0 (rec : Rec) (s : St) : oBuild [(.int .i64 0), (.int .u64 0)] [] rec PT.nil s = some (aggOf [.int .i64 0, .int .u64 0], s) := nrfl rfl
theorem fin68 (b : Nat) (v : Value) (s : St) : finX [.cell t4 (some 2), .tmp t5] .ret ((PT.put v t5 (PT.put (.pointer (some ⟨b, 0, none⟩)) t4 PT.nil)), s) = opt2 (opt (s.getC b) fun c => cutF s b 0 2 c) fun a s => some (oneOf [a, v], s) :=
  fin_ct 2 b t4 t5 v _ s (by kernel_rfl) (by kernel_rfl)
theorem r68 (M : Nat) (hM : 1 ≤ M) (A B : Nat) (h : A + B < 170141183460469231731687303715884105728) (s : St) (h8 : 8 ≤ s.next) (hn : s.next + 4 ≤ lim) :
    ∃ s', callN E M 68 [W A, W B] s = some (tupOf [W (A + B), .bool true], s') ∧ Grew 4 s s' ∧ Mine s s' := by
  have hlim : lim = 1000000000 := rfl
  obtain ⟨m, rfl⟩ : ∃ m, M = m + 1 := ⟨M - 1, by omega⟩
  have k1 : (A / 18446744073709551616 + B / 18446744073709551616 + (A % 18446744073709551616 + B % 18446744073709551616) / 18446744073709551616) % 18446744073709551616 = (A + B) / 18446744073709551616 := by omega
  have k2 : (A % 18446744073709551616 + B % 18446744073709551616) % 18446744073709551616 = (A + B) % 18446744073709551616 := by omega
  have e1 : decide (((A / 18446744073709551616 : Nat) : Int) < 0) = false := decide_eq_false (by omega)
  have e2 : decide (((B / 18446744073709551616 : Nat) : Int) < 0) = false := decide_eq_false (by omega)
  have e3 : decide ((((A + B) / 18446744073709551616 : Nat) : Int) < 0) = false := decide_eq_false (by omega)
  rw [x68]
  unfold F68
  simp (disch := (first | omega | (simp only [an_next, set_next, St.seen_next, jn_next, z0_next]; try omega; done))) only [op2_s, op_s, bin_e, pick_e, not_e, ext_e, nth_z, nth_1, nth_2, nth_3, gval_e, gval_u, cmp_e, orUndef_t, orUndef_f, condV_t, condV_f, cond_true, cond_false, eqI_eq, neI_eq, ltI_eq, leI_eq, gtI_eq, geI_eq, Bool.not_true, Bool.not_false, bf_tt, bf_tf, bf_ft, bf_ff, decide_true, decide_false, oneOf_1, oneOf_2, oneOf_3, thenV_n, thenV_e, thenV_r, exV_e, exV_r, Nat.beq_refl, eq_self, new_a, boxA, an_ati, an_atp, an_ats, an_atb, an_ne, set_ati, set_atp, set_ats, set_atb, set_ne, seen_getC, loadn_o, store_2, store_i, store_b, store_s, store_p, load_u, cut_22, put_22, cut_53, cut_55, put_55, put_50, put_51, put_52, put_53, store_5, nth_z, nth_1, nth_2, nth_3, nth_4, nil_u, fa_0, an_next, set_next, St.seen_next, jn_next, z0_next, jn_getC, z0_getC, rU_z, rU_seen, rU_set, rU_an, rU_sl, W, toU, toI, add64_u, add64_0, extX, e1, e2, e3, bu, bu0, eqvB, k1, k2, Q68_q0, J68_j0, J68_j1, fin68]
  refine ⟨_, rfl, ?_, ?_⟩
  · (repeat (first | exact Grew.refl _ | assumption | refine Grew.seen ?_ _ | refine Grew.set ?_ _ _ (by (first | omega | (simp only [an_next, set_next, St.seen_next, jn_next, z0_next]; try omega; done))) (by (first | omega | (simp only [an_next, set_next, St.seen_next, jn_next, z0_next]; try omega; done))) | refine Grew.an ?_ _ (by (first | omega | (simp only [an_next, set_next, St.seen_next, jn_next, z0_next]; try omega; done)))))
  · (repeat (first | exact Mine.refl _ | assumption | refine Mine.seen ?_ _ (by (first | omega | (simp only [an_next, set_next, St.seen_next, jn_next, z0_next]; try omega; done))) (by (first | omega | (simp only [an_next, set_next, St.seen_next, jn_next, z0_next]; try omega; done))) | refine Mine.set ?_ _ _ (by (first | omega | (simp only [an_next, set_next, St.seen_next, jn_next, z0_next]; try omega; done))) (by (first | omega | (simp only [an_next, set_next, St.seen_next, jn_next, z0_next]; try omega; done))) | refine Mine.an ?_ _ (by (first | omega | (simp only [an_next, set_next, St.seen_next, jn_next, z0_next]; try omega; done)))))
end Go.Proofs.Ytdnedangfnincaa.AbsAccO
namespace Go.Proofs.Ytdnedangfnincaa.AbsAccO
open Go Go.Abs Go.Proofs
set_option maxRecDepth 100000
set_option linter.unusedVariables false
set_option linter.unusedSimpArgs false

attribute [local congr] h_opt2 h_opt h_condV h_cond
/-! a sum and a product -/
theorem r62 (M : Nat) (hM : 4 ≤ M) (A a b : Nat) (ha : a < 9223372036854775808) (hb : b < 9223372036854775808) (h : A + a * b < 170141183460469231731687303715884105728) (s : St) (h8 : 8 ≤ s.next) (hn : s.next + 8 ≤ lim) :
    ∃ s', callN E M 62 [W A, .int .i64 (a : Int), .int .i64 (b : Int)] s = some (tupOf [W (A + a * b), .bool true], s') ∧ Grew 8 s s' ∧ Mine s s' := by
  have hlim : lim = 1000000000 := rfl
  obtain ⟨m, rfl⟩ : ∃ m, M = m + 1 := ⟨M - 1, by omega⟩
  obtain ⟨u0, hu0⟩ : ∃ u0, u0 = an (an s [.int .i64 ((A / 18446744073709551616 : Nat) : Int), .int .u64 ((A % 18446744073709551616 : Nat) : Int)]) [.int .i64 0, .int .u64 0] := ⟨_, rfl⟩
  have n0 : u0.next = s.next + 2 := by rw [hu0]; rfl
  have G0 : Grew 2 s u0 := by rw [hu0]; (repeat (first | exact Grew.refl _ | assumption | refine Grew.seen ?_ _ | refine Grew.set ?_ _ _ (by (first | omega | (simp only [an_next, set_next, St.seen_next, jn_next, z0_next]; try omega; done))) (by (first | omega | (simp only [an_next, set_next, St.seen_next, jn_next, z0_next]; try omega; done))) | refine Grew.an ?_ _ (by (first | omega | (simp only [an_next, set_next, St.seen_next, jn_next, z0_next]; try omega; done)))))
  have M0 : Mine s u0 := by rw [hu0]; (repeat (first | exact Mine.refl _ | assumption | refine Mine.seen ?_ _ (by (first | omega | (simp only [an_next, set_next, St.seen_next, jn_next, z0_next]; try omega; done))) (by (first | omega | (simp only [an_next, set_next, St.seen_next, jn_next, z0_next]; try omega; done))) | refine Mine.set ?_ _ _ (by (first | omega | (simp only [an_next, set_next, St.seen_next, jn_next, z0_next]; try omega; done))) (by (first | omega | (simp only [an_next, set_next, St.seen_next, jn_next, z0_next]; try omega; done))) | refine Mine.an ?_ _ (by (first | omega | (simp only [an_next, set_next, St.seen_next, jn_next, z0_next]; try omega; done)))))
  have x0 : u0.getC s.next = some [.int .i64 ((A / 18446744073709551616 : Nat) : Int), .int .u64 ((A % 18446744073709551616 : Nat) : Int)] := by
    rw [hu0]; simp (disch := (first | omega | (simp only [an_next, set_next, St.seen_next, jn_next, z0_next]; try omega; done))) only [new_a, boxA, an_ati, an_atp, an_ats, an_atb, an_ne, set_ati, set_atp, set_ats, set_atb, set_ne, seen_getC, loadn_o, store_2, store_i, store_b, store_s, store_p, load_u, cut_22, put_22, cut_53, cut_55, put_55, put_50, put_51, put_52, put_53, store_5, nth_z, nth_1, nth_2, nth_3, nth_4, nil_u, fa_0, an_next, set_next, St.seen_next, jn_next, z0_next, jn_getC, z0_getC, rU_z, rU_seen, rU_set, rU_an, rU_sl]
  have y0 : u0.getC (s.next + 1) = some [.int .i64 0, .int .u64 0] := by
    rw [hu0]; simp (disch := (first | omega | (simp only [an_next, set_next, St.seen_next, jn_next, z0_next]; try omega; done))) only [new_a, boxA, an_ati, an_atp, an_ats, an_atb, an_ne, set_ati, set_atp, set_ats, set_atb, set_ne, seen_getC, loadn_o, store_2, store_i, store_b, store_s, store_p, load_u, cut_22, put_22, cut_53, cut_55, put_55, put_50, put_51, put_52, put_53, store_5, nth_z, nth_1, nth_2, nth_3, nth_4, nil_u, fa_0, an_next, set_next, St.seen_next, jn_next, z0_next, jn_getC, z0_getC, rU_z, rU_seen, rU_set, rU_an, rU_sl]
  obtain ⟨u1, hu1⟩ : ∃ u1, u1 = u0.seen s.next := ⟨_, rfl⟩
  have n1 : u1.next = s.next + 2 := by rw [hu1, St.seen_next, n0]
  obtain ⟨s1, c1, g1, m1⟩ := r77 m (by omega) a b ha hb (z0 u1) (by rw [z0_next]; omega) (by rw [z0_next]; omega)
  have b1 := g1.1; have b1' := g1.2.1
  rw [z0_next] at b1 b1'
  obtain ⟨u2, hu2⟩ : ∃ u2, u2 = jn u1 s1 := ⟨_, rfl⟩
  have n2 : u2.next = s1.next := by rw [hu2]; rfl
  obtain ⟨s2, c2, g2, m2⟩ := r68 m (by omega) A (a * b) h (z0 u2) (by rw [z0_next]; omega) (by rw [z0_next]; omega)
  have b2 := g2.1; have b2' := g2.2.1
  rw [z0_next] at b2 b2'
  obtain ⟨u3, hu3⟩ : ∃ u3, u3 = jn u2 s2 := ⟨_, rfl⟩
  have n3 : u3.next = s2.next := by rw [hu3]; rfl
  have y3 : u3.getC (s.next + 1) = some [.int .i64 0, .int .u64 0] := by
    rw [hu3, jn_getC, g2.2.2 _ (by rw [z0_next]; omega), z0_getC, hu2, jn_getC, g1.2.2 _ (by rw [z0_next]; omega), z0_getC, hu1, seen_getC, y0]
  have q1 := rU_c (W (a * b)) PT.nil u1 s1
  have q2 := rU_c (tupOf [W (A + a * b), .bool true]) PT.nil u2 s2
  rw [← hu2] at q1
  rw [← hu3] at q2
  have z0' : z0 u0 = z0 u1 := by rw [hu1]; unfold z0 St.seen; rw [force_eq]
  unfold W at c1 c2 q1 q2
  rw [x62]
  unfold F62
  simp only [z0_e]
  simp (disch := (first | omega | (simp only [an_next, set_next, St.seen_next, jn_next, z0_next]; try omega; done))) only [op2_s, op_s, bin_e, pick_e, not_e, ext_e, nth_z, nth_1, nth_2, nth_3, gval_e, gval_u, cmp_e, orUndef_t, orUndef_f, condV_t, condV_f, cond_true, cond_false, eqI_eq, neI_eq, ltI_eq, leI_eq, gtI_eq, geI_eq, Bool.not_true, Bool.not_false, bf_tt, bf_tf, bf_ft, bf_ff, decide_true, decide_false, oneOf_1, oneOf_2, oneOf_3, thenV_n, thenV_e, thenV_r, exV_e, exV_r, Nat.beq_refl, eq_self, new_a, boxA, an_ati, an_atp, an_ats, an_atb, an_ne, set_ati, set_atp, set_ats, set_atb, set_ne, seen_getC, loadn_o, store_2, store_i, store_b, store_s, store_p, load_u, cut_22, put_22, cut_53, cut_55, put_55, put_50, put_51, put_52, put_53, store_5, nth_z, nth_1, nth_2, nth_3, nth_4, nil_u, fa_0, an_next, set_next, St.seen_next, jn_next, z0_next, jn_getC, z0_getC, rU_z, rU_seen, rU_set, rU_an, rU_sl, mov_v, W, ← hu0, x0, ← hu1, c1, q1, c2, q2, y3]
  rw [apartIs (n0 := s.next + 2) (fun k => if k ≤ 1 then s.next + 2 else if k = 2 then s1.next else s2.next) [0, 0, 0, 1, 2, 0, 0, 99, 0] ?hc ?h0 ?hk _ (by kernel_rfl), cond_true]
  rw [fin_ct 2 (s.next + 1) t6 t7 (.bool true) _ _ (by kernel_rfl) (by kernel_rfl)]
  simp (disch := (first | omega | (simp only [an_next, set_next, St.seen_next, jn_next, z0_next]; try omega; done))) only [new_a, boxA, an_ati, an_atp, an_ats, an_atb, an_ne, set_ati, set_atp, set_ats, set_atb, set_ne, seen_getC, loadn_o, store_2, store_i, store_b, store_s, store_p, load_u, cut_22, put_22, cut_53, cut_55, put_55, put_50, put_51, put_52, put_53, store_5, nth_z, nth_1, nth_2, nth_3, nth_4, nil_u, fa_0, an_next, set_next, St.seen_next, jn_next, z0_next, jn_getC, z0_getC, rU_z, rU_seen, rU_set, rU_an, rU_sl, op_s, op2_s, y3]
  · refine ⟨_, rfl, ?_, ?_⟩
    · have G3 : Grew 8 s u3 := by
        rw [hu3, hu2, hu1]
        rw [hu2, hu1] at g2
        rw [hu1] at g1
        exact (((G0.seen _).trans g1.z0).trans g2.z0).mono (by omega)
      (repeat (first | exact Grew.refl _ | assumption | refine Grew.seen ?_ _ | refine Grew.set ?_ _ _ (by (first | omega | (simp only [an_next, set_next, St.seen_next, jn_next, z0_next]; try omega; done))) (by (first | omega | (simp only [an_next, set_next, St.seen_next, jn_next, z0_next]; try omega; done))) | refine Grew.an ?_ _ (by (first | omega | (simp only [an_next, set_next, St.seen_next, jn_next, z0_next]; try omega; done)))))
    · have M3 : Mine s u3 := by
        rw [hu3, hu2, hu1]
        rw [hu2, hu1] at m2
        rw [hu1] at m1
        exact ((M0.seen _ (by omega) (by omega)).trans m1.jn).trans m2.jn
      (repeat (first | exact Mine.refl _ | assumption | refine Mine.seen ?_ _ (by (first | omega | (simp only [an_next, set_next, St.seen_next, jn_next, z0_next]; try omega; done))) (by (first | omega | (simp only [an_next, set_next, St.seen_next, jn_next, z0_next]; try omega; done))) | refine Mine.set ?_ _ _ (by (first | omega | (simp only [an_next, set_next, St.seen_next, jn_next, z0_next]; try omega; done))) (by (first | omega | (simp only [an_next, set_next, St.seen_next, jn_next, z0_next]; try omega; done))) | refine Mine.an ?_ _ (by (first | omega | (simp only [an_next, set_next, St.seen_next, jn_next, z0_next]; try omega; done)))))
  case hc =>
    intro i j h1 h2
    try dsimp only
    repeat' split
    all_goals omega
  case h0 =>
    intro i h1
    try dsimp only
    repeat' split
    all_goals omega
  case hk =>
    exact ⟨kI (KI.rd _ _ _ _ _ _ (by omega)) (by decide), kI (KI.pure _ _ _ _ _) (by decide), kI (KI.pure _ _ _ _ _) (by decide), kI (KI.mine _ _ u1 s1 _ 0 m1 (by simp; try omega) (by simp; try omega)) (by decide), kI (KI.mine _ _ u2 s2 _ 1 m2 (by simp; try omega) (by simp; try omega)) (by decide), kI (KI.pure _ _ _ _ _) (by decide), kI (KI.pure _ _ _ _ _) (by decide), fun h => absurd rfl h, kI (KI.pure _ _ _ _ _) (by decide), trivial⟩
end Go.Proofs.Ytdnedangfnincaa.AbsAccO
namespace Go.Proofs.Ytdnedangfnincaa.AbsAccO
open Go Go.Abs Go.Proofs
set_option maxRecDepth 100000
set_option linter.unusedVariables false
set_option linter.unusedSimpArgs false

attribute [local congr] h_opt2 h_opt h_condV h_cond
/-! an account -/
/-- an account's cells: its day, principal, what was posted, its sum -/
def accC (d p q A : Nat) : List Value := [.int .i64 (d : Int), .int .i64 (p : Int), .int .i64 (q : Int), .int .i64 ((A / 18446744073709551616 : Nat) : Int), .int .u64 ((A % 18446744073709551616 : Nat) : Int)]
theorem dx46 (m : Nat) (a b c : Value) (s : St) : callN E (m + 1) 46 [a, b, c] s = D46 (callN E m) m a b c s := (by kernel_rfl : callN E (m + 1) 46 [a, b, c] s = callF (callN E m) m c46 [a, b, c] s).trans (d46 _ _ _ _ _ _)
theorem clamp_id (x : Int) (h : 0 ≤ x) (h' : x ≤ 109572) : R.clamp x = x := by unfold R.clamp; omega
/-- upTo -/
theorem r46 (M : Nat) (hM : 3000 ≤ M) (s : St) (ab tb d p q A S : Nat) (t : Nat) (v : Value) (l : List (Int × Int)) (hl : l.length ≤ 256) (ho : R.Okl l) (ht : R.Tab s tb v l) (hd : d ≤ 109572) (htt : t ≤ 109572) (hp : p < 9223372036854775808)
    (hS : R.sumP (d : Int) (t : Int) l = (S : Int)) (hS' : S < 9223372036854775808) (hA : A + p * S < 170141183460469231731687303715884105728) (hab : s.getC ab = some (accC d p q A)) (hlt : ab < s.next) (h8 : 8 ≤ s.next) (hn : s.next + 400 ≤ lim) :
    ∃ s', callN E M 46 [.pointer (some ⟨ab, 0, none⟩), .pointer (some ⟨tb, 0, none⟩), .int .i64 (t : Int)] s = some (W (A + p * S), s') ∧ Grew 300 s s' := by
  have hlim : lim = 1000000000 := rfl
  obtain ⟨m, rfl⟩ : ∃ m, M = m + 2 := ⟨M - 2, by omega⟩
  obtain ⟨u0, hu0⟩ : ∃ u0, u0 = an s [.int .i64 0, .int .u64 0] := ⟨_, rfl⟩
  have n0 : u0.next = s.next + 1 := by rw [hu0]; rfl
  have G0 : Grew 1 s u0 := by rw [hu0]; (repeat (first | exact Grew.refl _ | assumption | refine Grew.seen ?_ _ | refine Grew.set ?_ _ _ (by (first | omega | (simp only [an_next, set_next, St.seen_next, jn_next, z0_next]; try omega; done))) (by (first | omega | (simp only [an_next, set_next, St.seen_next, jn_next, z0_next]; try omega; done))) | refine Grew.an ?_ _ (by (first | omega | (simp only [an_next, set_next, St.seen_next, jn_next, z0_next]; try omega; done)))))
  have x0 : u0.getC ab = some (accC d p q A) := (G0.2.2 ab hlt).trans hab
  have y0 : u0.getC s.next = some [.int .i64 0, .int .u64 0] := by rw [hu0]; simp (disch := (first | omega | (simp only [an_next, set_next, St.seen_next, jn_next, z0_next]; try omega; done))) only [new_a, boxA, an_ati, an_atp, an_ats, an_atb, an_ne, set_ati, set_atp, set_ats, set_atb, set_ne, seen_getC, loadn_o, store_2, store_i, store_b, store_s, store_p, load_u, cut_22, put_22, cut_53, cut_55, put_55, put_50, put_51, put_52, put_53, store_5, nth_z, nth_1, nth_2, nth_3, nth_4, nil_u, fa_0, an_next, set_next, St.seen_next, jn_next, z0_next, jn_getC, z0_getC, rU_z, rU_seen, rU_set, rU_an, rU_sl]
  obtain ⟨u1, hu1⟩ : ∃ u1, u1 = ((u0.seen ab).seen ab).seen ab := ⟨_, rfl⟩
  have n1 : u1.next = s.next + 1 := by rw [hu1]; simp only [St.seen_next, n0]
  have G1 : Grew 1 s u1 := by rw [hu1]; exact ((G0.seen _).seen _).seen _
  have ht1 : R.Tab (z0 u1) tb v l := ht.grew (k := 1) ⟨by rw [z0_next]; exact G1.1, by rw [z0_next]; exact G1.2.1, fun y hy => G1.2.2 y hy⟩
  obtain ⟨s1, c1, g1, m1⟩ := R.sum m (by omega) (z0 u1) tb v l (d : Int) (t : Int) hl ho ht1 (by rw [z0_next]; omega) (by rw [z0_next]; omega)
  rw [clamp_id _ (by omega) (by omega), clamp_id _ (by omega) (by omega), hS] at c1
  have g1 : Grew 256 (z0 u1) s1 := g1
  have b1 := g1.1; have b1' := g1.2.1
  rw [z0_next] at b1 b1'
  obtain ⟨u2, hu2⟩ : ∃ u2, u2 = jn u1 s1 := ⟨_, rfl⟩
  have n2 : u2.next = s1.next := by rw [hu2]; rfl
  obtain ⟨s2, c2, g2, m2⟩ := r62 (m + 1) (by omega) A p S hp hS' hA (z0 u2) (by rw [z0_next]; omega) (by rw [z0_next]; omega)
  have b2 := g2.1; have b2' := g2.2.1
  rw [z0_next] at b2 b2'
  obtain ⟨u3, hu3⟩ : ∃ u3, u3 = jn u2 s2 := ⟨_, rfl⟩
  have n3 : u3.next = s2.next := by rw [hu3]; rfl
  have y3 : u3.getC s.next = some [.int .i64 0, .int .u64 0] := by
    rw [hu3, jn_getC, g2.2.2 _ (by rw [z0_next]; omega), z0_getC, hu2, jn_getC, g1.2.2 _ (by rw [z0_next]; omega), z0_getC, hu1, seen_getC, seen_getC, seen_getC, y0]
  have q1 := rU_c (.int .i64 (S : Int)) PT.nil u1 s1
  have q2 := rU_c (tupOf [W (A + p * S), .bool true]) PT.nil u2 s2
  rw [← hu2] at q1
  rw [← hu3] at q2
  unfold W at c2 q2
  unfold accC at x0
  rw [dx46]
  unfold D46
  simp only [z0_e]
  simp (disch := (first | omega | (simp only [an_next, set_next, St.seen_next, jn_next, z0_next]; try omega; done))) only [op2_s, op_s, bin_e, pick_e, not_e, ext_e, nth_z, nth_1, nth_2, nth_3, gval_e, gval_u, cmp_e, orUndef_t, orUndef_f, condV_t, condV_f, cond_true, cond_false, eqI_eq, neI_eq, ltI_eq, leI_eq, gtI_eq, geI_eq, Bool.not_true, Bool.not_false, bf_tt, bf_tf, bf_ft, bf_ff, decide_true, decide_false, oneOf_1, oneOf_2, oneOf_3, thenV_n, thenV_e, thenV_r, exV_e, exV_r, Nat.beq_refl, eq_self, new_a, boxA, an_ati, an_atp, an_ats, an_atb, an_ne, set_ati, set_atp, set_ats, set_atb, set_ne, seen_getC, loadn_o, store_2, store_i, store_b, store_s, store_p, load_u, cut_22, put_22, cut_53, cut_55, put_55, put_50, put_51, put_52, put_53, store_5, nth_z, nth_1, nth_2, nth_3, nth_4, nil_u, fa_0, an_next, set_next, St.seen_next, jn_next, z0_next, jn_getC, z0_getC, rU_z, rU_seen, rU_set, rU_an, rU_sl, mov_v, W, ← hu0, x0, ← hu1, c1, q1, c2, q2, y3]
  rw [apartIs (n0 := s.next + 1) (fun k => if k ≤ 1 then s.next + 1 else if k = 2 then s1.next else if k = 3 then s2.next else s2.next + 1) [0, 0, 0, 0, 0, 0, 0, 0, 0, 0, 0, 0, 0, 0, 1, 2, 0, 0, 0, 3, 3, 0] ?hc ?h0 ?hk _ (by kernel_rfl), cond_true]
  · simp (disch := (first | omega | (simp only [an_next, set_next, St.seen_next, jn_next, z0_next]; try omega; done))) only [op2_s, op_s, bin_e, pick_e, not_e, ext_e, nth_z, nth_1, nth_2, nth_3, gval_e, gval_u, cmp_e, orUndef_t, orUndef_f, condV_t, condV_f, cond_true, cond_false, eqI_eq, neI_eq, ltI_eq, leI_eq, gtI_eq, geI_eq, Bool.not_true, Bool.not_false, bf_tt, bf_tf, bf_ft, bf_ff, decide_true, decide_false, oneOf_1, oneOf_2, oneOf_3, thenV_n, thenV_e, thenV_r, exV_e, exV_r, Nat.beq_refl, eq_self, new_a, boxA, an_ati, an_atp, an_ats, an_atb, an_ne, set_ati, set_atp, set_ats, set_atb, set_ne, seen_getC, loadn_o, store_2, store_i, store_b, store_s, store_p, load_u, cut_22, put_22, cut_53, cut_55, put_55, put_50, put_51, put_52, put_53, store_5, nth_z, nth_1, nth_2, nth_3, nth_4, nil_u, fa_0, an_next, set_next, St.seen_next, jn_next, z0_next, jn_getC, z0_getC, rU_z, rU_seen, rU_set, rU_an, rU_sl, y3, n3]
    rw [fin_cf 2 s.next t6 _ _ (by kernel_rfl)]
    simp (disch := (first | omega | (simp only [an_next, set_next, St.seen_next, jn_next, z0_next]; try omega; done))) only [op2_s, op_s, bin_e, pick_e, not_e, ext_e, nth_z, nth_1, nth_2, nth_3, gval_e, gval_u, cmp_e, orUndef_t, orUndef_f, condV_t, condV_f, cond_true, cond_false, eqI_eq, neI_eq, ltI_eq, leI_eq, gtI_eq, geI_eq, Bool.not_true, Bool.not_false, bf_tt, bf_tf, bf_ft, bf_ff, decide_true, decide_false, oneOf_1, oneOf_2, oneOf_3, thenV_n, thenV_e, thenV_r, exV_e, exV_r, Nat.beq_refl, eq_self, new_a, boxA, an_ati, an_atp, an_ats, an_atb, an_ne, set_ati, set_atp, set_ats, set_atb, set_ne, seen_getC, loadn_o, store_2, store_i, store_b, store_s, store_p, load_u, cut_22, put_22, cut_53, cut_55, put_55, put_50, put_51, put_52, put_53, store_5, nth_z, nth_1, nth_2, nth_3, nth_4, nil_u, fa_0, an_next, set_next, St.seen_next, jn_next, z0_next, jn_getC, z0_getC, rU_z, rU_seen, rU_set, rU_an, rU_sl, y3, n3]
    refine ⟨_, rfl, ?_⟩
    have G3 : Grew 290 s u3 := by
      rw [hu3, hu2]
      rw [hu2] at g2
      exact ((G1.trans g1.z0).trans g2.z0).mono (by omega)
    refine Grew.mono (j := 290 + 1) ?_ (by omega)
    (repeat (first | exact Grew.refl _ | assumption | refine Grew.seen ?_ _ | refine Grew.set ?_ _ _ (by (first | omega | (simp only [an_next, set_next, St.seen_next, jn_next, z0_next]; try omega; done))) (by (first | omega | (simp only [an_next, set_next, St.seen_next, jn_next, z0_next]; try omega; done))) | refine Grew.an ?_ _ (by (first | omega | (simp only [an_next, set_next, St.seen_next, jn_next, z0_next]; try omega; done)))))
  case hc =>
    intro i j h1 h2
    try dsimp only
    repeat' split
    all_goals omega
  case h0 =>
    intro i h1
    try dsimp only
    repeat' split
    all_goals omega
  case hk =>
    exact ⟨kI (KI.pure _ _ _ _ _) (by decide), kI (KI.pure _ _ _ _ _) (by decide), kI (KI.pure _ _ _ _ _) (by decide), kI (KI.rd _ _ _ _ _ _ (by omega)) (by decide),
      kI (KI.pure _ _ _ _ _) (by decide), kI (KI.pure _ _ _ _ _) (by decide), kI (KI.pure _ _ _ _ _) (by decide), kI (KI.ld _ _ _ _ _ _ _ (by omega)) (by decide),
      kI (KI.pure _ _ _ _ _) (by decide), kI (KI.pure _ _ _ _ _) (by decide), kI (KI.pure _ _ _ _ _) (by decide), kI (KI.pure _ _ _ _ _) (by decide), kI (KI.ld _ _ _ _ _ _ _ (by omega)) (by decide), kI (KI.pure _ _ _ _ _) (by decide),
      kI (KI.own _ _ u1 s1 _ 0 m1 (by simp; try omega) (by simp; try omega) (by simp; try omega)) (by decide), kI (KI.mine _ _ u2 s2 _ 1 m2 (by simp; try omega) (by simp; try omega)) (by decide),
      kI (KI.pure _ _ _ _ _) (by decide), kI (KI.pure _ _ _ _ _) (by decide), kI (KI.pure _ _ _ _ _) (by decide), kI (KI.an _ _ _ _ _ _ (by simp; try omega) (by simp; try omega) (by omega)) (by decide), kI (KI.set _ _ _ _ _ _ _ (by simp; try omega) (by simp; try omega)) (by decide), kI (KI.pure _ _ _ _ _) (by decide), trivial⟩
end Go.Proofs.Ytdnedangfnincaa.AbsAccO
namespace Go.Proofs.Ytdnedangfnincaa.AbsAccO
open Go Go.Abs Go.Proofs
set_option maxRecDepth 100000
set_option linter.unusedVariables false
set_option linter.unusedSimpArgs false

attribute [local congr] h_opt2 h_opt h_condV h_cond
/-! an account's calls -/
/-- the block b holds c; what else was there is as it was -/
def Upd (k b : Nat) (c : Blk) (s s' : St) : Prop := s.next ≤ s'.next ∧ s'.next ≤ s.next + k ∧ s'.getC b = some c ∧ ∀ y, y < s.next → y ≠ b → s'.getC y = s.getC y
theorem Upd.of {k b : Nat} {s u : St} (g : Grew k s u) (x : Value) (l : List Value) (h8 : 8 ≤ b) (hb : b < s.next) (hl : u.next ≤ lim + 10) (hm : isMapB (x :: l) = false) : Upd k b (x :: l) s (u.set b (some (x :: l))) := by
  have hlim : lim = 1000000000 := rfl
  have g1 := g.1
  exact ⟨by rw [set_next]; exact g.1, by rw [set_next]; exact g.2.1, set_at u b b _ h8 (by omega) hm rfl, fun y hy hne => (set_ne u b y _ (by omega) hne).trans (g.2.2 y hy)⟩
theorem Upd.seen {k b : Nat} {c : Blk} {s u : St} (h : Upd k b c s u) (x : Nat) : Upd k b c s (u.seen x) :=
  ⟨by rw [St.seen_next]; exact h.1, by rw [St.seen_next]; exact h.2.1, (seen_getC _ _ _).trans h.2.2.1, fun y hy hn => (seen_getC _ _ _).trans (h.2.2.2 y hy hn)⟩
theorem Upd.mono {j k b : Nat} {c : Blk} {s u : St} (h : Upd j b c s u) (hk : j ≤ k) : Upd k b c s u := ⟨h.1, by have := h.2.1; omega, h.2.2⟩
theorem Upd.set {k b : Nat} {c : Blk} {s u : St} (h : Upd k b c s u) (x : Value) (l : List Value) (h8 : 8 ≤ b) (hb : b < s.next) (hl : u.next ≤ lim + 10) (hm : isMapB (x :: l) = false) : Upd k b (x :: l) s (u.set b (some (x :: l))) := by
  have hlim : lim = 1000000000 := rfl
  have h1 := h.1
  exact ⟨by rw [set_next]; exact h.1, by rw [set_next]; exact h.2.1, set_at u b b _ h8 (by omega) hm rfl, fun y hy hne => (set_ne u b y _ (by omega) hne).trans (h.2.2.2 y hy hne)⟩
theorem Upd.after {j k b : Nat} {c : Blk} {s u w : St} (g : Grew j s u) (h : Upd k b c u w) (hb : b < s.next) : Upd (j + k) b c s w :=
  ⟨Nat.le_trans g.1 h.1, by have := g.2.1; have := h.2.1; omega, h.2.2.1, fun y hy hn => (h.2.2.2 y (Nat.lt_of_lt_of_le hy g.1) hn).trans (g.2.2 y hy)⟩
theorem Upd.then {j k b : Nat} {c d : Blk} {s u w : St} (g : Upd j b c s u) (h : Upd k b d u w) : Upd (j + k) b d s w :=
  ⟨Nat.le_trans g.1 h.1, by have := g.2.1; have := h.2.1; omega, h.2.2.1, fun y hy hn => (h.2.2.2 y (Nat.lt_of_lt_of_le hy g.1) hn).trans (g.2.2.2 y hy hn)⟩
theorem Upd.grew {j k b : Nat} {c : Blk} {s u w : St} (g : Upd j b c s u) (h : Grew k u w) (hb : b < s.next) : Upd (j + k) b c s w :=
  ⟨Nat.le_trans g.1 h.1, by have := g.2.1; have := h.2.1; omega, (h.2.2 b (Nat.lt_of_lt_of_le hb g.1)).trans g.2.2.1, fun y hy hn => (h.2.2 y (Nat.lt_of_lt_of_le hy g.1)).trans (g.2.2.2 y hy hn)⟩
def mayE (d : Nat) (t : Int) : Int := if t < 0 ∨ 109572 < t then 12 else if t < (d : Int) then 14 else 0
theorem r45 (M : Nat) (hM : 1 ≤ M) (s : St) (ab d p q A : Nat) (t : Int) (hab : s.getC ab = some (accC d p q A)) :
    ∃ s', callN E M 45 [.pointer (some ⟨ab, 0, none⟩), .int .i64 t] s = some (.int .i64 (mayE d t), s') ∧ Still s s' := by
  obtain ⟨m, rfl⟩ : ∃ m, M = m + 1 := ⟨M - 1, by omega⟩
  unfold accC at hab
  rw [x45]
  unfold F45
  by_cases h1 : t < 0
  · have e1 := decide_eq_true h1
    have e : mayE d t = 12 := if_pos (.inl h1)
    simp only [op2_s, op_s, bin_e, pick_e, not_e, ext_e, nth_z, nth_1, nth_2, nth_3, gval_e, gval_u, cmp_e, orUndef_t, orUndef_f, condV_t, condV_f, cond_true, cond_false, eqI_eq, neI_eq, ltI_eq, leI_eq, gtI_eq, geI_eq, Bool.not_true, Bool.not_false, bf_tt, bf_tf, bf_ft, bf_ff, decide_true, decide_false, oneOf_1, oneOf_2, oneOf_3, thenV_n, thenV_e, thenV_r, exV_e, exV_r, Nat.beq_refl, eq_self, e1, e]
    exact ⟨_, rfl, Still.refl s⟩
  have e1 := decide_eq_false h1
  by_cases h2 : 109572 < t
  · have e2 := decide_eq_true h2
    have e : mayE d t = 12 := if_pos (.inr h2)
    simp only [op2_s, op_s, bin_e, pick_e, not_e, ext_e, nth_z, nth_1, nth_2, nth_3, gval_e, gval_u, cmp_e, orUndef_t, orUndef_f, condV_t, condV_f, cond_true, cond_false, eqI_eq, neI_eq, ltI_eq, leI_eq, gtI_eq, geI_eq, Bool.not_true, Bool.not_false, bf_tt, bf_tf, bf_ft, bf_ff, decide_true, decide_false, oneOf_1, oneOf_2, oneOf_3, thenV_n, thenV_e, thenV_r, exV_e, exV_r, Nat.beq_refl, eq_self, e1, e2, e]
    exact ⟨_, rfl, Still.refl s⟩
  have e2 := decide_eq_false h2
  by_cases h3 : t < (d : Int)
  · have e3 := decide_eq_true h3
    have e : mayE d t = 14 := by unfold mayE; rw [if_neg (by omega), if_pos h3]
    simp only [op2_s, op_s, bin_e, pick_e, not_e, ext_e, nth_z, nth_1, nth_2, nth_3, gval_e, gval_u, cmp_e, orUndef_t, orUndef_f, condV_t, condV_f, cond_true, cond_false, eqI_eq, neI_eq, ltI_eq, leI_eq, gtI_eq, geI_eq, Bool.not_true, Bool.not_false, bf_tt, bf_tf, bf_ft, bf_ff, decide_true, decide_false, oneOf_1, oneOf_2, oneOf_3, thenV_n, thenV_e, thenV_r, exV_e, exV_r, Nat.beq_refl, eq_self, new_a, boxA, an_ati, an_atp, an_ats, an_atb, an_ne, set_ati, set_atp, set_ats, set_atb, set_ne, seen_getC, loadn_o, store_2, store_i, store_b, store_s, store_p, load_u, cut_22, put_22, cut_53, cut_55, put_55, put_50, put_51, put_52, put_53, store_5, nth_z, nth_1, nth_2, nth_3, nth_4, nil_u, fa_0, an_next, set_next, St.seen_next, jn_next, z0_next, jn_getC, z0_getC, rU_z, rU_seen, rU_set, rU_an, rU_sl, hab, e1, e2, e3, e]
    exact ⟨_, rfl, Still.seen s ab⟩
  have e3 := decide_eq_false h3
  have e : mayE d t = 0 := by unfold mayE; rw [if_neg (by omega), if_neg h3]
  simp only [op2_s, op_s, bin_e, pick_e, not_e, ext_e, nth_z, nth_1, nth_2, nth_3, gval_e, gval_u, cmp_e, orUndef_t, orUndef_f, condV_t, condV_f, cond_true, cond_false, eqI_eq, neI_eq, ltI_eq, leI_eq, gtI_eq, geI_eq, Bool.not_true, Bool.not_false, bf_tt, bf_tf, bf_ft, bf_ff, decide_true, decide_false, oneOf_1, oneOf_2, oneOf_3, thenV_n, thenV_e, thenV_r, exV_e, exV_r, Nat.beq_refl, eq_self, new_a, boxA, an_ati, an_atp, an_ats, an_atb, an_ne, set_ati, set_atp, set_ats, set_atb, set_ne, seen_getC, loadn_o, store_2, store_i, store_b, store_s, store_p, load_u, cut_22, put_22, cut_53, cut_55, put_55, put_50, put_51, put_52, put_53, store_5, nth_z, nth_1, nth_2, nth_3, nth_4, nil_u, fa_0, an_next, set_next, St.seen_next, jn_next, z0_next, jn_getC, z0_getC, rU_z, rU_seen, rU_set, rU_an, rU_sl, hab, e1, e2, e3, e]
  exact ⟨_, rfl, Still.seen s ab⟩
theorem may_ok {d : Nat} {t : Nat} (h : d ≤ t) (h' : t ≤ 109572) : mayE d (t : Int) = 0 := by unfold mayE; rw [if_neg (by omega), if_neg (by omega)]
theorem bu5 (a b : Int) (rec : Rec) (s : St) : oBuild [(.int .i64 0), (.int .i64 0), (.int .i64 0), (.int .i64 0), (.int .u64 0)] [(0, 1, (.v (.int .i64 a))), (1, 1, (.v (.int .i64 b)))] rec PT.nil s = some (aggOf [.int .i64 a, .int .i64 b, .int .i64 0, .int .i64 0, .int .u64 0], s) := nrfl rfl
/-- New -/
theorem r11 (M : Nat) (hM : 1 ≤ M) (s : St) (d p : Nat) (hd : d ≤ 109572) (hp : p ≤ 4503599627370496) (hn : s.next ≤ lim) :
    ∃ s', callN E M 11 [.int .i64 (d : Int), .int .i64 (p : Int)] s = some (tupOf [.pointer (some ⟨s.next, 0, none⟩), .int .i64 0], s') ∧ s'.next = s.next + 1 ∧ s'.getC s.next = some (accC d p 0 0) ∧ ∀ y, y < s.next → s'.getC y = s.getC y := by
  obtain ⟨m, rfl⟩ : ∃ m, M = m + 1 := ⟨M - 1, by omega⟩
  have e1 : decide ((d : Int) < 0) = false := decide_eq_false (by omega)
  have e2 : decide (109572 < (d : Int)) = false := decide_eq_false (by omega)
  have e3 : decide ((p : Int) < 0) = false := decide_eq_false (by omega)
  have e4 : decide (4503599627370496 < (p : Int)) = false := decide_eq_false (by omega)
  rw [x11]
  unfold F11
  simp (disch := (first | omega | (simp only [an_next, set_next, St.seen_next, jn_next, z0_next]; try omega; done))) only [op2_s, op_s, bin_e, pick_e, not_e, ext_e, nth_z, nth_1, nth_2, nth_3, gval_e, gval_u, cmp_e, orUndef_t, orUndef_f, condV_t, condV_f, cond_true, cond_false, eqI_eq, neI_eq, ltI_eq, leI_eq, gtI_eq, geI_eq, Bool.not_true, Bool.not_false, bf_tt, bf_tf, bf_ft, bf_ff, decide_true, decide_false, oneOf_1, oneOf_2, oneOf_3, thenV_n, thenV_e, thenV_r, exV_e, exV_r, Nat.beq_refl, eq_self, new_a, boxA, an_ati, an_atp, an_ats, an_atb, an_ne, set_ati, set_atp, set_ats, set_atb, set_ne, seen_getC, loadn_o, store_2, store_i, store_b, store_s, store_p, load_u, cut_22, put_22, cut_53, cut_55, put_55, put_50, put_51, put_52, put_53, store_5, nth_z, nth_1, nth_2, nth_3, nth_4, nil_u, fa_0, an_next, set_next, St.seen_next, jn_next, z0_next, jn_getC, z0_getC, rU_z, rU_seen, rU_set, rU_an, rU_sl, e1, e2, e3, e4, bu5]
  refine ⟨_, rfl, rfl, ?_, fun y hy => an_ne s _ y hn (by omega)⟩
  rw [an_ati s _ _ _ _ hn rfl]
  rfl
/-- Run, that is let -/
theorem r13 (M : Nat) (hM : 3001 ≤ M) (s : St) (ab tb d p q A S : Nat) (t : Nat) (v : Value) (l : List (Int × Int)) (hl : l.length ≤ 256) (ho : R.Okl l) (ht : R.Tab s tb v l) (hdt : d ≤ t) (htt : t ≤ 109572) (hp : p < 9223372036854775808)
    (hS : R.sumP (d : Int) (t : Int) l = (S : Int)) (hS' : S < 9223372036854775808) (hA : A + p * S < 170141183460469231731687303715884105728) (hab : s.getC ab = some (accC d p q A)) (hlt : ab < s.next) (ha8 : 8 ≤ ab) (hn : s.next + 400 ≤ lim) :
    ∃ s', callN E M 13 [.pointer (some ⟨ab, 0, none⟩), .pointer (some ⟨tb, 0, none⟩), .int .i64 (t : Int)] s = some (.int .i64 0, s') ∧ Upd 300 ab (accC t p q (A + p * S)) s s' := by
  have hlim : lim = 1000000000 := rfl
  obtain ⟨m, rfl⟩ : ∃ m, M = m + 1 := ⟨M - 1, by omega⟩
  obtain ⟨s1, c1, g1⟩ := r45 m (by omega) s ab d p q A (t : Int) hab
  rw [may_ok hdt htt] at c1
  have G1 := g1.grew
  obtain ⟨s2, c2, g2⟩ := r46 m (by omega) s1 ab tb d p q A S t v l hl ho (ht.grew (k := 0) G1) (by omega) htt hp hS hS' hA ((g1.2 ab).trans hab) (by rw [g1.1]; exact hlt) (by rw [g1.1]; omega) (by rw [g1.1]; omega)
  have b2 := g2.1; have b2' := g2.2.1
  rw [g1.1] at b2 b2'
  have x2 : s2.getC ab = some (accC d p q A) := (g2.2.2 ab (by rw [g1.1]; exact hlt)).trans ((g1.2 ab).trans hab)
  have e0 : decide ((0 : Int) = 0) = true := rfl
  have G2 : Grew 300 s s2 := (G1.trans g2).mono (by omega)
  unfold accC at x2
  unfold W at c2
  rw [x13]
  unfold F13
  simp (disch := (first | omega | (simp only [an_next, set_next, St.seen_next, jn_next, z0_next]; try omega; done))) only [op2_s, op_s, bin_e, pick_e, not_e, ext_e, nth_z, nth_1, nth_2, nth_3, gval_e, gval_u, cmp_e, orUndef_t, orUndef_f, condV_t, condV_f, cond_true, cond_false, eqI_eq, neI_eq, ltI_eq, leI_eq, gtI_eq, geI_eq, Bool.not_true, Bool.not_false, bf_tt, bf_tf, bf_ft, bf_ff, decide_true, decide_false, oneOf_1, oneOf_2, oneOf_3, thenV_n, thenV_e, thenV_r, exV_e, exV_r, Nat.beq_refl, eq_self, new_a, boxA, an_ati, an_atp, an_ats, an_atb, an_ne, set_ati, set_atp, set_ats, set_atb, set_ne, seen_getC, loadn_o, store_2, store_i, store_b, store_s, store_p, load_u, cut_22, put_22, cut_53, cut_55, put_55, put_50, put_51, put_52, put_53, store_5, nth_z, nth_1, nth_2, nth_3, nth_4, nil_u, fa_0, an_next, set_next, St.seen_next, jn_next, z0_next, jn_getC, z0_getC, rU_z, rU_seen, rU_set, rU_an, rU_sl, c1, e0, c2, x2]
  exact ⟨_, rfl, Upd.set (Upd.of G2 _ _ ha8 hlt (by omega) rfl) _ _ ha8 hlt (by rw [set_next]; omega) rfl⟩
/-- Run, refused -/
theorem r13_no (M : Nat) (hM : 2 ≤ M) (s : St) (ab d p q A : Nat) (t : Int) (tv : Value) (hab : s.getC ab = some (accC d p q A)) (h : mayE d t ≠ 0) :
    ∃ s', callN E M 13 [.pointer (some ⟨ab, 0, none⟩), tv, .int .i64 t] s = some (.int .i64 (mayE d t), s') ∧ Still s s' := by
  obtain ⟨m, rfl⟩ : ∃ m, M = m + 1 := ⟨M - 1, by omega⟩
  obtain ⟨s1, c1, g1⟩ := r45 m (by omega) s ab d p q A t hab
  have e0 : decide (mayE d t = 0) = false := decide_eq_false h
  rw [x13]
  unfold F13
  simp only [op2_s, op_s, bin_e, pick_e, not_e, ext_e, nth_z, nth_1, nth_2, nth_3, gval_e, gval_u, cmp_e, orUndef_t, orUndef_f, condV_t, condV_f, cond_true, cond_false, eqI_eq, neI_eq, ltI_eq, leI_eq, gtI_eq, geI_eq, Bool.not_true, Bool.not_false, bf_tt, bf_tf, bf_ft, bf_ff, decide_true, decide_false, oneOf_1, oneOf_2, oneOf_3, thenV_n, thenV_e, thenV_r, exV_e, exV_r, Nat.beq_refl, eq_self, c1, e0]
  exact ⟨_, rfl, g1⟩
/-- Sum -/
theorem r33 (M : Nat) (hM : 1 ≤ M) (s : St) (ab d p q A : Nat) (hab : s.getC ab = some (accC d p q A)) (hlt : ab < s.next) (h8 : 8 ≤ s.next) (hn : s.next + 1 ≤ lim) :
    ∃ s', callN E M 33 [.pointer (some ⟨ab, 0, none⟩)] s = some (W A, s') ∧ Grew 1 s s' := by
  have hlim : lim = 1000000000 := rfl
  obtain ⟨m, rfl⟩ : ∃ m, M = m + 1 := ⟨M - 1, by omega⟩
  unfold accC at hab
  rw [x33]
  unfold F33
  simp (disch := (first | omega | (simp only [an_next, set_next, St.seen_next, jn_next, z0_next]; try omega; done))) only [op2_s, op_s, bin_e, pick_e, not_e, ext_e, nth_z, nth_1, nth_2, nth_3, gval_e, gval_u, cmp_e, orUndef_t, orUndef_f, condV_t, condV_f, cond_true, cond_false, eqI_eq, neI_eq, ltI_eq, leI_eq, gtI_eq, geI_eq, Bool.not_true, Bool.not_false, bf_tt, bf_tf, bf_ft, bf_ff, decide_true, decide_false, oneOf_1, oneOf_2, oneOf_3, thenV_n, thenV_e, thenV_r, exV_e, exV_r, Nat.beq_refl, eq_self, new_a, boxA, an_ati, an_atp, an_ats, an_atb, an_ne, set_ati, set_atp, set_ats, set_atb, set_ne, seen_getC, loadn_o, store_2, store_i, store_b, store_s, store_p, load_u, cut_22, put_22, cut_53, cut_55, put_55, put_50, put_51, put_52, put_53, store_5, nth_z, nth_1, nth_2, nth_3, nth_4, nil_u, fa_0, an_next, set_next, St.seen_next, jn_next, z0_next, jn_getC, z0_getC, rU_z, rU_seen, rU_set, rU_an, rU_sl, hab, fin_c, W]
  refine ⟨_, rfl, ?_⟩
  (repeat (first | exact Grew.refl _ | assumption | refine Grew.seen ?_ _ | refine Grew.set ?_ _ _ (by (first | omega | (simp only [an_next, set_next, St.seen_next, jn_next, z0_next]; try omega; done))) (by (first | omega | (simp only [an_next, set_next, St.seen_next, jn_next, z0_next]; try omega; done))) | refine Grew.an ?_ _ (by (first | omega | (simp only [an_next, set_next, St.seen_next, jn_next, z0_next]; try omega; done)))))
theorem r30 (M : Nat) (hM : 1 ≤ M) (s : St) (ab d p q A : Nat) (hab : s.getC ab = some (accC d p q A)) : callN E M 30 [.pointer (some ⟨ab, 0, none⟩)] s = some (.int .i64 (d : Int), s.seen ab) := by
  obtain ⟨m, rfl⟩ : ∃ m, M = m + 1 := ⟨M - 1, by omega⟩
  unfold accC at hab
  rw [x30]
  unfold F30
  simp only [op2_s, op_s, bin_e, pick_e, not_e, ext_e, nth_z, nth_1, nth_2, nth_3, gval_e, gval_u, cmp_e, orUndef_t, orUndef_f, condV_t, condV_f, cond_true, cond_false, eqI_eq, neI_eq, ltI_eq, leI_eq, gtI_eq, geI_eq, Bool.not_true, Bool.not_false, bf_tt, bf_tf, bf_ft, bf_ff, decide_true, decide_false, oneOf_1, oneOf_2, oneOf_3, thenV_n, thenV_e, thenV_r, exV_e, exV_r, Nat.beq_refl, eq_self, new_a, boxA, an_ati, an_atp, an_ats, an_atb, an_ne, set_ati, set_atp, set_ats, set_atb, set_ne, seen_getC, loadn_o, store_2, store_i, store_b, store_s, store_p, load_u, cut_22, put_22, cut_53, cut_55, put_55, put_50, put_51, put_52, put_53, store_5, nth_z, nth_1, nth_2, nth_3, nth_4, nil_u, fa_0, an_next, set_next, St.seen_next, jn_next, z0_next, jn_getC, z0_getC, rU_z, rU_seen, rU_set, rU_an, rU_sl, hab]
theorem r31 (M : Nat) (hM : 1 ≤ M) (s : St) (ab d p q A : Nat) (hab : s.getC ab = some (accC d p q A)) : callN E M 31 [.pointer (some ⟨ab, 0, none⟩)] s = some (.int .i64 (p : Int), s.seen ab) := by
  obtain ⟨m, rfl⟩ : ∃ m, M = m + 1 := ⟨M - 1, by omega⟩
  unfold accC at hab
  rw [x31]
  unfold F31
  simp only [op2_s, op_s, bin_e, pick_e, not_e, ext_e, nth_z, nth_1, nth_2, nth_3, gval_e, gval_u, cmp_e, orUndef_t, orUndef_f, condV_t, condV_f, cond_true, cond_false, eqI_eq, neI_eq, ltI_eq, leI_eq, gtI_eq, geI_eq, Bool.not_true, Bool.not_false, bf_tt, bf_tf, bf_ft, bf_ff, decide_true, decide_false, oneOf_1, oneOf_2, oneOf_3, thenV_n, thenV_e, thenV_r, exV_e, exV_r, Nat.beq_refl, eq_self, new_a, boxA, an_ati, an_atp, an_ats, an_atb, an_ne, set_ati, set_atp, set_ats, set_atb, set_ne, seen_getC, loadn_o, store_2, store_i, store_b, store_s, store_p, load_u, cut_22, put_22, cut_53, cut_55, put_55, put_50, put_51, put_52, put_53, store_5, nth_z, nth_1, nth_2, nth_3, nth_4, nil_u, fa_0, an_next, set_next, St.seen_next, jn_next, z0_next, jn_getC, z0_getC, rU_z, rU_seen, rU_set, rU_an, rU_sl, hab]
theorem r32 (M : Nat) (hM : 1 ≤ M) (s : St) (ab d p q A : Nat) (hab : s.getC ab = some (accC d p q A)) : callN E M 32 [.pointer (some ⟨ab, 0, none⟩)] s = some (.int .i64 (q : Int), s.seen ab) := by
  obtain ⟨m, rfl⟩ : ∃ m, M = m + 1 := ⟨M - 1, by omega⟩
  unfold accC at hab
  rw [x32]
  unfold F32
  simp only [op2_s, op_s, bin_e, pick_e, not_e, ext_e, nth_z, nth_1, nth_2, nth_3, gval_e, gval_u, cmp_e, orUndef_t, orUndef_f, condV_t, condV_f, cond_true, cond_false, eqI_eq, neI_eq, ltI_eq, leI_eq, gtI_eq, geI_eq, Bool.not_true, Bool.not_false, bf_tt, bf_tf, bf_ft, bf_ff, decide_true, decide_false, oneOf_1, oneOf_2, oneOf_3, thenV_n, thenV_e, thenV_r, exV_e, exV_r, Nat.beq_refl, eq_self, new_a, boxA, an_ati, an_atp, an_ats, an_atb, an_ne, set_ati, set_atp, set_ats, set_atb, set_ne, seen_getC, loadn_o, store_2, store_i, store_b, store_s, store_p, load_u, cut_22, put_22, cut_53, cut_55, put_55, put_50, put_51, put_52, put_53, store_5, nth_z, nth_1, nth_2, nth_3, nth_4, nil_u, fa_0, an_next, set_next, St.seen_next, jn_next, z0_next, jn_getC, z0_getC, rU_z, rU_seen, rU_set, rU_an, rU_sl, hab]
end Go.Proofs.Ytdnedangfnincaa.AbsAccO
namespace Go.Proofs.Ytdnedangfnincaa.AbsAccO
open Go Go.Abs Go.Proofs
set_option maxRecDepth 100000
set_option linter.unusedVariables false
set_option linter.unusedSimpArgs false

/-! sums of rates: from day to day, and on -/
theorem gain_eq {d e r f t : Int} (h : d ≤ e) (h' : f ≤ t) : R.gain d e r f t = (min (max t d) e - min (max f d) e) * r := by
  unfold R.gain
  split
  · congr 1; omega
  · have : min (max t d) e - min (max f d) e = 0 := by omega
    rw [this, Int.zero_mul]
theorem gain_add {d e r f g t : Int} (h : d ≤ e) (h1 : f ≤ g) (h2 : g ≤ t) : R.gain d e r f g + R.gain d e r g t = R.gain d e r f t := by
  rw [gain_eq h h1, gain_eq h h2, gain_eq h (by omega), ← Int.add_mul]
  congr 1; omega
theorem okl_tail {p : Int × Int} {l : List (Int × Int)} (h : R.Okl (p :: l)) : R.Okl l := ⟨(List.pairwise_cons.1 h.1).2, fun q hq => h.2 q (List.mem_cons_of_mem _ hq)⟩
theorem okl_nxt {p : Int × Int} {l : List (Int × Int)} (h : R.Okl (p :: l)) : p.1 ≤ R.nxt l := by
  cases l with
  | nil =>
    have := (h.2 p List.mem_cons_self).1
    show p.1 ≤ 109573; omega
  | cons q l =>
    have := (List.pairwise_cons.1 h.1).1 q List.mem_cons_self
    show p.1 ≤ q.1; omega
theorem sum_add {f g t : Int} (h1 : f ≤ g) (h2 : g ≤ t) : ∀ {l : List (Int × Int)}, R.Okl l → R.sumP f g l + R.sumP g t l = R.sumP f t l
  | [], _ => rfl
  | p :: l, h => by
    have ih := sum_add h1 h2 (okl_tail h)
    have := gain_add (r := p.2) (okl_nxt h) h1 h2
    show (R.gain _ _ _ f g + R.sumP f g l) + (R.gain _ _ _ g t + R.sumP g t l) = R.gain _ _ _ f t + R.sumP f t l
    omega
theorem sum_bd {f t : Int} (hf : 0 ≤ f ∧ f ≤ 109573) (ht : 0 ≤ t ∧ t ≤ 109573) : ∀ {l : List (Int × Int)}, R.Okl l → 0 ≤ R.sumP f t l ∧ R.sumP f t l ≤ (l.length : Int) * 109573000000000
  | [], _ => ⟨Int.le_refl _, Int.le_refl _⟩
  | p :: l, h => by
    have ih := sum_bd hf ht (okl_tail h)
    have := R.gainB (d := p.1) (e := R.nxt l) hf ht (h.2 p List.mem_cons_self).2
    refine ⟨?_, ?_⟩
    · show 0 ≤ R.gain _ _ _ f t + R.sumP f t l; omega
    · show R.gain _ _ _ f t + R.sumP f t l ≤ ((l.length + 1 : Nat) : Int) * 109573000000000; omega
/-- the sum from the first day on -/
def sumN (l : List (Int × Int)) (t : Nat) : Nat := (R.sumP 0 (t : Int) l).toNat
theorem sumN_eq {l : List (Int × Int)} (h : R.Okl l) (t : Nat) (ht : t ≤ 109573) : R.sumP 0 (t : Int) l = (sumN l t : Int) := by
  have := (sum_bd (f := 0) (t := (t : Int)) ⟨by omega, by omega⟩ ⟨by omega, by omega⟩ h).1
  unfold sumN; omega
theorem sumN_le {l : List (Int × Int)} (h : R.Okl l) (t : Nat) (ht : t ≤ 109573) : sumN l t ≤ l.length * 109573000000000 := by
  have := (sum_bd (f := 0) (t := (t : Int)) ⟨by omega, by omega⟩ ⟨by omega, by omega⟩ h).2
  unfold sumN; omega
theorem sumN_mono {l : List (Int × Int)} (h : R.Okl l) {d t : Nat} (hd : d ≤ t) (ht : t ≤ 109573) : sumN l d ≤ sumN l t := by
  have a := sum_add (f := 0) (g := (d : Int)) (t := (t : Int)) (by omega) (by omega) h
  have b := (sum_bd (f := (d : Int)) (t := (t : Int)) ⟨by omega, by omega⟩ ⟨by omega, by omega⟩ h).1
  have := sumN_eq h d (by omega); have := sumN_eq h t ht
  omega
theorem sum_diff {l : List (Int × Int)} (h : R.Okl l) {d t : Nat} (hd : d ≤ t) (ht : t ≤ 109573) : R.sumP (d : Int) (t : Int) l = ((sumN l t - sumN l d : Nat) : Int) := by
  have a := sum_add (f := 0) (g := (d : Int)) (t := (t : Int)) (by omega) (by omega) h
  have := sumN_eq h d (by omega); have := sumN_eq h t ht
  have := sumN_mono h hd ht
  omega
theorem sumN_zero (l : List (Int × Int)) (h : R.Okl l) : sumN l 0 = 0 := by
  have a := sum_add (f := 0) (g := 0) (t := 0) (by omega) (by omega) h
  unfold sumN
  have e : ((0 : Nat) : Int) = 0 := rfl
  rw [e]; omega
/-- Run, of one whose sum stands for the sum of all rates from the first day on -/
theorem run_to (M : Nat) (hM : 3001 ≤ M) (s : St) (ab tb d p q : Nat) (t : Nat) (v : Value) (l : List (Int × Int)) (hl : l.length ≤ 256) (ho : R.Okl l) (ht : R.Tab s tb v l) (hdt : d ≤ t) (htt : t ≤ 109572) (hp : p ≤ 4503599627370496)
    (hab : s.getC ab = some (accC d p q (p * sumN l d))) (hlt : ab < s.next) (ha8 : 8 ≤ ab) (hn : s.next + 400 ≤ lim) :
    ∃ s', callN E M 13 [.pointer (some ⟨ab, 0, none⟩), .pointer (some ⟨tb, 0, none⟩), .int .i64 (t : Int)] s = some (.int .i64 0, s') ∧ Upd 300 ab (accC t p q (p * sumN l t)) s s' := by
  have h1 := sumN_mono ho hdt (by omega)
  have h2 := sumN_le ho t (by omega)
  have h3 : p * sumN l t ≤ 4503599627370496 * 28050688000000000 := Nat.mul_le_mul hp (by omega)
  have e : p * sumN l d + p * (sumN l t - sumN l d) = p * sumN l t := by rw [← Nat.mul_add]; congr 1; omega
  have := r13 M hM s ab tb d p q (p * sumN l d) (sumN l t - sumN l d) t v l hl ho ht hdt htt (by omega) (sum_diff ho hdt (by omega)) (by omega) (by rw [e]; omega) hab hlt ha8 hn
  rw [e] at this
  exact this
end Go.Proofs.Ytdnedangfnincaa.AbsAccO
namespace Go.Proofs.Ytdnedangfnincaa.AbsAccO
open Go Go.Abs Go.Proofs
set_option maxRecDepth 100000
set_option linter.unusedVariables false
set_option linter.unusedSimpArgs false

/-! AccrueParts -/
structure InI (s : St) (a : Value) (L : List Int) : Prop where
  len : ∀ (rec : Rec) (fs : Frm) (u : St), oLenL (.v a) rec fs u = some (.int .i64 (L.length : Int), u)
  idx : ∀ i, i < L.length → ∀ (rec : Rec) (fs : Frm) (u : St), oIdxAddrL 1 (.v a) (.v (.int .i64 (i : Int))) rec fs u = some (.pointer (some ⟨0, i, none⟩), u)
  cells : L ≠ [] → s.getC 0 = some (L.map fun x => .int .i64 x)
theorem nth_map {L : List Int} {i : Nat} (h : i < L.length) : nth (L.map fun x => Value.int .i64 x) i = some (.int .i64 L[i]) := by
  rw [nth_eq, List.getElem?_map, List.getElem?_eq_getElem h]; rfl
/-- the blocks lie apart -/
structure Lay (tb ab bb : Nat) (v : Value) : Prop where
  a8 : 8 ≤ ab
  b8 : 8 ≤ bb
  t8 : 8 ≤ tb
  abn : ab ≠ bb
  ta : tb ≠ ab
  tb' : tb ≠ bb
  va : R.blkOf v ≠ some ab
  vb : R.blkOf v ≠ some bb
structure Inv (s0 : St) (p last tb ab bb : Nat) (v : Value) (l : List (Int × Int)) (B i : Nat) (u : St) : Prop where
  n8 : 8 ≤ u.next
  nB : u.next ≤ B + i * 300
  tab : R.Tab u tb v l
  acc : ∃ d, d ≤ last ∧ u.getC ab = some (accC d p 0 (p * sumN l d))
  bcc : u.getC bb = some (accC 0 p 0 0)
  low : u.getC 0 = s0.getC 0
  al : ab < u.next
  bl : bb < u.next
theorem Inv.still {s0 : St} {p last tb ab bb : Nat} {v : Value} {l : List (Int × Int)} {B i : Nat} {u w : St} (h : Inv s0 p last tb ab bb v l B i u) (g : Still u w) : Inv s0 p last tb ab bb v l B (i + 1) w := by
  have := h.n8; have := h.nB
  obtain ⟨d, d1, d2⟩ := h.acc
  exact ⟨by rw [g.1]; omega, by rw [g.1]; omega, h.tab.keep (by rw [g.1]; omega) (g.2 _) fun b _ => g.2 b, ⟨d, d1, (g.2 _).trans d2⟩, (g.2 _).trans h.bcc, (g.2 _).trans h.low, by rw [g.1]; exact h.al, by rw [g.1]; exact h.bl⟩
theorem Inv.upd {s0 : St} {p last tb ab bb : Nat} {v : Value} {l : List (Int × Int)} {B i : Nat} {u w : St} (y : Lay tb ab bb v) (h : Inv s0 p last tb ab bb v l B i u) (t : Nat) (ht : t ≤ last) (g : Upd 300 ab (accC t p 0 (p * sumN l t)) u w) : Inv s0 p last tb ab bb v l B (i + 1) w := by
  have := h.n8; have := h.nB; have := g.1; have := g.2.1; have := h.al; have := h.bl; have := y.a8; have := y.b8
  refine ⟨by omega, by omega, h.tab.keep g.1 (g.2.2.2 tb h.tab.lt y.ta) fun b hb => g.2.2.2 b (h.tab.blt b hb) fun e => y.va (by rw [hb, e]), ⟨t, ht, g.2.2.1⟩, (g.2.2.2 bb h.bl (fun e => y.abn e.symm)).trans h.bcc, (g.2.2.2 0 (by omega) (by omega)).trans h.low, by omega, by omega⟩
theorem loop7 (M : Nat) (hM : 4000 ≤ M) (s0 : St) (a2 : Value) (L : List Int) (hin : InI s0 a2 L) (p last tb ab bb : Nat) (v : Value) (l : List (Int × Int)) (B : Nat) (hL : L.length ≤ 30) (hB : B + 20000 ≤ lim) (y : Lay tb ab bb v) (hl : l.length ≤ 256) (ho : R.Okl l) (hp : p ≤ 4503599627370496) (hlast : last ≤ 109572) (k1 k4 : Value) :
    ∀ (fuel i : Nat) (u : St), Inv s0 p last tb ab bb v l B i u → i ≤ L.length → L.length - i < fuel →
    ∃ w u', loopV (B7_l0 (callN E M) M (k1, a2, (.int .i64 (last : Int)), k4, (.pointer (some ⟨tb, 0, none⟩)), (.pointer (some ⟨ab, 0, none⟩)), (.pointer (some ⟨bb, 0, none⟩)))) fuel (.int .i64 (i : Int)) u = some (.exit 0, w, u') ∧ Inv s0 p last tb ab bb v l B L.length u' := by
  have hlim : lim = 1000000000 := rfl
  intro fuel
  induction fuel with
  | zero => intro i u _ _ h; omega
  | succ fuel ih =>
    intro i u hu hi hf
    have hlen := hin.len
    rw [loopV_s, B7_l0]
    by_cases hlt : i < L.length
    · have e1 : decide ((i : Int) < (L.length : Int)) = true := decide_eq_true (by omega)
      have hidx := hin.idx i hlt
      have g0 : u.getC 0 = some (L.map fun x => .int .i64 x) := hu.low.trans (hin.cells (by intro e; rw [e] at hlt; simp at hlt))
      have hn := nth_map hlt
      have hadd : int2 addO (.int .i64 (i : Int)) (.int .i64 1) = some (.int .i64 ((i + 1 : Nat) : Int)) := by rw [add_e _ _ (by omega) (by omega)]; rfl
      by_cases hle : L[i] ≤ (last : Int)
      · have e2 : decide (L[i] ≤ (last : Int)) = true := decide_eq_true hle
        obtain ⟨w, hw⟩ : ∃ w, w = (u.seen 0).seen 0 := ⟨_, rfl⟩
        have sw : Still u w := by rw [hw]; exact (Still.seen u 0).trans (Still.seen _ 0)
        obtain ⟨d, d1, d2⟩ := hu.acc
        by_cases hm : mayE d L[i] = 0
        · have hb : (d : Int) ≤ L[i] := by
            unfold mayE at hm
            split at hm
            · omega
            · split at hm <;> omega
          obtain ⟨t, ht⟩ := Int.eq_ofNat_of_zero_le (show 0 ≤ L[i] by omega)
          have := hu.nB
          obtain ⟨u', c1, g1⟩ := run_to M (by omega) w ab tb d p 0 t v l hl ho (hu.tab.keep (by rw [sw.1]; omega) (sw.2 _) fun b _ => sw.2 b) (by omega) (by omega) hp ((sw.2 _).trans d2) (by rw [sw.1]; exact hu.al) y.a8 (by rw [sw.1]; omega)
          rw [← ht] at c1
          have g2 : Upd 300 ab (accC t p 0 (p * sumN l t)) u u' := Upd.after (j := 0) sw.grew g1 hu.al |>.mono (by omega)
          obtain ⟨w', u'', r1, r2⟩ := ih (i + 1) u' (hu.upd y t (by omega) g2) (by omega) (by omega)
          simp only [op2_s, op_s, bin_e, pick_e, not_e, ext_e, nth_z, nth_1, nth_2, nth_3, gval_e, gval_u, cmp_e, orUndef_t, orUndef_f, condV_t, condV_f, cond_true, cond_false, eqI_eq, neI_eq, ltI_eq, leI_eq, gtI_eq, geI_eq, Bool.not_true, Bool.not_false, bf_tt, bf_tf, bf_ft, bf_ff, decide_true, decide_false, oneOf_1, oneOf_2, oneOf_3, thenV_n, thenV_e, thenV_r, exV_e, exV_r, Nat.beq_refl, eq_self, hlen, hidx, load_u, seen_getC, g0, hn, e1, e2, ← hw, c1, hadd]
          exact ⟨w', u'', r1, r2⟩
        · obtain ⟨u', c1, g1⟩ := r13_no M (by omega) w ab d p 0 _ L[i] (.pointer (some ⟨tb, 0, none⟩)) ((sw.2 _).trans d2) hm
          obtain ⟨w', u'', r1, r2⟩ := ih (i + 1) u' (hu.still (sw.trans g1)) (by omega) (by omega)
          simp only [op2_s, op_s, bin_e, pick_e, not_e, ext_e, nth_z, nth_1, nth_2, nth_3, gval_e, gval_u, cmp_e, orUndef_t, orUndef_f, condV_t, condV_f, cond_true, cond_false, eqI_eq, neI_eq, ltI_eq, leI_eq, gtI_eq, geI_eq, Bool.not_true, Bool.not_false, bf_tt, bf_tf, bf_ft, bf_ff, decide_true, decide_false, oneOf_1, oneOf_2, oneOf_3, thenV_n, thenV_e, thenV_r, exV_e, exV_r, Nat.beq_refl, eq_self, hlen, hidx, load_u, seen_getC, g0, hn, e1, e2, ← hw, c1, hadd]
          exact ⟨w', u'', r1, r2⟩
      · have e2 : decide (L[i] ≤ (last : Int)) = false := decide_eq_false hle
        obtain ⟨w', u'', r1, r2⟩ := ih (i + 1) (u.seen 0) (hu.still (Still.seen u 0)) (by omega) (by omega)
        simp only [op2_s, op_s, bin_e, pick_e, not_e, ext_e, nth_z, nth_1, nth_2, nth_3, gval_e, gval_u, cmp_e, orUndef_t, orUndef_f, condV_t, condV_f, cond_true, cond_false, eqI_eq, neI_eq, ltI_eq, leI_eq, gtI_eq, geI_eq, Bool.not_true, Bool.not_false, bf_tt, bf_tf, bf_ft, bf_ff, decide_true, decide_false, oneOf_1, oneOf_2, oneOf_3, thenV_n, thenV_e, thenV_r, exV_e, exV_r, Nat.beq_refl, eq_self, hlen, hidx, load_u, seen_getC, g0, hn, e1, e2, hadd]
        exact ⟨w', u'', r1, r2⟩
    · have e1 : decide ((i : Int) < (L.length : Int)) = false := decide_eq_false (by omega)
      obtain rfl : i = L.length := by omega
      simp only [op2_s, op_s, bin_e, pick_e, not_e, ext_e, nth_z, nth_1, nth_2, nth_3, gval_e, gval_u, cmp_e, orUndef_t, orUndef_f, condV_t, condV_f, cond_true, cond_false, eqI_eq, neI_eq, ltI_eq, leI_eq, gtI_eq, geI_eq, Bool.not_true, Bool.not_false, bf_tt, bf_tf, bf_ft, bf_ff, decide_true, decide_false, oneOf_1, oneOf_2, oneOf_3, thenV_n, thenV_e, thenV_r, exV_e, exV_r, Nat.beq_refl, eq_self, hlen, e1]
      exact ⟨_, _, rfl, hu⟩
end Go.Proofs.Ytdnedangfnincaa.AbsAccO
namespace Go.Proofs.Ytdnedangfnincaa.AbsAccO
open Go Go.Abs Go.Proofs
set_option maxRecDepth 100000
set_option linter.unusedVariables false
set_option linter.unusedSimpArgs false

theorem field_u (l : List Value) (o : Nat) (rec : Rec) (fs : Frm) (s : St) : oField none o (.v (aggOf l)) rec fs s = opt (nth l o) fun v => some (v, s) := nrfl rfl
theorem eqI_same (a : Int) : eqI a a = true := by rw [eqI_eq]; exact decide_eq_true rfl
theorem okl_nil : R.Okl [] := ⟨List.Pairwise.nil, fun p hp => by cases hp⟩
theorem okl_one {d r : Int} (hd : 0 ≤ d ∧ d ≤ 109572) (hr : 0 ≤ r ∧ r ≤ 1000000000) : R.Okl [(d, r)] := ⟨List.pairwise_cons.2 ⟨(fun q hq => by cases hq), List.Pairwise.nil⟩, fun p hp => by cases hp with
  | head => exact ⟨hd, hr⟩
  | tail _ h => cases h⟩
theorem sum_nil (t : Nat) : sumN [] t = 0 := rfl
/-- a new table -/
theorem r10 (M : Nat) (hM : 1 ≤ M) (s : St) (h8 : 8 ≤ s.next) (hn : s.next ≤ lim) : ∃ u, callN E M 10 [] s = some (.pointer (some ⟨s.next, 0, none⟩), u) ∧ u.next = s.next + 1 ∧ R.Tab u s.next (.slice none 0 0) [] ∧ ∀ y, y < s.next → u.getC y = s.getC y := by
  obtain ⟨m, rfl⟩ : ∃ m, M = m + 1 := ⟨M - 1, by omega⟩
  obtain ⟨u, h1, h2, h3, h4⟩ := R.new_tab m s hn
  exact ⟨u, h1, h2, ⟨h8, by omega, h3, .inl ⟨rfl, rfl⟩, fun b hb => by cases hb⟩, fun y hy => h4 y (by omega)⟩
/-- a table of one rate -/
theorem one_tab (M : Nat) (hM : 2010 ≤ M) (s : St) (d r : Int) (hd : 0 ≤ d ∧ d ≤ 109572) (hr : 0 ≤ r ∧ r ≤ 1000000000) (h8 : 8 ≤ s.next) (hn : s.next + 10 ≤ lim) :
    ∃ u w v, callN E M 10 [] s = some (.pointer (some ⟨s.next, 0, none⟩), u) ∧ callN E M 27 [.pointer (some ⟨s.next, 0, none⟩), .int .i64 d, .int .i64 r] u = some (.int .i64 0, w) ∧ R.Tab w s.next v [(d, r)] ∧ s.next < w.next ∧ w.next ≤ s.next + 5 ∧ (∀ y, y < s.next → w.getC y = s.getC y) := by
  obtain ⟨u, h1, h2, h3, h4⟩ := r10 M (by omega) s h8 (by omega)
  obtain ⟨m, rfl⟩ : ∃ m, M = m + 4 := ⟨M - 4, by omega⟩
  obtain ⟨v, w, g1, g2, g3, g4, g5, g6⟩ := R.put m (by omega) u s.next _ [] d r (by simp) okl_nil h3 (by omega)
  have e : R.putE d r = 0 := by unfold R.putE; rw [if_neg (by omega), if_neg (by omega)]
  have e' : R.putV [] d r = [(d, r)] := by unfold R.putV; rw [if_pos e]; rfl
  rw [e] at g1
  rw [e'] at g2
  exact ⟨u, w, v, h1, g1, g2, by omega, by omega, fun y hy => (g5 y (by omega) (by omega) (by intro h; cases h)).trans (h4 y hy)⟩
theorem j7 (M : Nat) (hM : 5000 ≤ M) (s0 s : St) (a2 : Value) (L : List Int) (hin : InI s0 a2 L) (hL : L.length ≤ 30) (p last : Nat) (r : Int) (hr : 0 ≤ r ∧ r ≤ 1000000000) (hp : p ≤ 4503599627370496) (hlast : last ≤ 109572) (h8 : 8 ≤ s.next) (hn : s.next ≤ 2000) (hlow : s.getC 0 = s0.getC 0) (k : Value) :
    ∃ s', J7_j1 (callN E M) M (.int .i64 (p : Int), .int .i64 r, a2, .int .i64 (last : Int), k) s = some (.bool true, s') ∧ s'.getC 0 = s0.getC 0 := by
  have hlim : lim = 1000000000 := rfl
  obtain ⟨u1, u2, v, c1, c2, ht, n1, n2, o2⟩ := one_tab M (by omega) s 3 r ⟨by omega, by omega⟩ hr h8 (by omega)
  have ho : R.Okl [((3 : Int), r)] := okl_one ⟨by omega, by omega⟩ hr
  obtain ⟨u3, c3, n3, x3, o3⟩ := r11 M (by omega) u2 0 p (by omega) hp (by omega)
  obtain ⟨u4, c4, n4, x4, o4⟩ := r11 M (by omega) u3 0 p (by omega) hp (by omega)
  have e0 : ((0 : Nat) : Int) = 0 := rfl
  rw [e0] at c3 c4
  have z : p * sumN [((3 : Int), r)] 0 = 0 := by rw [sumN_zero _ ho, Nat.mul_zero]
  have lay : Lay s.next u2.next u3.next v := ⟨by omega, by omega, h8, by omega, by omega, by omega, fun e => by have := ht.blt _ e; omega, fun e => by have := ht.blt _ e; omega⟩
  have inv0 : Inv s0 p last s.next u2.next u3.next v [((3 : Int), r)] u4.next 0 u4 :=
    ⟨by omega, by omega, ht.keep (by omega) ((o4 _ (by omega)).trans (o3 _ (by omega))) (fun b hb => (o4 b (by have := ht.blt b hb; omega)).trans (o3 b (ht.blt b hb))), ⟨0, by omega, by rw [z, o4 _ (by omega), x3]⟩, x4, by rw [o4 0 (by omega), o3 0 (by omega), o2 0 (by omega), hlow], by omega, by omega⟩
  obtain ⟨w5, u5, c5, i5⟩ := loop7 M (by omega) s0 a2 L hin p last s.next u2.next u3.next v [((3 : Int), r)] u4.next hL (by omega) lay (by simp) ho hp hlast (.int .i64 (p : Int)) k M 0 u4 inv0 (by omega) (by omega)
  rw [e0] at c5
  have b5 := i5.nB; have b5' := i5.n8
  have a5 := i5.al; have a5' := i5.bl
  obtain ⟨d, d1, d2⟩ := i5.acc
  obtain ⟨u6, c6, g6⟩ := run_to M (by omega) u5 u2.next s.next d p 0 last v _ (by simp) ho i5.tab d1 hlast hp d2 i5.al lay.a8 (by omega)
  have b6 := g6.1; have b6' := g6.2.1
  have ht6 : R.Tab u6 s.next v [((3 : Int), r)] := i5.tab.keep g6.1 (g6.2.2.2 _ i5.tab.lt lay.ta) fun b hb => g6.2.2.2 b (i5.tab.blt b hb) fun e => lay.va (by rw [hb, e])
  have y6 : u6.getC u3.next = some (accC 0 p 0 (p * sumN [((3 : Int), r)] 0)) := by rw [z]; exact (g6.2.2.2 _ i5.bl (fun e => lay.abn e.symm)).trans i5.bcc
  obtain ⟨u7, c7, g7⟩ := run_to M (by omega) u6 u3.next s.next 0 p 0 last v _ (by simp) ho ht6 (by omega) hlast hp y6 (by omega) lay.b8 (by omega)
  have b7 := g7.1; have b7' := g7.2.1
  have x7 : u7.getC u2.next = some (accC last p 0 (p * sumN [((3 : Int), r)] last)) := (g7.2.2.2 _ (by omega) lay.abn).trans g6.2.2.1
  have y7 := g7.2.2.1
  obtain ⟨u8, c8, n8, x8, o8⟩ := r11 M (by omega) u7 0 p (by omega) hp (by omega)
  rw [e0] at c8
  obtain ⟨u9, c9, n9, ht9, o9⟩ := r10 M (by omega) u8 (by omega) (by omega)
  have z9 : u9.getC u7.next = some (accC 0 p 0 (p * sumN [] 0)) := (o9 _ (by omega)).trans x8
  obtain ⟨u10, c10, g10⟩ := run_to M (by omega) u9 u7.next u8.next 0 p 0 last (.slice none 0 0) [] (by simp) okl_nil ht9 (by omega) hlast hp z9 (by omega) (by omega) (by omega)
  have b10 := g10.1; have b10' := g10.2.1
  have x10 : u10.getC u2.next = some (accC last p 0 (p * sumN [((3 : Int), r)] last)) := by rw [g10.2.2.2 _ (by omega) (by omega), o9 _ (by omega), o8 _ (by omega), x7]
  have y10 : u10.getC u3.next = some (accC last p 0 (p * sumN [((3 : Int), r)] last)) := by rw [g10.2.2.2 _ (by omega) (by omega), o9 _ (by omega), o8 _ (by omega), y7]
  have z10 : u10.getC u7.next = some (accC last p 0 0) := g10.2.2.1
  obtain ⟨u11, c11, g11⟩ := r33 M (by omega) u10 u2.next last p 0 _ x10 (by omega) (by omega) (by omega)
  have b11 := g11.1; have b11' := g11.2.1
  obtain ⟨u12, c12, g12⟩ := r33 M (by omega) u11 u3.next last p 0 _ ((g11.2.2 _ (by omega)).trans y10) (by omega) (by omega) (by omega)
  have b12 := g12.1; have b12' := g12.2.1
  have x12 := (g12.2.2 u2.next (by omega)).trans ((g11.2.2 _ (by omega)).trans x10)
  have c13 := r30 M (by omega) u12 u2.next last p 0 _ x12
  have z12 := (g12.2.2 u7.next (by omega)).trans ((g11.2.2 _ (by omega)).trans z10)
  obtain ⟨u14, c14, g14⟩ := r33 M (by omega) (u12.seen u2.next) u7.next last p 0 _ ((seen_getC _ _ _).trans z12) (by rw [St.seen_next]; omega) (by rw [St.seen_next]; omega) (by rw [St.seen_next]; omega)
  have b14 := g14.1; have b14' := g14.2.1
  rw [St.seen_next] at b14 b14'
  obtain ⟨u15, c15, g15⟩ := r33 M (by omega) u14 u7.next last p 0 _ ((g14.2.2 _ (by rw [St.seen_next]; omega)).trans ((seen_getC _ _ _).trans z12)) (by omega) (by omega) (by omega)
  have q0 : decide ((0 : Int) = 0) = true := rfl
  have q1 : decide ((last : Int) = (last : Int)) = true := decide_eq_true rfl
  have q2 : decide ((((0 : Nat) / 18446744073709551616 : Nat) : Int) = 0) = true := rfl
  have q3 : decide ((((0 : Nat) % 18446744073709551616 : Nat) : Int) = 0) = true := rfl
  unfold W at c11 c12 c14 c15
  unfold J7_j1
  simp only [op2_s, op_s, bin_e, pick_e, not_e, ext_e, nth_z, nth_1, nth_2, nth_3, gval_e, gval_u, cmp_e, orUndef_t, orUndef_f, condV_t, condV_f, cond_true, cond_false, eqI_eq, neI_eq, ltI_eq, leI_eq, gtI_eq, geI_eq, Bool.not_true, Bool.not_false, bf_tt, bf_tf, bf_ft, bf_ff, decide_true, decide_false, oneOf_1, oneOf_2, oneOf_3, thenV_n, thenV_e, thenV_r, exV_e, exV_r, Nat.beq_refl, eq_self, c1, c2, c3, c4, c5, C7_l0, J7_r0, c6, c7, c8, c9, c10, q0, c11, Q7_q2, c12, eqsN, eqI_same, Bool.and_self, c13, q1, c14, field_u, q2, Q7_q1, c15, q3]
  refine ⟨_, rfl, ?_⟩
  rw [g15.2.2 0 (by omega), g14.2.2 0 (by rw [St.seen_next]; omega), seen_getC, g12.2.2 0 (by omega), g11.2.2 0 (by omega), g10.2.2.2 0 (by omega) (by omega), o9 0 (by omega), o8 0 (by omega), g7.2.2.2 0 (by omega) (by omega), g6.2.2.2 0 (by omega) (by omega), i5.low]
end Go.Proofs.Ytdnedangfnincaa.AbsAccO
