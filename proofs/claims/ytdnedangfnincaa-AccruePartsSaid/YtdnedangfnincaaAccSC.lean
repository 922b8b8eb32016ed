import Derived.Test.YtdnedangfnincaaAccSB
import Derived.Test.YtdnedangfnincaaAbsZO
import Derived.Lib.Mul64
namespace Go.Proofs.Ytdnedangfnincaa.AbsAccO
open Go Go.Abs Go.Proofs
set_option maxRecDepth 100000
set_option linter.unusedVariables false
set_option linter.unusedSimpArgs false

attribute [local congr] h_opt2 h_opt h_condV h_cond
/-! two limbs -/
def W (n : Nat) : Value := aggOf [.int .i64 ((n / 18446744073709551616 : Nat) : Int), .int .u64 ((n % 18446744073709551616 : Nat) : Int)]
theorem r82 (M : Nat) (hM : 1 ≤ M) (a b : Nat) (ha : a < 18446744073709551616) (hb : b < 18446744073709551616) (s : St) :
    callN E M 82 [.int .u64 (a : Int), .int .u64 (b : Int)] s = some (tupOf [.int .u64 ((a * b / 18446744073709551616 : Nat) : Int), .int .u64 ((a * b % 18446744073709551616 : Nat) : Int)], s) := by
  obtain ⟨m, rfl⟩ : ∃ m, M = m + 1 := ⟨M - 1, by omega⟩
  obtain ⟨h1, h2, h3, h4⟩ := Go.Lib.mul64_hi a b ha hb
  have p1 := Go.Lib.half_mul_le (a := a / 4294967296) (b := b / 4294967296) (by omega) (by omega)
  have p2 := Go.Lib.half_mul_le (a := a / 4294967296) (b := b % 4294967296) (by omega) (by omega)
  have p3 := Go.Lib.half_mul_le (a := a % 4294967296) (b := b / 4294967296) (by omega) (by omega)
  have f1 := mulU _ _ (show a / 4294967296 * (b / 4294967296) < 18446744073709551616 by omega)
  have f2 := mulU _ _ (show a / 4294967296 * (b % 4294967296) < 18446744073709551616 by omega)
  have f3 := mulU _ _ (show a % 4294967296 * (b / 4294967296) < 18446744073709551616 by omega)
  have f4 := mulU _ _ h1
  rw [x82]
  unfold F82
  simp (disch := omega) only [op2_s, op_s, bin_e, pick_e, not_e, ext_e, nth_z, nth_1, nth_2, nth_3, gval_e, gval_u, cmp_e, orUndef_t, orUndef_f, condV_t, condV_f, cond_true, cond_false, eqI_eq, neI_eq, ltI_eq, leI_eq, gtI_eq, geI_eq, Bool.not_true, Bool.not_false, bf_tt, bf_tf, bf_ft, bf_ff, decide_true, decide_false, oneOf_1, oneOf_2, oneOf_3, thenV_n, thenV_e, thenV_r, exV_e, exV_r, Nat.beq_refl, eq_self, and32_u, shr32_u, f1, f2, f3, f4, mulW, addU, h4]
theorem W_load (n : Nat) : W n = aggOf [.int .i64 ((n / 18446744073709551616 : Nat) : Int), .int .u64 ((n % 18446744073709551616 : Nat) : Int)] := rfl
theorem bu (a b : Int) (rec : Rec) (s : St) : oBuild [(.int .i64 0), (.int .u64 0)] [(0, 1, (.v (.int .i64 a))), (1, 1, (.v (.int .u64 b)))] rec PT.nil s = some (aggOf [.int .i64 a, .int .u64 b], s) := nrfl rfl
/-- product, of numbers that are not below nought -/
theorem r77 (M : Nat) (hM : 2 ≤ M) (a b : Nat) (ha : a < 9223372036854775808) (hb : b < 9223372036854775808) (s : St) (h8 : 8 ≤ s.next) (hn : s.next + 1 ≤ lim) :
    ∃ s', callN E M 77 [.int .i64 (a : Int), .int .i64 (b : Int)] s = some (W (a * b), s') ∧ Grew 1 s s' ∧ Mine s s' := by
  have hlim : lim = 1000000000 := rfl
  obtain ⟨m, rfl⟩ : ∃ m, M = m + 1 := ⟨M - 1, by omega⟩
  have hp : a * b / 18446744073709551616 < 9223372036854775808 := by
    have := Nat.mul_le_mul (show a ≤ 9223372036854775807 by omega) (show b ≤ 9223372036854775807 by omega)
    omega
  have e1 : decide ((a : Int) < 0) = false := decide_eq_false (by omega)
  have e2 : decide ((b : Int) < 0) = false := decide_eq_false (by omega)
  rw [x77]
  unfold F77
  simp (disch := (first | omega | (simp only [an_next, set_next, St.seen_next, jn_next, z0_next]; try omega; done))) only [op2_s, op_s, bin_e, pick_e, not_e, ext_e, nth_z, nth_1, nth_2, nth_3, gval_e, gval_u, cmp_e, orUndef_t, orUndef_f, condV_t, condV_f, cond_true, cond_false, eqI_eq, neI_eq, ltI_eq, leI_eq, gtI_eq, geI_eq, Bool.not_true, Bool.not_false, bf_tt, bf_tf, bf_ft, bf_ff, decide_true, decide_false, oneOf_1, oneOf_2, oneOf_3, thenV_n, thenV_e, thenV_r, exV_e, exV_r, Nat.beq_refl, eq_self, new_a, boxA, an_ati, an_atp, an_ats, an_atb, an_ne, set_ati, set_atp, set_ats, set_atb, set_ne, seen_getC, loadn_o, store_2, store_i, store_b, store_s, store_p, load_u, cut_22, put_22, cut_53, cut_55, put_55, put_50, put_51, put_52, put_53, store_5, nth_z, nth_1, nth_2, nth_3, nth_4, nil_u, fa_0, an_next, set_next, St.seen_next, jn_next, z0_next, jn_getC, z0_getC, rU_z, rU_seen, rU_set, rU_an, rU_sl, toU, toI, r82, e1, e2, bu, fin_c]
  refine ⟨_, rfl, ?_, ?_⟩
  · (repeat (first | exact Grew.refl _ | assumption | refine Grew.seen ?_ _ | refine Grew.set ?_ _ _ (by (first | omega | (simp only [an_next, set_next, St.seen_next, jn_next, z0_next]; try omega; done))) (by (first | omega | (simp only [an_next, set_next, St.seen_next, jn_next, z0_next]; try omega; done))) | refine Grew.an ?_ _ (by (first | omega | (simp only [an_next, set_next, St.seen_next, jn_next, z0_next]; try omega; done)))))
  · (repeat (first | exact Mine.refl _ | assumption | refine Mine.seen ?_ _ (by (first | omega | (simp only [an_next, set_next, St.seen_next, jn_next, z0_next]; try omega; done))) (by (first | omega | (simp only [an_next, set_next, St.seen_next, jn_next, z0_next]; try omega; done))) | refine Mine.set ?_ _ _ (by (first | omega | (simp only [an_next, set_next, St.seen_next, jn_next, z0_next]; try omega; done))) (by (first | omega | (simp only [an_next, set_next, St.seen_next, jn_next, z0_next]; try omega; done))) | refine Mine.an ?_ _ (by (first | omega | (simp only [an_next, set_next, St.seen_next, jn_next, z0_next]; try omega; done)))))
end Go.Proofs.Ytdnedangfnincaa.AbsAccO
namespace Go.Proofs.Ytdnedangfnincaa.AbsAccO
open Go Go.Abs Go.Proofs
set_option maxRecDepth 100000
set_option linter.unusedVariables false
set_option linter.unusedSimpArgs false

attribute [local congr] h_opt2 h_opt h_condV h_cond
/-! sums of two limbs -/
theorem bu0 (rec : Rec) (s : St) : oBuild [(.int .i64 0), (.int .u64 0)] [] rec PT.nil s = some (aggOf [.int .i64 0, .int .u64 0], s) := nrfl rfl
theorem fin68 (b : Nat) (v : Value) (s : St) : finX [.cell t4 (some 2), .tmp t5] .ret ((PT.put v t5 (PT.put (.pointer (some ⟨b, 0, none⟩)) t4 PT.nil)), s) = opt2 (opt (s.getC b) fun c => cutF s b 0 2 c) fun a s => some (oneOf [a, v], s) :=
  fin_ct 2 b t4 t5 v _ s (by kernel_rfl) (by kernel_rfl)
theorem r68 (M : Nat) (hM : 1 ≤ M) (A B : Nat) (h : A + B < 170141183460469231731687303715884105728) (s : St) (h8 : 8 ≤ s.next) (hn : s.next + 4 ≤ lim) :
    ∃ s', callN E M 68 [W A, W B] s = some (tupOf [W (A + B), .bool true], s') ∧ Grew 4 s s' ∧ Mine s s' := by
  have hlim : lim = 1000000000 := rfl
  obtain ⟨m, rfl⟩ : ∃ m, M = m + 1 := ⟨M - 1, by omega⟩
  have k1 : (A / 18446744073709551616 + B / 18446744073709551616 + (A % 18446744073709551616 + B % 18446744073709551616) / 18446744073709551616) % 18446744073709551616 = (A + B) / 18446744073709551616 := by omega
  have k2 : (A % 18446744073709551616 + B % 18446744073709551616) % 18446744073709551616 = (A + B) % 18446744073709551616 := by omega
  have e1 : decide (((A / 18446744073709551616 : Nat) : Int) < 0) = false := decide_eq_false (by omega)
  have e2 : decide (((B / 18446744073709551616 : Nat) : Int) < 0) = false := decide_eq_false (by omega)
  have e3 : decide ((((A + B) / 18446744073709551616 : Nat) : Int) < 0) = false := decide_eq_false (by omega)
  rw [x68]
  unfold F68
  simp (disch := (first | omega | (simp only [an_next, set_next, St.seen_next, jn_next, z0_next]; try omega; done))) only [op2_s, op_s, bin_e, pick_e, not_e, ext_e, nth_z, nth_1, nth_2, nth_3, gval_e, gval_u, cmp_e, orUndef_t, orUndef_f, condV_t, condV_f, cond_true, cond_false, eqI_eq, neI_eq, ltI_eq, leI_eq, gtI_eq, geI_eq, Bool.not_true, Bool.not_false, bf_tt, bf_tf, bf_ft, bf_ff, decide_true, decide_false, oneOf_1, oneOf_2, oneOf_3, thenV_n, thenV_e, thenV_r, exV_e, exV_r, Nat.beq_refl, eq_self, new_a, boxA, an_ati, an_atp, an_ats, an_atb, an_ne, set_ati, set_atp, set_ats, set_atb, set_ne, seen_getC, loadn_o, store_2, store_i, store_b, store_s, store_p, load_u, cut_22, put_22, cut_53, cut_55, put_55, put_50, put_51, put_52, put_53, store_5, nth_z, nth_1, nth_2, nth_3, nth_4, nil_u, fa_0, an_next, set_next, St.seen_next, jn_next, z0_next, jn_getC, z0_getC, rU_z, rU_seen, rU_set, rU_an, rU_sl, W, toU, toI, add64_u, add64_0, extX, e1, e2, e3, bu, bu0, eqvB, k1, k2, Q68_q0, J68_j0, J68_j1, fin68]
  refine ⟨_, rfl, ?_, ?_⟩
  · (repeat (first | exact Grew.refl _ | assumption | refine Grew.seen ?_ _ | refine Grew.set ?_ _ _ (by (first | omega | (simp only [an_next, set_next, St.seen_next, jn_next, z0_next]; try omega; done))) (by (first | omega | (simp only [an_next, set_next, St.seen_next, jn_next, z0_next]; try omega; done))) | refine Grew.an ?_ _ (by (first | omega | (simp only [an_next, set_next, St.seen_next, jn_next, z0_next]; try omega; done)))))
  · (repeat (first | exact Mine.refl _ | assumption | refine Mine.seen ?_ _ (by (first | omega | (simp only [an_next, set_next, St.seen_next, jn_next, z0_next]; try omega; done))) (by (first | omega | (simp only [an_next, set_next, St.seen_next, jn_next, z0_next]; try omega; done))) | refine Mine.set ?_ _ _ (by (first | omega | (simp only [an_next, set_next, St.seen_next, jn_next, z0_next]; try omega; done))) (by (first | omega | (simp only [an_next, set_next, St.seen_next, jn_next, z0_next]; try omega; done))) | refine Mine.an ?_ _ (by (first | omega | (simp only [an_next, set_next, St.seen_next, jn_next, z0_next]; try omega; done)))))
end Go.Proofs.Ytdnedangfnincaa.AbsAccO
namespace Go.Proofs.Ytdnedangfnincaa.AbsAccO
open Go Go.Abs Go.Proofs
set_option maxRecDepth 100000
set_option linter.unusedVariables false
set_option linter.unusedSimpArgs false

attribute [local congr] h_opt2 h_opt h_condV h_cond
/-! a sum and a product -/
theorem r62 (M : Nat) (hM : 4 ≤ M) (A a b : Nat) (ha : a < 9223372036854775808) (hb : b < 9223372036854775808) (h : A + a * b < 170141183460469231731687303715884105728) (s : St) (h8 : 8 ≤ s.next) (hn : s.next + 8 ≤ lim) :
    ∃ s', callN E M 62 [W A, .int .i64 (a : Int), .int .i64 (b : Int)] s = some (tupOf [W (A + a * b), .bool true], s') ∧ Grew 8 s s' ∧ Mine s s' := by
  have hlim : lim = 1000000000 := rfl
  obtain ⟨m, rfl⟩ : ∃ m, M = m + 1 := ⟨M - 1, by omega⟩
  obtain ⟨u0, hu0⟩ : ∃ u0, u0 = an (an s [.int .i64 ((A / 18446744073709551616 : Nat) : Int), .int .u64 ((A % 18446744073709551616 : Nat) : Int)]) [.int .i64 0, .int .u64 0] := ⟨_, rfl⟩
  have n0 : u0.next = s.next + 2 := by rw [hu0]; rfl
  have G0 : Grew 2 s u0 := by rw [hu0]; (repeat (first | exact Grew.refl _ | assumption | refine Grew.seen ?_ _ | refine Grew.set ?_ _ _ (by (first | omega | (simp only [an_next, set_next, St.seen_next, jn_next, z0_next]; try omega; done))) (by (first | omega | (simp only [an_next, set_next, St.seen_next, jn_next, z0_next]; try omega; done))) | refine Grew.an ?_ _ (by (first | omega | (simp only [an_next, set_next, St.seen_next, jn_next, z0_next]; try omega; done)))))
  have M0 : Mine s u0 := by rw [hu0]; (repeat (first | exact Mine.refl _ | assumption | refine Mine.seen ?_ _ (by (first | omega | (simp only [an_next, set_next, St.seen_next, jn_next, z0_next]; try omega; done))) (by (first | omega | (simp only [an_next, set_next, St.seen_next, jn_next, z0_next]; try omega; done))) | refine Mine.set ?_ _ _ (by (first | omega | (simp only [an_next, set_next, St.seen_next, jn_next, z0_next]; try omega; done))) (by (first | omega | (simp only [an_next, set_next, St.seen_next, jn_next, z0_next]; try omega; done))) | refine Mine.an ?_ _ (by (first | omega | (simp only [an_next, set_next, St.seen_next, jn_next, z0_next]; try omega; done)))))
  have x0 : u0.getC s.next = some [.int .i64 ((A / 18446744073709551616 : Nat) : Int), .int .u64 ((A % 18446744073709551616 : Nat) : Int)] := by
    rw [hu0]; simp (disch := (first | omega | (simp only [an_next, set_next, St.seen_next, jn_next, z0_next]; try omega; done))) only [new_a, boxA, an_ati, an_atp, an_ats, an_atb, an_ne, set_ati, set_atp, set_ats, set_atb, set_ne, seen_getC, loadn_o, store_2, store_i, store_b, store_s, store_p, load_u, cut_22, put_22, cut_53, cut_55, put_55, put_50, put_51, put_52, put_53, store_5, nth_z, nth_1, nth_2, nth_3, nth_4, nil_u, fa_0, an_next, set_next, St.seen_next, jn_next, z0_next, jn_getC, z0_getC, rU_z, rU_seen, rU_set, rU_an, rU_sl]
  have y0 : u0.getC (s.next + 1) = some [.int .i64 0, .int .u64 0] := by
    rw [hu0]; simp (disch := (first | omega | (simp only [an_next, set_next, St.seen_next, jn_next, z0_next]; try omega; done))) only [new_a, boxA, an_ati, an_atp, an_ats, an_atb, an_ne, set_ati, set_atp, set_ats, set_atb, set_ne, seen_getC, loadn_o, store_2, store_i, store_b, store_s, store_p, load_u, cut_22, put_22, cut_53, cut_55, put_55, put_50, put_51, put_52, put_53, store_5, nth_z, nth_1, nth_2, nth_3, nth_4, nil_u, fa_0, an_next, set_next, St.seen_next, jn_next, z0_next, jn_getC, z0_getC, rU_z, rU_seen, rU_set, rU_an, rU_sl]
  obtain ⟨u1, hu1⟩ : ∃ u1, u1 = u0.seen s.next := ⟨_, rfl⟩
  have n1 : u1.next = s.next + 2 := by rw [hu1, St.seen_next, n0]
  obtain ⟨s1, c1, g1, m1⟩ := r77 m (by omega) a b ha hb (z0 u1) (by rw [z0_next]; omega) (by rw [z0_next]; omega)
  have b1 := g1.1; have b1' := g1.2.1
  rw [z0_next] at b1 b1'
  obtain ⟨u2, hu2⟩ : ∃ u2, u2 = jn u1 s1 := ⟨_, rfl⟩
  have n2 : u2.next = s1.next := by rw [hu2]; rfl
  obtain ⟨s2, c2, g2, m2⟩ := r68 m (by omega) A (a * b) h (z0 u2) (by rw [z0_next]; omega) (by rw [z0_next]; omega)
  have b2 := g2.1; have b2' := g2.2.1
  rw [z0_next] at b2 b2'
  obtain ⟨u3, hu3⟩ : ∃ u3, u3 = jn u2 s2 := ⟨_, rfl⟩
  have n3 : u3.next = s2.next := by rw [hu3]; rfl
  have y3 : u3.getC (s.next + 1) = some [.int .i64 0, .int .u64 0] := by
    rw [hu3, jn_getC, g2.2.2 _ (by rw [z0_next]; omega), z0_getC, hu2, jn_getC, g1.2.2 _ (by rw [z0_next]; omega), z0_getC, hu1, seen_getC, y0]
  have q1 := rU_c (W (a * b)) PT.nil u1 s1
  have q2 := rU_c (tupOf [W (A + a * b), .bool true]) PT.nil u2 s2
  rw [← hu2] at q1
  rw [← hu3] at q2
  have z0' : z0 u0 = z0 u1 := by rw [hu1]; unfold z0 St.seen; rw [force_eq]
  unfold W at c1 c2 q1 q2
  rw [x62]
  unfold F62
  simp only [z0_e]
  simp (disch := (first | omega | (simp only [an_next, set_next, St.seen_next, jn_next, z0_next]; try omega; done))) only [op2_s, op_s, bin_e, pick_e, not_e, ext_e, nth_z, nth_1, nth_2, nth_3, gval_e, gval_u, cmp_e, orUndef_t, orUndef_f, condV_t, condV_f, cond_true, cond_false, eqI_eq, neI_eq, ltI_eq, leI_eq, gtI_eq, geI_eq, Bool.not_true, Bool.not_false, bf_tt, bf_tf, bf_ft, bf_ff, decide_true, decide_false, oneOf_1, oneOf_2, oneOf_3, thenV_n, thenV_e, thenV_r, exV_e, exV_r, Nat.beq_refl, eq_self, new_a, boxA, an_ati, an_atp, an_ats, an_atb, an_ne, set_ati, set_atp, set_ats, set_atb, set_ne, seen_getC, loadn_o, store_2, store_i, store_b, store_s, store_p, load_u, cut_22, put_22, cut_53, cut_55, put_55, put_50, put_51, put_52, put_53, store_5, nth_z, nth_1, nth_2, nth_3, nth_4, nil_u, fa_0, an_next, set_next, St.seen_next, jn_next, z0_next, jn_getC, z0_getC, rU_z, rU_seen, rU_set, rU_an, rU_sl, mov_v, W, ← hu0, x0, ← hu1, c1, q1, c2, q2, y3]
  rw [apartIs (n0 := s.next + 2) (fun k => if k ≤ 1 then s.next + 2 else if k = 2 then s1.next else s2.next) [0, 0, 0, 1, 2, 0, 0, 99, 0] ?hc ?h0 ?hk _ (by kernel_rfl), cond_true]
  rw [fin_ct 2 (s.next + 1) t6 t7 (.bool true) _ _ (by kernel_rfl) (by kernel_rfl)]
  simp (disch := (first | omega | (simp only [an_next, set_next, St.seen_next, jn_next, z0_next]; try omega; done))) only [new_a, boxA, an_ati, an_atp, an_ats, an_atb, an_ne, set_ati, set_atp, set_ats, set_atb, set_ne, seen_getC, loadn_o, store_2, store_i, store_b, store_s, store_p, load_u, cut_22, put_22, cut_53, cut_55, put_55, put_50, put_51, put_52, put_53, store_5, nth_z, nth_1, nth_2, nth_3, nth_4, nil_u, fa_0, an_next, set_next, St.seen_next, jn_next, z0_next, jn_getC, z0_getC, rU_z, rU_seen, rU_set, rU_an, rU_sl, op_s, op2_s, y3]
  · refine ⟨_, rfl, ?_, ?_⟩
    · have G3 : Grew 8 s u3 := by
        rw [hu3, hu2, hu1]
        rw [hu2, hu1] at g2
        rw [hu1] at g1
        exact (((G0.seen _).trans g1.z0).trans g2.z0).mono (by omega)
      (repeat (first | exact Grew.refl _ | assumption | refine Grew.seen ?_ _ | refine Grew.set ?_ _ _ (by (first | omega | (simp only [an_next, set_next, St.seen_next, jn_next, z0_next]; try omega; done))) (by (first | omega | (simp only [an_next, set_next, St.seen_next, jn_next, z0_next]; try omega; done))) | refine Grew.an ?_ _ (by (first | omega | (simp only [an_next, set_next, St.seen_next, jn_next, z0_next]; try omega; done)))))
    · have M3 : Mine s u3 := by
        rw [hu3, hu2, hu1]
        rw [hu2, hu1] at m2
        rw [hu1] at m1
        exact ((M0.seen _ (by omega) (by omega)).trans m1.jn).trans m2.jn
      (repeat (first | exact Mine.refl _ | assumption | refine Mine.seen ?_ _ (by (first | omega | (simp only [an_next, set_next, St.seen_next, jn_next, z0_next]; try omega; done))) (by (first | omega | (simp only [an_next, set_next, St.seen_next, jn_next, z0_next]; try omega; done))) | refine Mine.set ?_ _ _ (by (first | omega | (simp only [an_next, set_next, St.seen_next, jn_next, z0_next]; try omega; done))) (by (first | omega | (simp only [an_next, set_next, St.seen_next, jn_next, z0_next]; try omega; done))) | refine Mine.an ?_ _ (by (first | omega | (simp only [an_next, set_next, St.seen_next, jn_next, z0_next]; try omega; done)))))
  case hc =>
    intro i j h1 h2
    try dsimp only
    repeat' split
    all_goals omega
  case h0 =>
    intro i h1
    try dsimp only
    repeat' split
    all_goals omega
  case hk =>
    exact ⟨fun _ => KI.rd _ _ _ _ _ _ (by omega), fun _ => KI.pure _ _ _ _ _, fun _ => KI.pure _ _ _ _ _, fun _ => KI.mine _ _ u1 s1 _ 0 m1 (by simp; try omega) (by simp; try omega), fun _ => KI.mine _ _ u2 s2 _ 1 m2 (by simp; try omega) (by simp; try omega), fun _ => KI.pure _ _ _ _ _, fun _ => KI.pure _ _ _ _ _, fun h => absurd rfl h, fun _ => KI.pure _ _ _ _ _, trivial⟩
end Go.Proofs.Ytdnedangfnincaa.AbsAccO
namespace Go.Proofs.Ytdnedangfnincaa.AbsAccO
open Go Go.Abs Go.Proofs
set_option maxRecDepth 100000
set_option linter.unusedVariables false
set_option linter.unusedSimpArgs false

attribute [local congr] h_opt2 h_opt h_condV h_cond
/-! an account -/
/-- an account's cells: its day, principal, what was posted, its sum -/
def accC (d p q A : Nat) : List Value := [.int .i64 (d : Int), .int .i64 (p : Int), .int .i64 (q : Int), .int .i64 ((A / 18446744073709551616 : Nat) : Int), .int .u64 ((A % 18446744073709551616 : Nat) : Int)]
theorem dx46 (m : Nat) (a b c : Value) (s : St) : callN E (m + 1) 46 [a, b, c] s = D46 (callN E m) m a b c s := (by kernel_rfl : callN E (m + 1) 46 [a, b, c] s = callF (callN E m) m c46 [a, b, c] s).trans (d46 _ _ _ _ _ _)
theorem clamp_id (x : Int) (h : 0 ≤ x) (h' : x ≤ 109572) : R.clamp x = x := by unfold R.clamp; omega
/-- upTo -/
theorem r46 (M : Nat) (hM : 3000 ≤ M) (s : St) (ab tb d p q A S : Nat) (t : Nat) (v : Value) (l : List (Int × Int)) (hl : l.length ≤ 256) (ho : R.Okl l) (ht : R.Tab s tb v l) (hd : d ≤ 109572) (htt : t ≤ 109572) (hp : p < 9223372036854775808)
    (hS : R.sumP (d : Int) (t : Int) l = (S : Int)) (hS' : S < 9223372036854775808) (hA : A + p * S < 170141183460469231731687303715884105728) (hab : s.getC ab = some (accC d p q A)) (hlt : ab < s.next) (h8 : 8 ≤ s.next) (hn : s.next + 400 ≤ lim) :
    ∃ s', callN E M 46 [.pointer (some ⟨ab, 0, none⟩), .pointer (some ⟨tb, 0, none⟩), .int .i64 (t : Int)] s = some (W (A + p * S), s') ∧ Grew 300 s s' := by
  have hlim : lim = 1000000000 := rfl
  obtain ⟨m, rfl⟩ : ∃ m, M = m + 2 := ⟨M - 2, by omega⟩
  obtain ⟨u0, hu0⟩ : ∃ u0, u0 = an s [.int .i64 0, .int .u64 0] := ⟨_, rfl⟩
  have n0 : u0.next = s.next + 1 := by rw [hu0]; rfl
  have G0 : Grew 1 s u0 := by rw [hu0]; (repeat (first | exact Grew.refl _ | assumption | refine Grew.seen ?_ _ | refine Grew.set ?_ _ _ (by (first | omega | (simp only [an_next, set_next, St.seen_next, jn_next, z0_next]; try omega; done))) (by (first | omega | (simp only [an_next, set_next, St.seen_next, jn_next, z0_next]; try omega; done))) | refine Grew.an ?_ _ (by (first | omega | (simp only [an_next, set_next, St.seen_next, jn_next, z0_next]; try omega; done)))))
  have x0 : u0.getC ab = some (accC d p q A) := (G0.2.2 ab hlt).trans hab
  have y0 : u0.getC s.next = some [.int .i64 0, .int .u64 0] := by rw [hu0]; simp (disch := (first | omega | (simp only [an_next, set_next, St.seen_next, jn_next, z0_next]; try omega; done))) only [new_a, boxA, an_ati, an_atp, an_ats, an_atb, an_ne, set_ati, set_atp, set_ats, set_atb, set_ne, seen_getC, loadn_o, store_2, store_i, store_b, store_s, store_p, load_u, cut_22, put_22, cut_53, cut_55, put_55, put_50, put_51, put_52, put_53, store_5, nth_z, nth_1, nth_2, nth_3, nth_4, nil_u, fa_0, an_next, set_next, St.seen_next, jn_next, z0_next, jn_getC, z0_getC, rU_z, rU_seen, rU_set, rU_an, rU_sl]
  obtain ⟨u1, hu1⟩ : ∃ u1, u1 = ((u0.seen ab).seen ab).seen ab := ⟨_, rfl⟩
  have n1 : u1.next = s.next + 1 := by rw [hu1]; simp only [St.seen_next, n0]
  have G1 : Grew 1 s u1 := by rw [hu1]; exact ((G0.seen _).seen _).seen _
  have ht1 : R.Tab (z0 u1) tb v l := ht.grew (k := 1) ⟨by rw [z0_next]; exact G1.1, by rw [z0_next]; exact G1.2.1, fun y hy => G1.2.2 y hy⟩
  obtain ⟨s1, c1, g1, m1⟩ := R.sum m (by omega) (z0 u1) tb v l (d : Int) (t : Int) hl ho ht1 (by rw [z0_next]; omega) (by rw [z0_next]; omega)
  rw [clamp_id _ (by omega) (by omega), clamp_id _ (by omega) (by omega), hS] at c1
  have g1 : Grew 256 (z0 u1) s1 := g1
  have b1 := g1.1; have b1' := g1.2.1
  rw [z0_next] at b1 b1'
  obtain ⟨u2, hu2⟩ : ∃ u2, u2 = jn u1 s1 := ⟨_, rfl⟩
  have n2 : u2.next = s1.next := by rw [hu2]; rfl
  obtain ⟨s2, c2, g2, m2⟩ := r62 (m + 1) (by omega) A p S hp hS' hA (z0 u2) (by rw [z0_next]; omega) (by rw [z0_next]; omega)
  have b2 := g2.1; have b2' := g2.2.1
  rw [z0_next] at b2 b2'
  obtain ⟨u3, hu3⟩ : ∃ u3, u3 = jn u2 s2 := ⟨_, rfl⟩
  have n3 : u3.next = s2.next := by rw [hu3]; rfl
  have y3 : u3.getC s.next = some [.int .i64 0, .int .u64 0] := by
    rw [hu3, jn_getC, g2.2.2 _ (by rw [z0_next]; omega), z0_getC, hu2, jn_getC, g1.2.2 _ (by rw [z0_next]; omega), z0_getC, hu1, seen_getC, seen_getC, seen_getC, y0]
  have q1 := rU_c (.int .i64 (S : Int)) PT.nil u1 s1
  have q2 := rU_c (tupOf [W (A + p * S), .bool true]) PT.nil u2 s2
  rw [← hu2] at q1
  rw [← hu3] at q2
  unfold W at c2 q2
  unfold accC at x0
  rw [dx46]
  unfold D46
  simp only [z0_e]
  simp (disch := (first | omega | (simp only [an_next, set_next, St.seen_next, jn_next, z0_next]; try omega; done))) only [op2_s, op_s, bin_e, pick_e, not_e, ext_e, nth_z, nth_1, nth_2, nth_3, gval_e, gval_u, cmp_e, orUndef_t, orUndef_f, condV_t, condV_f, cond_true, cond_false, eqI_eq, neI_eq, ltI_eq, leI_eq, gtI_eq, geI_eq, Bool.not_true, Bool.not_false, bf_tt, bf_tf, bf_ft, bf_ff, decide_true, decide_false, oneOf_1, oneOf_2, oneOf_3, thenV_n, thenV_e, thenV_r, exV_e, exV_r, Nat.beq_refl, eq_self, new_a, boxA, an_ati, an_atp, an_ats, an_atb, an_ne, set_ati, set_atp, set_ats, set_atb, set_ne, seen_getC, loadn_o, store_2, store_i, store_b, store_s, store_p, load_u, cut_22, put_22, cut_53, cut_55, put_55, put_50, put_51, put_52, put_53, store_5, nth_z, nth_1, nth_2, nth_3, nth_4, nil_u, fa_0, an_next, set_next, St.seen_next, jn_next, z0_next, jn_getC, z0_getC, rU_z, rU_seen, rU_set, rU_an, rU_sl, mov_v, W, ← hu0, x0, ← hu1, c1, q1, c2, q2, y3]
  rw [apartIs (n0 := s.next + 1) (fun k => if k ≤ 1 then s.next + 1 else if k = 2 then s1.next else if k = 3 then s2.next else s2.next + 1) [0, 0, 0, 0, 0, 0, 0, 0, 0, 0, 0, 0, 0, 0, 1, 2, 0, 0, 0, 3, 3, 0] ?hc ?h0 ?hk _ (by kernel_rfl), cond_true]
  · simp (disch := (first | omega | (simp only [an_next, set_next, St.seen_next, jn_next, z0_next]; try omega; done))) only [op2_s, op_s, bin_e, pick_e, not_e, ext_e, nth_z, nth_1, nth_2, nth_3, gval_e, gval_u, cmp_e, orUndef_t, orUndef_f, condV_t, condV_f, cond_true, cond_false, eqI_eq, neI_eq, ltI_eq, leI_eq, gtI_eq, geI_eq, Bool.not_true, Bool.not_false, bf_tt, bf_tf, bf_ft, bf_ff, decide_true, decide_false, oneOf_1, oneOf_2, oneOf_3, thenV_n, thenV_e, thenV_r, exV_e, exV_r, Nat.beq_refl, eq_self, new_a, boxA, an_ati, an_atp, an_ats, an_atb, an_ne, set_ati, set_atp, set_ats, set_atb, set_ne, seen_getC, loadn_o, store_2, store_i, store_b, store_s, store_p, load_u, cut_22, put_22, cut_53, cut_55, put_55, put_50, put_51, put_52, put_53, store_5, nth_z, nth_1, nth_2, nth_3, nth_4, nil_u, fa_0, an_next, set_next, St.seen_next, jn_next, z0_next, jn_getC, z0_getC, rU_z, rU_seen, rU_set, rU_an, rU_sl, y3, n3]
    rw [fin_cf 2 s.next t6 _ _ (by kernel_rfl)]
    simp (disch := (first | omega | (simp only [an_next, set_next, St.seen_next, jn_next, z0_next]; try omega; done))) only [op2_s, op_s, bin_e, pick_e, not_e, ext_e, nth_z, nth_1, nth_2, nth_3, gval_e, gval_u, cmp_e, orUndef_t, orUndef_f, condV_t, condV_f, cond_true, cond_false, eqI_eq, neI_eq, ltI_eq, leI_eq, gtI_eq, geI_eq, Bool.not_true, Bool.not_false, bf_tt, bf_tf, bf_ft, bf_ff, decide_true, decide_false, oneOf_1, oneOf_2, oneOf_3, thenV_n, thenV_e, thenV_r, exV_e, exV_r, Nat.beq_refl, eq_self, new_a, boxA, an_ati, an_atp, an_ats, an_atb, an_ne, set_ati, set_atp, set_ats, set_atb, set_ne, seen_getC, loadn_o, store_2, store_i, store_b, store_s, store_p, load_u, cut_22, put_22, cut_53, cut_55, put_55, put_50, put_51, put_52, put_53, store_5, nth_z, nth_1, nth_2, nth_3, nth_4, nil_u, fa_0, an_next, set_next, St.seen_next, jn_next, z0_next, jn_getC, z0_getC, rU_z, rU_seen, rU_set, rU_an, rU_sl, y3, n3]
    refine ⟨_, rfl, ?_⟩
    have G3 : Grew 290 s u3 := by
      rw [hu3, hu2]
      rw [hu2] at g2
      exact ((G1.trans g1.z0).trans g2.z0).mono (by omega)
    refine Grew.mono (j := 290 + 1) ?_ (by omega)
    (repeat (first | exact Grew.refl _ | assumption | refine Grew.seen ?_ _ | refine Grew.set ?_ _ _ (by (first | omega | (simp only [an_next, set_next, St.seen_next, jn_next, z0_next]; try omega; done))) (by (first | omega | (simp only [an_next, set_next, St.seen_next, jn_next, z0_next]; try omega; done))) | refine Grew.an ?_ _ (by (first | omega | (simp only [an_next, set_next, St.seen_next, jn_next, z0_next]; try omega; done)))))
  case hc =>
    intro i j h1 h2
    try dsimp only
    repeat' split
    all_goals omega
  case h0 =>
    intro i h1
    try dsimp only
    repeat' split
    all_goals omega
  case hk =>
    exact ⟨fun _ => KI.pure _ _ _ _ _, fun _ => KI.pure _ _ _ _ _, fun _ => KI.pure _ _ _ _ _, fun _ => KI.rd _ _ _ _ _ _ (by omega),
      fun _ => KI.pure _ _ _ _ _, fun _ => KI.pure _ _ _ _ _, fun _ => KI.pure _ _ _ _ _, fun _ => KI.ld _ _ _ _ _ _ _ (by omega),
      fun _ => KI.pure _ _ _ _ _, fun _ => KI.pure _ _ _ _ _, fun _ => KI.pure _ _ _ _ _, fun _ => KI.pure _ _ _ _ _, fun _ => KI.ld _ _ _ _ _ _ _ (by omega), fun _ => KI.pure _ _ _ _ _,
      fun _ => KI.own _ _ u1 s1 _ 0 m1 (by simp; try omega) (by simp; try omega) (by simp; try omega), fun _ => KI.mine _ _ u2 s2 _ 1 m2 (by simp; try omega) (by simp; try omega),
      fun _ => KI.pure _ _ _ _ _, fun _ => KI.pure _ _ _ _ _, fun _ => KI.pure _ _ _ _ _, fun _ => KI.an _ _ _ _ _ _ (by simp; try omega) (by simp; try omega) (by omega), fun _ => KI.set _ _ _ _ _ _ _ (by simp; try omega) (by simp; try omega), fun _ => KI.pure _ _ _ _ _, trivial⟩
end Go.Proofs.Ytdnedangfnincaa.AbsAccO
