import Derived.Test.YtdnedangfnincaaAccSB
import Derived.Test.YtdnedangfnincaaAbsZU
namespace Go.Proofs.Ytdnedangfnincaa.AbsAccO
open Go Go.Abs Go.Proofs
set_option maxRecDepth 100000
set_option linter.unusedVariables false
set_option linter.unusedSimpArgs false

attribute [local congr] h_opt2 h_opt h_condV h_cond
/-! a number of two limbs divided by a year in millionths -/
theorem addW (a b : Nat) : int2 addO (.int .u64 (a : Int)) (.int .u64 (b : Int)) = some (.int .u64 (((a + b) % 18446744073709551616 : Nat) : Int)) := by
  show addO .u64 a b = _
  rw [addO_eq, u64w]
  rfl
theorem subW (a b : Nat) (h : b ≤ 18446744073709551616) : int2 subO (.int .u64 (a : Int)) (.int .u64 (b : Int)) = some (.int .u64 (((a + 18446744073709551616 - b) % 18446744073709551616 : Nat) : Int)) := by
  show subO .u64 a b = _
  rw [subO_eq, u64w]
  congr 2
  omega
theorem quoU (a b : Nat) (ha : a < 18446744073709551616) (hb : 0 < b) : int2 quoO (.int .u64 (a : Int)) (.int .u64 (b : Int)) = some (.int .u64 ((a / b : Nat) : Int)) := by
  show quoO .u64 a b = _
  unfold quoO
  rw [eqI_eq, decide_eq_false (show ¬ ((b : Int) = 0) by omega), cond_false, mkInt_eq, u64w, Int.tdiv_eq_ediv_of_nonneg (by omega), ← Int.natCast_ediv]
  have h := Nat.div_le_self a b
  generalize a / b = q at *
  congr 2
  omega
theorem remU (a b : Nat) (hb : 0 < b) : int2 remO (.int .u64 (a : Int)) (.int .u64 (b : Int)) = some (.int .u64 ((a % b : Nat) : Int)) := by
  show remO .u64 a b = _
  unfold remO
  rw [eqI_eq, decide_eq_false (show ¬ ((b : Int) = 0) by omega), cond_false, forceI_eq, Int.tmod_eq_emod_of_nonneg (by omega)]
  rfl
theorem orU_ (a b : Nat) (ha : a < 18446744073709551616) (hb : b < 18446744073709551616) : int2 orO (.int .u64 (a : Int)) (.int .u64 (b : Int)) = some (.int .u64 ((a ||| b : Nat) : Int)) := by
  show setI .u64 (IntKind.u64.wrap ((BitVec.ofInt 64 (a : Int) ||| BitVec.ofInt 64 (b : Int)).toNat : Int)) = _
  rw [setI_eq, u64w, BitVec.toNat_or]
  have e : ∀ n : Nat, n < 18446744073709551616 → (BitVec.ofInt 64 (n : Int)).toNat = n := fun n hn => by
    simp [BitVec.toNat_ofInt]; omega
  rw [e a ha, e b hb]
  have := Nat.or_lt_two_pow (n := 64) (show a < 2 ^ 64 by omega) (show b < 2 ^ 64 by omega)
  congr 2
  omega
theorem shlU (n j : Nat) (hj : j ≤ 64) : sh2 shlO (.int .u64 (n : Int)) (.int .u64 (j : Int)) = some (.int .u64 ((n * 2 ^ j % 18446744073709551616 : Nat) : Int)) := by
  show (bif ltI (j : Int) 0 then none else mkInt .u64 ((n : Int) * 2 ^ (min (j : Int).toNat IntKind.u64.bits))) = _
  have e : ltI (j : Int) 0 = false := by rw [ltI_eq]; exact decide_eq_false (by omega)
  have e2 : min (j : Int).toNat IntKind.u64.bits = j := by rw [Int.toNat_natCast]; show min j 64 = j; omega
  rw [e, cond_false, e2, mkInt_eq, u64w]
  rfl
theorem lz (m : Nat) (s : St) : callN E (m + 2) 79 [.int .u64 365000000] s = some (.int .i64 35, s) := by kernel_rfl
theorem conv35 (rec : Rec) (s : St) : oConv .u64 (.v (.int .i64 35)) rec PT.nil s = some (.int .u64 35, s) := nrfl rfl
theorem shl_y : sh2 shlO (.int .u64 365000000) (.int .u64 35) = some (.int .u64 12541304504320000000) := by kernel_rfl
theorem shr_y : sh2 shrO (.int .u64 12541304504320000000) (.int .u64 32) = some (.int .u64 2920000000) := by kernel_rfl
theorem and_y : int2 andO (.int .u64 12541304504320000000) (.int .u64 4294967295) = some (.int .u64 0) := by kernel_rfl
theorem sub_y : int2 subO (.int .u64 64) (.int .u64 35) = some (.int .u64 29) := by kernel_rfl
/-- Div64 by a year -/
theorem r66 (M : Nat) (hM : 3 ≤ M) (hi lo : Nat) (h1 : hi < 365000000) (h2 : lo < 18446744073709551616) :
    ∃ r : Nat, ∀ s : St, callN E M 66 [.int .u64 (hi : Int), .int .u64 (lo : Int), .int .u64 365000000] s = some (tupOf [.int .u64 (((hi * 18446744073709551616 + lo) / 365000000 : Nat) : Int), .int .u64 (r : Int)], s) := by
  obtain ⟨m, rfl⟩ : ∃ m, M = m + 3 := ⟨M - 3, by omega⟩
  have c1 : decide ((365000000 : Int) = 0) = false := rfl
  have c2 : decide ((365000000 : Int) ≤ (hi : Int)) = false := decide_eq_false (by omega)
  by_cases h0 : hi = 0
  · subst h0
    have c3 : decide (((0 : Nat) : Int) = 0) = true := rfl
    have q1 := quoU lo 365000000 h2 (by omega)
    have q2 := remU lo 365000000 (by omega)
    have e0 : ((365000000 : Nat) : Int) = 365000000 := rfl
    rw [e0] at q1 q2
    have e : (0 * 18446744073709551616 + lo) / 365000000 = lo / 365000000 := by rw [Nat.zero_mul, Nat.zero_add]
    refine ⟨lo % 365000000, fun s => ?_⟩
    rw [x66, e]
    unfold F66
    simp only [op2_s, op_s, bin_e, pick_e, not_e, ext_e, nth_z, nth_1, nth_2, nth_3, gval_e, gval_u, cmp_e, orUndef_t, orUndef_f, condV_t, condV_f, cond_true, cond_false, eqI_eq, neI_eq, ltI_eq, leI_eq, gtI_eq, geI_eq, Bool.not_true, Bool.not_false, bf_tt, bf_tf, bf_ft, bf_ff, decide_true, decide_false, oneOf_1, oneOf_2, oneOf_3, thenV_n, thenV_e, thenV_r, exV_e, exV_r, Nat.beq_refl, eq_self, c1, c2, J66_j0, c3, q1, q2]
  have c3 : decide ((hi : Int) = 0) = false := decide_eq_false (by omega)
  obtain ⟨u32, hu⟩ : ∃ x, x = hi * 34359738368 + lo / 536870912 := ⟨_, rfl⟩
  have s1 : sh2 shlO (.int .u64 (hi : Int)) (.int .u64 35) = some (.int .u64 ((hi * 34359738368 : Nat) : Int)) := by
    have := shlU hi 35 (by omega)
    rw [show hi * 2 ^ 35 % 18446744073709551616 = hi * 34359738368 by omega] at this
    exact this
  have s2 : sh2 shrO (.int .u64 (lo : Int)) (.int .u64 29) = some (.int .u64 ((lo / 536870912 : Nat) : Int)) := shr_u .u64 rfl lo 29 (by omega)
  have s3 : int2 orO (.int .u64 ((hi * 34359738368 : Nat) : Int)) (.int .u64 ((lo / 536870912 : Nat) : Int)) = some (.int .u64 (u32 : Int)) := by
    rw [orU_ _ _ (by omega) (by omega)]
    have := Nat.two_pow_add_eq_or_of_lt (i := 35) (show lo / 536870912 < 2 ^ 35 by omega) hi
    rw [show 2 ^ 35 * hi = hi * 34359738368 by omega] at this
    rw [← this, ← hu]
  obtain ⟨u10, hu10⟩ : ∃ x, x = lo * 34359738368 % 18446744073709551616 := ⟨_, rfl⟩
  have s4 : sh2 shlO (.int .u64 (lo : Int)) (.int .u64 35) = some (.int .u64 (u10 : Int)) := by
    rw [hu10]; exact shlU lo 35 (by omega)
  have s5 := shr32_u u10
  have s6 := and32_u u10 (by omega)
  have b32 : u32 < 12541304504320000000 := by omega
  obtain ⟨q1, hq1⟩ : ∃ x, x = u32 / 2920000000 := ⟨_, rfl⟩
  have s7 : int2 quoO (.int .u64 (u32 : Int)) (.int .u64 2920000000) = some (.int .u64 (q1 : Int)) := by rw [hq1]; exact quoU u32 2920000000 (by omega) (by omega)
  have s8 : int2 mulO (.int .u64 (q1 : Int)) (.int .u64 2920000000) = some (.int .u64 ((q1 * 2920000000 : Nat) : Int)) := mulU q1 2920000000 (by omega)
  obtain ⟨r1, hr1⟩ : ∃ x, x = u32 - q1 * 2920000000 := ⟨_, rfl⟩
  have s9 : int2 subO (.int .u64 (u32 : Int)) (.int .u64 ((q1 * 2920000000 : Nat) : Int)) = some (.int .u64 (r1 : Int)) := by rw [hr1]; exact subU _ _ (by omega) (by omega)
  have bq1 : q1 < 4294967296 := by omega
  have br1 : r1 < 2920000000 := by omega
  have a1 : decide ((4294967296 : Int) ≤ (q1 : Int)) = false := decide_eq_false (by omega)
  have a2 : int2 mulO (.int .u64 (q1 : Int)) (.int .u64 0) = some (.int .u64 0) := mulU q1 0 (by omega)
  have a3 : int2 mulO (.int .u64 4294967296) (.int .u64 (r1 : Int)) = some (.int .u64 ((4294967296 * r1 : Nat) : Int)) := mulU 4294967296 r1 (by omega)
  have a4 := addU (4294967296 * r1) (u10 / 4294967296) (by omega)
  have a5 : decide (((4294967296 * r1 + u10 / 4294967296 : Nat) : Int) < 0) = false := decide_eq_false (by omega)
  have t1 := mulW u32 4294967296
  have t2 := addW (u32 * 4294967296 % 18446744073709551616) (u10 / 4294967296)
  have t3 := mulW q1 12541304504320000000
  obtain ⟨u21, hu21⟩ : ∃ x, x = r1 * 4294967296 + u10 / 4294967296 := ⟨_, rfl⟩
  have t4 : int2 subO (.int .u64 (((u32 * 4294967296 % 18446744073709551616 + u10 / 4294967296) % 18446744073709551616 : Nat) : Int)) (.int .u64 ((q1 * 12541304504320000000 % 18446744073709551616 : Nat) : Int)) = some (.int .u64 (u21 : Int)) := by
    rw [subW _ _ (by omega)]
    congr 3
    omega
  have b21 : u21 < 12541304504320000000 := by omega
  obtain ⟨q0, hq0⟩ : ∃ x, x = u21 / 2920000000 := ⟨_, rfl⟩
  have v7 : int2 quoO (.int .u64 (u21 : Int)) (.int .u64 2920000000) = some (.int .u64 (q0 : Int)) := by rw [hq0]; exact quoU u21 2920000000 (by omega) (by omega)
  have v8 : int2 mulO (.int .u64 (q0 : Int)) (.int .u64 2920000000) = some (.int .u64 ((q0 * 2920000000 : Nat) : Int)) := mulU q0 2920000000 (by omega)
  obtain ⟨r0, hr0⟩ : ∃ x, x = u21 - q0 * 2920000000 := ⟨_, rfl⟩
  have v9 : int2 subO (.int .u64 (u21 : Int)) (.int .u64 ((q0 * 2920000000 : Nat) : Int)) = some (.int .u64 (r0 : Int)) := by rw [hr0]; exact subU _ _ (by omega) (by omega)
  have bq0 : q0 < 4294967296 := by omega
  have br0 : r0 < 2920000000 := by omega
  have d1 : decide ((4294967296 : Int) ≤ (q0 : Int)) = false := decide_eq_false (by omega)
  have d2 : int2 mulO (.int .u64 (q0 : Int)) (.int .u64 0) = some (.int .u64 0) := mulU q0 0 (by omega)
  have d3 : int2 mulO (.int .u64 4294967296) (.int .u64 (r0 : Int)) = some (.int .u64 ((4294967296 * r0 : Nat) : Int)) := mulU 4294967296 r0 (by omega)
  have d4 := addU (4294967296 * r0) (u10 % 4294967296) (by omega)
  have d5 : decide (((4294967296 * r0 + u10 % 4294967296 : Nat) : Int) < 0) = false := decide_eq_false (by omega)
  have w1 : int2 mulO (.int .u64 (q1 : Int)) (.int .u64 4294967296) = some (.int .u64 ((q1 * 4294967296 : Nat) : Int)) := mulU q1 4294967296 (by omega)
  have w2 : int2 addO (.int .u64 ((q1 * 4294967296 : Nat) : Int)) (.int .u64 (q0 : Int)) = some (.int .u64 (((hi * 18446744073709551616 + lo) / 365000000 : Nat) : Int)) := by
    rw [addU _ _ (by omega)]
    congr 3
    omega
  have w3 := mulW u21 4294967296
  have w4 := addW (u21 * 4294967296 % 18446744073709551616) (u10 % 4294967296)
  have w5 := mulW q0 12541304504320000000
  have w6 := subW ((u21 * 4294967296 % 18446744073709551616 + u10 % 4294967296) % 18446744073709551616) (q0 * 12541304504320000000 % 18446744073709551616) (by omega)
  obtain ⟨z, hz⟩ : ∃ x, x = ((u21 * 4294967296 % 18446744073709551616 + u10 % 4294967296) % 18446744073709551616 + 18446744073709551616 - q0 * 12541304504320000000 % 18446744073709551616) % 18446744073709551616 := ⟨_, rfl⟩
  rw [← hz] at w6
  have w7 : sh2 shrO (.int .u64 (z : Int)) (.int .u64 35) = some (.int .u64 ((z / 2 ^ 35 : Nat) : Int)) := shr_u .u64 rfl z 35 (by omega)
  have e1 : ((4294967296 : Nat) : Int) = 4294967296 := rfl
  have e2 : ((12541304504320000000 : Nat) : Int) = 12541304504320000000 := rfl
  rw [e1] at t1 w3
  rw [e2] at t3 w5
  refine ⟨z / 2 ^ 35, fun s => ?_⟩
  have L := lz m s
  rw [x66]
  unfold F66
  simp only [op2_s, op_s, bin_e, pick_e, not_e, ext_e, nth_z, nth_1, nth_2, nth_3, gval_e, gval_u, cmp_e, orUndef_t, orUndef_f, condV_t, condV_f, cond_true, cond_false, eqI_eq, neI_eq, ltI_eq, leI_eq, gtI_eq, geI_eq, Bool.not_true, Bool.not_false, bf_tt, bf_tf, bf_ft, bf_ff, decide_true, decide_false, oneOf_1, oneOf_2, oneOf_3, thenV_n, thenV_e, thenV_r, exV_e, exV_r, Nat.beq_refl, eq_self, c1, c2, J66_j0, c3, L, conv35, shl_y, shr_y, and_y, s1, sub_y, s2, s3, s4, s5, s6, s7, s8, s9, loopV_s, B66_l0, a1, a2, a3, a4, a5, C66_l0, J66_r1, t1, t2, t3, t4, v7, v8, v9, B66_l1, d1, d2, d3, d4, d5, C66_l1, J66_r0, w1, w2, w3, w4, w5, w6, w7]
end Go.Proofs.Ytdnedangfnincaa.AbsAccO
namespace Go.Proofs.Ytdnedangfnincaa.AbsAccO
open Go Go.Abs Go.Proofs
set_option maxRecDepth 100000
set_option linter.unusedVariables false
set_option linter.unusedSimpArgs false

attribute [local congr] h_opt2 h_opt h_condV h_cond
/-! what is owed: Floor, Shown, Post, Copy -/
theorem r67 (M : Nat) (hM : 1 ≤ M) (q : Nat) (hq : q < 9223372036854775808) (s : St) (hn : s.next ≤ lim) :
    callN E M 67 [aggOf [.int .i64 0, .int .u64 (q : Int)]] s = some (tupOf [.int .i64 (q : Int), .bool true], ((an s [.int .i64 0, .int .u64 (q : Int)]).seen s.next).seen s.next) := by
  obtain ⟨m, rfl⟩ : ∃ m, M = m + 1 := ⟨M - 1, by omega⟩
  have e : q / 9223372036854775808 = 0 := by omega
  have e0 : decide ((0 : Int) = ((0 : Nat) : Int)) = true := rfl
  rw [x67]
  unfold F67
  simp (disch := (first | omega | (simp only [an_next, set_next, St.seen_next, jn_next, z0_next]; try omega; done))) only [op2_s, op_s, bin_e, pick_e, not_e, ext_e, nth_z, nth_1, nth_2, nth_3, gval_e, gval_u, cmp_e, orUndef_t, orUndef_f, condV_t, condV_f, cond_true, cond_false, eqI_eq, neI_eq, ltI_eq, leI_eq, gtI_eq, geI_eq, Bool.not_true, Bool.not_false, bf_tt, bf_tf, bf_ft, bf_ff, decide_true, decide_false, oneOf_1, oneOf_2, oneOf_3, thenV_n, thenV_e, thenV_r, exV_e, exV_r, Nat.beq_refl, eq_self, new_a, boxA, an_ati, an_atp, an_ats, an_atb, an_ne, set_ati, set_atp, set_ats, set_atb, set_ne, seen_getC, loadn_o, store_2, store_i, store_b, store_s, store_p, load_u, cut_22, put_22, cut_53, cut_55, put_55, put_50, put_51, put_52, put_53, store_5, nth_z, nth_1, nth_2, nth_3, nth_4, nil_u, fa_0, an_next, set_next, St.seen_next, jn_next, z0_next, jn_getC, z0_getC, rU_z, rU_seen, rU_set, rU_an, rU_sl, toI, shr63_u, e, e0]
theorem dx48 (m : Nat) (a b : Value) (s : St) : callN E (m + 1) 48 [a, b] s = D48 (callN E m) m a b s := (by kernel_rfl : callN E (m + 1) 48 [a, b] s = callF (callN E m) m c48 [a, b] s).trans (d48 _ _ _ _ _)
theorem conv_y (rec : Rec) (s : St) : oConv .u64 (.v (.int .i64 365000000)) rec PT.nil s = some (.int .u64 365000000, s) := nrfl rfl
/-- Floor, by a year -/
theorem r48 (M : Nat) (hM : 4 ≤ M) (A : Nat) (hA : A / 365000000 < 9223372036854775808) (s : St) (h8 : 8 ≤ s.next) (hn : s.next + 4 ≤ lim) :
    ∃ s', callN E M 48 [W A, .int .i64 365000000] s = some (tupOf [.int .i64 ((A / 365000000 : Nat) : Int), .bool true], s') ∧ Grew 3 s s' := by
  have hlim : lim = 1000000000 := rfl
  obtain ⟨m, rfl⟩ : ∃ m, M = m + 1 := ⟨M - 1, by omega⟩
  have hhi : A / 18446744073709551616 < 365000000 := by omega
  have c1 : decide ((365000000 : Int) < 1) = false := rfl
  have c2 : decide (((A / 18446744073709551616 : Nat) : Int) < 0) = false := decide_eq_false (by omega)
  have c3 : decide ((365000000 : Int) ≤ ((A / 18446744073709551616 : Nat) : Int)) = false := decide_eq_false (by omega)
  have c4 : decide ((0 : Int) ≤ ((A / 18446744073709551616 : Nat) : Int)) = true := decide_eq_true (by omega)
  have e : A / 18446744073709551616 * 18446744073709551616 + A % 18446744073709551616 = A := by omega
  obtain ⟨r, c66⟩ := r66 m (by omega) (A / 18446744073709551616) (A % 18446744073709551616) hhi (by omega)
  rw [e] at c66
  rw [dx48]
  unfold D48
  simp (maxSteps := 4000000) (disch := (first | omega | (simp only [an_next, set_next, St.seen_next, jn_next, z0_next]; try omega; done))) only [op2_s, op_s, bin_e, pick_e, not_e, ext_e, nth_z, nth_1, nth_2, nth_3, gval_e, gval_u, cmp_e, orUndef_t, orUndef_f, condV_t, condV_f, cond_true, cond_false, eqI_eq, neI_eq, ltI_eq, leI_eq, gtI_eq, geI_eq, Bool.not_true, Bool.not_false, bf_tt, bf_tf, bf_ft, bf_ff, decide_true, decide_false, oneOf_1, oneOf_2, oneOf_3, thenV_n, thenV_e, thenV_r, exV_e, exV_r, Nat.beq_refl, eq_self, new_a, boxA, an_ati, an_atp, an_ats, an_atb, an_ne, set_ati, set_atp, set_ats, set_atb, set_ne, seen_getC, loadn_o, store_2, store_i, store_b, store_s, store_p, load_u, cut_22, put_22, cut_53, cut_55, put_55, put_50, put_51, put_52, put_53, store_5, nth_z, nth_1, nth_2, nth_3, nth_4, nil_u, fa_0, an_next, set_next, St.seen_next, jn_next, z0_next, jn_getC, z0_getC, rU_z, rU_seen, rU_set, rU_an, rU_sl, W, conv_y, toU, c1, c2, c3, c4, c66, bu, r67]
  refine ⟨_, rfl, ?_⟩
  (repeat (first | exact Grew.refl _ | assumption | refine Grew.seen ?_ _ | refine Grew.set ?_ _ _ (by (first | omega | (simp only [an_next, set_next, St.seen_next, jn_next, z0_next]; try omega; done))) (by (first | omega | (simp only [an_next, set_next, St.seen_next, jn_next, z0_next]; try omega; done))) | refine Grew.an ?_ _ (by (first | omega | (simp only [an_next, set_next, St.seen_next, jn_next, z0_next]; try omega; done)))))
end Go.Proofs.Ytdnedangfnincaa.AbsAccO
namespace Go.Proofs.Ytdnedangfnincaa.AbsAccO
open Go Go.Abs Go.Proofs
set_option maxRecDepth 100000
set_option linter.unusedVariables false
set_option linter.unusedSimpArgs false

attribute [local congr] h_opt2 h_opt h_condV h_cond
def owed (p : Nat) (l : List (Int × Int)) (t : Nat) : Nat := p * sumN l t / 365000000
/-- Shown -/
theorem r22 (M : Nat) (hM : 3002 ≤ M) (s : St) (ab tb d p q : Nat) (t : Nat) (v : Value) (l : List (Int × Int)) (hl : l.length ≤ 256) (ho : R.Okl l) (ht : R.Tab s tb v l) (hdt : d ≤ t) (htt : t ≤ 109572) (hp : p ≤ 4503599627370496) (hq : q ≤ 4503599627370496)
    (hab : s.getC ab = some (accC d p q (p * sumN l d))) (hlt : ab < s.next) (hB : owed p l t < 9223372036854775808) (hn : s.next + 800 ≤ lim) (h8 : 8 ≤ s.next) :
    ∃ s', callN E M 22 [.pointer (some ⟨ab, 0, none⟩), .pointer (some ⟨tb, 0, none⟩), .int .i64 (t : Int)] s = some (if owed p l t ≤ 4503599627370496 then tupOf [.int .i64 ((owed p l t : Int) - (q : Int)), .int .i64 0] else tupOf [.int .i64 0, .int .i64 10], s') ∧ Grew 310 s s' := by
  have hlim : lim = 1000000000 := rfl
  obtain ⟨m, rfl⟩ : ∃ m, M = m + 1 := ⟨M - 1, by omega⟩
  obtain ⟨s1, c1, g1⟩ := r45 m (by omega) s ab d p q _ (t : Int) hab
  rw [may_ok hdt htt] at c1
  have G1 := g1.grew
  have h1 := sumN_mono ho hdt (by omega)
  have h2 := sumN_le ho t (by omega)
  have h3 : p * sumN l t ≤ 4503599627370496 * 28050688000000000 := Nat.mul_le_mul hp (by omega)
  have e : p * sumN l d + p * (sumN l t - sumN l d) = p * sumN l t := by rw [← Nat.mul_add]; congr 1; omega
  obtain ⟨s2, c2, g2⟩ := r46 m (by omega) s1 ab tb d p q (p * sumN l d) (sumN l t - sumN l d) t v l hl ho (ht.grew (k := 0) G1) (by omega) htt (by omega) (sum_diff ho hdt (by omega)) (by omega) (by rw [e]; omega) ((g1.2 ab).trans hab) (by rw [g1.1]; exact hlt) (by rw [g1.1]; omega) (by rw [g1.1]; omega)
  rw [e] at c2
  have b2 := g2.1; have b2' := g2.2.1
  rw [g1.1] at b2 b2'
  obtain ⟨s3, c3, g3⟩ := r48 m (by omega) (p * sumN l t) hB s2 (by omega) (by omega)
  have x3 : s3.getC ab = some (accC d p q (p * sumN l d)) := (g3.2.2 ab (by omega)).trans ((g2.2.2 ab (by rw [g1.1]; exact hlt)).trans ((g1.2 ab).trans hab))
  have e0 : decide ((0 : Int) = 0) = true := rfl
  have G3 : Grew 310 s s3 := ((G1.trans g2).trans g3).mono (by omega)
  have eo : p * sumN l t / 365000000 = owed p l t := rfl
  rw [eo] at c3
  unfold accC at x3
  rw [x22]
  unfold F22
  by_cases ho' : owed p l t ≤ 4503599627370496
  · have e1 : decide (4503599627370496 < ((owed p l t : Nat) : Int)) = false := decide_eq_false (by omega)
    have sb : int2 subO (.int .i64 ((owed p l t : Nat) : Int)) (.int .i64 (q : Int)) = some (.int .i64 ((owed p l t : Int) - (q : Int))) := sub_e _ _ (by omega) (by omega)
    rw [if_pos ho']
    simp (disch := (first | omega | (simp only [an_next, set_next, St.seen_next, jn_next, z0_next]; try omega; done))) only [op2_s, op_s, bin_e, pick_e, not_e, ext_e, nth_z, nth_1, nth_2, nth_3, gval_e, gval_u, cmp_e, orUndef_t, orUndef_f, condV_t, condV_f, cond_true, cond_false, eqI_eq, neI_eq, ltI_eq, leI_eq, gtI_eq, geI_eq, Bool.not_true, Bool.not_false, bf_tt, bf_tf, bf_ft, bf_ff, decide_true, decide_false, oneOf_1, oneOf_2, oneOf_3, thenV_n, thenV_e, thenV_r, exV_e, exV_r, Nat.beq_refl, eq_self, new_a, boxA, an_ati, an_atp, an_ats, an_atb, an_ne, set_ati, set_atp, set_ats, set_atb, set_ne, seen_getC, loadn_o, store_2, store_i, store_b, store_s, store_p, load_u, cut_22, put_22, cut_53, cut_55, put_55, put_50, put_51, put_52, put_53, store_5, nth_z, nth_1, nth_2, nth_3, nth_4, nil_u, fa_0, an_next, set_next, St.seen_next, jn_next, z0_next, jn_getC, z0_getC, rU_z, rU_seen, rU_set, rU_an, rU_sl, c1, e0, c2, c3, e1, x3, sb]
    exact ⟨_, rfl, G3.seen _⟩
  · have e1 : decide (4503599627370496 < ((owed p l t : Nat) : Int)) = true := decide_eq_true (by omega)
    rw [if_neg ho']
    simp (disch := (first | omega | (simp only [an_next, set_next, St.seen_next, jn_next, z0_next]; try omega; done))) only [op2_s, op_s, bin_e, pick_e, not_e, ext_e, nth_z, nth_1, nth_2, nth_3, gval_e, gval_u, cmp_e, orUndef_t, orUndef_f, condV_t, condV_f, cond_true, cond_false, eqI_eq, neI_eq, ltI_eq, leI_eq, gtI_eq, geI_eq, Bool.not_true, Bool.not_false, bf_tt, bf_tf, bf_ft, bf_ff, decide_true, decide_false, oneOf_1, oneOf_2, oneOf_3, thenV_n, thenV_e, thenV_r, exV_e, exV_r, Nat.beq_refl, eq_self, new_a, boxA, an_ati, an_atp, an_ats, an_atb, an_ne, set_ati, set_atp, set_ats, set_atb, set_ne, seen_getC, loadn_o, store_2, store_i, store_b, store_s, store_p, load_u, cut_22, put_22, cut_53, cut_55, put_55, put_50, put_51, put_52, put_53, store_5, nth_z, nth_1, nth_2, nth_3, nth_4, nil_u, fa_0, an_next, set_next, St.seen_next, jn_next, z0_next, jn_getC, z0_getC, rU_z, rU_seen, rU_set, rU_an, rU_sl, c1, e0, c2, c3, e1]
    exact ⟨_, rfl, G3⟩
theorem r22_no (M : Nat) (hM : 2 ≤ M) (s : St) (ab d p q A : Nat) (t : Int) (tv : Value) (hab : s.getC ab = some (accC d p q A)) (h : mayE d t ≠ 0) :
    ∃ s', callN E M 22 [.pointer (some ⟨ab, 0, none⟩), tv, .int .i64 t] s = some (tupOf [.int .i64 0, .int .i64 (mayE d t)], s') ∧ Still s s' := by
  obtain ⟨m, rfl⟩ : ∃ m, M = m + 1 := ⟨M - 1, by omega⟩
  obtain ⟨s1, c1, g1⟩ := r45 m (by omega) s ab d p q A t hab
  have e0 : decide (mayE d t = 0) = false := decide_eq_false h
  rw [x22]
  unfold F22
  simp only [op2_s, op_s, bin_e, pick_e, not_e, ext_e, nth_z, nth_1, nth_2, nth_3, gval_e, gval_u, cmp_e, orUndef_t, orUndef_f, condV_t, condV_f, cond_true, cond_false, eqI_eq, neI_eq, ltI_eq, leI_eq, gtI_eq, geI_eq, Bool.not_true, Bool.not_false, bf_tt, bf_tf, bf_ft, bf_ff, decide_true, decide_false, oneOf_1, oneOf_2, oneOf_3, thenV_n, thenV_e, thenV_r, exV_e, exV_r, Nat.beq_refl, eq_self, c1, e0]
  exact ⟨_, rfl, g1⟩
/-- Post -/
theorem r20 (M : Nat) (hM : 3003 ≤ M) (s : St) (ab tb d p q : Nat) (t : Nat) (v : Value) (l : List (Int × Int)) (hl : l.length ≤ 256) (ho : R.Okl l) (ht : R.Tab s tb v l) (hdt : d ≤ t) (htt : t ≤ 109572) (hp : p ≤ 4503599627370496) (hq : q ≤ 4503599627370496)
    (hab : s.getC ab = some (accC d p q (p * sumN l d))) (hlt : ab < s.next) (ha8 : 8 ≤ ab) (hB : owed p l t ≤ 4503599627370496) (hn : s.next + 1200 ≤ lim) (h8 : 8 ≤ s.next) :
    ∃ s', callN E M 20 [.pointer (some ⟨ab, 0, none⟩), .pointer (some ⟨tb, 0, none⟩), .int .i64 (t : Int)] s = some (tupOf [.int .i64 ((owed p l t : Int) - (q : Int)), .int .i64 0], s') ∧ Upd 610 ab (accC t p (owed p l t) (p * sumN l t)) s s' := by
  have hlim : lim = 1000000000 := rfl
  obtain ⟨m, rfl⟩ : ∃ m, M = m + 1 := ⟨M - 1, by omega⟩
  obtain ⟨s1, c1, g1⟩ := r22 m (by omega) s ab tb d p q t v l hl ho ht hdt htt hp hq hab hlt (by omega) (by omega) h8
  rw [if_pos hB] at c1
  have b1 := g1.1; have b1' := g1.2.1
  obtain ⟨s2, c2, g2⟩ := run_to m (by omega) s1 ab tb d p q t v l hl ho (ht.grew (k := 310) g1) hdt htt hp ((g1.2.2 ab hlt).trans hab) (by omega) ha8 (by omega)
  have e0 : decide ((0 : Int) = 0) = true := rfl
  have x2 := g2.2.2.1
  have ad : int2 addO (.int .i64 (q : Int)) (.int .i64 ((owed p l t : Int) - (q : Int))) = some (.int .i64 ((owed p l t : Nat) : Int)) := by
    rw [add_e _ _ (by omega) (by omega)]
    congr 2
    omega
  unfold accC at x2
  rw [x20]
  unfold F20
  simp (disch := (first | omega | (simp only [an_next, set_next, St.seen_next, jn_next, z0_next]; try omega; done))) only [op2_s, op_s, bin_e, pick_e, not_e, ext_e, nth_z, nth_1, nth_2, nth_3, gval_e, gval_u, cmp_e, orUndef_t, orUndef_f, condV_t, condV_f, cond_true, cond_false, eqI_eq, neI_eq, ltI_eq, leI_eq, gtI_eq, geI_eq, Bool.not_true, Bool.not_false, bf_tt, bf_tf, bf_ft, bf_ff, decide_true, decide_false, oneOf_1, oneOf_2, oneOf_3, thenV_n, thenV_e, thenV_r, exV_e, exV_r, Nat.beq_refl, eq_self, new_a, boxA, an_ati, an_atp, an_ats, an_atb, an_ne, set_ati, set_atp, set_ats, set_atb, set_ne, seen_getC, loadn_o, store_2, store_i, store_b, store_s, store_p, load_u, cut_22, put_22, cut_53, cut_55, put_55, put_50, put_51, put_52, put_53, store_5, nth_z, nth_1, nth_2, nth_3, nth_4, nil_u, fa_0, an_next, set_next, St.seen_next, jn_next, z0_next, jn_getC, z0_getC, rU_z, rU_seen, rU_set, rU_an, rU_sl, c1, e0, c2, x2, ad]
  have b2 := g2.1; have b2' := g2.2.1
  exact ⟨_, rfl, Upd.set ((Upd.after g1 g2 hlt).seen _) _ _ ha8 hlt (by rw [St.seen_next]; omega) rfl⟩
/-- Post, that is too much -/
theorem r20_over (M : Nat) (hM : 3003 ≤ M) (s : St) (ab tb d p q : Nat) (t : Nat) (v : Value) (l : List (Int × Int)) (hl : l.length ≤ 256) (ho : R.Okl l) (ht : R.Tab s tb v l) (hdt : d ≤ t) (htt : t ≤ 109572) (hp : p ≤ 4503599627370496) (hq : q ≤ 4503599627370496)
    (hab : s.getC ab = some (accC d p q (p * sumN l d))) (hlt : ab < s.next) (hB : 4503599627370496 < owed p l t) (hB' : owed p l t < 9223372036854775808) (hn : s.next + 1200 ≤ lim) (h8 : 8 ≤ s.next) :
    ∃ s', callN E M 20 [.pointer (some ⟨ab, 0, none⟩), .pointer (some ⟨tb, 0, none⟩), .int .i64 (t : Int)] s = some (tupOf [.int .i64 0, .int .i64 10], s') ∧ Grew 310 s s' := by
  obtain ⟨m, rfl⟩ : ∃ m, M = m + 1 := ⟨M - 1, by omega⟩
  obtain ⟨s1, c1, g1⟩ := r22 m (by omega) s ab tb d p q t v l hl ho ht hdt htt hp hq hab hlt hB' (by omega) h8
  rw [if_neg (by omega)] at c1
  have e0 : decide ((10 : Int) = 0) = false := rfl
  rw [x20]
  unfold F20
  simp only [op2_s, op_s, bin_e, pick_e, not_e, ext_e, nth_z, nth_1, nth_2, nth_3, gval_e, gval_u, cmp_e, orUndef_t, orUndef_f, condV_t, condV_f, cond_true, cond_false, eqI_eq, neI_eq, ltI_eq, leI_eq, gtI_eq, geI_eq, Bool.not_true, Bool.not_false, bf_tt, bf_tf, bf_ft, bf_ff, decide_true, decide_false, oneOf_1, oneOf_2, oneOf_3, thenV_n, thenV_e, thenV_r, exV_e, exV_r, Nat.beq_refl, eq_self, c1, e0]
  exact ⟨_, rfl, g1⟩
theorem r20_no (M : Nat) (hM : 3 ≤ M) (s : St) (ab d p q A : Nat) (t : Int) (tv : Value) (hab : s.getC ab = some (accC d p q A)) (h : mayE d t ≠ 0) :
    ∃ s', callN E M 20 [.pointer (some ⟨ab, 0, none⟩), tv, .int .i64 t] s = some (tupOf [.int .i64 0, .int .i64 (mayE d t)], s') ∧ Still s s' := by
  obtain ⟨m, rfl⟩ : ∃ m, M = m + 1 := ⟨M - 1, by omega⟩
  obtain ⟨s1, c1, g1⟩ := r22_no m (by omega) s ab d p q A t tv hab h
  have e0 : decide (mayE d t = 0) = false := decide_eq_false h
  rw [x20]
  unfold F20
  simp only [op2_s, op_s, bin_e, pick_e, not_e, ext_e, nth_z, nth_1, nth_2, nth_3, gval_e, gval_u, cmp_e, orUndef_t, orUndef_f, condV_t, condV_f, cond_true, cond_false, eqI_eq, neI_eq, ltI_eq, leI_eq, gtI_eq, geI_eq, Bool.not_true, Bool.not_false, bf_tt, bf_tf, bf_ft, bf_ff, decide_true, decide_false, oneOf_1, oneOf_2, oneOf_3, thenV_n, thenV_e, thenV_r, exV_e, exV_r, Nat.beq_refl, eq_self, c1, e0]
  exact ⟨_, rfl, g1⟩
/-- Copy -/
theorem r38 (M : Nat) (hM : 1 ≤ M) (s : St) (ab d p q A : Nat) (hab : s.getC ab = some (accC d p q A)) (hlt : ab < s.next) (h8 : 8 ≤ s.next) (hn : s.next + 1 ≤ lim) :
    ∃ s', callN E M 38 [.pointer (some ⟨ab, 0, none⟩)] s = some (.pointer (some ⟨s.next, 0, none⟩), s') ∧ Grew 1 s s' ∧ s'.getC s.next = some (accC d p q A) ∧ s'.next = s.next + 1 := by
  have hlim : lim = 1000000000 := rfl
  obtain ⟨m, rfl⟩ : ∃ m, M = m + 1 := ⟨M - 1, by omega⟩
  unfold accC at hab ⊢
  rw [x38]
  unfold F38
  simp (disch := (first | omega | (simp only [an_next, set_next, St.seen_next, jn_next, z0_next]; try omega; done))) only [op2_s, op_s, bin_e, pick_e, not_e, ext_e, nth_z, nth_1, nth_2, nth_3, gval_e, gval_u, cmp_e, orUndef_t, orUndef_f, condV_t, condV_f, cond_true, cond_false, eqI_eq, neI_eq, ltI_eq, leI_eq, gtI_eq, geI_eq, Bool.not_true, Bool.not_false, bf_tt, bf_tf, bf_ft, bf_ff, decide_true, decide_false, oneOf_1, oneOf_2, oneOf_3, thenV_n, thenV_e, thenV_r, exV_e, exV_r, Nat.beq_refl, eq_self, new_a, boxA, an_ati, an_atp, an_ats, an_atb, an_ne, set_ati, set_atp, set_ats, set_atb, set_ne, seen_getC, loadn_o, store_2, store_i, store_b, store_s, store_p, load_u, cut_22, put_22, cut_53, cut_55, put_55, put_50, put_51, put_52, put_53, store_5, nth_z, nth_1, nth_2, nth_3, nth_4, nil_u, fa_0, an_next, set_next, St.seen_next, jn_next, z0_next, jn_getC, z0_getC, rU_z, rU_seen, rU_set, rU_an, rU_sl, hab]
  refine ⟨_, rfl, ?_, ?_, ?_⟩
  · (repeat (first | exact Grew.refl _ | assumption | refine Grew.seen ?_ _ | refine Grew.set ?_ _ _ (by (first | omega | (simp only [an_next, set_next, St.seen_next, jn_next, z0_next]; try omega; done))) (by (first | omega | (simp only [an_next, set_next, St.seen_next, jn_next, z0_next]; try omega; done))) | refine Grew.an ?_ _ (by (first | omega | (simp only [an_next, set_next, St.seen_next, jn_next, z0_next]; try omega; done)))))
  · simp (disch := (first | omega | (simp only [an_next, set_next, St.seen_next, jn_next, z0_next]; try omega; done))) only [new_a, boxA, an_ati, an_atp, an_ats, an_atb, an_ne, set_ati, set_atp, set_ats, set_atb, set_ne, seen_getC, loadn_o, store_2, store_i, store_b, store_s, store_p, load_u, cut_22, put_22, cut_53, cut_55, put_55, put_50, put_51, put_52, put_53, store_5, nth_z, nth_1, nth_2, nth_3, nth_4, nil_u, fa_0, an_next, set_next, St.seen_next, jn_next, z0_next, jn_getC, z0_getC, rU_z, rU_seen, rU_set, rU_an, rU_sl]
  · simp only [new_a, boxA, an_ati, an_atp, an_ats, an_atb, an_ne, set_ati, set_atp, set_ats, set_atb, set_ne, seen_getC, loadn_o, store_2, store_i, store_b, store_s, store_p, load_u, cut_22, put_22, cut_53, cut_55, put_55, put_50, put_51, put_52, put_53, store_5, nth_z, nth_1, nth_2, nth_3, nth_4, nil_u, fa_0, an_next, set_next, St.seen_next, jn_next, z0_next, jn_getC, z0_getC, rU_z, rU_seen, rU_set, rU_an, rU_sl]
end Go.Proofs.Ytdnedangfnincaa.AbsAccO
namespace Go.Proofs.Ytdnedangfnincaa.AbsAccO
open Go Go.Abs Go.Proofs
set_option maxRecDepth 100000
set_option linter.unusedVariables false
set_option linter.unusedSimpArgs false

attribute [local congr] h_opt2 h_opt h_condV h_cond
/-! an account, whatever its sum: what the sum would be at a day -/
structure TabOk (l : List (Int × Int)) : Prop where
  ok : R.Okl l
  len : l.length ≤ 256
  top : ∀ t, t ≤ 109573 → sumN l t ≤ 4000000000000
/-- an account that began with p0 -/
structure AccI (p0 : Nat) (l : List (Int × Int)) (d p A : Nat) : Prop where
  day : d ≤ 109572
  pr : p ≤ p0
  sum : A ≤ p0 * sumN l d
def vt (l : List (Int × Int)) (d p A t : Nat) : Nat := A + p * (sumN l t - sumN l d)
theorem vt_le {p0 : Nat} {l : List (Int × Int)} {d p A t : Nat} (h : AccI p0 l d p A) (ho : TabOk l) (hd : d ≤ t) (ht : t ≤ 109572) : vt l d p A t ≤ p0 * sumN l t := by
  have h1 := sumN_mono ho.ok hd (by omega)
  have h2 : p * (sumN l t - sumN l d) ≤ p0 * (sumN l t - sumN l d) := Nat.mul_le_mul_right _ h.pr
  have h3 : p0 * sumN l d + p0 * (sumN l t - sumN l d) = p0 * sumN l t := by rw [← Nat.mul_add]; congr 1; omega
  have := h.sum
  unfold vt; omega
theorem vt_top {p0 : Nat} {l : List (Int × Int)} {d p A t : Nat} (h : AccI p0 l d p A) (ho : TabOk l) (h0 : p0 ≤ 1099511627776) (hd : d ≤ t) (ht : t ≤ 109572) : vt l d p A t ≤ 1099511627776 * 4000000000000 :=
  Nat.le_trans (vt_le h ho hd ht) (Nat.mul_le_mul h0 (ho.top t (by omega)))
theorem vt_vt {l : List (Int × Int)} {d p A t u : Nat} (ho : TabOk l) (hd : d ≤ t) (ht : t ≤ u) (hu : u ≤ 109572) : vt l t p (vt l d p A t) u = vt l d p A u := by
  have h1 := sumN_mono ho.ok hd (by omega)
  have h2 := sumN_mono ho.ok ht (by omega)
  unfold vt
  rw [Nat.add_assoc, ← Nat.mul_add]
  congr 2; omega
theorem vt_self (l : List (Int × Int)) (d p A : Nat) : vt l d p A d = A := by unfold vt; rw [Nat.sub_self, Nat.mul_zero, Nat.add_zero]
theorem AccI.to {p0 : Nat} {l : List (Int × Int)} {d p A t : Nat} (h : AccI p0 l d p A) (ho : TabOk l) (hd : d ≤ t) (ht : t ≤ 109572) {p' : Nat} (hp : p' ≤ p) : AccI p0 l t p' (vt l d p A t) :=
  ⟨ht, Nat.le_trans hp h.pr, vt_le h ho hd ht⟩
/-- upTo -/
theorem g46 (M : Nat) (hM : 3000 ≤ M) (s : St) (ab tb d p q A p0 : Nat) (t : Nat) (v : Value) (l : List (Int × Int)) (ho : TabOk l) (hi : AccI p0 l d p A) (h0 : p0 ≤ 1099511627776) (ht : R.Tab s tb v l) (hdt : d ≤ t) (htt : t ≤ 109572)
    (hab : s.getC ab = some (accC d p q A)) (hlt : ab < s.next) (h8 : 8 ≤ s.next) (hn : s.next + 400 ≤ lim) :
    ∃ s', callN E M 46 [.pointer (some ⟨ab, 0, none⟩), .pointer (some ⟨tb, 0, none⟩), .int .i64 (t : Int)] s = some (W (vt l d p A t), s') ∧ Grew 300 s s' := by
  have hb := vt_top hi ho h0 hdt htt
  have := hi.pr
  have := ho.top t (by omega)
  exact r46 M hM s ab tb d p q A (sumN l t - sumN l d) t v l ho.len ho.ok ht hi.day htt (by omega) (sum_diff ho.ok hdt (by omega)) (by omega) (by unfold vt at hb; omega) hab hlt h8 hn
theorem g13 (M : Nat) (hM : 3001 ≤ M) (s : St) (ab tb d p q A p0 : Nat) (t : Nat) (v : Value) (l : List (Int × Int)) (ho : TabOk l) (hi : AccI p0 l d p A) (h0 : p0 ≤ 1099511627776) (ht : R.Tab s tb v l) (hdt : d ≤ t) (htt : t ≤ 109572)
    (hab : s.getC ab = some (accC d p q A)) (hlt : ab < s.next) (ha8 : 8 ≤ ab) (hn : s.next + 400 ≤ lim) :
    ∃ s', callN E M 13 [.pointer (some ⟨ab, 0, none⟩), .pointer (some ⟨tb, 0, none⟩), .int .i64 (t : Int)] s = some (.int .i64 0, s') ∧ Upd 300 ab (accC t p q (vt l d p A t)) s s' := by
  have hb := vt_top hi ho h0 hdt htt
  have := hi.pr
  have := ho.top t (by omega)
  exact r13 M hM s ab tb d p q A (sumN l t - sumN l d) t v l ho.len ho.ok ht hdt htt (by omega) (sum_diff ho.ok hdt (by omega)) (by omega) (by unfold vt at hb; omega) hab hlt ha8 hn
/-- Shown -/
theorem g22 (M : Nat) (hM : 3002 ≤ M) (s : St) (ab tb d p q A p0 : Nat) (t : Nat) (v : Value) (l : List (Int × Int)) (ho : TabOk l) (hi : AccI p0 l d p A) (h0 : p0 ≤ 1099511627776) (ht : R.Tab s tb v l) (hdt : d ≤ t) (htt : t ≤ 109572) (hq : q ≤ 4503599627370496)
    (hab : s.getC ab = some (accC d p q A)) (hlt : ab < s.next) (hn : s.next + 800 ≤ lim) (h8 : 8 ≤ s.next) :
    ∃ s', callN E M 22 [.pointer (some ⟨ab, 0, none⟩), .pointer (some ⟨tb, 0, none⟩), .int .i64 (t : Int)] s = some (if vt l d p A t / 365000000 ≤ 4503599627370496 then tupOf [.int .i64 (((vt l d p A t / 365000000 : Nat) : Int) - (q : Int)), .int .i64 0] else tupOf [.int .i64 0, .int .i64 10], s') ∧ Grew 310 s s' := by
  have hlim : lim = 1000000000 := rfl
  have hb := vt_top hi ho h0 hdt htt
  obtain ⟨m, rfl⟩ : ∃ m, M = m + 1 := ⟨M - 1, by omega⟩
  obtain ⟨s1, c1, g1⟩ := r45 m (by omega) s ab d p q _ (t : Int) hab
  rw [may_ok hdt htt] at c1
  have G1 := g1.grew
  obtain ⟨s2, c2, g2⟩ := g46 m (by omega) s1 ab tb d p q A p0 t v l ho hi h0 (ht.grew (k := 0) G1) hdt htt ((g1.2 ab).trans hab) (by rw [g1.1]; exact hlt) (by rw [g1.1]; omega) (by rw [g1.1]; omega)
  have b2 := g2.1; have b2' := g2.2.1
  rw [g1.1] at b2 b2'
  obtain ⟨s3, c3, g3⟩ := r48 m (by omega) (vt l d p A t) (by omega) s2 (by omega) (by omega)
  have x3 : s3.getC ab = some (accC d p q A) := (g3.2.2 ab (by omega)).trans ((g2.2.2 ab (by rw [g1.1]; exact hlt)).trans ((g1.2 ab).trans hab))
  have e0 : decide ((0 : Int) = 0) = true := rfl
  have G3 : Grew 310 s s3 := ((G1.trans g2).trans g3).mono (by omega)
  obtain ⟨o, ho'⟩ : ∃ o, o = vt l d p A t / 365000000 := ⟨_, rfl⟩
  rw [← ho'] at c3 ⊢
  unfold accC at x3
  rw [x22]
  unfold F22
  by_cases hoo : o ≤ 4503599627370496
  · have e1 : decide (4503599627370496 < (o : Int)) = false := decide_eq_false (by omega)
    have sb : int2 subO (.int .i64 (o : Int)) (.int .i64 (q : Int)) = some (.int .i64 ((o : Int) - (q : Int))) := sub_e _ _ (by omega) (by omega)
    rw [if_pos hoo]
    simp (disch := (first | omega | (simp only [an_next, set_next, St.seen_next, jn_next, z0_next]; try omega; done))) only [op2_s, op_s, bin_e, pick_e, not_e, ext_e, nth_z, nth_1, nth_2, nth_3, gval_e, gval_u, cmp_e, orUndef_t, orUndef_f, condV_t, condV_f, cond_true, cond_false, eqI_eq, neI_eq, ltI_eq, leI_eq, gtI_eq, geI_eq, Bool.not_true, Bool.not_false, bf_tt, bf_tf, bf_ft, bf_ff, decide_true, decide_false, oneOf_1, oneOf_2, oneOf_3, thenV_n, thenV_e, thenV_r, exV_e, exV_r, Nat.beq_refl, eq_self, new_a, boxA, an_ati, an_atp, an_ats, an_atb, an_ne, set_ati, set_atp, set_ats, set_atb, set_ne, seen_getC, loadn_o, store_2, store_i, store_b, store_s, store_p, load_u, cut_22, put_22, cut_53, cut_55, put_55, put_50, put_51, put_52, put_53, store_5, nth_z, nth_1, nth_2, nth_3, nth_4, nil_u, fa_0, an_next, set_next, St.seen_next, jn_next, z0_next, jn_getC, z0_getC, rU_z, rU_seen, rU_set, rU_an, rU_sl, c1, e0, c2, c3, e1, x3, sb]
    exact ⟨_, rfl, G3.seen _⟩
  · have e1 : decide (4503599627370496 < (o : Int)) = true := decide_eq_true (by omega)
    rw [if_neg hoo]
    simp (disch := (first | omega | (simp only [an_next, set_next, St.seen_next, jn_next, z0_next]; try omega; done))) only [op2_s, op_s, bin_e, pick_e, not_e, ext_e, nth_z, nth_1, nth_2, nth_3, gval_e, gval_u, cmp_e, orUndef_t, orUndef_f, condV_t, condV_f, cond_true, cond_false, eqI_eq, neI_eq, ltI_eq, leI_eq, gtI_eq, geI_eq, Bool.not_true, Bool.not_false, bf_tt, bf_tf, bf_ft, bf_ff, decide_true, decide_false, oneOf_1, oneOf_2, oneOf_3, thenV_n, thenV_e, thenV_r, exV_e, exV_r, Nat.beq_refl, eq_self, new_a, boxA, an_ati, an_atp, an_ats, an_atb, an_ne, set_ati, set_atp, set_ats, set_atb, set_ne, seen_getC, loadn_o, store_2, store_i, store_b, store_s, store_p, load_u, cut_22, put_22, cut_53, cut_55, put_55, put_50, put_51, put_52, put_53, store_5, nth_z, nth_1, nth_2, nth_3, nth_4, nil_u, fa_0, an_next, set_next, St.seen_next, jn_next, z0_next, jn_getC, z0_getC, rU_z, rU_seen, rU_set, rU_an, rU_sl, c1, e0, c2, c3, e1]
    exact ⟨_, rfl, G3⟩
/-- Post -/
theorem g20 (M : Nat) (hM : 3003 ≤ M) (s : St) (ab tb d p q A p0 : Nat) (t : Nat) (v : Value) (l : List (Int × Int)) (ho : TabOk l) (hi : AccI p0 l d p A) (h0 : p0 ≤ 1099511627776) (ht : R.Tab s tb v l) (hdt : d ≤ t) (htt : t ≤ 109572) (hq : q ≤ 4503599627370496)
    (hab : s.getC ab = some (accC d p q A)) (hlt : ab < s.next) (ha8 : 8 ≤ ab) (hB : vt l d p A t / 365000000 ≤ 4503599627370496) (hn : s.next + 1200 ≤ lim) (h8 : 8 ≤ s.next) :
    ∃ x s', callN E M 20 [.pointer (some ⟨ab, 0, none⟩), .pointer (some ⟨tb, 0, none⟩), .int .i64 (t : Int)] s = some (x, s') ∧ Upd 610 ab (accC t p (vt l d p A t / 365000000) (vt l d p A t)) s s' := by
  have hlim : lim = 1000000000 := rfl
  obtain ⟨m, rfl⟩ : ∃ m, M = m + 1 := ⟨M - 1, by omega⟩
  obtain ⟨s1, c1, g1⟩ := g22 m (by omega) s ab tb d p q A p0 t v l ho hi h0 ht hdt htt hq hab hlt (by omega) h8
  rw [if_pos hB] at c1
  have b1 := g1.1; have b1' := g1.2.1
  obtain ⟨s2, c2, g2⟩ := g13 m (by omega) s1 ab tb d p q A p0 t v l ho hi h0 (ht.grew (k := 310) g1) hdt htt ((g1.2.2 ab hlt).trans hab) (by omega) ha8 (by omega)
  have e0 : decide ((0 : Int) = 0) = true := rfl
  have x2 := g2.2.2.1
  obtain ⟨o, ho'⟩ : ∃ o, o = vt l d p A t / 365000000 := ⟨_, rfl⟩
  rw [← ho'] at c1 hB ⊢
  have ad : int2 addO (.int .i64 (q : Int)) (.int .i64 ((o : Int) - (q : Int))) = some (.int .i64 (o : Int)) := by
    rw [add_e _ _ (by omega) (by omega)]
    congr 2
    omega
  unfold accC at x2
  rw [x20]
  unfold F20
  simp (disch := (first | omega | (simp only [an_next, set_next, St.seen_next, jn_next, z0_next]; try omega; done))) only [op2_s, op_s, bin_e, pick_e, not_e, ext_e, nth_z, nth_1, nth_2, nth_3, gval_e, gval_u, cmp_e, orUndef_t, orUndef_f, condV_t, condV_f, cond_true, cond_false, eqI_eq, neI_eq, ltI_eq, leI_eq, gtI_eq, geI_eq, Bool.not_true, Bool.not_false, bf_tt, bf_tf, bf_ft, bf_ff, decide_true, decide_false, oneOf_1, oneOf_2, oneOf_3, thenV_n, thenV_e, thenV_r, exV_e, exV_r, Nat.beq_refl, eq_self, new_a, boxA, an_ati, an_atp, an_ats, an_atb, an_ne, set_ati, set_atp, set_ats, set_atb, set_ne, seen_getC, loadn_o, store_2, store_i, store_b, store_s, store_p, load_u, cut_22, put_22, cut_53, cut_55, put_55, put_50, put_51, put_52, put_53, store_5, nth_z, nth_1, nth_2, nth_3, nth_4, nil_u, fa_0, an_next, set_next, St.seen_next, jn_next, z0_next, jn_getC, z0_getC, rU_z, rU_seen, rU_set, rU_an, rU_sl, c1, e0, c2, x2, ad]
  have b2 := g2.1; have b2' := g2.2.1
  exact ⟨_, _, rfl, Upd.set ((Upd.after g1 g2 hlt).seen _) _ _ ha8 hlt (by rw [St.seen_next]; omega) rfl⟩
theorem g20_over (M : Nat) (hM : 3003 ≤ M) (s : St) (ab tb d p q A p0 : Nat) (t : Nat) (v : Value) (l : List (Int × Int)) (ho : TabOk l) (hi : AccI p0 l d p A) (h0 : p0 ≤ 1099511627776) (ht : R.Tab s tb v l) (hdt : d ≤ t) (htt : t ≤ 109572) (hq : q ≤ 4503599627370496)
    (hab : s.getC ab = some (accC d p q A)) (hlt : ab < s.next) (hB : ¬ vt l d p A t / 365000000 ≤ 4503599627370496) (hn : s.next + 1200 ≤ lim) (h8 : 8 ≤ s.next) :
    ∃ x s', callN E M 20 [.pointer (some ⟨ab, 0, none⟩), .pointer (some ⟨tb, 0, none⟩), .int .i64 (t : Int)] s = some (x, s') ∧ Grew 310 s s' := by
  obtain ⟨m, rfl⟩ : ∃ m, M = m + 1 := ⟨M - 1, by omega⟩
  obtain ⟨s1, c1, g1⟩ := g22 m (by omega) s ab tb d p q A p0 t v l ho hi h0 ht hdt htt hq hab hlt (by omega) h8
  rw [if_neg hB] at c1
  have e0 : decide ((10 : Int) = 0) = false := rfl
  rw [x20]
  unfold F20
  simp only [op2_s, op_s, bin_e, pick_e, not_e, ext_e, nth_z, nth_1, nth_2, nth_3, gval_e, gval_u, cmp_e, orUndef_t, orUndef_f, condV_t, condV_f, cond_true, cond_false, eqI_eq, neI_eq, ltI_eq, leI_eq, gtI_eq, geI_eq, Bool.not_true, Bool.not_false, bf_tt, bf_tf, bf_ft, bf_ff, decide_true, decide_false, oneOf_1, oneOf_2, oneOf_3, thenV_n, thenV_e, thenV_r, exV_e, exV_r, Nat.beq_refl, eq_self, c1, e0]
  exact ⟨_, _, rfl, g1⟩
/-- Pay, that is let -/
theorem g14 (M : Nat) (hM : 3001 ≤ M) (s : St) (ab tb d p q A p0 : Nat) (t a : Nat) (v : Value) (l : List (Int × Int)) (ho : TabOk l) (hi : AccI p0 l d p A) (h0 : p0 ≤ 1099511627776) (ht : R.Tab s tb v l) (hdt : d ≤ t) (htt : t ≤ 109572) (hap : a ≤ p)
    (hab : s.getC ab = some (accC d p q A)) (hlt : ab < s.next) (ha8 : 8 ≤ ab) (hn : s.next + 400 ≤ lim) :
    ∃ s', callN E M 14 [.pointer (some ⟨ab, 0, none⟩), .pointer (some ⟨tb, 0, none⟩), .int .i64 (t : Int), .int .i64 (a : Int)] s = some (.int .i64 0, s') ∧ Upd 300 ab (accC t (p - a) q (vt l d p A t)) s s' := by
  have hlim : lim = 1000000000 := rfl
  obtain ⟨m, rfl⟩ : ∃ m, M = m + 1 := ⟨M - 1, by omega⟩
  have hpr := hi.pr
  obtain ⟨s1, c1, g1⟩ := r45 m (by omega) s ab d p q _ (t : Int) hab
  rw [may_ok hdt htt] at c1
  have G1 := g1.grew
  obtain ⟨s1', hs1'⟩ : ∃ x, x = s1.seen ab := ⟨_, rfl⟩
  have n1' : s1'.next = s.next := by rw [hs1', St.seen_next, g1.1]
  have G1' : Grew 0 s s1' := by rw [hs1']; exact G1.seen _
  have x1 := (g1.2 ab).trans hab
  obtain ⟨s2, c2, g2⟩ := g46 m (by omega) s1' ab tb d p q A p0 t v l ho hi h0 (ht.grew (k := 0) G1') hdt htt ((G1'.2.2 ab hlt).trans hab) (by omega) (by omega) (by omega)
  have b2 := g2.1; have b2' := g2.2.1
  have x2 : s2.getC ab = some (accC d p q A) := (g2.2.2 ab (by omega)).trans ((G1'.2.2 ab hlt).trans hab)
  have e0 : decide ((0 : Int) = 0) = true := rfl
  have e1 : decide ((a : Int) < 0) = false := decide_eq_false (by omega)
  have e2 : decide ((p : Int) < (a : Int)) = false := decide_eq_false (by omega)
  have sb : int2 subO (.int .i64 (p : Int)) (.int .i64 (a : Int)) = some (.int .i64 ((p - a : Nat) : Int)) := by rw [sub_e _ _ (by omega) (by omega)]; congr 2; omega
  have G2 : Grew 300 s s2 := (G1'.trans g2).mono (by omega)
  unfold accC at x1 x2
  unfold W at c2
  rw [x14]
  unfold F14
  simp (disch := (first | omega | (simp only [an_next, set_next, St.seen_next, jn_next, z0_next]; try omega; done))) only [op2_s, op_s, bin_e, pick_e, not_e, ext_e, nth_z, nth_1, nth_2, nth_3, gval_e, gval_u, cmp_e, orUndef_t, orUndef_f, condV_t, condV_f, cond_true, cond_false, eqI_eq, neI_eq, ltI_eq, leI_eq, gtI_eq, geI_eq, Bool.not_true, Bool.not_false, bf_tt, bf_tf, bf_ft, bf_ff, decide_true, decide_false, oneOf_1, oneOf_2, oneOf_3, thenV_n, thenV_e, thenV_r, exV_e, exV_r, Nat.beq_refl, eq_self, new_a, boxA, an_ati, an_atp, an_ats, an_atb, an_ne, set_ati, set_atp, set_ats, set_atb, set_ne, seen_getC, loadn_o, store_2, store_i, store_b, store_s, store_p, load_u, cut_22, put_22, cut_53, cut_55, put_55, put_50, put_51, put_52, put_53, store_5, nth_z, nth_1, nth_2, nth_3, nth_4, nil_u, fa_0, an_next, set_next, St.seen_next, jn_next, z0_next, jn_getC, z0_getC, rU_z, rU_seen, rU_set, rU_an, rU_sl, c1, e0, e1, x1, e2, ← hs1', c2, x2, sb]
  exact ⟨_, rfl, Upd.set ((Upd.set (Upd.of G2 _ _ ha8 hlt (by omega) rfl) _ _ ha8 hlt (by rw [set_next]; omega) rfl).seen _) _ _ ha8 hlt (by rw [St.seen_next, set_next, set_next]; omega) rfl⟩
/-- Pay, refused for its amount -/
theorem g14_no (M : Nat) (hM : 3001 ≤ M) (s : St) (ab d p q A : Nat) (t : Nat) (a : Int) (tv : Value) (hdt : d ≤ t) (htt : t ≤ 109572) (hap : a < 0 ∨ (p : Int) < a)
    (hab : s.getC ab = some (accC d p q A)) :
    ∃ s', callN E M 14 [.pointer (some ⟨ab, 0, none⟩), tv, .int .i64 (t : Int), .int .i64 a] s = some (.int .i64 1, s') ∧ Still s s' := by
  obtain ⟨m, rfl⟩ : ∃ m, M = m + 1 := ⟨M - 1, by omega⟩
  obtain ⟨s1, c1, g1⟩ := r45 m (by omega) s ab d p q _ (t : Int) hab
  rw [may_ok hdt htt] at c1
  have x1 := (g1.2 ab).trans hab
  have e0 : decide ((0 : Int) = 0) = true := rfl
  unfold accC at x1
  rw [x14]
  unfold F14
  by_cases h : a < 0
  · have e1 := decide_eq_true h
    simp only [op2_s, op_s, bin_e, pick_e, not_e, ext_e, nth_z, nth_1, nth_2, nth_3, gval_e, gval_u, cmp_e, orUndef_t, orUndef_f, condV_t, condV_f, cond_true, cond_false, eqI_eq, neI_eq, ltI_eq, leI_eq, gtI_eq, geI_eq, Bool.not_true, Bool.not_false, bf_tt, bf_tf, bf_ft, bf_ff, decide_true, decide_false, oneOf_1, oneOf_2, oneOf_3, thenV_n, thenV_e, thenV_r, exV_e, exV_r, Nat.beq_refl, eq_self, c1, e0, e1]
    exact ⟨_, rfl, g1⟩
  · have e1 := decide_eq_false h
    have e2 : decide ((p : Int) < a) = true := decide_eq_true (by omega)
    simp only [op2_s, op_s, bin_e, pick_e, not_e, ext_e, nth_z, nth_1, nth_2, nth_3, gval_e, gval_u, cmp_e, orUndef_t, orUndef_f, condV_t, condV_f, cond_true, cond_false, eqI_eq, neI_eq, ltI_eq, leI_eq, gtI_eq, geI_eq, Bool.not_true, Bool.not_false, bf_tt, bf_tf, bf_ft, bf_ff, decide_true, decide_false, oneOf_1, oneOf_2, oneOf_3, thenV_n, thenV_e, thenV_r, exV_e, exV_r, Nat.beq_refl, eq_self, new_a, boxA, an_ati, an_atp, an_ats, an_atb, an_ne, set_ati, set_atp, set_ats, set_atb, set_ne, seen_getC, loadn_o, store_2, store_i, store_b, store_s, store_p, load_u, cut_22, put_22, cut_53, cut_55, put_55, put_50, put_51, put_52, put_53, store_5, nth_z, nth_1, nth_2, nth_3, nth_4, nil_u, fa_0, an_next, set_next, St.seen_next, jn_next, z0_next, jn_getC, z0_getC, rU_z, rU_seen, rU_set, rU_an, rU_sl, c1, e0, e1, x1, e2]
    exact ⟨_, rfl, g1.trans (Still.seen _ _)⟩
end Go.Proofs.Ytdnedangfnincaa.AbsAccO
namespace Go.Proofs.Ytdnedangfnincaa.AbsAccO
open Go Go.Abs Go.Proofs
set_option maxRecDepth 100000
set_option linter.unusedVariables false
set_option linter.unusedSimpArgs false

/-! AccrueOften: what it is given; its rates -/
def flat3 : List (Int × Int × Int) → List Value
  | [] => []
  | x :: l => .int .i64 x.1 :: .int .i64 x.2.1 :: .int .i64 x.2.2 :: flat3 l
theorem flat3_len : ∀ l, (flat3 l).length = l.length * 3
  | [] => rfl
  | x :: l => by
    have := flat3_len l
    simp only [flat3, List.length_cons, this]; omega
theorem flat3_nth : ∀ (l : List (Int × Int × Int)) (i : Nat) (h : i < l.length), nth (flat3 l) (i * 3) = some (.int .i64 l[i].1) ∧ nth (flat3 l) (i * 3 + 1) = some (.int .i64 l[i].2.1) ∧ nth (flat3 l) (i * 3 + 2) = some (.int .i64 l[i].2.2)
  | x :: l, 0, _ => ⟨rfl, rfl, rfl⟩
  | x :: l, i + 1, h => by
    have := flat3_nth l i (by simpa using h)
    rw [show (i + 1) * 3 = i * 3 + 1 + 1 + 1 by omega]
    exact this
structure In3 (s : St) (a : Value) (L : List (Int × Int × Int)) : Prop where
  len : ∀ (rec : Rec) (fs : Frm) (u : St), oLenL (.v a) rec fs u = some (.int .i64 (L.length : Int), u)
  idx : ∀ i, i < L.length → ∀ (rec : Rec) (fs : Frm) (u : St), oIdxAddrL 3 (.v a) (.v (.int .i64 (i : Int))) rec fs u = some (.pointer (some ⟨0, i * 3, none⟩), u)
  cells : L ≠ [] → s.getC 0 = some (flat3 L)
structure InD (s : St) (a : Value) (L : List Int) : Prop where
  len : ∀ (rec : Rec) (fs : Frm) (u : St), oLenL (.v a) rec fs u = some (.int .i64 (L.length : Int), u)
  idx : ∀ i, i < L.length → ∀ (rec : Rec) (fs : Frm) (u : St), oIdxAddrL 1 (.v a) (.v (.int .i64 (i : Int))) rec fs u = some (.pointer (some ⟨1, i, none⟩), u)
  cells : L ≠ [] → s.getC 1 = some (L.map fun x => .int .i64 x)
/-- the given memory is as it was -/
def Low (s u : St) : Prop := u.getC 0 = s.getC 0 ∧ u.getC 1 = s.getC 1
theorem Low.trans {a b c : St} (h : Low a b) (g : Low b c) : Low a c := ⟨g.1.trans h.1, g.2.trans h.2⟩
theorem Low.still {a b : St} (g : Still a b) : Low a b := ⟨g.2 _, g.2 _⟩
theorem Low.grew {k : Nat} {a b : St} (g : Grew k a b) (h : 8 ≤ a.next) : Low a b := ⟨g.2.2 _ (by omega), g.2.2 _ (by omega)⟩
theorem Low.upd {k b : Nat} {c : Blk} {s u : St} (g : Upd k b c s u) (h : 8 ≤ s.next) (hb : 8 ≤ b) : Low s u := ⟨g.2.2.2 _ (by omega) (by omega), g.2.2.2 _ (by omega) (by omega)⟩
theorem fa_at (k b i : Nat) (rec : Rec) (fs : Frm) (s : St) : oFieldAddr k (.v (.pointer (some ⟨b, i, none⟩))) rec fs s = some (.pointer (some ⟨b, i + k, none⟩), s) := fieldAddr_e b i k rec fs s
/-- rates that are not great -/
def Small (l : List (Int × Int)) : Prop := ∀ p ∈ l, p.2 ≤ 1048575
theorem small_put {l : List (Int × Int)} (h : Small l) {d r : Int} (hr : r ≤ 1048575) : Small (R.putV l d r) := by
  unfold R.putV
  split
  · intro p hp
    rcases R.mem_insP hp with rfl | hp
    · exact hr
    · exact h p hp
  · exact h
theorem gain_small {d e r f t : Int} (hf : 0 ≤ f ∧ f ≤ 109573) (ht : 0 ≤ t ∧ t ≤ 109573) (hr : 0 ≤ r ∧ r ≤ 1048575) : R.gain d e r f t ≤ 114895508475 := by
  unfold R.gain
  split
  · have : (min e t - max d f) * r ≤ 109573 * 1048575 := Int.mul_le_mul (by omega) hr.2 hr.1 (by omega)
    omega
  · omega
theorem sum_small {f t : Int} (hf : 0 ≤ f ∧ f ≤ 109573) (ht : 0 ≤ t ∧ t ≤ 109573) : ∀ {l : List (Int × Int)}, R.Okl l → Small l → R.sumP f t l ≤ (l.length : Int) * 114895508475
  | [], _, _ => Int.le_refl _
  | p :: l, h, hs => by
    have ih := sum_small hf ht (okl_tail h) (fun q hq => hs q (List.mem_cons_of_mem _ hq))
    have := gain_small (d := p.1) (e := R.nxt l) (r := p.2) hf ht ⟨(h.2 p List.mem_cons_self).2.1, hs p List.mem_cons_self⟩
    show R.gain _ _ _ f t + R.sumP f t l ≤ ((l.length + 1 : Nat) : Int) * 114895508475; omega
theorem tabOk {l : List (Int × Int)} (h : R.Okl l) (hs : Small l) (hl : l.length ≤ 30) : TabOk l :=
  ⟨h, by omega, fun t ht => by
    have := sum_small (f := 0) (t := (t : Int)) ⟨by omega, by omega⟩ ⟨by omega, by omega⟩ h hs
    unfold sumN; omega⟩
structure PInv (s0 : St) (tb B i : Nat) (u : St) : Prop where
  n8 : 8 ≤ u.next
  nB : u.next ≤ B + i * 4
  tl : tb < u.next
  low : Low s0 u
  tab : ∃ v l, R.Tab u tb v l ∧ R.Okl l ∧ Small l ∧ l.length ≤ i
theorem loop5_0 (M : Nat) (hM : 3000 ≤ M) (s0 : St) (a1 : Value) (L : List (Int × Int × Int)) (hin : In3 s0 a1 L) (hL : L.length ≤ 30) (tb B : Nat) (hB : B + 1000 ≤ lim) (k1 k3 k4 k5 : Value) :
    ∀ (fuel i : Nat) (u : St), PInv s0 tb B i u → i ≤ L.length → L.length - i < fuel →
    ∃ w u', loopV (B5_l0 (callN E M) M (k1, a1, k3, k4, k5, .pointer (some ⟨tb, 0, none⟩))) fuel (.int .i64 (i : Int)) u = some (.exit 0, w, u') ∧ PInv s0 tb B L.length u' := by
  have hlim : lim = 1000000000 := rfl
  intro fuel
  induction fuel with
  | zero => intro i u _ _ h; omega
  | succ fuel ih =>
    intro i u hu hi hf
    have hlen := hin.len
    rw [loopV_s, B5_l0]
    by_cases hlt : i < L.length
    · have e1 : decide ((i : Int) < (L.length : Int)) = true := decide_eq_true (by omega)
      have hidx := hin.idx i hlt
      have g0 : u.getC 0 = some (flat3 L) := hu.low.1.trans (hin.cells (by intro e; rw [e] at hlt; simp at hlt))
      obtain ⟨n0, n1, n2⟩ := flat3_nth L i hlt
      have n0' : nth (flat3 L) (i * 3 + 0) = some (.int .i64 L[i].1) := n0
      have hadd : int2 addO (.int .i64 (i : Int)) (.int .i64 1) = some (.int .i64 ((i + 1 : Nat) : Int)) := by rw [add_e _ _ (by omega) (by omega)]; rfl
      by_cases h6 : L[i].1 = 6
      · have e2 : decide (L[i].1 = 6) = true := decide_eq_true h6
        obtain ⟨r, hr, ha⟩ := and_any L[i].2.2 1048575 (by omega)
        have ha : int2 andO (.int .i64 L[i].2.2) (.int .i64 1048575) = some (.int .i64 (r : Int)) := ha
        obtain ⟨w, hw⟩ : ∃ w, w = ((u.seen 0).seen 0).seen 0 := ⟨_, rfl⟩
        have sw : Still u w := by rw [hw]; exact ((Still.seen u 0).trans (Still.seen _ 0)).trans (Still.seen _ 0)
        have b1 := hu.nB; have b2 := hu.n8
        obtain ⟨v, l, t1, t2, t3, t4⟩ := hu.tab
        have sz : Still u (z0 w) := ⟨by rw [z0_next, sw.1], fun y => by rw [z0_getC, sw.2]⟩
        obtain ⟨m, rfl⟩ : ∃ m, M = m + 4 := ⟨M - 4, by omega⟩
        obtain ⟨v', u', c1, q1, q2, q3, q4, q5⟩ := R.put m (by omega) (z0 w) tb v l L[i].2.1 (r : Int) (by omega) t2 (t1.keep (by rw [sz.1]; omega) (sz.2 _) fun b _ => sz.2 b) (by rw [sz.1]; omega)
        rw [sz.1] at q2 q3
        have low' : Low u (jn w u') := by
          have k : ∀ y, y < 8 → u'.getC y = u.getC y := fun y hy => (q4 y (by rw [sz.1]; omega) (by have := t1.lo; omega) (fun e => by have := t1.blo y e; omega)).trans (sz.2 y)
          exact ⟨k 0 (by omega), k 1 (by omega)⟩
        obtain ⟨w', u'', r1, r2⟩ := ih (i + 1) (jn w u') ⟨by rw [jn_next]; omega, by rw [jn_next]; omega, by rw [jn_next]; have := hu.tl; omega, hu.low.trans low', v', _, q1.keep (by rw [jn_next]; omega) rfl (fun _ _ => rfl), t2.put _ _, small_put t3 (by omega), by have := R.putV_len l L[i].2.1 (r : Int); omega⟩ (by omega) (by omega)
        simp only [op2_s, op_s, bin_e, pick_e, not_e, ext_e, nth_z, nth_1, nth_2, nth_3, gval_e, gval_u, cmp_e, orUndef_t, orUndef_f, condV_t, condV_f, cond_true, cond_false, eqI_eq, neI_eq, ltI_eq, leI_eq, gtI_eq, geI_eq, Bool.not_true, Bool.not_false, bf_tt, bf_tf, bf_ft, bf_ff, decide_true, decide_false, oneOf_1, oneOf_2, oneOf_3, thenV_n, thenV_e, thenV_r, exV_e, exV_r, Nat.beq_refl, eq_self, hlen, e1, hidx, fa_at, load_u, seen_getC, g0, n0', n1, n2, e2, ha, ← hw, c1, rV_s, hadd]
        exact ⟨w', u'', r1, r2⟩
      · have e2 : decide (L[i].1 = 6) = false := decide_eq_false h6
        have b1 := hu.nB; have b2 := hu.n8
        obtain ⟨v, l, t1, t2, t3, t4⟩ := hu.tab
        obtain ⟨w', u'', r1, r2⟩ := ih (i + 1) (u.seen 0) ⟨by rw [St.seen_next]; omega, by rw [St.seen_next]; omega, by rw [St.seen_next]; exact hu.tl, hu.low.trans (Low.still (Still.seen u 0)), v, l, t1.grew (k := 0) (Still.seen u 0).grew, t2, t3, by omega⟩ (by omega) (by omega)
        simp only [op2_s, op_s, bin_e, pick_e, not_e, ext_e, nth_z, nth_1, nth_2, nth_3, gval_e, gval_u, cmp_e, orUndef_t, orUndef_f, condV_t, condV_f, cond_true, cond_false, eqI_eq, neI_eq, ltI_eq, leI_eq, gtI_eq, geI_eq, Bool.not_true, Bool.not_false, bf_tt, bf_tf, bf_ft, bf_ff, decide_true, decide_false, oneOf_1, oneOf_2, oneOf_3, thenV_n, thenV_e, thenV_r, exV_e, exV_r, Nat.beq_refl, eq_self, hlen, e1, hidx, fa_at, load_u, seen_getC, g0, n0', e2, hadd]
        exact ⟨w', u'', r1, r2⟩
    · have e1 : decide ((i : Int) < (L.length : Int)) = false := decide_eq_false (by omega)
      obtain rfl : i = L.length := by omega
      simp only [op2_s, op_s, bin_e, pick_e, not_e, ext_e, nth_z, nth_1, nth_2, nth_3, gval_e, gval_u, cmp_e, orUndef_t, orUndef_f, condV_t, condV_f, cond_true, cond_false, eqI_eq, neI_eq, ltI_eq, leI_eq, gtI_eq, geI_eq, Bool.not_true, Bool.not_false, bf_tt, bf_tf, bf_ft, bf_ff, decide_true, decide_false, oneOf_1, oneOf_2, oneOf_3, thenV_n, thenV_e, thenV_r, exV_e, exV_r, Nat.beq_refl, eq_self, hlen, e1]
      exact ⟨_, _, rfl, hu⟩
end Go.Proofs.Ytdnedangfnincaa.AbsAccO
namespace Go.Proofs.Ytdnedangfnincaa.AbsAccO
open Go Go.Abs Go.Proofs
set_option maxRecDepth 100000
set_option linter.unusedVariables false
set_option linter.unusedSimpArgs false

/-! AccrueOften: looked at and posted on days -/
/-- the two accounts: a was looked at, b not; what their sums would be is one -/
structure J (s0 : St) (p0 tb ab bb : Nat) (v : Value) (l : List (Int × Int)) (now p Ab last B : Nat) (u : St) : Prop where
  n8 : 8 ≤ u.next
  nB : u.next ≤ B
  tab : R.Tab u tb v l
  low : Low s0 u
  al : ab < u.next
  bl : bb < u.next
  bI : AccI p0 l now p Ab
  b : u.getC bb = some (accC now p 0 Ab)
  a : ∃ da q, now ≤ da ∧ da ≤ last ∧ q ≤ 4503599627370496 ∧ u.getC ab = some (accC da p q (vt l now p Ab da))
theorem J.still {s0 : St} {p0 tb ab bb : Nat} {v : Value} {l : List (Int × Int)} {now p Ab last B : Nat} {u w : St} (h : J s0 p0 tb ab bb v l now p Ab last B u) (g : Still u w) : J s0 p0 tb ab bb v l now p Ab last B w := by
  have := h.n8; have := h.nB; have := h.al; have := h.bl
  obtain ⟨da, q, a1, a2, a3, a4⟩ := h.a
  exact ⟨by rw [g.1]; omega, by rw [g.1]; omega, h.tab.grew (k := 0) g.grew, h.low.trans (Low.still g), by rw [g.1]; omega, by rw [g.1]; omega, h.bI, (g.2 _).trans h.b, ⟨da, q, a1, a2, a3, (g.2 _).trans a4⟩⟩
theorem J.mono {s0 : St} {p0 tb ab bb : Nat} {v : Value} {l : List (Int × Int)} {now p Ab last B B' : Nat} {u : St} (h : J s0 p0 tb ab bb v l now p Ab last B u) (hB : B ≤ B') : J s0 p0 tb ab bb v l now p Ab last B' u :=
  ⟨h.n8, Nat.le_trans h.nB hB, h.tab, h.low, h.al, h.bl, h.bI, h.b, h.a⟩
theorem J.grew {s0 : St} {p0 tb ab bb : Nat} {v : Value} {l : List (Int × Int)} {now p Ab last B k : Nat} {u w : St} (h : J s0 p0 tb ab bb v l now p Ab last B u) (g : Grew k u w) : J s0 p0 tb ab bb v l now p Ab last (B + k) w := by
  have := h.n8; have := h.nB; have := h.al; have := h.bl; have := g.1; have := g.2.1
  obtain ⟨da, q, a1, a2, a3, a4⟩ := h.a
  exact ⟨by omega, by omega, h.tab.grew (k := k) g, h.low.trans (Low.grew g h.n8), by omega, by omega, h.bI, (g.2.2 _ h.bl).trans h.b, ⟨da, q, a1, a2, a3, (g.2.2 _ h.al).trans a4⟩⟩
theorem tab_upd' {s u : St} {tb ab k : Nat} {v : Value} {l : List (Int × Int)} {c : Blk} (h : R.Tab s tb v l) (g : Upd k ab c s u) (h1 : tb ≠ ab) (h2 : R.blkOf v ≠ some ab) : R.Tab u tb v l :=
  h.keep g.1 (g.2.2.2 _ h.lt h1) fun b hb => g.2.2.2 b (h.blt b hb) fun e => h2 (by rw [hb, e])
theorem J.post {s0 : St} {p0 tb ab bb : Nat} {v : Value} {l : List (Int × Int)} {now p Ab last B k : Nat} {u w : St} (y : Lay tb ab bb v) (h : J s0 p0 tb ab bb v l now p Ab last B u) (t q : Nat) (h1 : now ≤ t) (h2 : t ≤ last) (h3 : q ≤ 4503599627370496) (g : Upd k ab (accC t p q (vt l now p Ab t)) u w) : J s0 p0 tb ab bb v l now p Ab last (B + k) w := by
  have := h.n8; have := h.nB; have := h.al; have := h.bl; have := g.1; have := g.2.1; have := y.a8
  exact ⟨by omega, by omega, tab_upd' h.tab g y.ta y.va, h.low.trans (Low.upd g h.n8 y.a8), by omega, by omega, h.bI, (g.2.2.2 bb h.bl (fun e => y.abn e.symm)).trans h.b, ⟨t, q, h1, h2, h3, g.2.2.1⟩⟩
theorem fa_at1 (rec : Rec) (fs : Frm) (s : St) (i : Nat) : oFieldAddr 1 (.v (.pointer (some ⟨0, i * 3, none⟩))) rec fs s = some (.pointer (some ⟨0, i * 3 + 1, none⟩), s) := fieldAddr_e 0 (i * 3) 1 rec fs s
theorem loop5_1 (M : Nat) (hM : 4000 ≤ M) (s0 : St) (a1 a2 : Value) (L : List (Int × Int × Int)) (D : List Int) (h3 : In3 s0 a1 L) (hD : InD s0 a2 D) (hDl : D.length ≤ 30) (p0 tb ab bb : Nat) (v : Value) (l : List (Int × Int)) (now p Ab last B : Nat) (i : Nat) (hi : i < L.length) (hiL : L.length ≤ 30)
    (hB : B + 100000 ≤ lim) (y : Lay tb ab bb v) (ho : TabOk l) (h0 : p0 ≤ 1099511627776) (hlast : last ≤ 109572) (k4 : Value) :
    ∀ (fuel k : Nat) (u : St), J s0 p0 tb ab bb v l now p Ab last (B + k * 610) u → k ≤ D.length → D.length - k < fuel →
    ∃ w u', loopV (B5_l1 (callN E M) M (a1, a2, .int .i64 (last : Int), k4, .pointer (some ⟨tb, 0, none⟩), .pointer (some ⟨ab, 0, none⟩), .pointer (some ⟨bb, 0, none⟩), .int .i64 (now : Int), .int .i64 (i : Int))) fuel (.int .i64 (k : Int)) u = some (.exit 4, w, u') ∧ J s0 p0 tb ab bb v l now p Ab last (B + D.length * 610) u' := by
  have hlim : lim = 1000000000 := rfl
  intro fuel
  induction fuel with
  | zero => intro k u _ _ h; omega
  | succ fuel ih =>
    intro k u hu hk hf
    have hlen := hD.len
    rw [loopV_s, B5_l1]
    by_cases hlt : k < D.length
    · have e1 : decide ((k : Int) < (D.length : Int)) = true := decide_eq_true (by omega)
      have hdx := hD.idx k hlt
      have g1 : u.getC 1 = some (D.map fun x => .int .i64 x) := hu.low.2.trans (hD.cells (by intro e; rw [e] at hlt; simp at hlt))
      have nd := nth_map hlt
      have hadd : int2 addO (.int .i64 (k : Int)) (.int .i64 1) = some (.int .i64 ((k + 1 : Nat) : Int)) := by rw [add_e _ _ (by omega) (by omega)]; rfl
      have hix := h3.idx i hi
      have g0 : u.getC 0 = some (flat3 L) := hu.low.1.trans (h3.cells (by intro e; rw [e] at hi; simp at hi))
      obtain ⟨_, n1, _⟩ := flat3_nth L i hi
      have next : ∀ w, J s0 p0 tb ab bb v l now p Ab last (B + k * 610 + 610) w → ∃ x u', loopV (B5_l1 (callN E M) M (a1, a2, .int .i64 (last : Int), k4, .pointer (some ⟨tb, 0, none⟩), .pointer (some ⟨ab, 0, none⟩), .pointer (some ⟨bb, 0, none⟩), .int .i64 (now : Int), .int .i64 (i : Int))) fuel (.int .i64 ((k + 1 : Nat) : Int)) w = some (.exit 4, x, u') ∧ J s0 p0 tb ab bb v l now p Ab last (B + D.length * 610) u' :=
        fun w hw => ih (k + 1) w (hw.mono (by omega)) (by omega) (by omega)
      by_cases c1 : (now : Int) ≤ D[k]
      · have f1 : decide ((now : Int) ≤ D[k]) = true := decide_eq_true c1
        by_cases c2 : D[k] ≤ L[i].2.1
        · have f2 : decide (D[k] ≤ L[i].2.1) = true := decide_eq_true c2
          by_cases c3 : L[i].2.1 ≤ (last : Int)
          · have f3 : decide (L[i].2.1 ≤ (last : Int)) = true := decide_eq_true c3
            obtain ⟨t, ht⟩ := Int.eq_ofNat_of_zero_le (show 0 ≤ D[k] by omega)
            obtain ⟨r, hr, ha⟩ := and_any D[k] 1 (by omega)
            have ha : int2 andO (.int .i64 D[k]) (.int .i64 1) = some (.int .i64 (r : Int)) := ha
            obtain ⟨da, q, a1', a2', a3', a4'⟩ := hu.a
            have b1 := hu.nB; have b2 := hu.n8; have b3 := hu.al
            have hkB : k * 610 ≤ 18300 := by omega
            obtain ⟨w, hw⟩ : ∃ w, w = (((((u.seen 1).seen 0).seen 1).seen 0).seen 1).seen 1 := ⟨_, rfl⟩
            have sw : Still u w := by rw [hw]; exact ((((((Still.seen u _).trans (Still.seen _ _)).trans (Still.seen _ _)).trans (Still.seen _ _)).trans (Still.seen _ _)).trans (Still.seen _ _))
            have tw : R.Tab w tb v l := hu.tab.grew (k := 0) sw.grew
            have xw := (sw.2 ab).trans a4'
            have aI : AccI p0 l da p (vt l now p Ab da) := hu.bI.to ho a1' (by omega) (Nat.le_refl _)
            have main : ∃ x20 w20 x22 w22, callN E M 20 [.pointer (some ⟨ab, 0, none⟩), .pointer (some ⟨tb, 0, none⟩), .int .i64 D[k]] w = some (x20, w20) ∧ J s0 p0 tb ab bb v l now p Ab last (B + k * 610 + 610) w20 ∧
                callN E M 22 [.pointer (some ⟨ab, 0, none⟩), .pointer (some ⟨tb, 0, none⟩), .int .i64 D[k]] w = some (x22, w22) ∧ J s0 p0 tb ab bb v l now p Ab last (B + k * 610 + 610) w22 := by
              by_cases hm : da ≤ t
              · obtain ⟨w22, d1, d2⟩ := g22 M (by omega) w ab tb da p q _ p0 t v l ho aI h0 tw hm (by omega) a3' xw (by rw [sw.1]; exact hu.al) (by rw [sw.1]; omega) (by rw [sw.1]; omega)
                rw [← ht] at d1
                have j22 : J s0 p0 tb ab bb v l now p Ab last (B + k * 610 + 610) w22 := ((hu.still sw).grew d2).mono (by omega)
                by_cases hB' : vt l da p (vt l now p Ab da) t / 365000000 ≤ 4503599627370496
                · obtain ⟨x20, w20, e1, e2⟩ := g20 M (by omega) w ab tb da p q _ p0 t v l ho aI h0 tw hm (by omega) a3' xw (by rw [sw.1]; exact hu.al) y.a8 hB' (by rw [sw.1]; omega) (by rw [sw.1]; omega)
                  rw [← ht] at e1
                  rw [vt_vt ho a1' hm (by omega)] at e2 hB'
                  exact ⟨x20, w20, _, w22, e1, (hu.still sw).post y t _ (by omega) (by omega) hB' e2, d1, j22⟩
                · obtain ⟨x20, w20, e1, e2⟩ := g20_over M (by omega) w ab tb da p q _ p0 t v l ho aI h0 tw hm (by omega) a3' xw (by rw [sw.1]; exact hu.al) hB' (by rw [sw.1]; omega) (by rw [sw.1]; omega)
                  rw [← ht] at e1
                  exact ⟨x20, w20, _, w22, e1, ((hu.still sw).grew e2).mono (by omega), d1, j22⟩
              · have me : mayE da D[k] ≠ 0 := by
                  unfold mayE
                  rw [if_neg (by omega), if_pos (by omega)]
                  decide
                obtain ⟨w20, e1, e2⟩ := r20_no M (by omega) w ab da p q _ D[k] (.pointer (some ⟨tb, 0, none⟩)) xw me
                obtain ⟨w22, d1, d2⟩ := r22_no M (by omega) w ab da p q _ D[k] (.pointer (some ⟨tb, 0, none⟩)) xw me
                exact ⟨_, w20, _, w22, e1, ((hu.still sw).still e2).mono (by omega), d1, ((hu.still sw).still d2).mono (by omega)⟩
            obtain ⟨x20, w20, x22, w22, m1, m2, m3, m4⟩ := main
            by_cases hr0 : r = 0
            · have f4 : decide ((r : Int) = 0) = true := decide_eq_true (by omega)
              obtain ⟨z, u', r1, r2⟩ := next w20 m2
              simp only [op2_s, op_s, bin_e, pick_e, not_e, ext_e, nth_z, nth_1, nth_2, nth_3, gval_e, gval_u, cmp_e, orUndef_t, orUndef_f, condV_t, condV_f, cond_true, cond_false, eqI_eq, neI_eq, ltI_eq, leI_eq, gtI_eq, geI_eq, Bool.not_true, Bool.not_false, bf_tt, bf_tf, bf_ft, bf_ff, decide_true, decide_false, oneOf_1, oneOf_2, oneOf_3, thenV_n, thenV_e, thenV_r, exV_e, exV_r, Nat.beq_refl, eq_self, hlen, e1, hdx, hix, fa_at1, load_u, seen_getC, g1, nd, g0, n1, f1, f2, f3, Q5_q1, J5_j1, ha, f4, ← hw, m1, J5_j2, hadd]
              exact ⟨z, u', r1, r2⟩
            · have f4 : decide ((r : Int) = 0) = false := decide_eq_false (by omega)
              obtain ⟨z, u', r1, r2⟩ := next w22 m4
              simp only [op2_s, op_s, bin_e, pick_e, not_e, ext_e, nth_z, nth_1, nth_2, nth_3, gval_e, gval_u, cmp_e, orUndef_t, orUndef_f, condV_t, condV_f, cond_true, cond_false, eqI_eq, neI_eq, ltI_eq, leI_eq, gtI_eq, geI_eq, Bool.not_true, Bool.not_false, bf_tt, bf_tf, bf_ft, bf_ff, decide_true, decide_false, oneOf_1, oneOf_2, oneOf_3, thenV_n, thenV_e, thenV_r, exV_e, exV_r, Nat.beq_refl, eq_self, hlen, e1, hdx, hix, fa_at1, load_u, seen_getC, g1, nd, g0, n1, f1, f2, f3, Q5_q1, J5_j1, ha, f4, ← hw, m3, J5_j2, hadd]
              exact ⟨z, u', r1, r2⟩
          · have f3 : decide (L[i].2.1 ≤ (last : Int)) = false := decide_eq_false c3
            simp only [op2_s, op_s, bin_e, pick_e, not_e, ext_e, nth_z, nth_1, nth_2, nth_3, gval_e, gval_u, cmp_e, orUndef_t, orUndef_f, condV_t, condV_f, cond_true, cond_false, eqI_eq, neI_eq, ltI_eq, leI_eq, gtI_eq, geI_eq, Bool.not_true, Bool.not_false, bf_tt, bf_tf, bf_ft, bf_ff, decide_true, decide_false, oneOf_1, oneOf_2, oneOf_3, thenV_n, thenV_e, thenV_r, exV_e, exV_r, Nat.beq_refl, eq_self, hlen, e1, hdx, hix, fa_at1, load_u, seen_getC, g1, nd, g0, n1, f1, f2, f3, Q5_q1, J5_j1, J5_j2, hadd]
            exact next _ ((hu.still (((((Still.seen u _).trans (Still.seen _ _)).trans (Still.seen _ _)).trans (Still.seen _ _)))).mono (by omega))
        · have f2 : decide (D[k] ≤ L[i].2.1) = false := decide_eq_false c2
          simp only [op2_s, op_s, bin_e, pick_e, not_e, ext_e, nth_z, nth_1, nth_2, nth_3, gval_e, gval_u, cmp_e, orUndef_t, orUndef_f, condV_t, condV_f, cond_true, cond_false, eqI_eq, neI_eq, ltI_eq, leI_eq, gtI_eq, geI_eq, Bool.not_true, Bool.not_false, bf_tt, bf_tf, bf_ft, bf_ff, decide_true, decide_false, oneOf_1, oneOf_2, oneOf_3, thenV_n, thenV_e, thenV_r, exV_e, exV_r, Nat.beq_refl, eq_self, hlen, e1, hdx, hix, fa_at1, load_u, seen_getC, g1, nd, g0, n1, f1, f2, Q5_q1, J5_j1, J5_j2, hadd]
          exact next _ ((hu.still ((((Still.seen u _).trans (Still.seen _ _)).trans (Still.seen _ _)))).mono (by omega))
      · have f1 : decide ((now : Int) ≤ D[k]) = false := decide_eq_false c1
        simp only [op2_s, op_s, bin_e, pick_e, not_e, ext_e, nth_z, nth_1, nth_2, nth_3, gval_e, gval_u, cmp_e, orUndef_t, orUndef_f, condV_t, condV_f, cond_true, cond_false, eqI_eq, neI_eq, ltI_eq, leI_eq, gtI_eq, geI_eq, Bool.not_true, Bool.not_false, bf_tt, bf_tf, bf_ft, bf_ff, decide_true, decide_false, oneOf_1, oneOf_2, oneOf_3, thenV_n, thenV_e, thenV_r, exV_e, exV_r, Nat.beq_refl, eq_self, hlen, e1, hdx, load_u, seen_getC, g1, nd, f1, Q5_q1, J5_j1, J5_j2, hadd]
        exact next _ ((hu.still (Still.seen u _)).mono (by omega))
    · have e1 : decide ((k : Int) < (D.length : Int)) = false := decide_eq_false (by omega)
      obtain rfl : k = D.length := by omega
      simp only [op2_s, op_s, bin_e, pick_e, not_e, ext_e, nth_z, nth_1, nth_2, nth_3, gval_e, gval_u, cmp_e, orUndef_t, orUndef_f, condV_t, condV_f, cond_true, cond_false, eqI_eq, neI_eq, ltI_eq, leI_eq, gtI_eq, geI_eq, Bool.not_true, Bool.not_false, bf_tt, bf_tf, bf_ft, bf_ff, decide_true, decide_false, oneOf_1, oneOf_2, oneOf_3, thenV_n, thenV_e, thenV_r, exV_e, exV_r, Nat.beq_refl, eq_self, hlen, e1]
      exact ⟨_, _, rfl, hu⟩
end Go.Proofs.Ytdnedangfnincaa.AbsAccO
namespace Go.Proofs.Ytdnedangfnincaa.AbsAccO
open Go Go.Abs Go.Proofs
set_option maxRecDepth 100000
set_option linter.unusedVariables false
set_option linter.unusedSimpArgs false

/-! AccrueOften: all acts -/
theorem fa_at0 (rec : Rec) (fs : Frm) (s : St) (i : Nat) : oFieldAddr 0 (.v (.pointer (some ⟨0, i * 3, none⟩))) rec fs s = some (.pointer (some ⟨0, i * 3 + 0, none⟩), s) := fieldAddr_e 0 (i * 3) 0 rec fs s
theorem fa_at2 (rec : Rec) (fs : Frm) (s : St) (i : Nat) : oFieldAddr 2 (.v (.pointer (some ⟨0, i * 3, none⟩))) rec fs s = some (.pointer (some ⟨0, i * 3 + 2, none⟩), s) := fieldAddr_e 0 (i * 3) 2 rec fs s
abbrev zs34 : List Nat := [0, 0, 0, 0, 0, 0, 0, 0, 0, 0, 0, 0, 0, 0, 0, 0, 0, 0, 0, 0, 0, 0, 0, 0, 0, 0, 0, 0, 0, 0, 0, 0, 0, 0]
/-- which acts are payments on both -/
def Both (x : Int × Int × Int) (now da last : Nat) : Prop := x.1 = 1 ∧ (now : Int) ≤ x.2.1 ∧ (da : Int) ≤ x.2.1 ∧ x.2.1 ≤ (last : Int)
theorem reg5 (M : Nat) (hM : 10 ≤ M) (s0 : St) (a1 k2 k4 k5 k7 : Value) (L : List (Int × Int × Int)) (h3 : In3 s0 a1 L) (i : Nat) (hi : i < L.length) (now last ab da p q A : Nat) (u : St) (hl : Low s0 u) (hab : u.getC ab = some (accC da p q A)) (hlt : ab < u.next) (h8 : 8 ≤ u.next) :
    ∃ (b : Bool) (w : St), J5_r0 (callN E M) M (a1, k2, .int .i64 (last : Int), k4, k5, .pointer (some ⟨ab, 0, none⟩), k7, .int .i64 (now : Int), .int .i64 (i : Int)) u =
      J5_j3 (callN E M) M (a1, k2, .int .i64 (last : Int), k4, k5, .pointer (some ⟨ab, 0, none⟩), k7, .int .i64 (now : Int), .int .i64 (i : Int), .bool b) w ∧ Still u w ∧ (b = true ↔ Both L[i] now da last) := by
  have hix := h3.idx i hi
  have g0 : u.getC 0 = some (flat3 L) := hl.1.trans (h3.cells (by intro e; rw [e] at hi; simp at hi))
  obtain ⟨n0, n1, _⟩ := flat3_nth L i hi
  have n0 : nth (flat3 L) (i * 3 + 0) = some (.int .i64 L[i].1) := n0
  have c30 := r30 M (by omega) (z0 (((u.seen 0).seen 0).seen 0)) ab da p q A (by rw [z0_getC]; simp only [seen_getC]; exact hab)
  unfold J5_r0
  simp only [z0_e]
  by_cases c1 : L[i].1 = 1
  · have f1 : decide (L[i].1 = 1) = true := decide_eq_true c1
    by_cases c2 : (now : Int) ≤ L[i].2.1
    · have f2 : decide ((now : Int) ≤ L[i].2.1) = true := decide_eq_true c2
      by_cases c3 : (da : Int) ≤ L[i].2.1
      · have f3 : decide ((da : Int) ≤ L[i].2.1) = true := decide_eq_true c3
        by_cases c4 : L[i].2.1 ≤ (last : Int)
        · have f4 : decide (L[i].2.1 ≤ (last : Int)) = true := decide_eq_true c4
          simp (maxSteps := 4000000) only [op2_s, op_s, bin_e, pick_e, not_e, ext_e, nth_z, nth_1, nth_2, nth_3, gval_e, gval_u, cmp_e, orUndef_t, orUndef_f, condV_t, condV_f, cond_true, cond_false, eqI_eq, neI_eq, ltI_eq, leI_eq, gtI_eq, geI_eq, Bool.not_true, Bool.not_false, bf_tt, bf_tf, bf_ft, bf_ff, decide_true, decide_false, oneOf_1, oneOf_2, oneOf_3, thenV_n, thenV_e, thenV_r, exV_e, exV_r, Nat.beq_refl, eq_self, new_a, boxA, an_ati, an_atp, an_ats, an_atb, an_ne, set_ati, set_atp, set_ats, set_atb, set_ne, seen_getC, loadn_o, store_2, store_i, store_b, store_s, store_p, load_u, cut_22, put_22, cut_53, cut_55, put_55, put_50, put_51, put_52, put_53, store_5, nth_z, nth_1, nth_2, nth_3, nth_4, nil_u, fa_0, an_next, set_next, St.seen_next, jn_next, z0_next, jn_getC, z0_getC, rU_z, rU_seen, rU_set, rU_an, rU_sl, mov_v, orM_t, orM_f, hix, fa_at0, fa_at1, g0, n0, n1, f1, f2, f3, f4, c30]
          rw [apartIs (n0 := u.next) (fun _ => u.next) zs34 ?hc ?h0 ?hk _ (by kernel_rfl), cond_true]
          · exact ⟨true, _, rfl, ((((Still.seen u _).trans (Still.seen _ _)).trans (Still.seen _ _)).trans (Still.seen _ _)).trans (Still.seen _ _), ⟨fun _ => ⟨c1, c2, c3, c4⟩, fun _ => rfl⟩⟩
          case hc => exact fun i j _ _ => Nat.le_refl _
          case h0 => exact fun i _ => Nat.le_refl _
          case hk =>
            repeat (first | trivial | refine ⟨kI (by first | exact KI.pure _ _ _ _ _ | exact KI.ld _ _ _ _ _ _ _ (by omega) | exact KI.rd _ _ _ _ _ _ (by first | omega | (simp only [St.seen_next]; omega))) (by decide), ?_⟩)
        · have f4 : decide (L[i].2.1 ≤ (last : Int)) = false := decide_eq_false c4
          simp (maxSteps := 4000000) only [op2_s, op_s, bin_e, pick_e, not_e, ext_e, nth_z, nth_1, nth_2, nth_3, gval_e, gval_u, cmp_e, orUndef_t, orUndef_f, condV_t, condV_f, cond_true, cond_false, eqI_eq, neI_eq, ltI_eq, leI_eq, gtI_eq, geI_eq, Bool.not_true, Bool.not_false, bf_tt, bf_tf, bf_ft, bf_ff, decide_true, decide_false, oneOf_1, oneOf_2, oneOf_3, thenV_n, thenV_e, thenV_r, exV_e, exV_r, Nat.beq_refl, eq_self, new_a, boxA, an_ati, an_atp, an_ats, an_atb, an_ne, set_ati, set_atp, set_ats, set_atb, set_ne, seen_getC, loadn_o, store_2, store_i, store_b, store_s, store_p, load_u, cut_22, put_22, cut_53, cut_55, put_55, put_50, put_51, put_52, put_53, store_5, nth_z, nth_1, nth_2, nth_3, nth_4, nil_u, fa_0, an_next, set_next, St.seen_next, jn_next, z0_next, jn_getC, z0_getC, rU_z, rU_seen, rU_set, rU_an, rU_sl, mov_v, orM_t, orM_f, hix, fa_at0, fa_at1, g0, n0, n1, f1, f2, f3, f4, c30]
          rw [apartIs (n0 := u.next) (fun _ => u.next) zs34 ?hc ?h0 ?hk _ (by kernel_rfl), cond_true]
          · exact ⟨false, _, rfl, ((((Still.seen u _).trans (Still.seen _ _)).trans (Still.seen _ _)).trans (Still.seen _ _)).trans (Still.seen _ _), ⟨fun h => (by cases h), fun h => absurd h.2.2.2 c4⟩⟩
          case hc => exact fun i j _ _ => Nat.le_refl _
          case h0 => exact fun i _ => Nat.le_refl _
          case hk =>
            repeat (first | trivial | refine ⟨kI (by first | exact KI.pure _ _ _ _ _ | exact KI.ld _ _ _ _ _ _ _ (by omega) | exact KI.rd _ _ _ _ _ _ (by first | omega | (simp only [St.seen_next]; omega))) (by decide), ?_⟩)
      · have f3 : decide ((da : Int) ≤ L[i].2.1) = false := decide_eq_false c3
        simp (maxSteps := 4000000) only [op2_s, op_s, bin_e, pick_e, not_e, ext_e, nth_z, nth_1, nth_2, nth_3, gval_e, gval_u, cmp_e, orUndef_t, orUndef_f, condV_t, condV_f, cond_true, cond_false, eqI_eq, neI_eq, ltI_eq, leI_eq, gtI_eq, geI_eq, Bool.not_true, Bool.not_false, bf_tt, bf_tf, bf_ft, bf_ff, decide_true, decide_false, oneOf_1, oneOf_2, oneOf_3, thenV_n, thenV_e, thenV_r, exV_e, exV_r, Nat.beq_refl, eq_self, new_a, boxA, an_ati, an_atp, an_ats, an_atb, an_ne, set_ati, set_atp, set_ats, set_atb, set_ne, seen_getC, loadn_o, store_2, store_i, store_b, store_s, store_p, load_u, cut_22, put_22, cut_53, cut_55, put_55, put_50, put_51, put_52, put_53, store_5, nth_z, nth_1, nth_2, nth_3, nth_4, nil_u, fa_0, an_next, set_next, St.seen_next, jn_next, z0_next, jn_getC, z0_getC, rU_z, rU_seen, rU_set, rU_an, rU_sl, mov_v, orM_t, orM_f, hix, fa_at0, fa_at1, g0, n0, n1, f1, f2, f3, c30]
        rw [apartIs (n0 := u.next) (fun _ => u.next) zs34 ?hc ?h0 ?hk _ (by kernel_rfl), cond_true]
        · exact ⟨false, _, rfl, (((Still.seen u _).trans (Still.seen _ _)).trans (Still.seen _ _)).trans (Still.seen _ _), ⟨fun h => (by cases h), fun h => absurd h.2.2.1 c3⟩⟩
        case hc => exact fun i j _ _ => Nat.le_refl _
        case h0 => exact fun i _ => Nat.le_refl _
        case hk =>
          repeat (first | trivial | refine ⟨kI (by first | exact KI.pure _ _ _ _ _ | exact KI.ld _ _ _ _ _ _ _ (by omega) | exact KI.rd _ _ _ _ _ _ (by first | omega | (simp only [St.seen_next]; omega))) (by decide), ?_⟩)
    · have f2 : decide ((now : Int) ≤ L[i].2.1) = false := decide_eq_false c2
      simp (maxSteps := 4000000) only [op2_s, op_s, bin_e, pick_e, not_e, ext_e, nth_z, nth_1, nth_2, nth_3, gval_e, gval_u, cmp_e, orUndef_t, orUndef_f, condV_t, condV_f, cond_true, cond_false, eqI_eq, neI_eq, ltI_eq, leI_eq, gtI_eq, geI_eq, Bool.not_true, Bool.not_false, bf_tt, bf_tf, bf_ft, bf_ff, decide_true, decide_false, oneOf_1, oneOf_2, oneOf_3, thenV_n, thenV_e, thenV_r, exV_e, exV_r, Nat.beq_refl, eq_self, new_a, boxA, an_ati, an_atp, an_ats, an_atb, an_ne, set_ati, set_atp, set_ats, set_atb, set_ne, seen_getC, loadn_o, store_2, store_i, store_b, store_s, store_p, load_u, cut_22, put_22, cut_53, cut_55, put_55, put_50, put_51, put_52, put_53, store_5, nth_z, nth_1, nth_2, nth_3, nth_4, nil_u, fa_0, an_next, set_next, St.seen_next, jn_next, z0_next, jn_getC, z0_getC, rU_z, rU_seen, rU_set, rU_an, rU_sl, mov_v, orM_t, orM_f, hix, fa_at0, fa_at1, g0, n0, n1, f1, f2]
      rw [apartIs (n0 := u.next) (fun _ => u.next) zs34 ?hc ?h0 ?hk _ (by kernel_rfl), cond_true]
      · exact ⟨false, _, rfl, (Still.seen u _).trans (Still.seen _ _), ⟨fun h => (by cases h), fun h => absurd h.2.1 c2⟩⟩
      case hc => exact fun i j _ _ => Nat.le_refl _
      case h0 => exact fun i _ => Nat.le_refl _
      case hk =>
        repeat (first | trivial | refine ⟨kI (by first | exact KI.pure _ _ _ _ _ | exact KI.ld _ _ _ _ _ _ _ (by omega) | exact KI.rd _ _ _ _ _ _ (by first | omega | (simp only [St.seen_next]; omega))) (by decide), ?_⟩)
  · have f1 : decide (L[i].1 = 1) = false := decide_eq_false c1
    simp (maxSteps := 4000000) only [op2_s, op_s, bin_e, pick_e, not_e, ext_e, nth_z, nth_1, nth_2, nth_3, gval_e, gval_u, cmp_e, orUndef_t, orUndef_f, condV_t, condV_f, cond_true, cond_false, eqI_eq, neI_eq, ltI_eq, leI_eq, gtI_eq, geI_eq, Bool.not_true, Bool.not_false, bf_tt, bf_tf, bf_ft, bf_ff, decide_true, decide_false, oneOf_1, oneOf_2, oneOf_3, thenV_n, thenV_e, thenV_r, exV_e, exV_r, Nat.beq_refl, eq_self, new_a, boxA, an_ati, an_atp, an_ats, an_atb, an_ne, set_ati, set_atp, set_ats, set_atb, set_ne, seen_getC, loadn_o, store_2, store_i, store_b, store_s, store_p, load_u, cut_22, put_22, cut_53, cut_55, put_55, put_50, put_51, put_52, put_53, store_5, nth_z, nth_1, nth_2, nth_3, nth_4, nil_u, fa_0, an_next, set_next, St.seen_next, jn_next, z0_next, jn_getC, z0_getC, rU_z, rU_seen, rU_set, rU_an, rU_sl, mov_v, orM_t, orM_f, hix, fa_at0, fa_at1, g0, n0, n1, f1]
    rw [apartIs (n0 := u.next) (fun _ => u.next) zs34 ?hc ?h0 ?hk _ (by kernel_rfl), cond_true]
    · exact ⟨false, _, rfl, Still.seen u _, ⟨fun h => (by cases h), fun h => absurd h.1 c1⟩⟩
    case hc => exact fun i j _ _ => Nat.le_refl _
    case h0 => exact fun i _ => Nat.le_refl _
    case hk =>
      repeat (first | trivial | refine ⟨kI (by first | exact KI.pure _ _ _ _ _ | exact KI.ld _ _ _ _ _ _ _ (by omega) | exact KI.rd _ _ _ _ _ _ (by first | omega | (simp only [St.seen_next]; omega))) (by decide), ?_⟩)
end Go.Proofs.Ytdnedangfnincaa.AbsAccO
namespace Go.Proofs.Ytdnedangfnincaa.AbsAccO
open Go Go.Abs Go.Proofs
set_option maxRecDepth 100000
set_option linter.unusedVariables false
set_option linter.unusedSimpArgs false

/-! AccrueOften: the loop over all acts -/
theorem Upd.stl {k b : Nat} {c : Blk} {s u w : St} (h : Upd k b c s u) (g : Still u w) : Upd k b c s w :=
  ⟨by rw [g.1]; exact h.1, by rw [g.1]; exact h.2.1, (g.2 _).trans h.2.2.1, fun y hy hn => (g.2 y).trans (h.2.2.2 y hy hn)⟩
theorem Upd.pre {k b : Nat} {c : Blk} {s u w : St} (g : Still s u) (h : Upd k b c u w) : Upd k b c s w :=
  ⟨by rw [← g.1]; exact h.1, by rw [← g.1]; exact h.2.1, h.2.2.1, fun y hy hn => (h.2.2.2 y (by rw [g.1]; exact hy) hn).trans (g.2 y)⟩
theorem J.pay {s0 : St} {p0 tb ab bb : Nat} {v : Value} {l : List (Int × Int)} {now p Ab last B : Nat} {u u1 u2 : St} (y : Lay tb ab bb v) (ho : TabOk l) (h : J s0 p0 tb ab bb v l now p Ab last B u) (t a q : Nat) (h1 : now ≤ t) (h2 : t ≤ last) (hl : last ≤ 109572) (h3 : q ≤ 4503599627370496)
    (g : Upd 300 ab (accC t (p - a) q (vt l now p Ab t)) u u1) (g2 : Upd 300 bb (accC t (p - a) 0 (vt l now p Ab t)) u1 u2) : J s0 p0 tb ab bb v l t (p - a) (vt l now p Ab t) last (B + 600) u2 := by
  have := h.n8; have := h.nB; have := h.al; have := h.bl; have := g.1; have := g.2.1; have := y.a8; have := y.b8; have := g2.1; have := g2.2.1
  exact ⟨by omega, by omega, tab_upd' (tab_upd' h.tab g y.ta y.va) g2 y.tb' y.vb, (h.low.trans (Low.upd g h.n8 y.a8)).trans (Low.upd g2 (by omega) y.b8), by omega, by omega, h.bI.to ho h1 (by omega) (Nat.sub_le _ _), g2.2.2.1, ⟨t, q, Nat.le_refl _, h2, h3, by rw [vt_self]; exact (g2.2.2.2 ab (by omega) y.abn).trans g.2.2.1⟩⟩
theorem j53 (M : Nat) (hM : 4000 ≤ M) (s0 : St) (a1 : Value) (L : List (Int × Int × Int)) (h3 : In3 s0 a1 L) (p0 tb ab bb : Nat) (v : Value) (l : List (Int × Int)) (now p Ab last B : Nat) (i : Nat) (hi : i < L.length) (hiL : L.length ≤ 30)
    (hB : B + 100000 ≤ lim) (y : Lay tb ab bb v) (ho : TabOk l) (h0 : p0 ≤ 1099511627776) (hlast : last ≤ 109572) (k2 k4 : Value) (u : St) (hu : J s0 p0 tb ab bb v l now p Ab last B u) (da q : Nat) (a1' : now ≤ da) (a2' : da ≤ last) (a3' : q ≤ 4503599627370496) (a4' : u.getC ab = some (accC da p q (vt l now p Ab da))) (hb : Both L[i] now da last) :
    ∃ (now' p' Ab' : Nat) (u' : St), J5_j3 (callN E M) M (a1, k2, .int .i64 (last : Int), k4, .pointer (some ⟨tb, 0, none⟩), .pointer (some ⟨ab, 0, none⟩), .pointer (some ⟨bb, 0, none⟩), .int .i64 (now : Int), .int .i64 (i : Int), .bool true) u = some (.norm, ((.int .i64 (now' : Int), .int .i64 ((i + 1 : Nat) : Int)), u')) ∧ J s0 p0 tb ab bb v l now' p' Ab' last (B + 600) u' := by
  have hlim : lim = 1000000000 := rfl
  have hix := h3.idx i hi
  have b1 := hu.nB; have b2 := hu.n8; have b3 := hu.al; have b4 := hu.bl
  have g0 : u.getC 0 = some (flat3 L) := hu.low.1.trans (h3.cells (by intro e; rw [e] at hi; simp at hi))
  obtain ⟨_, n1, n2⟩ := flat3_nth L i hi
  have hadd : int2 addO (.int .i64 (i : Int)) (.int .i64 1) = some (.int .i64 ((i + 1 : Nat) : Int)) := by rw [add_e _ _ (by omega) (by omega)]; rfl
  obtain ⟨hb1, hb2, hb3, hb4⟩ := hb
  obtain ⟨t, ht⟩ := Int.eq_ofNat_of_zero_le (show 0 ≤ L[i].2.1 by omega)
  obtain ⟨w1, hw1⟩ : ∃ w, w = (u.seen 0).seen 0 := ⟨_, rfl⟩
  have sw1 : Still u (z0 w1) := ⟨by rw [z0_next, hw1]; simp only [St.seen_next], fun y => by rw [z0_getC, hw1]; simp only [seen_getC]⟩
  have aI : AccI p0 l da p (vt l now p Ab da) := hu.bI.to ho a1' (by omega) (Nat.le_refl _)
  have q0 : decide ((0 : Int) = 0) = true := rfl
  have q1 : decide ((1 : Int) = 1) = true := rfl
  have q2 : decide ((1 : Int) = 0) = false := rfl
  by_cases hok : 0 ≤ L[i].2.2 ∧ L[i].2.2 ≤ (p : Int)
  · obtain ⟨a, ha⟩ := Int.eq_ofNat_of_zero_le hok.1
    obtain ⟨t1, c1, g1⟩ := g14 M (by omega) (z0 w1) ab tb da p q _ p0 t a v l ho aI h0 (hu.tab.grew (k := 0) sw1.grew) (by omega) (by omega) (by omega) ((sw1.2 _).trans a4') (by rw [sw1.1]; exact b3) y.a8 (by rw [sw1.1]; omega)
    rw [← ht, ← ha] at c1
    rw [vt_vt ho a1' (by omega) (by omega)] at g1
    have G1 := Upd.pre sw1 g1
    have d1 := G1.1; have d1' := G1.2.1
    obtain ⟨w2, hw2⟩ : ∃ w, w = ((jn w1 t1).seen 0).seen 0 := ⟨_, rfl⟩
    have sw2 : Still t1 (z0 w2) := ⟨by rw [z0_next, hw2]; simp only [St.seen_next, jn_next], fun y => by rw [z0_getC, hw2]; simp only [seen_getC, jn_getC]⟩
    have ht1 : R.Tab t1 tb v l := tab_upd' hu.tab G1 y.ta y.va
    have xb : t1.getC bb = some (accC now p 0 Ab) := (G1.2.2.2 bb b4 (fun e => y.abn e.symm)).trans hu.b
    have gt : t1.getC 0 = some (flat3 L) := (G1.2.2.2 0 (by omega) (by have := y.a8; omega)).trans g0
    obtain ⟨t2, c2, g2⟩ := g14 M (by omega) (z0 w2) bb tb now p 0 Ab p0 t a v l ho hu.bI h0 (ht1.grew (k := 0) sw2.grew) (by omega) (by omega) (by omega) ((sw2.2 _).trans xb) (by rw [sw2.1]; omega) y.b8 (by rw [sw2.1]; omega)
    rw [← ht, ← ha] at c2
    have G2 := Upd.pre sw2 g2
    have gt2 : t2.getC 0 = some (flat3 L) := (G2.2.2.2 0 (by omega) (by have := y.b8; omega)).trans gt
    have sf : Still t2 ((jn w2 t2).seen 0) := ⟨by simp only [St.seen_next, jn_next], fun y => by simp only [seen_getC, jn_getC]⟩
    refine ⟨t, p - a, vt l now p Ab t, (jn w2 t2).seen 0, ?_, hu.pay y ho t a q (by omega) (by omega) hlast a3' G1 (G2.stl sf)⟩
    unfold J5_j3
    simp only [op2_s, op_s, bin_e, pick_e, not_e, ext_e, nth_z, nth_1, nth_2, nth_3, gval_e, gval_u, cmp_e, orUndef_t, orUndef_f, condV_t, condV_f, cond_true, cond_false, eqI_eq, neI_eq, ltI_eq, leI_eq, gtI_eq, geI_eq, Bool.not_true, Bool.not_false, bf_tt, bf_tf, bf_ft, bf_ff, decide_true, decide_false, oneOf_1, oneOf_2, oneOf_3, thenV_n, thenV_e, thenV_r, exV_e, exV_r, Nat.beq_refl, eq_self, hix, fa_at1, fa_at2, load_u, seen_getC, jn_getC, g0, n1, n2, ← hw1, c1, rV_s, gt, ← hw2, c2, gt2, q0, J5_r1, hadd]
    rw [ht]
  · obtain ⟨t1, c1, g1⟩ := g14_no M (by omega) (z0 w1) ab da p q _ t L[i].2.2 (.pointer (some ⟨tb, 0, none⟩)) (by omega) (by omega) (by omega) ((sw1.2 _).trans a4')
    rw [← ht] at c1
    have G1 := sw1.trans g1
    obtain ⟨w2, hw2⟩ : ∃ w, w = ((jn w1 t1).seen 0).seen 0 := ⟨_, rfl⟩
    have sw2 : Still t1 (z0 w2) := ⟨by rw [z0_next, hw2]; simp only [St.seen_next, jn_next], fun y => by rw [z0_getC, hw2]; simp only [seen_getC, jn_getC]⟩
    have gt : t1.getC 0 = some (flat3 L) := (G1.2 0).trans g0
    obtain ⟨t2, c2, g2⟩ := g14_no M (by omega) (z0 w2) bb now p 0 Ab t L[i].2.2 (.pointer (some ⟨tb, 0, none⟩)) (by omega) (by omega) (by omega) ((sw2.2 _).trans ((G1.2 _).trans hu.b))
    rw [← ht] at c2
    have sf : Still t2 (jn w2 t2) := ⟨by simp only [jn_next], fun y => by simp only [jn_getC]⟩
    refine ⟨now, p, Ab, jn w2 t2, ?_, (hu.still ((G1.trans (sw2.trans g2)).trans sf)).mono (by omega)⟩
    unfold J5_j3
    simp only [op2_s, op_s, bin_e, pick_e, not_e, ext_e, nth_z, nth_1, nth_2, nth_3, gval_e, gval_u, cmp_e, orUndef_t, orUndef_f, condV_t, condV_f, cond_true, cond_false, eqI_eq, neI_eq, ltI_eq, leI_eq, gtI_eq, geI_eq, Bool.not_true, Bool.not_false, bf_tt, bf_tf, bf_ft, bf_ff, decide_true, decide_false, oneOf_1, oneOf_2, oneOf_3, thenV_n, thenV_e, thenV_r, exV_e, exV_r, Nat.beq_refl, eq_self, hix, fa_at1, fa_at2, load_u, seen_getC, jn_getC, g0, n1, n2, ← hw1, c1, rV_s, gt, ← hw2, c2, q1, q2, J5_r1, hadd]
theorem loop5_2 (M : Nat) (hM : 4000 ≤ M) (s0 : St) (a1 a2 : Value) (L : List (Int × Int × Int)) (D : List Int) (h3 : In3 s0 a1 L) (hD : InD s0 a2 D) (hDl : D.length ≤ 30) (p0 tb ab bb : Nat) (v : Value) (l : List (Int × Int)) (last B : Nat) (hiL : L.length ≤ 30)
    (hB : B + 1000000 ≤ lim) (y : Lay tb ab bb v) (ho : TabOk l) (h0 : p0 ≤ 1099511627776) (hlast : last ≤ 109572) (k4 : Value) :
    ∀ (fuel i now p Ab : Nat) (u : St), J s0 p0 tb ab bb v l now p Ab last (B + i * 19000) u → i ≤ L.length → L.length - i < fuel →
    ∃ w u' now' p' Ab', loopV (B5_l2 (callN E M) M (a1, a2, .int .i64 (last : Int), k4, .pointer (some ⟨tb, 0, none⟩), .pointer (some ⟨ab, 0, none⟩), .pointer (some ⟨bb, 0, none⟩))) fuel (.int .i64 (now : Int), .int .i64 (i : Int)) u = some (.exit 2, w, u') ∧ J s0 p0 tb ab bb v l now' p' Ab' last (B + L.length * 19000) u' := by
  have hlim : lim = 1000000000 := rfl
  intro fuel
  induction fuel with
  | zero => intro i now p Ab u _ _ h; omega
  | succ fuel ih =>
    intro i now p Ab u hu hi hf
    have hlen := h3.len
    rw [loopV_s, B5_l2]
    by_cases hlt : i < L.length
    · have e1 : decide ((i : Int) < (L.length : Int)) = true := decide_eq_true (by omega)
      have hadd : int2 addO (.int .i64 (i : Int)) (.int .i64 1) = some (.int .i64 ((i + 1 : Nat) : Int)) := by rw [add_e _ _ (by omega) (by omega)]; rfl
      have hi19 : i * 19000 ≤ 570000 := by omega
      obtain ⟨w1, u1, c1, j1⟩ := loop5_1 M hM s0 a1 a2 L D h3 hD hDl p0 tb ab bb v l now p Ab last (B + i * 19000) i hlt hiL (by omega) y ho h0 hlast k4 M 0 u (hu.mono (by omega)) (by omega) (by omega)
      rw [show ((0 : Nat) : Int) = 0 from rfl] at c1
      obtain ⟨da, q, a1', a2', a3', a4'⟩ := j1.a
      obtain ⟨b, w2, c2, s2, hb⟩ := reg5 M (by omega) s0 a1 a2 k4 (.pointer (some ⟨tb, 0, none⟩)) (.pointer (some ⟨bb, 0, none⟩)) L h3 i hlt now last ab da p q _ u1 j1.low a4' j1.al j1.n8
      have j2 := j1.still s2
      cases b with
      | true =>
        obtain ⟨now', p', Ab', u', c3, j3⟩ := j53 M hM s0 a1 L h3 p0 tb ab bb v l now p Ab last _ i hlt hiL (by omega) y ho h0 hlast a2 k4 w2 j2 da q a1' a2' a3' ((s2.2 _).trans a4') (hb.1 rfl)
        obtain ⟨w, u'', now'', p'', Ab'', r1, r2⟩ := ih (i + 1) now' p' Ab' u' (j3.mono (by omega)) (by omega) (by omega)
        simp only [op2_s, op_s, bin_e, pick_e, not_e, ext_e, nth_z, nth_1, nth_2, nth_3, gval_e, gval_u, cmp_e, orUndef_t, orUndef_f, condV_t, condV_f, cond_true, cond_false, eqI_eq, neI_eq, ltI_eq, leI_eq, gtI_eq, geI_eq, Bool.not_true, Bool.not_false, bf_tt, bf_tf, bf_ft, bf_ff, decide_true, decide_false, oneOf_1, oneOf_2, oneOf_3, thenV_n, thenV_e, thenV_r, exV_e, exV_r, Nat.beq_refl, eq_self, hlen, e1, c1, C5_l1, c2, c3]
        exact ⟨w, u'', now'', p'', Ab'', r1, r2⟩
      | false =>
        have c3 : J5_j3 (callN E M) M (a1, a2, .int .i64 (last : Int), k4, .pointer (some ⟨tb, 0, none⟩), .pointer (some ⟨ab, 0, none⟩), .pointer (some ⟨bb, 0, none⟩), .int .i64 (now : Int), .int .i64 (i : Int), .bool false) w2 = some (.norm, ((.int .i64 (now : Int), .int .i64 ((i + 1 : Nat) : Int)), w2)) := by
          unfold J5_j3
          simp only [op2_s, op_s, bin_e, pick_e, not_e, ext_e, nth_z, nth_1, nth_2, nth_3, gval_e, gval_u, cmp_e, orUndef_t, orUndef_f, condV_t, condV_f, cond_true, cond_false, eqI_eq, neI_eq, ltI_eq, leI_eq, gtI_eq, geI_eq, Bool.not_true, Bool.not_false, bf_tt, bf_tf, bf_ft, bf_ff, decide_true, decide_false, oneOf_1, oneOf_2, oneOf_3, thenV_n, thenV_e, thenV_r, exV_e, exV_r, Nat.beq_refl, eq_self, J5_r1, hadd]
        obtain ⟨w, u'', now'', p'', Ab'', r1, r2⟩ := ih (i + 1) now p Ab w2 (j2.mono (by omega)) (by omega) (by omega)
        simp only [op2_s, op_s, bin_e, pick_e, not_e, ext_e, nth_z, nth_1, nth_2, nth_3, gval_e, gval_u, cmp_e, orUndef_t, orUndef_f, condV_t, condV_f, cond_true, cond_false, eqI_eq, neI_eq, ltI_eq, leI_eq, gtI_eq, geI_eq, Bool.not_true, Bool.not_false, bf_tt, bf_tf, bf_ft, bf_ff, decide_true, decide_false, oneOf_1, oneOf_2, oneOf_3, thenV_n, thenV_e, thenV_r, exV_e, exV_r, Nat.beq_refl, eq_self, hlen, e1, c1, C5_l1, c2, c3]
        exact ⟨w, u'', now'', p'', Ab'', r1, r2⟩
    · have e1 : decide ((i : Int) < (L.length : Int)) = false := decide_eq_false (by omega)
      obtain rfl : i = L.length := by omega
      simp only [op2_s, op_s, bin_e, pick_e, not_e, ext_e, nth_z, nth_1, nth_2, nth_3, gval_e, gval_u, cmp_e, orUndef_t, orUndef_f, condV_t, condV_f, cond_true, cond_false, eqI_eq, neI_eq, ltI_eq, leI_eq, gtI_eq, geI_eq, Bool.not_true, Bool.not_false, bf_tt, bf_tf, bf_ft, bf_ff, decide_true, decide_false, oneOf_1, oneOf_2, oneOf_3, thenV_n, thenV_e, thenV_r, exV_e, exV_r, Nat.beq_refl, eq_self, hlen, e1]
      exact ⟨_, _, _, _, _, rfl, hu⟩
end Go.Proofs.Ytdnedangfnincaa.AbsAccO
namespace Go.Proofs.Ytdnedangfnincaa.AbsAccO
open Go Go.Abs Go.Proofs
set_option maxRecDepth 100000
set_option linter.unusedVariables false
set_option linter.unusedSimpArgs false

/-! AccrueOften: the law's run -/
theorem fin5 (M : Nat) (hM : 4000 ≤ M) (s0 : St) (p0 tb ab bb : Nat) (v : Value) (l : List (Int × Int)) (now p Ab last B : Nat) (hB : B + 100000 ≤ lim) (ho : TabOk l) (h0 : p0 ≤ 1099511627776) (hlast : last ≤ 109572) (u : St) (hu : J s0 p0 tb ab bb v l now p Ab last B u) :
    ∃ u', J5_r2 (callN E M) M (.int .i64 (last : Int), .pointer (some ⟨tb, 0, none⟩), .pointer (some ⟨ab, 0, none⟩), .pointer (some ⟨bb, 0, none⟩)) u = some (.bool true, u') ∧ Low s0 u' := by
  have hlim : lim = 1000000000 := rfl
  obtain ⟨da, q, a1, a2, a3, a4⟩ := hu.a
  have b1 := hu.nB; have b2 := hu.n8; have b3 := hu.al; have b4 := hu.bl
  have c1 := r30 M (by omega) u ab da p q _ a4
  have st : Still u (u.seen ab) := Still.seen _ _
  have aI : AccI p0 l da p (vt l now p Ab da) := hu.bI.to ho a1 (by omega) (Nat.le_refl _)
  obtain ⟨u2, c2, g2⟩ := g22 M (by omega) (u.seen ab) ab tb da p q _ p0 last v l ho aI h0 (hu.tab.grew (k := 0) st.grew) a2 hlast a3 ((st.2 _).trans a4) (by rw [st.1]; exact b3) (by rw [st.1]; omega) (by rw [st.1]; omega)
  rw [vt_vt ho a1 a2 hlast] at c2
  have d2 := g2.1; have d2' := g2.2.1
  rw [st.1] at d2 d2'
  obtain ⟨u3, c3, g3⟩ := g22 M (by omega) u2 bb tb now p 0 _ p0 last v l ho hu.bI h0 ((hu.tab.grew (k := 0) st.grew).grew (k := 310) g2) (by omega) hlast (by omega) ((g2.2.2 _ (by rw [st.1]; exact b4)).trans ((st.2 _).trans hu.b)) (by omega) (by omega) (by omega)
  have d3 := g3.1
  have xa : u3.getC ab = some (accC da p q (vt l now p Ab da)) := (g3.2.2 _ (by omega)).trans ((g2.2.2 _ (by rw [st.1]; exact b3)).trans ((st.2 _).trans a4))
  have xb : u3.getC bb = some (accC now p 0 Ab) := (g3.2.2 _ (by omega)).trans ((g2.2.2 _ (by rw [st.1]; exact b4)).trans ((st.2 _).trans hu.b))
  have low3 : Low s0 u3 := ((hu.low.trans (Low.still st)).trans (Low.grew g2 (by rw [st.1]; exact b2))).trans (Low.grew g3 (by omega))
  have e1 : decide ((last : Int) < (da : Int)) = false := decide_eq_false (by omega)
  obtain ⟨o, hoo⟩ : ∃ o, o = vt l now p Ab last / 365000000 := ⟨_, rfl⟩
  rw [← hoo] at c2 c3
  have e0 : decide ((0 : Int) = 0) = true := rfl
  have e10 : decide ((10 : Int) = 0) = false := rfl
  have e11 : decide ((10 : Int) = 10) = true := rfl
  unfold J5_r2
  by_cases hB' : o ≤ 4503599627370496
  · rw [if_pos hB'] at c2 c3
    have x32a := r32 M (by omega) u3 ab da p q _ xa
    have x32b := r32 M (by omega) (u3.seen ab) bb now p 0 _ ((seen_getC _ _ _).trans xb)
    have x31a := r31 M (by omega) ((u3.seen ab).seen bb) ab da p q _ (by rw [seen_getC, seen_getC]; exact xa)
    have x31b := r31 M (by omega) (((u3.seen ab).seen bb).seen ab) bb now p 0 _ (by rw [seen_getC, seen_getC, seen_getC]; exact xb)
    have ad1 : int2 addO (.int .i64 (q : Int)) (.int .i64 ((o : Int) - (q : Int))) = some (.int .i64 (o : Int)) := by rw [add_e _ _ (by omega) (by omega)]; congr 2; omega
    have ad2 : int2 addO (.int .i64 ((0 : Nat) : Int)) (.int .i64 ((o : Int) - ((0 : Nat) : Int))) = some (.int .i64 (o : Int)) := by rw [add_e _ _ (by omega) (by omega)]; congr 2; omega
    have qh : ∀ a : Int, decide (a = a) = true := fun a => decide_eq_true rfl
    simp only [op2_s, op_s, bin_e, pick_e, not_e, ext_e, nth_z, nth_1, nth_2, nth_3, gval_e, gval_u, cmp_e, orUndef_t, orUndef_f, condV_t, condV_f, cond_true, cond_false, eqI_eq, neI_eq, ltI_eq, leI_eq, gtI_eq, geI_eq, Bool.not_true, Bool.not_false, bf_tt, bf_tf, bf_ft, bf_ff, decide_true, decide_false, oneOf_1, oneOf_2, oneOf_3, thenV_n, thenV_e, thenV_r, exV_e, exV_r, Nat.beq_refl, eq_self, c1, e1, c2, c3, e0, x32a, ad1, x32b, ad2, qh, x31a, x31b]
    exact ⟨_, rfl, low3.trans (Low.still ((((Still.seen _ _).trans (Still.seen _ _)).trans (Still.seen _ _)).trans (Still.seen _ _)))⟩
  · rw [if_neg hB'] at c2 c3
    simp only [op2_s, op_s, bin_e, pick_e, not_e, ext_e, nth_z, nth_1, nth_2, nth_3, gval_e, gval_u, cmp_e, orUndef_t, orUndef_f, condV_t, condV_f, cond_true, cond_false, eqI_eq, neI_eq, ltI_eq, leI_eq, gtI_eq, geI_eq, Bool.not_true, Bool.not_false, bf_tt, bf_tf, bf_ft, bf_ff, decide_true, decide_false, oneOf_1, oneOf_2, oneOf_3, thenV_n, thenV_e, thenV_r, exV_e, exV_r, Nat.beq_refl, eq_self, c1, e1, c2, c3, e10, e11]
    exact ⟨_, rfl, low3⟩
theorem j5 (M : Nat) (hM : 5000 ≤ M) (s0 s : St) (a1 a2 : Value) (L : List (Int × Int × Int)) (D : List Int) (h3 : In3 s0 a1 L) (hD : InD s0 a2 D) (hL : L.length ≤ 30) (hDl : D.length ≤ 30) (p last : Nat) (hp : p ≤ 1099511627776) (hlast : last ≤ 109572) (h8 : 8 ≤ s.next) (hn : s.next ≤ 2000) (hlow : Low s0 s) (k : Value) :
    ∃ s', J5_j4 (callN E M) M (.int .i64 (p : Int), a1, a2, .int .i64 (last : Int), k) s = some (.bool true, s') ∧ Low s0 s' := by
  have hlim : lim = 1000000000 := rfl
  obtain ⟨u1, c1, n1, ht1, o1⟩ := r10 M (by omega) s h8 (by omega)
  obtain ⟨w2, u2, c2, i2⟩ := loop5_0 M (by omega) s0 a1 L h3 hL s.next u1.next (by omega) (.int .i64 (p : Int)) a2 (.int .i64 (last : Int)) k M 0 u1
    ⟨by omega, by omega, by omega, hlow.trans ⟨o1 0 (by omega), o1 1 (by omega)⟩, _, _, ht1, okl_nil, (fun p hp => by cases hp), by simp⟩ (by omega) (by omega)
  rw [show ((0 : Nat) : Int) = 0 from rfl] at c2
  have b2 := i2.n8; have b2' := i2.nB; have b2t := i2.tl
  obtain ⟨v, l, ht, okl, sml, hll⟩ := i2.tab
  have ho : TabOk l := tabOk okl sml (by omega)
  obtain ⟨u3, c3, n3, x3, o3⟩ := r11 M (by omega) u2 0 p (by omega) (by omega) (by omega)
  obtain ⟨u4, c4, n4, x4, o4⟩ := r11 M (by omega) u3 0 p (by omega) (by omega) (by omega)
  have e0 : ((0 : Nat) : Int) = 0 := rfl
  rw [e0] at c3 c4
  have lay : Lay s.next u2.next u3.next v := ⟨by omega, by omega, h8, by omega, by omega, by omega, fun e => by have := ht.blt _ e; omega, fun e => by have := ht.blt _ e; omega⟩
  have bI : AccI p l 0 p 0 := ⟨by omega, Nat.le_refl _, Nat.zero_le _⟩
  have j0 : J s0 p s.next u2.next u3.next v l 0 p 0 last u4.next u4 :=
    ⟨by omega, Nat.le_refl _, (ht.keep (by omega) ((o4 _ (by omega)).trans (o3 _ b2t)) fun b hb => (o4 b (by have := ht.blt b hb; omega)).trans (o3 b (ht.blt b hb))), (i2.low.trans ⟨o3 0 (by omega), o3 1 (by omega)⟩).trans ⟨o4 0 (by omega), o4 1 (by omega)⟩, by omega, by omega, bI, x4,
      ⟨0, 0, Nat.le_refl _, Nat.zero_le _, Nat.zero_le _, by rw [vt_self]; exact (o4 _ (by omega)).trans x3⟩⟩
  obtain ⟨w5, u5, now, p', Ab, c5, j5⟩ := loop5_2 M (by omega) s0 a1 a2 L D h3 hD hDl p s.next u2.next u3.next v l last u4.next hL (by omega) lay ho hp hlast k M 0 0 p 0 u4 (j0.mono (by omega)) (by omega) (by omega)
  rw [e0] at c5
  obtain ⟨u6, c6, low6⟩ := fin5 M (by omega) s0 p s.next u2.next u3.next v l now p' Ab last _ (by omega) ho hp hlast u5 j5
  unfold J5_j4
  simp only [op2_s, op_s, bin_e, pick_e, not_e, ext_e, nth_z, nth_1, nth_2, nth_3, gval_e, gval_u, cmp_e, orUndef_t, orUndef_f, condV_t, condV_f, cond_true, cond_false, eqI_eq, neI_eq, ltI_eq, leI_eq, gtI_eq, geI_eq, Bool.not_true, Bool.not_false, bf_tt, bf_tf, bf_ft, bf_ff, decide_true, decide_false, oneOf_1, oneOf_2, oneOf_3, thenV_n, thenV_e, thenV_r, exV_e, exV_r, Nat.beq_refl, eq_self, c1, c2, C5_l0, J5_r3, c3, c4, c5, C5_l2, c6]
  exact ⟨u6, rfl, low6⟩
theorem r5 (M : Nat) (hM : 5000 ≤ M) (s0 s s1 : St) (a1 a2 : Value) (L : List (Int × Int × Int)) (D : List Int) (h3 : In3 s0 a1 L) (hD : InD s0 a2 D) (P last : Int) (haw : callN E M 9 [] s = some (.bool true, s1)) (h8 : 8 ≤ s1.next) (hn : s1.next ≤ 2000) (hlow : Low s0 s1) :
    ∃ s', callN E (M + 1) 5 [.int .i64 P, a1, a2, .int .i64 last] s = some (.bool true, s') ∧ Low s0 s' := by
  have l1 := h3.len; have l2 := hD.len
  rw [x5]
  unfold F5
  by_cases h1 : P < 0
  · have e1 := decide_eq_true h1
    simp only [op2_s, op_s, bin_e, pick_e, not_e, ext_e, nth_z, nth_1, nth_2, nth_3, gval_e, gval_u, cmp_e, orUndef_t, orUndef_f, condV_t, condV_f, cond_true, cond_false, eqI_eq, neI_eq, ltI_eq, leI_eq, gtI_eq, geI_eq, Bool.not_true, Bool.not_false, bf_tt, bf_tf, bf_ft, bf_ff, decide_true, decide_false, oneOf_1, oneOf_2, oneOf_3, thenV_n, thenV_e, thenV_r, exV_e, exV_r, Nat.beq_refl, eq_self, haw, e1, Q5_q0, J5_j0]
    exact ⟨_, rfl, hlow⟩
  have e1 := decide_eq_false h1
  by_cases h2 : 1099511627776 < P
  · have e2 := decide_eq_true h2
    simp only [op2_s, op_s, bin_e, pick_e, not_e, ext_e, nth_z, nth_1, nth_2, nth_3, gval_e, gval_u, cmp_e, orUndef_t, orUndef_f, condV_t, condV_f, cond_true, cond_false, eqI_eq, neI_eq, ltI_eq, leI_eq, gtI_eq, geI_eq, Bool.not_true, Bool.not_false, bf_tt, bf_tf, bf_ft, bf_ff, decide_true, decide_false, oneOf_1, oneOf_2, oneOf_3, thenV_n, thenV_e, thenV_r, exV_e, exV_r, Nat.beq_refl, eq_self, haw, e1, e2, Q5_q0, J5_j0]
    exact ⟨_, rfl, hlow⟩
  have e2 := decide_eq_false h2
  by_cases h3' : 30 < (L.length : Int)
  · have e3 := decide_eq_true h3'
    simp only [op2_s, op_s, bin_e, pick_e, not_e, ext_e, nth_z, nth_1, nth_2, nth_3, gval_e, gval_u, cmp_e, orUndef_t, orUndef_f, condV_t, condV_f, cond_true, cond_false, eqI_eq, neI_eq, ltI_eq, leI_eq, gtI_eq, geI_eq, Bool.not_true, Bool.not_false, bf_tt, bf_tf, bf_ft, bf_ff, decide_true, decide_false, oneOf_1, oneOf_2, oneOf_3, thenV_n, thenV_e, thenV_r, exV_e, exV_r, Nat.beq_refl, eq_self, haw, e1, e2, l1, e3, Q5_q0, J5_j0]
    exact ⟨_, rfl, hlow⟩
  have e3 := decide_eq_false h3'
  by_cases h4 : 30 < (D.length : Int)
  · have e4 := decide_eq_true h4
    simp only [op2_s, op_s, bin_e, pick_e, not_e, ext_e, nth_z, nth_1, nth_2, nth_3, gval_e, gval_u, cmp_e, orUndef_t, orUndef_f, condV_t, condV_f, cond_true, cond_false, eqI_eq, neI_eq, ltI_eq, leI_eq, gtI_eq, geI_eq, Bool.not_true, Bool.not_false, bf_tt, bf_tf, bf_ft, bf_ff, decide_true, decide_false, oneOf_1, oneOf_2, oneOf_3, thenV_n, thenV_e, thenV_r, exV_e, exV_r, Nat.beq_refl, eq_self, haw, e1, e2, l1, e3, l2, e4, Q5_q0, J5_j0]
    exact ⟨_, rfl, hlow⟩
  have e4 := decide_eq_false h4
  by_cases h5 : last < 0
  · have e5 := decide_eq_true h5
    simp only [op2_s, op_s, bin_e, pick_e, not_e, ext_e, nth_z, nth_1, nth_2, nth_3, gval_e, gval_u, cmp_e, orUndef_t, orUndef_f, condV_t, condV_f, cond_true, cond_false, eqI_eq, neI_eq, ltI_eq, leI_eq, gtI_eq, geI_eq, Bool.not_true, Bool.not_false, bf_tt, bf_tf, bf_ft, bf_ff, decide_true, decide_false, oneOf_1, oneOf_2, oneOf_3, thenV_n, thenV_e, thenV_r, exV_e, exV_r, Nat.beq_refl, eq_self, haw, e1, e2, l1, e3, l2, e4, e5, Q5_q0, J5_j0]
    exact ⟨_, rfl, hlow⟩
  have e5 := decide_eq_false h5
  by_cases h6 : 109572 < last
  · have e6 := decide_eq_true h6
    simp only [op2_s, op_s, bin_e, pick_e, not_e, ext_e, nth_z, nth_1, nth_2, nth_3, gval_e, gval_u, cmp_e, orUndef_t, orUndef_f, condV_t, condV_f, cond_true, cond_false, eqI_eq, neI_eq, ltI_eq, leI_eq, gtI_eq, geI_eq, Bool.not_true, Bool.not_false, bf_tt, bf_tf, bf_ft, bf_ff, decide_true, decide_false, oneOf_1, oneOf_2, oneOf_3, thenV_n, thenV_e, thenV_r, exV_e, exV_r, Nat.beq_refl, eq_self, haw, e1, e2, l1, e3, l2, e4, e5, e6, Q5_q0, J5_j0]
    exact ⟨_, rfl, hlow⟩
  have e6 := decide_eq_false h6
  obtain ⟨p, rfl⟩ := Int.eq_ofNat_of_zero_le (show 0 ≤ P by omega)
  obtain ⟨t, rfl⟩ := Int.eq_ofNat_of_zero_le (show 0 ≤ last by omega)
  obtain ⟨s', q1, q2⟩ := j5 M hM s0 s1 a1 a2 L D h3 hD (by omega) (by omega) p t (by omega) (by omega) h8 hn hlow (.bool false)
  simp only [op2_s, op_s, bin_e, pick_e, not_e, ext_e, nth_z, nth_1, nth_2, nth_3, gval_e, gval_u, cmp_e, orUndef_t, orUndef_f, condV_t, condV_f, cond_true, cond_false, eqI_eq, neI_eq, ltI_eq, leI_eq, gtI_eq, geI_eq, Bool.not_true, Bool.not_false, bf_tt, bf_tf, bf_ft, bf_ff, decide_true, decide_false, oneOf_1, oneOf_2, oneOf_3, thenV_n, thenV_e, thenV_r, exV_e, exV_r, Nat.beq_refl, eq_self, haw, e1, e2, l1, e3, l2, e4, e5, e6, Q5_q0, J5_j0]
  exact ⟨s', q1, q2⟩
end Go.Proofs.Ytdnedangfnincaa.AbsAccO
namespace Go.Proofs.Ytdnedangfnincaa.AbsAccO
open Go Go.Abs Go.Proofs
set_option maxRecDepth 100000
set_option linter.unusedVariables false
set_option linter.unusedSimpArgs false

/-! AccrueOften: the law -/
noncomputable def stO (o : Option (Value × St)) : St := Option.rec st0 (fun p => p.2) o
theorem of_O {o : Option (Value × St)} (h : isTrue o = true) : o = some (.bool true, stO o) := by
  obtain ⟨s', hs⟩ := isTrue_spec h
  rw [hs]
  rfl
theorem ao1 (c d : Option Blk) : isTrue (callN E 20001 9 [] (st2 c d)) = true := by kernel_rfl
theorem ao2 (c d : Option Blk) : (stO (callN E 20001 9 [] (st2 c d))).get 0 = c := by kernel_rfl
theorem ao3 (c d : Option Blk) : (stO (callN E 20001 9 [] (st2 c d))).get 1 = d := by kernel_rfl
theorem ao4 (c d : Option Blk) : Nat.ble 8 (stO (callN E 20001 9 [] (st2 c d))).next = true := by kernel_rfl
theorem ao5 (c d : Option Blk) : Nat.ble (stO (callN E 20001 9 [] (st2 c d))).next 1000 = true := by kernel_rfl
theorem getC_get {s u : St} {y : Nat} (h : s.get y = u.get y) : s.getC y = u.getC y := by unfold St.getC; rw [h]
theorem awake2 (c d : Option Blk) : ∃ s1, callN E 20001 9 [] (st2 c d) = some (.bool true, s1) ∧ 8 ≤ s1.next ∧ s1.next ≤ 2000 ∧ Low (st2 c d) s1 := by
  have a3 := ao4 c d; have a4 := ao5 c d
  rw [ble_eq', decide_eq_true_eq] at a3 a4
  exact ⟨_, of_O (ao1 c d), a3, by omega, getC_get (by rw [ao2, st2_get]; rfl), getC_get (by rw [ao3, st2_get]; rfl)⟩
theorem flatT_3 : ∀ L : List (Int × Int × Int), flatT .i64 .i64 .i64 L = flat3 L
  | [] => rfl
  | x :: l => by
    show Value.int .i64 _ :: Value.int .i64 _ :: Value.int .i64 _ :: flatT .i64 .i64 .i64 l = _
    rw [flatT_3 l]; rfl
theorem getC_some {s : St} {y : Nat} {c : Blk} (h : s.get y = some c) (hm : isMapB c = false) : s.getC y = some c := by
  unfold St.getC
  rw [h, op_s, hm]; rfl
theorem flat3_map (L : List (Int × Int × Int)) : isMapB (flat3 L) = false := by cases L <;> rfl
theorem ints_map (L : List Int) : isMapB (L.map fun x => Value.int .i64 x) = false := by cases L <;> rfl
theorem in3 (L : List (Int × Int × Int)) (d : Option Blk) (a : Value) (ha : (L.length = 0 ∧ a = .slice none 0 0) ∨ ∃ c, a = .slice (some ⟨0, 0, none⟩) L.length c) : In3 (st2 (blkIf L.length (flat3 L)) d) a L := by
  refine ⟨fun rec fs u => ?_, fun i hi rec fs u => ?_, fun hL => ?_⟩
  · rcases ha with ⟨h, rfl⟩ | ⟨c, rfl⟩
    · rw [h]; exact lenL_e _ _ _ rec fs u
    · exact lenL_e _ _ _ rec fs u
  · rcases ha with ⟨h, rfl⟩ | ⟨c, rfl⟩
    · omega
    · rw [idxL_e 3 0 0 L.length c i rec fs u hi, Nat.zero_add]
  · refine getC_some ?_ (flat3_map L)
    rw [st2_get]
    show blkIf L.length (flat3 L) = _
    unfold blkIf
    rw [if_neg (fun h => hL (List.eq_nil_of_length_eq_zero h))]
theorem inD (L : List Int) (c0 : Option Blk) (a : Value) (ha : (L.length = 0 ∧ a = .slice none 0 0) ∨ ∃ c, a = .slice (some ⟨1, 0, none⟩) L.length c) : InD (st2 c0 (blkIf L.length (L.map fun x => .int .i64 x))) a L := by
  refine ⟨fun rec fs u => ?_, fun i hi rec fs u => ?_, fun hL => ?_⟩
  · rcases ha with ⟨h, rfl⟩ | ⟨c, rfl⟩
    · rw [h]; exact lenL_e _ _ _ rec fs u
    · exact lenL_e _ _ _ rec fs u
  · rcases ha with ⟨h, rfl⟩ | ⟨c, rfl⟩
    · omega
    · rw [idxL_e 1 1 0 L.length c i rec fs u hi, Nat.zero_add, Nat.mul_one]
  · refine getC_some ?_ (ints_map L)
    rw [st2_get]
    show blkIf L.length (L.map fun x => .int .i64 x) = _
    unfold blkIf
    rw [if_neg (fun h => hL (List.eq_nil_of_length_eq_zero h))]
theorem kept1 {s u : St} {y n : Nat} {flat : List Value} (hm : isMapB flat = false) (hs : s.get y = blkIf n flat) (h : u.getC y = s.getC y) : (s.get y).isSome = true → (u.get y).isSome = true := by
  intro h1
  rw [hs] at h1
  unfold blkIf at h1 hs
  by_cases hn : n = 0
  · rw [if_pos hn] at h1; cases h1
  · rw [if_neg hn] at hs
    rw [getC_some hs hm] at h
    cases hu : u.get y with
    | some c => rfl
    | none =>
      unfold St.getC at h
      rw [hu] at h
      cases h
theorem lawAccrueOften (P : Int) {v w : Value} {L : List (Int × Int × Int)} {D : List Int} {W : World} (hv : SlcIn 3 L.length (flatT .i64 .i64 .i64 L) W v) (hw : SlcIn 1 D.length (D.map fun x => .int .i64 x) W w) (last : Int) :
    Calls Try.prog 5 [.int .i64 P, v, w, .int .i64 last].toArray W fun e w' => e = .returned (.bool true) ∧ RowKit.Below W.heap.size W w' :=
  slc2_law (E := E) (m := 20002) (pre := [.int .i64 P]) (rest := [.int .i64 last]) mixed exOk ⟨fnsOk, known⟩ rfl rfl (flatT_len _ _ _ L) (flatT_gnd1 _ _ _ L) (by simp) (flatI_gnd1 .i64 D) hv hw fun s a a' hs ha ha' => by
    subst hs
    rw [flatT_3]
    obtain ⟨s1, h1, h2, h3, h4⟩ := awake2 (blkIf L.length (flat3 L)) (blkIf D.length (D.map fun x => .int .i64 x))
    obtain ⟨s', q1, q2⟩ := r5 20001 (by omega) _ _ s1 a a' L D (in3 L _ a ha) (inD D _ a' ha') P last h1 h2 h3 h4
    exact ⟨s', q1, kept1 (flat3_map L) (by rw [st2_get]; rfl) q2.1, kept1 (ints_map D) (by rw [st2_get]; rfl) q2.2⟩
end Go.Proofs.Ytdnedangfnincaa.AbsAccO
