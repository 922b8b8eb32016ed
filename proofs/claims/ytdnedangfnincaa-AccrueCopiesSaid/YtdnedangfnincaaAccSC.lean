import Derived.Test.YtdnedangfnincaaAccSB
import Derived.Test.YtdnedangfnincaaAbsZP
namespace Go.Proofs.Ytdnedangfnincaa.AbsAccO
open Go Go.Abs Go.Proofs
set_option maxRecDepth 100000
set_option linter.unusedVariables false
set_option linter.unusedSimpArgs false

attribute [local congr] h_opt2 h_opt h_condV h_cond
/-! a number of two limbs divided by a year in millionths -/
theorem addW (a b : Nat) : int2 addO (.int .u64 (a : Int)) (.int .u64 (b : Int)) = some (.int .u64 (((a + b) % 18446744073709551616 : Nat) : Int)) := by
  show addO .u64 a b = _
  rw [addO_eq, u64w]
  rfl
theorem subW (a b : Nat) (h : b ≤ 18446744073709551616) : int2 subO (.int .u64 (a : Int)) (.int .u64 (b : Int)) = some (.int .u64 (((a + 18446744073709551616 - b) % 18446744073709551616 : Nat) : Int)) := by
  show subO .u64 a b = _
  rw [subO_eq, u64w]
  congr 2
  omega
theorem quoU (a b : Nat) (ha : a < 18446744073709551616) (hb : 0 < b) : int2 quoO (.int .u64 (a : Int)) (.int .u64 (b : Int)) = some (.int .u64 ((a / b : Nat) : Int)) := by
  show quoO .u64 a b = _
  unfold quoO
  rw [eqI_eq, decide_eq_false (show ¬ ((b : Int) = 0) by omega), cond_false, mkInt_eq, u64w, Int.tdiv_eq_ediv_of_nonneg (by omega), ← Int.natCast_ediv]
  have h := Nat.div_le_self a b
  generalize a / b = q at *
  congr 2
  omega
theorem remU (a b : Nat) (hb : 0 < b) : int2 remO (.int .u64 (a : Int)) (.int .u64 (b : Int)) = some (.int .u64 ((a % b : Nat) : Int)) := by
  show remO .u64 a b = _
  unfold remO
  rw [eqI_eq, decide_eq_false (show ¬ ((b : Int) = 0) by omega), cond_false, forceI_eq, Int.tmod_eq_emod_of_nonneg (by omega)]
  rfl
theorem orU_ (a b : Nat) (ha : a < 18446744073709551616) (hb : b < 18446744073709551616) : int2 orO (.int .u64 (a : Int)) (.int .u64 (b : Int)) = some (.int .u64 ((a ||| b : Nat) : Int)) := by
  show setI .u64 (IntKind.u64.wrap ((BitVec.ofInt 64 (a : Int) ||| BitVec.ofInt 64 (b : Int)).toNat : Int)) = _
  rw [setI_eq, u64w, BitVec.toNat_or]
  have e : ∀ n : Nat, n < 18446744073709551616 → (BitVec.ofInt 64 (n : Int)).toNat = n := fun n hn => by
    simp [BitVec.toNat_ofInt]; omega
  rw [e a ha, e b hb]
  have := Nat.or_lt_two_pow (n := 64) (show a < 2 ^ 64 by omega) (show b < 2 ^ 64 by omega)
  congr 2
  omega
theorem shlU (n j : Nat) (hj : j ≤ 64) : sh2 shlO (.int .u64 (n : Int)) (.int .u64 (j : Int)) = some (.int .u64 ((n * 2 ^ j % 18446744073709551616 : Nat) : Int)) := by
  show (bif ltI (j : Int) 0 then none else mkInt .u64 ((n : Int) * 2 ^ (min (j : Int).toNat IntKind.u64.bits))) = _
  have e : ltI (j : Int) 0 = false := by rw [ltI_eq]; exact decide_eq_false (by omega)
  have e2 : min (j : Int).toNat IntKind.u64.bits = j := by rw [Int.toNat_natCast]; show min j 64 = j; omega
  rw [e, cond_false, e2, mkInt_eq, u64w]
  rfl
theorem lz (m : Nat) (s : St) : callN E (m + 2) 79 [.int .u64 365000000] s = some (.int .i64 35, s) := by kernel_rfl
theorem conv35 (rec : Rec) (s : St) : oConv .u64 (.v (.int .i64 35)) rec PT.nil s = some (.int .u64 35, s) := nrfl rfl
theorem shl_y : sh2 shlO (.int .u64 365000000) (.int .u64 35) = some (.int .u64 12541304504320000000) := by kernel_rfl
theorem shr_y : sh2 shrO (.int .u64 12541304504320000000) (.int .u64 32) = some (.int .u64 2920000000) := by kernel_rfl
theorem and_y : int2 andO (.int .u64 12541304504320000000) (.int .u64 4294967295) = some (.int .u64 0) := by kernel_rfl
theorem sub_y : int2 subO (.int .u64 64) (.int .u64 35) = some (.int .u64 29) := by kernel_rfl
/-- Div64 by a year -/
theorem r66 (M : Nat) (hM : 3 ≤ M) (hi lo : Nat) (h1 : hi < 365000000) (h2 : lo < 18446744073709551616) :
    ∃ r : Nat, ∀ s : St, callN E M 66 [.int .u64 (hi : Int), .int .u64 (lo : Int), .int .u64 365000000] s = some (tupOf [.int .u64 (((hi * 18446744073709551616 + lo) / 365000000 : Nat) : Int), .int .u64 (r : Int)], s) := by
  obtain ⟨m, rfl⟩ : ∃ m, M = m + 3 := ⟨M - 3, by omega⟩
  have c1 : decide ((365000000 : Int) = 0) = false := rfl
  have c2 : decide ((365000000 : Int) ≤ (hi : Int)) = false := decide_eq_false (by omega)
  by_cases h0 : hi = 0
  · subst h0
    have c3 : decide (((0 : Nat) : Int) = 0) = true := rfl
    have q1 := quoU lo 365000000 h2 (by omega)
    have q2 := remU lo 365000000 (by omega)
    have e0 : ((365000000 : Nat) : Int) = 365000000 := rfl
    rw [e0] at q1 q2
    have e : (0 * 18446744073709551616 + lo) / 365000000 = lo / 365000000 := by rw [Nat.zero_mul, Nat.zero_add]
    refine ⟨lo % 365000000, fun s => ?_⟩
    rw [x66, e]
    unfold F66
    simp only [op2_s, op_s, bin_e, pick_e, not_e, ext_e, nth_z, nth_1, nth_2, nth_3, gval_e, gval_u, cmp_e, orUndef_t, orUndef_f, condV_t, condV_f, cond_true, cond_false, eqI_eq, neI_eq, ltI_eq, leI_eq, gtI_eq, geI_eq, Bool.not_true, Bool.not_false, bf_tt, bf_tf, bf_ft, bf_ff, decide_true, decide_false, oneOf_1, oneOf_2, oneOf_3, thenV_n, thenV_e, thenV_r, exV_e, exV_r, Nat.beq_refl, eq_self, c1, c2, J66_j0, c3, q1, q2]
  have c3 : decide ((hi : Int) = 0) = false := decide_eq_false (by omega)
  obtain ⟨u32, hu⟩ : ∃ x, x = hi * 34359738368 + lo / 536870912 := ⟨_, rfl⟩
  have s1 : sh2 shlO (.int .u64 (hi : Int)) (.int .u64 35) = some (.int .u64 ((hi * 34359738368 : Nat) : Int)) := by
    have := shlU hi 35 (by omega)
    rw [show hi * 2 ^ 35 % 18446744073709551616 = hi * 34359738368 by omega] at this
    exact this
  have s2 : sh2 shrO (.int .u64 (lo : Int)) (.int .u64 29) = some (.int .u64 ((lo / 536870912 : Nat) : Int)) := shr_u .u64 rfl lo 29 (by omega)
  have s3 : int2 orO (.int .u64 ((hi * 34359738368 : Nat) : Int)) (.int .u64 ((lo / 536870912 : Nat) : Int)) = some (.int .u64 (u32 : Int)) := by
    rw [orU_ _ _ (by omega) (by omega)]
    have := Nat.two_pow_add_eq_or_of_lt (i := 35) (show lo / 536870912 < 2 ^ 35 by omega) hi
    rw [show 2 ^ 35 * hi = hi * 34359738368 by omega] at this
    rw [← this, ← hu]
  obtain ⟨u10, hu10⟩ : ∃ x, x = lo * 34359738368 % 18446744073709551616 := ⟨_, rfl⟩
  have s4 : sh2 shlO (.int .u64 (lo : Int)) (.int .u64 35) = some (.int .u64 (u10 : Int)) := by
    rw [hu10]; exact shlU lo 35 (by omega)
  have s5 := shr32_u u10
  have s6 := and32_u u10 (by omega)
  have b32 : u32 < 12541304504320000000 := by omega
  obtain ⟨q1, hq1⟩ : ∃ x, x = u32 / 2920000000 := ⟨_, rfl⟩
  have s7 : int2 quoO (.int .u64 (u32 : Int)) (.int .u64 2920000000) = some (.int .u64 (q1 : Int)) := by rw [hq1]; exact quoU u32 2920000000 (by omega) (by omega)
  have s8 : int2 mulO (.int .u64 (q1 : Int)) (.int .u64 2920000000) = some (.int .u64 ((q1 * 2920000000 : Nat) : Int)) := mulU q1 2920000000 (by omega)
  obtain ⟨r1, hr1⟩ : ∃ x, x = u32 - q1 * 2920000000 := ⟨_, rfl⟩
  have s9 : int2 subO (.int .u64 (u32 : Int)) (.int .u64 ((q1 * 2920000000 : Nat) : Int)) = some (.int .u64 (r1 : Int)) := by rw [hr1]; exact subU _ _ (by omega) (by omega)
  have bq1 : q1 < 4294967296 := by omega
  have br1 : r1 < 2920000000 := by omega
  have a1 : decide ((4294967296 : Int) ≤ (q1 : Int)) = false := decide_eq_false (by omega)
  have a2 : int2 mulO (.int .u64 (q1 : Int)) (.int .u64 0) = some (.int .u64 0) := mulU q1 0 (by omega)
  have a3 : int2 mulO (.int .u64 4294967296) (.int .u64 (r1 : Int)) = some (.int .u64 ((4294967296 * r1 : Nat) : Int)) := mulU 4294967296 r1 (by omega)
  have a4 := addU (4294967296 * r1) (u10 / 4294967296) (by omega)
  have a5 : decide (((4294967296 * r1 + u10 / 4294967296 : Nat) : Int) < 0) = false := decide_eq_false (by omega)
  have t1 := mulW u32 4294967296
  have t2 := addW (u32 * 4294967296 % 18446744073709551616) (u10 / 4294967296)
  have t3 := mulW q1 12541304504320000000
  obtain ⟨u21, hu21⟩ : ∃ x, x = r1 * 4294967296 + u10 / 4294967296 := ⟨_, rfl⟩
  have t4 : int2 subO (.int .u64 (((u32 * 4294967296 % 18446744073709551616 + u10 / 4294967296) % 18446744073709551616 : Nat) : Int)) (.int .u64 ((q1 * 12541304504320000000 % 18446744073709551616 : Nat) : Int)) = some (.int .u64 (u21 : Int)) := by
    rw [subW _ _ (by omega)]
    congr 3
    omega
  have b21 : u21 < 12541304504320000000 := by omega
  obtain ⟨q0, hq0⟩ : ∃ x, x = u21 / 2920000000 := ⟨_, rfl⟩
  have v7 : int2 quoO (.int .u64 (u21 : Int)) (.int .u64 2920000000) = some (.int .u64 (q0 : Int)) := by rw [hq0]; exact quoU u21 2920000000 (by omega) (by omega)
  have v8 : int2 mulO (.int .u64 (q0 : Int)) (.int .u64 2920000000) = some (.int .u64 ((q0 * 2920000000 : Nat) : Int)) := mulU q0 2920000000 (by omega)
  obtain ⟨r0, hr0⟩ : ∃ x, x = u21 - q0 * 2920000000 := ⟨_, rfl⟩
  have v9 : int2 subO (.int .u64 (u21 : Int)) (.int .u64 ((q0 * 2920000000 : Nat) : Int)) = some (.int .u64 (r0 : Int)) := by rw [hr0]; exact subU _ _ (by omega) (by omega)
  have bq0 : q0 < 4294967296 := by omega
  have br0 : r0 < 2920000000 := by omega
  have d1 : decide ((4294967296 : Int) ≤ (q0 : Int)) = false := decide_eq_false (by omega)
  have d2 : int2 mulO (.int .u64 (q0 : Int)) (.int .u64 0) = some (.int .u64 0) := mulU q0 0 (by omega)
  have d3 : int2 mulO (.int .u64 4294967296) (.int .u64 (r0 : Int)) = some (.int .u64 ((4294967296 * r0 : Nat) : Int)) := mulU 4294967296 r0 (by omega)
  have d4 := addU (4294967296 * r0) (u10 % 4294967296) (by omega)
  have d5 : decide (((4294967296 * r0 + u10 % 4294967296 : Nat) : Int) < 0) = false := decide_eq_false (by omega)
  have w1 : int2 mulO (.int .u64 (q1 : Int)) (.int .u64 4294967296) = some (.int .u64 ((q1 * 4294967296 : Nat) : Int)) := mulU q1 4294967296 (by omega)
  have w2 : int2 addO (.int .u64 ((q1 * 4294967296 : Nat) : Int)) (.int .u64 (q0 : Int)) = some (.int .u64 (((hi * 18446744073709551616 + lo) / 365000000 : Nat) : Int)) := by
    rw [addU _ _ (by omega)]
    congr 3
    omega
  have w3 := mulW u21 4294967296
  have w4 := addW (u21 * 4294967296 % 18446744073709551616) (u10 % 4294967296)
  have w5 := mulW q0 12541304504320000000
  have w6 := subW ((u21 * 4294967296 % 18446744073709551616 + u10 % 4294967296) % 18446744073709551616) (q0 * 12541304504320000000 % 18446744073709551616) (by omega)
  obtain ⟨z, hz⟩ : ∃ x, x = ((u21 * 4294967296 % 18446744073709551616 + u10 % 4294967296) % 18446744073709551616 + 18446744073709551616 - q0 * 12541304504320000000 % 18446744073709551616) % 18446744073709551616 := ⟨_, rfl⟩
  rw [← hz] at w6
  have w7 : sh2 shrO (.int .u64 (z : Int)) (.int .u64 35) = some (.int .u64 ((z / 2 ^ 35 : Nat) : Int)) := shr_u .u64 rfl z 35 (by omega)
  have e1 : ((4294967296 : Nat) : Int) = 4294967296 := rfl
  have e2 : ((12541304504320000000 : Nat) : Int) = 12541304504320000000 := rfl
  rw [e1] at t1 w3
  rw [e2] at t3 w5
  refine ⟨z / 2 ^ 35, fun s => ?_⟩
  have L := lz m s
  rw [x66]
  unfold F66
  simp only [op2_s, op_s, bin_e, pick_e, not_e, ext_e, nth_z, nth_1, nth_2, nth_3, gval_e, gval_u, cmp_e, orUndef_t, orUndef_f, condV_t, condV_f, cond_true, cond_false, eqI_eq, neI_eq, ltI_eq, leI_eq, gtI_eq, geI_eq, Bool.not_true, Bool.not_false, bf_tt, bf_tf, bf_ft, bf_ff, decide_true, decide_false, oneOf_1, oneOf_2, oneOf_3, thenV_n, thenV_e, thenV_r, exV_e, exV_r, Nat.beq_refl, eq_self, c1, c2, J66_j0, c3, L, conv35, shl_y, shr_y, and_y, s1, sub_y, s2, s3, s4, s5, s6, s7, s8, s9, loopV_s, B66_l0, a1, a2, a3, a4, a5, C66_l0, J66_r1, t1, t2, t3, t4, v7, v8, v9, B66_l1, d1, d2, d3, d4, d5, C66_l1, J66_r0, w1, w2, w3, w4, w5, w6, w7]
end Go.Proofs.Ytdnedangfnincaa.AbsAccO
namespace Go.Proofs.Ytdnedangfnincaa.AbsAccO
open Go Go.Abs Go.Proofs
set_option maxRecDepth 100000
set_option linter.unusedVariables false
set_option linter.unusedSimpArgs false

attribute [local congr] h_opt2 h_opt h_condV h_cond
/-! what is owed: Floor, Shown, Post, Copy -/
theorem r67 (M : Nat) (hM : 1 ≤ M) (q : Nat) (hq : q < 9223372036854775808) (s : St) (hn : s.next ≤ lim) :
    callN E M 67 [aggOf [.int .i64 0, .int .u64 (q : Int)]] s = some (tupOf [.int .i64 (q : Int), .bool true], ((an s [.int .i64 0, .int .u64 (q : Int)]).seen s.next).seen s.next) := by
  obtain ⟨m, rfl⟩ : ∃ m, M = m + 1 := ⟨M - 1, by omega⟩
  have e : q / 9223372036854775808 = 0 := by omega
  have e0 : decide ((0 : Int) = ((0 : Nat) : Int)) = true := rfl
  rw [x67]
  unfold F67
  simp (disch := (first | omega | (simp only [an_next, set_next, St.seen_next, jn_next, z0_next]; try omega; done))) only [op2_s, op_s, bin_e, pick_e, not_e, ext_e, nth_z, nth_1, nth_2, nth_3, gval_e, gval_u, cmp_e, orUndef_t, orUndef_f, condV_t, condV_f, cond_true, cond_false, eqI_eq, neI_eq, ltI_eq, leI_eq, gtI_eq, geI_eq, Bool.not_true, Bool.not_false, bf_tt, bf_tf, bf_ft, bf_ff, decide_true, decide_false, oneOf_1, oneOf_2, oneOf_3, thenV_n, thenV_e, thenV_r, exV_e, exV_r, Nat.beq_refl, eq_self, new_a, boxA, an_ati, an_atp, an_ats, an_atb, an_ne, set_ati, set_atp, set_ats, set_atb, set_ne, seen_getC, loadn_o, store_2, store_i, store_b, store_s, store_p, load_u, cut_22, put_22, cut_53, cut_55, put_55, put_50, put_51, put_52, put_53, store_5, nth_z, nth_1, nth_2, nth_3, nth_4, nil_u, fa_0, an_next, set_next, St.seen_next, jn_next, z0_next, jn_getC, z0_getC, rU_z, rU_seen, rU_set, rU_an, rU_sl, toI, shr63_u, e, e0]
theorem dx48 (m : Nat) (a b : Value) (s : St) : callN E (m + 1) 48 [a, b] s = D48 (callN E m) m a b s := (by kernel_rfl : callN E (m + 1) 48 [a, b] s = callF (callN E m) m c48 [a, b] s).trans (d48 _ _ _ _ _)
theorem conv_y (rec : Rec) (s : St) : oConv .u64 (.v (.int .i64 365000000)) rec PT.nil s = some (.int .u64 365000000, s) := nrfl rfl
/-- Floor, by a year -/
theorem r48 (M : Nat) (hM : 4 ≤ M) (A : Nat) (hA : A / 365000000 < 9223372036854775808) (s : St) (h8 : 8 ≤ s.next) (hn : s.next + 4 ≤ lim) :
    ∃ s', callN E M 48 [W A, .int .i64 365000000] s = some (tupOf [.int .i64 ((A / 365000000 : Nat) : Int), .bool true], s') ∧ Grew 3 s s' := by
  have hlim : lim = 1000000000 := rfl
  obtain ⟨m, rfl⟩ : ∃ m, M = m + 1 := ⟨M - 1, by omega⟩
  have hhi : A / 18446744073709551616 < 365000000 := by omega
  have c1 : decide ((365000000 : Int) < 1) = false := rfl
  have c2 : decide (((A / 18446744073709551616 : Nat) : Int) < 0) = false := decide_eq_false (by omega)
  have c3 : decide ((365000000 : Int) ≤ ((A / 18446744073709551616 : Nat) : Int)) = false := decide_eq_false (by omega)
  have c4 : decide ((0 : Int) ≤ ((A / 18446744073709551616 : Nat) : Int)) = true := decide_eq_true (by omega)
  have e : A / 18446744073709551616 * 18446744073709551616 + A % 18446744073709551616 = A := by omega
  obtain ⟨r, c66⟩ := r66 m (by omega) (A / 18446744073709551616) (A % 18446744073709551616) hhi (by omega)
  rw [e] at c66
  rw [dx48]
  unfold D48
  simp (maxSteps := 4000000) (disch := (first | omega | (simp only [an_next, set_next, St.seen_next, jn_next, z0_next]; try omega; done))) only [op2_s, op_s, bin_e, pick_e, not_e, ext_e, nth_z, nth_1, nth_2, nth_3, gval_e, gval_u, cmp_e, orUndef_t, orUndef_f, condV_t, condV_f, cond_true, cond_false, eqI_eq, neI_eq, ltI_eq, leI_eq, gtI_eq, geI_eq, Bool.not_true, Bool.not_false, bf_tt, bf_tf, bf_ft, bf_ff, decide_true, decide_false, oneOf_1, oneOf_2, oneOf_3, thenV_n, thenV_e, thenV_r, exV_e, exV_r, Nat.beq_refl, eq_self, new_a, boxA, an_ati, an_atp, an_ats, an_atb, an_ne, set_ati, set_atp, set_ats, set_atb, set_ne, seen_getC, loadn_o, store_2, store_i, store_b, store_s, store_p, load_u, cut_22, put_22, cut_53, cut_55, put_55, put_50, put_51, put_52, put_53, store_5, nth_z, nth_1, nth_2, nth_3, nth_4, nil_u, fa_0, an_next, set_next, St.seen_next, jn_next, z0_next, jn_getC, z0_getC, rU_z, rU_seen, rU_set, rU_an, rU_sl, W, conv_y, toU, c1, c2, c3, c4, c66, bu, r67]
  refine ⟨_, rfl, ?_⟩
  (repeat (first | exact Grew.refl _ | assumption | refine Grew.seen ?_ _ | refine Grew.set ?_ _ _ (by (first | omega | (simp only [an_next, set_next, St.seen_next, jn_next, z0_next]; try omega; done))) (by (first | omega | (simp only [an_next, set_next, St.seen_next, jn_next, z0_next]; try omega; done))) | refine Grew.an ?_ _ (by (first | omega | (simp only [an_next, set_next, St.seen_next, jn_next, z0_next]; try omega; done)))))
end Go.Proofs.Ytdnedangfnincaa.AbsAccO
namespace Go.Proofs.Ytdnedangfnincaa.AbsAccO
open Go Go.Abs Go.Proofs
set_option maxRecDepth 100000
set_option linter.unusedVariables false
set_option linter.unusedSimpArgs false

attribute [local congr] h_opt2 h_opt h_condV h_cond
def owed (p : Nat) (l : List (Int × Int)) (t : Nat) : Nat := p * sumN l t / 365000000
/-- Shown -/
theorem r22 (M : Nat) (hM : 3002 ≤ M) (s : St) (ab tb d p q : Nat) (t : Nat) (v : Value) (l : List (Int × Int)) (hl : l.length ≤ 256) (ho : R.Okl l) (ht : R.Tab s tb v l) (hdt : d ≤ t) (htt : t ≤ 109572) (hp : p ≤ 4503599627370496) (hq : q ≤ 4503599627370496)
    (hab : s.getC ab = some (accC d p q (p * sumN l d))) (hlt : ab < s.next) (hB : owed p l t < 9223372036854775808) (hn : s.next + 800 ≤ lim) (h8 : 8 ≤ s.next) :
    ∃ s', callN E M 22 [.pointer (some ⟨ab, 0, none⟩), .pointer (some ⟨tb, 0, none⟩), .int .i64 (t : Int)] s = some (if owed p l t ≤ 4503599627370496 then tupOf [.int .i64 ((owed p l t : Int) - (q : Int)), .int .i64 0] else tupOf [.int .i64 0, .int .i64 10], s') ∧ Grew 310 s s' := by
  have hlim : lim = 1000000000 := rfl
  obtain ⟨m, rfl⟩ : ∃ m, M = m + 1 := ⟨M - 1, by omega⟩
  obtain ⟨s1, c1, g1⟩ := r45 m (by omega) s ab d p q _ (t : Int) hab
  rw [may_ok hdt htt] at c1
  have G1 := g1.grew
  have h1 := sumN_mono ho hdt (by omega)
  have h2 := sumN_le ho t (by omega)
  have h3 : p * sumN l t ≤ 4503599627370496 * 28050688000000000 := Nat.mul_le_mul hp (by omega)
  have e : p * sumN l d + p * (sumN l t - sumN l d) = p * sumN l t := by rw [← Nat.mul_add]; congr 1; omega
  obtain ⟨s2, c2, g2⟩ := r46 m (by omega) s1 ab tb d p q (p * sumN l d) (sumN l t - sumN l d) t v l hl ho (ht.grew (k := 0) G1) (by omega) htt (by omega) (sum_diff ho hdt (by omega)) (by omega) (by rw [e]; omega) ((g1.2 ab).trans hab) (by rw [g1.1]; exact hlt) (by rw [g1.1]; omega) (by rw [g1.1]; omega)
  rw [e] at c2
  have b2 := g2.1; have b2' := g2.2.1
  rw [g1.1] at b2 b2'
  obtain ⟨s3, c3, g3⟩ := r48 m (by omega) (p * sumN l t) hB s2 (by omega) (by omega)
  have x3 : s3.getC ab = some (accC d p q (p * sumN l d)) := (g3.2.2 ab (by omega)).trans ((g2.2.2 ab (by rw [g1.1]; exact hlt)).trans ((g1.2 ab).trans hab))
  have e0 : decide ((0 : Int) = 0) = true := rfl
  have G3 : Grew 310 s s3 := ((G1.trans g2).trans g3).mono (by omega)
  have eo : p * sumN l t / 365000000 = owed p l t := rfl
  rw [eo] at c3
  unfold accC at x3
  rw [x22]
  unfold F22
  by_cases ho' : owed p l t ≤ 4503599627370496
  · have e1 : decide (4503599627370496 < ((owed p l t : Nat) : Int)) = false := decide_eq_false (by omega)
    have sb : int2 subO (.int .i64 ((owed p l t : Nat) : Int)) (.int .i64 (q : Int)) = some (.int .i64 ((owed p l t : Int) - (q : Int))) := sub_e _ _ (by omega) (by omega)
    rw [if_pos ho']
    simp (disch := (first | omega | (simp only [an_next, set_next, St.seen_next, jn_next, z0_next]; try omega; done))) only [op2_s, op_s, bin_e, pick_e, not_e, ext_e, nth_z, nth_1, nth_2, nth_3, gval_e, gval_u, cmp_e, orUndef_t, orUndef_f, condV_t, condV_f, cond_true, cond_false, eqI_eq, neI_eq, ltI_eq, leI_eq, gtI_eq, geI_eq, Bool.not_true, Bool.not_false, bf_tt, bf_tf, bf_ft, bf_ff, decide_true, decide_false, oneOf_1, oneOf_2, oneOf_3, thenV_n, thenV_e, thenV_r, exV_e, exV_r, Nat.beq_refl, eq_self, new_a, boxA, an_ati, an_atp, an_ats, an_atb, an_ne, set_ati, set_atp, set_ats, set_atb, set_ne, seen_getC, loadn_o, store_2, store_i, store_b, store_s, store_p, load_u, cut_22, put_22, cut_53, cut_55, put_55, put_50, put_51, put_52, put_53, store_5, nth_z, nth_1, nth_2, nth_3, nth_4, nil_u, fa_0, an_next, set_next, St.seen_next, jn_next, z0_next, jn_getC, z0_getC, rU_z, rU_seen, rU_set, rU_an, rU_sl, c1, e0, c2, c3, e1, x3, sb]
    exact ⟨_, rfl, G3.seen _⟩
  · have e1 : decide (4503599627370496 < ((owed p l t : Nat) : Int)) = true := decide_eq_true (by omega)
    rw [if_neg ho']
    simp (disch := (first | omega | (simp only [an_next, set_next, St.seen_next, jn_next, z0_next]; try omega; done))) only [op2_s, op_s, bin_e, pick_e, not_e, ext_e, nth_z, nth_1, nth_2, nth_3, gval_e, gval_u, cmp_e, orUndef_t, orUndef_f, condV_t, condV_f, cond_true, cond_false, eqI_eq, neI_eq, ltI_eq, leI_eq, gtI_eq, geI_eq, Bool.not_true, Bool.not_false, bf_tt, bf_tf, bf_ft, bf_ff, decide_true, decide_false, oneOf_1, oneOf_2, oneOf_3, thenV_n, thenV_e, thenV_r, exV_e, exV_r, Nat.beq_refl, eq_self, new_a, boxA, an_ati, an_atp, an_ats, an_atb, an_ne, set_ati, set_atp, set_ats, set_atb, set_ne, seen_getC, loadn_o, store_2, store_i, store_b, store_s, store_p, load_u, cut_22, put_22, cut_53, cut_55, put_55, put_50, put_51, put_52, put_53, store_5, nth_z, nth_1, nth_2, nth_3, nth_4, nil_u, fa_0, an_next, set_next, St.seen_next, jn_next, z0_next, jn_getC, z0_getC, rU_z, rU_seen, rU_set, rU_an, rU_sl, c1, e0, c2, c3, e1]
    exact ⟨_, rfl, G3⟩
theorem r22_no (M : Nat) (hM : 2 ≤ M) (s : St) (ab d p q A : Nat) (t : Int) (tv : Value) (hab : s.getC ab = some (accC d p q A)) (h : mayE d t ≠ 0) :
    ∃ s', callN E M 22 [.pointer (some ⟨ab, 0, none⟩), tv, .int .i64 t] s = some (tupOf [.int .i64 0, .int .i64 (mayE d t)], s') ∧ Still s s' := by
  obtain ⟨m, rfl⟩ : ∃ m, M = m + 1 := ⟨M - 1, by omega⟩
  obtain ⟨s1, c1, g1⟩ := r45 m (by omega) s ab d p q A t hab
  have e0 : decide (mayE d t = 0) = false := decide_eq_false h
  rw [x22]
  unfold F22
  simp only [op2_s, op_s, bin_e, pick_e, not_e, ext_e, nth_z, nth_1, nth_2, nth_3, gval_e, gval_u, cmp_e, orUndef_t, orUndef_f, condV_t, condV_f, cond_true, cond_false, eqI_eq, neI_eq, ltI_eq, leI_eq, gtI_eq, geI_eq, Bool.not_true, Bool.not_false, bf_tt, bf_tf, bf_ft, bf_ff, decide_true, decide_false, oneOf_1, oneOf_2, oneOf_3, thenV_n, thenV_e, thenV_r, exV_e, exV_r, Nat.beq_refl, eq_self, c1, e0]
  exact ⟨_, rfl, g1⟩
/-- Post -/
theorem r20 (M : Nat) (hM : 3003 ≤ M) (s : St) (ab tb d p q : Nat) (t : Nat) (v : Value) (l : List (Int × Int)) (hl : l.length ≤ 256) (ho : R.Okl l) (ht : R.Tab s tb v l) (hdt : d ≤ t) (htt : t ≤ 109572) (hp : p ≤ 4503599627370496) (hq : q ≤ 4503599627370496)
    (hab : s.getC ab = some (accC d p q (p * sumN l d))) (hlt : ab < s.next) (ha8 : 8 ≤ ab) (hB : owed p l t ≤ 4503599627370496) (hn : s.next + 1200 ≤ lim) (h8 : 8 ≤ s.next) :
    ∃ s', callN E M 20 [.pointer (some ⟨ab, 0, none⟩), .pointer (some ⟨tb, 0, none⟩), .int .i64 (t : Int)] s = some (tupOf [.int .i64 ((owed p l t : Int) - (q : Int)), .int .i64 0], s') ∧ Upd 610 ab (accC t p (owed p l t) (p * sumN l t)) s s' := by
  have hlim : lim = 1000000000 := rfl
  obtain ⟨m, rfl⟩ : ∃ m, M = m + 1 := ⟨M - 1, by omega⟩
  obtain ⟨s1, c1, g1⟩ := r22 m (by omega) s ab tb d p q t v l hl ho ht hdt htt hp hq hab hlt (by omega) (by omega) h8
  rw [if_pos hB] at c1
  have b1 := g1.1; have b1' := g1.2.1
  obtain ⟨s2, c2, g2⟩ := run_to m (by omega) s1 ab tb d p q t v l hl ho (ht.grew (k := 310) g1) hdt htt hp ((g1.2.2 ab hlt).trans hab) (by omega) ha8 (by omega)
  have e0 : decide ((0 : Int) = 0) = true := rfl
  have x2 := g2.2.2.1
  have ad : int2 addO (.int .i64 (q : Int)) (.int .i64 ((owed p l t : Int) - (q : Int))) = some (.int .i64 ((owed p l t : Nat) : Int)) := by
    rw [add_e _ _ (by omega) (by omega)]
    congr 2
    omega
  unfold accC at x2
  rw [x20]
  unfold F20
  simp (disch := (first | omega | (simp only [an_next, set_next, St.seen_next, jn_next, z0_next]; try omega; done))) only [op2_s, op_s, bin_e, pick_e, not_e, ext_e, nth_z, nth_1, nth_2, nth_3, gval_e, gval_u, cmp_e, orUndef_t, orUndef_f, condV_t, condV_f, cond_true, cond_false, eqI_eq, neI_eq, ltI_eq, leI_eq, gtI_eq, geI_eq, Bool.not_true, Bool.not_false, bf_tt, bf_tf, bf_ft, bf_ff, decide_true, decide_false, oneOf_1, oneOf_2, oneOf_3, thenV_n, thenV_e, thenV_r, exV_e, exV_r, Nat.beq_refl, eq_self, new_a, boxA, an_ati, an_atp, an_ats, an_atb, an_ne, set_ati, set_atp, set_ats, set_atb, set_ne, seen_getC, loadn_o, store_2, store_i, store_b, store_s, store_p, load_u, cut_22, put_22, cut_53, cut_55, put_55, put_50, put_51, put_52, put_53, store_5, nth_z, nth_1, nth_2, nth_3, nth_4, nil_u, fa_0, an_next, set_next, St.seen_next, jn_next, z0_next, jn_getC, z0_getC, rU_z, rU_seen, rU_set, rU_an, rU_sl, c1, e0, c2, x2, ad]
  have b2 := g2.1; have b2' := g2.2.1
  exact ⟨_, rfl, Upd.set ((Upd.after g1 g2 hlt).seen _) _ _ ha8 hlt (by rw [St.seen_next]; omega) rfl⟩
/-- Post, that is too much -/
theorem r20_over (M : Nat) (hM : 3003 ≤ M) (s : St) (ab tb d p q : Nat) (t : Nat) (v : Value) (l : List (Int × Int)) (hl : l.length ≤ 256) (ho : R.Okl l) (ht : R.Tab s tb v l) (hdt : d ≤ t) (htt : t ≤ 109572) (hp : p ≤ 4503599627370496) (hq : q ≤ 4503599627370496)
    (hab : s.getC ab = some (accC d p q (p * sumN l d))) (hlt : ab < s.next) (hB : 4503599627370496 < owed p l t) (hB' : owed p l t < 9223372036854775808) (hn : s.next + 1200 ≤ lim) (h8 : 8 ≤ s.next) :
    ∃ s', callN E M 20 [.pointer (some ⟨ab, 0, none⟩), .pointer (some ⟨tb, 0, none⟩), .int .i64 (t : Int)] s = some (tupOf [.int .i64 0, .int .i64 10], s') ∧ Grew 310 s s' := by
  obtain ⟨m, rfl⟩ : ∃ m, M = m + 1 := ⟨M - 1, by omega⟩
  obtain ⟨s1, c1, g1⟩ := r22 m (by omega) s ab tb d p q t v l hl ho ht hdt htt hp hq hab hlt hB' (by omega) h8
  rw [if_neg (by omega)] at c1
  have e0 : decide ((10 : Int) = 0) = false := rfl
  rw [x20]
  unfold F20
  simp only [op2_s, op_s, bin_e, pick_e, not_e, ext_e, nth_z, nth_1, nth_2, nth_3, gval_e, gval_u, cmp_e, orUndef_t, orUndef_f, condV_t, condV_f, cond_true, cond_false, eqI_eq, neI_eq, ltI_eq, leI_eq, gtI_eq, geI_eq, Bool.not_true, Bool.not_false, bf_tt, bf_tf, bf_ft, bf_ff, decide_true, decide_false, oneOf_1, oneOf_2, oneOf_3, thenV_n, thenV_e, thenV_r, exV_e, exV_r, Nat.beq_refl, eq_self, c1, e0]
  exact ⟨_, rfl, g1⟩
theorem r20_no (M : Nat) (hM : 3 ≤ M) (s : St) (ab d p q A : Nat) (t : Int) (tv : Value) (hab : s.getC ab = some (accC d p q A)) (h : mayE d t ≠ 0) :
    ∃ s', callN E M 20 [.pointer (some ⟨ab, 0, none⟩), tv, .int .i64 t] s = some (tupOf [.int .i64 0, .int .i64 (mayE d t)], s') ∧ Still s s' := by
  obtain ⟨m, rfl⟩ : ∃ m, M = m + 1 := ⟨M - 1, by omega⟩
  obtain ⟨s1, c1, g1⟩ := r22_no m (by omega) s ab d p q A t tv hab h
  have e0 : decide (mayE d t = 0) = false := decide_eq_false h
  rw [x20]
  unfold F20
  simp only [op2_s, op_s, bin_e, pick_e, not_e, ext_e, nth_z, nth_1, nth_2, nth_3, gval_e, gval_u, cmp_e, orUndef_t, orUndef_f, condV_t, condV_f, cond_true, cond_false, eqI_eq, neI_eq, ltI_eq, leI_eq, gtI_eq, geI_eq, Bool.not_true, Bool.not_false, bf_tt, bf_tf, bf_ft, bf_ff, decide_true, decide_false, oneOf_1, oneOf_2, oneOf_3, thenV_n, thenV_e, thenV_r, exV_e, exV_r, Nat.beq_refl, eq_self, c1, e0]
  exact ⟨_, rfl, g1⟩
/-- Copy -/
theorem r38 (M : Nat) (hM : 1 ≤ M) (s : St) (ab d p q A : Nat) (hab : s.getC ab = some (accC d p q A)) (hlt : ab < s.next) (h8 : 8 ≤ s.next) (hn : s.next + 1 ≤ lim) :
    ∃ s', callN E M 38 [.pointer (some ⟨ab, 0, none⟩)] s = some (.pointer (some ⟨s.next, 0, none⟩), s') ∧ Grew 1 s s' ∧ s'.getC s.next = some (accC d p q A) ∧ s'.next = s.next + 1 := by
  have hlim : lim = 1000000000 := rfl
  obtain ⟨m, rfl⟩ : ∃ m, M = m + 1 := ⟨M - 1, by omega⟩
  unfold accC at hab ⊢
  rw [x38]
  unfold F38
  simp (disch := (first | omega | (simp only [an_next, set_next, St.seen_next, jn_next, z0_next]; try omega; done))) only [op2_s, op_s, bin_e, pick_e, not_e, ext_e, nth_z, nth_1, nth_2, nth_3, gval_e, gval_u, cmp_e, orUndef_t, orUndef_f, condV_t, condV_f, cond_true, cond_false, eqI_eq, neI_eq, ltI_eq, leI_eq, gtI_eq, geI_eq, Bool.not_true, Bool.not_false, bf_tt, bf_tf, bf_ft, bf_ff, decide_true, decide_false, oneOf_1, oneOf_2, oneOf_3, thenV_n, thenV_e, thenV_r, exV_e, exV_r, Nat.beq_refl, eq_self, new_a, boxA, an_ati, an_atp, an_ats, an_atb, an_ne, set_ati, set_atp, set_ats, set_atb, set_ne, seen_getC, loadn_o, store_2, store_i, store_b, store_s, store_p, load_u, cut_22, put_22, cut_53, cut_55, put_55, put_50, put_51, put_52, put_53, store_5, nth_z, nth_1, nth_2, nth_3, nth_4, nil_u, fa_0, an_next, set_next, St.seen_next, jn_next, z0_next, jn_getC, z0_getC, rU_z, rU_seen, rU_set, rU_an, rU_sl, hab]
  refine ⟨_, rfl, ?_, ?_, ?_⟩
  · (repeat (first | exact Grew.refl _ | assumption | refine Grew.seen ?_ _ | refine Grew.set ?_ _ _ (by (first | omega | (simp only [an_next, set_next, St.seen_next, jn_next, z0_next]; try omega; done))) (by (first | omega | (simp only [an_next, set_next, St.seen_next, jn_next, z0_next]; try omega; done))) | refine Grew.an ?_ _ (by (first | omega | (simp only [an_next, set_next, St.seen_next, jn_next, z0_next]; try omega; done)))))
  · simp (disch := (first | omega | (simp only [an_next, set_next, St.seen_next, jn_next, z0_next]; try omega; done))) only [new_a, boxA, an_ati, an_atp, an_ats, an_atb, an_ne, set_ati, set_atp, set_ats, set_atb, set_ne, seen_getC, loadn_o, store_2, store_i, store_b, store_s, store_p, load_u, cut_22, put_22, cut_53, cut_55, put_55, put_50, put_51, put_52, put_53, store_5, nth_z, nth_1, nth_2, nth_3, nth_4, nil_u, fa_0, an_next, set_next, St.seen_next, jn_next, z0_next, jn_getC, z0_getC, rU_z, rU_seen, rU_set, rU_an, rU_sl]
  · simp only [new_a, boxA, an_ati, an_atp, an_ats, an_atb, an_ne, set_ati, set_atp, set_ats, set_atb, set_ne, seen_getC, loadn_o, store_2, store_i, store_b, store_s, store_p, load_u, cut_22, put_22, cut_53, cut_55, put_55, put_50, put_51, put_52, put_53, store_5, nth_z, nth_1, nth_2, nth_3, nth_4, nil_u, fa_0, an_next, set_next, St.seen_next, jn_next, z0_next, jn_getC, z0_getC, rU_z, rU_seen, rU_set, rU_an, rU_sl]
end Go.Proofs.Ytdnedangfnincaa.AbsAccO
namespace Go.Proofs.Ytdnedangfnincaa.AbsAccO
open Go Go.Abs Go.Proofs
set_option maxRecDepth 100000
set_option linter.unusedVariables false
set_option linter.unusedSimpArgs false

attribute [local congr] h_opt2 h_opt h_condV h_cond
/-! numbers in bytes -/
def vb : Nat → Nat → List Nat
  | 0, u => [u]
  | f + 1, u => if 127 < u then (u % 128 + 128) :: vb f (u / 128) else [u]
theorem vb_len : ∀ f u, 1 ≤ (vb f u).length ∧ (vb f u).length ≤ f + 1
  | 0, u => ⟨Nat.le_refl _, Nat.le_refl _⟩
  | f + 1, u => by
    have := vb_len f (u / 128)
    unfold vb
    split
    · simp only [List.length_cons]; omega
    · simp
theorem eqL_nil (b : Addr) (n k : Nat) (rec : Rec) (fs : Frm) (s : St) : oEqv eqL false (.v (.slice (some b) n k)) (.v (.slice none 0 0)) rec fs s = some (.bool false, s) := nrfl rfl
theorem eqL_nn (rec : Rec) (fs : Frm) (s : St) : oEqv eqL false (.v (.slice none 0 0)) (.v (.slice none 0 0)) rec fs s = some (.bool true, s) := nrfl rfl
theorem bs_0 (rec : Rec) (s : St) (h : s.next ≤ lim) : oBuildSlice 0 [] [] rec PT.nil s = some (.slice (some ⟨s.next, 0, none⟩) 0 0, an s []) := by
  rw [bs_a _ _ _ _ _ h]; rfl
/-- slices.Clone of bytes -/
theorem r60 (M : Nat) (hM : 1 ≤ M) (s : St) (v : Value) (L : List Nat) (hb : Bs s v L) (h8 : 8 ≤ s.next) (hn : s.next + 2 ≤ lim) (hL : L.length ≤ 1000) :
    ∃ v' s', callN E M 60 [v] s = some (v', s') ∧ Bs s' v' L ∧ Nw s.next v' ∧ Grew 2 s s' ∧ Own s s' := by
  have hlim : lim = 1000000000 := rfl
  obtain ⟨m, rfl⟩ : ∃ m, M = m + 1 := ⟨M - 1, by omega⟩
  rcases hb with ⟨rfl, rfl⟩ | ⟨b, rfl, h1, h2, h3⟩
  · rw [x60]
    unfold F60
    simp only [op2_s, op_s, bin_e, pick_e, not_e, ext_e, nth_z, nth_1, nth_2, nth_3, gval_e, gval_u, cmp_e, orUndef_t, orUndef_f, condV_t, condV_f, cond_true, cond_false, eqI_eq, neI_eq, ltI_eq, leI_eq, gtI_eq, geI_eq, Bool.not_true, Bool.not_false, bf_tt, bf_tf, bf_ft, bf_ff, decide_true, decide_false, oneOf_1, oneOf_2, oneOf_3, thenV_n, thenV_e, thenV_r, exV_e, exV_r, Nat.beq_refl, eq_self, eqL_nn]
    exact ⟨_, _, rfl, .inl ⟨rfl, rfl⟩, (fun b c k h => by cases h), (Grew.refl s).mono (by omega), Own.refl s⟩
  · have hx : (an s []).getC b = some (cB L) := (an_ne s [] b (by omega) (by omega)).trans h1
    have nx : (an s []).next = s.next + 1 := rfl
    have hL0 : 0 < L.length := List.length_pos_iff.2 h3
    have ap := app_emp (an s []) s.next b L.length (UNK + 1) (cB L) (callN E m) PT.nil hx (cB_len L) hL0 (by omega) (by rw [nx]; omega)
    rw [x60]
    unfold F60
    simp (disch := omega) only [op2_s, op_s, bin_e, pick_e, not_e, ext_e, nth_z, nth_1, nth_2, nth_3, gval_e, gval_u, cmp_e, orUndef_t, orUndef_f, condV_t, condV_f, cond_true, cond_false, eqI_eq, neI_eq, ltI_eq, leI_eq, gtI_eq, geI_eq, Bool.not_true, Bool.not_false, bf_tt, bf_tf, bf_ft, bf_ff, decide_true, decide_false, oneOf_1, oneOf_2, oneOf_3, thenV_n, thenV_e, thenV_r, exV_e, exV_r, Nat.beq_refl, eq_self, eqL_nil, bs_0, ap]
    refine ⟨_, _, rfl, .inr ⟨_, rfl, ?_, ?_, h3⟩, fun b c k h => by cases h; show s.next ≤ s.next + 1; omega, ?_, ?_⟩
    · rw [an_at _ _ _ (by rw [St.seen_next, nx]; omega) (cB_map L) (by rw [St.seen_next])]
    · simp only [an_next, St.seen_next]; omega
    · exact (((Grew.refl s).an _ (by omega)).seen _).an _ (by rw [St.seen_next, nx]; omega)
    · exact (((Own.refl s).an _ (by omega)).seen _ (by rw [nx]; omega)).an _ (by rw [St.seen_next, nx]; omega)
theorem or7 (n : Nat) (h : n < 128) : int2 orO (.int .u64 (n : Int)) (.int .u64 128) = some (.int .u64 ((n + 128 : Nat) : Int)) := by
  have := orU_ n 128 (by omega) (by omega)
  have e := Nat.two_pow_add_eq_or_of_lt (i := 7) (show n < 2 ^ 7 by omega) 1
  rw [Nat.or_comm, show (2 : Nat) ^ 7 * 1 = 128 from rfl] at e
  rw [← e] at this
  rw [show n + 128 = 128 + n by omega]
  exact this
/-- U, behind its clone -/
theorem U_run (M : Nat) (s0 : St) (h8 : 8 ≤ s0.next) : ∀ (f fuel w k : Nat) (L : List Nat) (v : Value) (s : St), w < 128 ^ (f + 1) → w < 18446744073709551616 → f < fuel → Bs s v L → Nw s0.next v → Grew k s0 s → Own s0 s → s.next + 2 * (f + 1) ≤ lim → L.length + f ≤ 900 →
    ∃ v' s', opt2 (loopV (B52_l0 (callN E M) M (.slice none 0 0)) fuel (v, .int .u64 (w : Int)) s) (C52_l0 (callN E M) M (.slice none 0 0)) = some (v', s') ∧ Bs s' v' (L ++ vb f w) ∧ Nw s0.next v' ∧ Grew (k + 2 * (f + 1)) s0 s' ∧ Own s0 s' := by
  intro f
  induction f with
  | zero =>
    intro fuel w k L v s hw hw' hf hb hv g o hn hL
    obtain ⟨fuel, rfl⟩ : ∃ m, fuel = m + 1 := ⟨fuel - 1, by omega⟩
    have e1 : decide (127 < (w : Int)) = false := decide_eq_false (by omega)
    obtain ⟨v', s', a1, a2, a3, a4, a5⟩ := app1 s0 s v L w k (callN E M) hb hv h8 g o (by omega) (by omega)
    rw [loopV_s, B52_l0]
    simp (disch := omega) only [op2_s, op_s, bin_e, pick_e, not_e, ext_e, nth_z, nth_1, nth_2, nth_3, gval_e, gval_u, cmp_e, orUndef_t, orUndef_f, condV_t, condV_f, cond_true, cond_false, eqI_eq, neI_eq, ltI_eq, leI_eq, gtI_eq, geI_eq, Bool.not_true, Bool.not_false, bf_tt, bf_tf, bf_ft, bf_ff, decide_true, decide_false, oneOf_1, oneOf_2, oneOf_3, thenV_n, thenV_e, thenV_r, exV_e, exV_r, Nat.beq_refl, eq_self, e1, C52_l0, J52_r0, toB, bs1, a1]
    exact ⟨_, _, rfl, a2, a3, a4, a5⟩
  | succ f ih =>
    intro fuel w k L v s hw hw' hf hb hv g o hn hL
    obtain ⟨fuel, rfl⟩ : ∃ m, fuel = m + 1 := ⟨fuel - 1, by omega⟩
    have hlim : lim = 1000000000 := rfl
    by_cases h : 127 < w
    · have e1 : decide (127 < (w : Int)) = true := decide_eq_true (by omega)
      obtain ⟨v', s', a1, a2, a3, a4, a5⟩ := app1 s0 s v L (w % 128 + 128) k (callN E M) hb hv h8 g o (by omega) (by omega)
      have n1 := a5.1
      have hx : s'.next ≤ s.next + 2 := by
        have hh := a1
        rcases hb with ⟨rfl, rfl⟩ | ⟨b, rfl, h1, h2, h3⟩
        · rw [app_nil _ _ 1 1 _ _ PT.nil (an_ati s _ _ _ _ (by omega) rfl) rfl (by omega) (by omega) (by rw [an_next]; omega)] at hh
          cases hh
          simp only [an_next, St.seen_next]; omega
        · rw [app_on _ b L.length _ 1 1 _ _ _ PT.nil ((an_ne s _ b (by omega) (by omega)).trans h1) (cB_len L) (an_ati s _ _ _ _ (by omega) rfl) rfl (by omega) (by omega) (by rw [an_next]; omega)] at hh
          cases hh
          simp only [an_next, set_next, St.seen_next]; omega
      obtain ⟨v'', s'', b1, b2, b3, b4, b5⟩ := ih fuel (w / 128) (k + 2) (L ++ [w % 128 + 128]) v' s' (by rw [Nat.pow_succ] at hw; omega) (by omega) (by omega) a2 a3 a4 a5 (by omega) (by simp; omega)
      have ev : vb (f + 1) w = (w % 128 + 128) :: vb f (w / 128) := if_pos h
      rw [loopV_s, B52_l0]
      simp (disch := omega) only [op2_s, op_s, bin_e, pick_e, not_e, ext_e, nth_z, nth_1, nth_2, nth_3, gval_e, gval_u, cmp_e, orUndef_t, orUndef_f, condV_t, condV_f, cond_true, cond_false, eqI_eq, neI_eq, ltI_eq, leI_eq, gtI_eq, geI_eq, Bool.not_true, Bool.not_false, bf_tt, bf_tf, bf_ft, bf_ff, decide_true, decide_false, oneOf_1, oneOf_2, oneOf_3, thenV_n, thenV_e, thenV_r, exV_e, exV_r, Nat.beq_refl, eq_self, e1, and7_u, or7, toB, bs1, a1, shr7_u]
      refine ⟨v'', s'', b1, ?_, b3, b4.mono (by omega), b5⟩
      rw [ev]
      rw [List.append_assoc] at b2
      exact b2
    · have e1 : decide (127 < (w : Int)) = false := decide_eq_false (by omega)
      obtain ⟨v', s', a1, a2, a3, a4, a5⟩ := app1 s0 s v L w k (callN E M) hb hv h8 g o (by omega) (by omega)
      have ev : vb (f + 1) w = [w] := if_neg h
      rw [loopV_s, B52_l0]
      simp (disch := omega) only [op2_s, op_s, bin_e, pick_e, not_e, ext_e, nth_z, nth_1, nth_2, nth_3, gval_e, gval_u, cmp_e, orUndef_t, orUndef_f, condV_t, condV_f, cond_true, cond_false, eqI_eq, neI_eq, ltI_eq, leI_eq, gtI_eq, geI_eq, Bool.not_true, Bool.not_false, bf_tt, bf_tf, bf_ft, bf_ff, decide_true, decide_false, oneOf_1, oneOf_2, oneOf_3, thenV_n, thenV_e, thenV_r, exV_e, exV_r, Nat.beq_refl, eq_self, e1, C52_l0, J52_r0, toB, bs1, a1, ev]
      exact ⟨_, _, rfl, a2, a3, a4.mono (by omega), a5⟩
/-- U -/
theorem r52 (M : Nat) (hM : 20 ≤ M) (s : St) (v : Value) (L : List Nat) (u : Nat) (hu : u < 18446744073709551616) (hb : Bs s v L) (h8 : 8 ≤ s.next) (hn : s.next + 30 ≤ lim) (hL : L.length ≤ 800) :
    ∃ v' s', callN E M 52 [v, .int .u64 (u : Int)] s = some (v', s') ∧ Bs s' v' (L ++ vb 9 u) ∧ Nw s.next v' ∧ Grew 22 s s' ∧ Own s s' := by
  obtain ⟨m, rfl⟩ : ∃ m, M = m + 1 := ⟨M - 1, by omega⟩
  obtain ⟨v1, s1, a1, a2, a3, a4, a5⟩ := r60 m (by omega) s v L hb h8 (by omega) (by omega)
  have n1 := a4.2.1
  obtain ⟨v2, s2, b1, b2, b3, b4, b5⟩ := U_run m s h8 9 m u 2 L v1 s1 (by simp; omega) hu (by omega) a2 a3 a4 a5 (by omega) (by omega)
  rw [x52]
  unfold F52
  simp only [op2_s, op_s, bin_e, pick_e, not_e, ext_e, nth_z, nth_1, nth_2, nth_3, gval_e, gval_u, cmp_e, orUndef_t, orUndef_f, condV_t, condV_f, cond_true, cond_false, eqI_eq, neI_eq, ltI_eq, leI_eq, gtI_eq, geI_eq, Bool.not_true, Bool.not_false, bf_tt, bf_tf, bf_ft, bf_ff, decide_true, decide_false, oneOf_1, oneOf_2, oneOf_3, thenV_n, thenV_e, thenV_r, exV_e, exV_r, Nat.beq_refl, eq_self, a1]
  exact ⟨v2, s2, b1, b2, b3, b4, b5⟩
theorem xor0 (n : Nat) (h : n < 18446744073709551616) : int2 xorO (.int .u64 (n : Int)) (.int .u64 ((0 : Nat) : Int)) = some (.int .u64 (n : Int)) := by
  show setI .u64 (IntKind.u64.wrap ((BitVec.ofInt 64 (n : Int) ^^^ BitVec.ofInt 64 ((0 : Nat) : Int)).toNat : Int)) = _
  have e0 : BitVec.ofInt 64 ((0 : Nat) : Int) = 0#64 := rfl
  rw [setI_eq, u64w, e0, BitVec.xor_zero]
  have e : (BitVec.ofInt 64 (n : Int)).toNat = n := by simp [BitVec.toNat_ofInt]; omega
  rw [e]
  congr 2
  omega
theorem shl1_i (n : Nat) (h : n < 4611686018427387904) : sh2 shlO (.int .i64 (n : Int)) (.int .u64 1) = some (.int .i64 ((2 * n : Nat) : Int)) := by
  show (bif ltI 1 0 then none else mkInt .i64 ((n : Int) * 2 ^ (min (1 : Int).toNat IntKind.i64.bits))) = _
  have e : (2 : Int) ^ (min (1 : Int).toNat IntKind.i64.bits) = 2 := by decide
  rw [e, mkInt_eq, wrap_i64 _ (by omega) (by omega)]
  show some (Value.int .i64 ((n : Int) * 2)) = _
  congr 2
  omega
/-- I, of a number that is not below nought -/
theorem r51 (M : Nat) (hM : 21 ≤ M) (s : St) (v : Value) (L : List Nat) (n : Nat) (hu : n < 4611686018427387904) (hb : Bs s v L) (h8 : 8 ≤ s.next) (hn : s.next + 30 ≤ lim) (hL : L.length ≤ 800) :
    ∃ v' s', callN E M 51 [v, .int .i64 (n : Int)] s = some (v', s') ∧ Bs s' v' (L ++ vb 9 (2 * n)) ∧ Nw s.next v' ∧ Grew 22 s s' ∧ Own s s' := by
  obtain ⟨m, rfl⟩ : ∃ m, M = m + 1 := ⟨M - 1, by omega⟩
  obtain ⟨v2, s2, b1, b2, b3, b4, b5⟩ := r52 m (by omega) s v L (2 * n) (by omega) hb h8 hn hL
  have e : n / 9223372036854775808 = 0 := by omega
  rw [x51]
  unfold F51
  simp (disch := omega) only [op2_s, op_s, bin_e, pick_e, not_e, ext_e, nth_z, nth_1, nth_2, nth_3, gval_e, gval_u, cmp_e, orUndef_t, orUndef_f, condV_t, condV_f, cond_true, cond_false, eqI_eq, neI_eq, ltI_eq, leI_eq, gtI_eq, geI_eq, Bool.not_true, Bool.not_false, bf_tt, bf_tf, bf_ft, bf_ff, decide_true, decide_false, oneOf_1, oneOf_2, oneOf_3, thenV_n, thenV_e, thenV_r, exV_e, exV_r, Nat.beq_refl, eq_self, shl1_i, toU, shr63_u, e, xor0, b1]
  exact ⟨v2, s2, rfl, b2, b3, b4, b5⟩
end Go.Proofs.Ytdnedangfnincaa.AbsAccO
namespace Go.Proofs.Ytdnedangfnincaa.AbsAccO
open Go Go.Abs Go.Proofs
set_option maxRecDepth 100000
set_option linter.unusedVariables false
set_option linter.unusedSimpArgs false

/-! Encode -/
theorem fa_30 (b : Nat) (rec : Rec) (fs : Frm) (s : St) : oFieldAddr 0 (.v (.pointer (some ⟨b, 3, none⟩))) rec fs s = some (.pointer (some ⟨b, 3, none⟩), s) := by rw [fieldAddr_e]
theorem fa_31 (b : Nat) (rec : Rec) (fs : Frm) (s : St) : oFieldAddr 1 (.v (.pointer (some ⟨b, 3, none⟩))) rec fs s = some (.pointer (some ⟨b, 4, none⟩), s) := by rw [fieldAddr_e]
theorem bsStill {s u : St} {v : Value} {L : List Nat} (h : Bs s v L) (g : Still s u) : Bs u v L := h.grew (k := 0) g.grew
def encB (d p q A : Nat) : List Nat := vb 9 (2 * d) ++ vb 9 (2 * p) ++ vb 9 (2 * q) ++ vb 9 (2 * (A / 18446744073709551616)) ++ vb 9 (A % 18446744073709551616)
theorem r24 (M : Nat) (hM : 22 ≤ M) (s : St) (ab d p q A : Nat) (hd : d < 4611686018427387904) (hp : p < 4611686018427387904) (hq : q < 4611686018427387904) (hA : A / 18446744073709551616 < 4611686018427387904) (hab : s.getC ab = some (accC d p q A)) (hlt : ab < s.next) (h8 : 8 ≤ s.next) (hn : s.next + 200 ≤ lim) :
    ∃ v s', callN E M 24 [.pointer (some ⟨ab, 0, none⟩)] s = some (v, s') ∧ Bs s' v (encB d p q A) ∧ Grew 110 s s' := by
  have hlim : lim = 1000000000 := rfl
  obtain ⟨m, rfl⟩ : ∃ m, M = m + 1 := ⟨M - 1, by omega⟩
  have l1 := vb_len 9 (2 * d); have l2 := vb_len 9 (2 * p); have l3 := vb_len 9 (2 * q); have l4 := vb_len 9 (2 * (A / 18446744073709551616))
  obtain ⟨s1, hs1⟩ : ∃ x, x = s.seen ab := ⟨_, rfl⟩
  have n1 : s1.next = s.next := by rw [hs1, St.seen_next]
  have G1 : Grew 0 s s1 := by rw [hs1]; exact (Grew.refl s).seen _
  obtain ⟨v1, t1, c1, b1, w1, g1, o1⟩ := r51 m (by omega) (z0 s1) (.slice none 0 0) [] d hd (.inl ⟨rfl, rfl⟩) (by rw [z0_next]; omega) (by rw [z0_next]; omega) (by simp)
  have m1 := g1.1; have m1' := g1.2.1
  rw [z0_next] at m1 m1'
  obtain ⟨s2, hs2⟩ : ∃ x, x = jn s1 t1 := ⟨_, rfl⟩
  have G2 : Grew 22 s s2 := by rw [hs2]; exact (G1.trans g1.z0).mono (by omega)
  have n2 : s2.next = t1.next := by rw [hs2]; rfl
  obtain ⟨s3, hs3⟩ : ∃ x, x = s2.seen ab := ⟨_, rfl⟩
  have n3 : s3.next = t1.next := by rw [hs3, St.seen_next, n2]
  have G3 : Grew 22 s s3 := by rw [hs3]; exact G2.seen _
  have st1 : Still t1 (z0 s3) := ⟨by rw [z0_next, n3], fun y => by rw [z0_getC, hs3, seen_getC, hs2, jn_getC]⟩
  obtain ⟨v2, t2, c2, b2, w2, g2, o2⟩ := r51 m (by omega) (z0 s3) v1 _ p hp (bsStill b1 st1) (by rw [z0_next]; omega) (by rw [z0_next]; omega) (by simp; omega)
  have m2 := g2.1; have m2' := g2.2.1
  rw [z0_next] at m2 m2'
  obtain ⟨s4, hs4⟩ : ∃ x, x = jn s3 t2 := ⟨_, rfl⟩
  have G4 : Grew 44 s s4 := by rw [hs4]; exact (G3.trans g2.z0).mono (by omega)
  have n4 : s4.next = t2.next := by rw [hs4]; rfl
  obtain ⟨s5, hs5⟩ : ∃ x, x = s4.seen ab := ⟨_, rfl⟩
  have n5 : s5.next = t2.next := by rw [hs5, St.seen_next, n4]
  have G5 : Grew 44 s s5 := by rw [hs5]; exact G4.seen _
  have st2 : Still t2 (z0 s5) := ⟨by rw [z0_next, n5], fun y => by rw [z0_getC, hs5, seen_getC, hs4, jn_getC]⟩
  obtain ⟨v3, t3, c3, b3, w3, g3, o3⟩ := r51 m (by omega) (z0 s5) v2 _ q hq (bsStill b2 st2) (by rw [z0_next]; omega) (by rw [z0_next]; omega) (by simp; omega)
  have m3 := g3.1; have m3' := g3.2.1
  rw [z0_next] at m3 m3'
  obtain ⟨s6, hs6⟩ : ∃ x, x = jn s5 t3 := ⟨_, rfl⟩
  have G6 : Grew 66 s s6 := by rw [hs6]; exact (G5.trans g3.z0).mono (by omega)
  have n6 : s6.next = t3.next := by rw [hs6]; rfl
  obtain ⟨s7, hs7⟩ : ∃ x, x = s6.seen ab := ⟨_, rfl⟩
  have n7 : s7.next = t3.next := by rw [hs7, St.seen_next, n6]
  have G7 : Grew 66 s s7 := by rw [hs7]; exact G6.seen _
  have st3 : Still t3 (z0 s7) := ⟨by rw [z0_next, n7], fun y => by rw [z0_getC, hs7, seen_getC, hs6, jn_getC]⟩
  obtain ⟨v4, t4', c4, b4, w4, g4, o4⟩ := r51 m (by omega) (z0 s7) v3 _ _ hA (bsStill b3 st3) (by rw [z0_next]; omega) (by rw [z0_next]; omega) (by simp; omega)
  have m4 := g4.1; have m4' := g4.2.1
  rw [z0_next] at m4 m4'
  obtain ⟨s8, hs8⟩ : ∃ x, x = jn s7 t4' := ⟨_, rfl⟩
  have G8 : Grew 88 s s8 := by rw [hs8]; exact (G7.trans g4.z0).mono (by omega)
  have n8 : s8.next = t4'.next := by rw [hs8]; rfl
  obtain ⟨s9, hs9⟩ : ∃ x, x = s8.seen ab := ⟨_, rfl⟩
  have n9 : s9.next = t4'.next := by rw [hs9, St.seen_next, n8]
  have G9 : Grew 88 s s9 := by rw [hs9]; exact G8.seen _
  have st4 : Still t4' (z0 s9) := ⟨by rw [z0_next, n9], fun y => by rw [z0_getC, hs9, seen_getC, hs8, jn_getC]⟩
  obtain ⟨v5, t5', c5, b5, w5, g5, o5⟩ := r52 m (by omega) (z0 s9) v4 _ (A % 18446744073709551616) (by omega) (bsStill b4 st4) (by rw [z0_next]; omega) (by rw [z0_next]; omega) (by simp; omega)
  obtain ⟨s10, hs10⟩ : ∃ x, x = jn s9 t5' := ⟨_, rfl⟩
  have G10 : Grew 110 s s10 := by rw [hs10]; exact (G9.trans g5.z0).mono (by omega)
  have st5 : Still t5' s10 := ⟨by rw [hs10]; rfl, fun y => by rw [hs10, jn_getC]⟩
  have q1 := rU_c v1 PT.nil s1 t1
  have q2 := rU_c v2 PT.nil s3 t2
  have q3 := rU_c v3 PT.nil s5 t3
  have q4 := rU_c v4 PT.nil s7 t4'
  have q5 := rU_c v5 PT.nil s9 t5'
  rw [← hs2] at q1
  rw [← hs4] at q2
  rw [← hs6] at q3
  rw [← hs8] at q4
  rw [← hs10] at q5
  have x0 := hab
  have x2 := (G2.2.2 ab hlt).trans hab
  have x4 := (G4.2.2 ab hlt).trans hab
  have x6 := (G6.2.2 ab hlt).trans hab
  have x8 := (G8.2.2 ab hlt).trans hab
  unfold accC at x0 x2 x4 x6 x8
  rw [x24]
  unfold F24
  simp only [z0_e]
  simp (disch := (first | omega | (simp only [an_next, set_next, St.seen_next, jn_next, z0_next]; try omega; done))) only [op2_s, op_s, bin_e, pick_e, not_e, ext_e, nth_z, nth_1, nth_2, nth_3, gval_e, gval_u, cmp_e, orUndef_t, orUndef_f, condV_t, condV_f, cond_true, cond_false, eqI_eq, neI_eq, ltI_eq, leI_eq, gtI_eq, geI_eq, Bool.not_true, Bool.not_false, bf_tt, bf_tf, bf_ft, bf_ff, decide_true, decide_false, oneOf_1, oneOf_2, oneOf_3, thenV_n, thenV_e, thenV_r, exV_e, exV_r, Nat.beq_refl, eq_self, new_a, boxA, an_ati, an_atp, an_ats, an_atb, an_ne, set_ati, set_atp, set_ats, set_atb, set_ne, seen_getC, loadn_o, store_2, store_i, store_b, store_s, store_p, load_u, cut_22, put_22, cut_53, cut_55, put_55, put_50, put_51, put_52, put_53, store_5, nth_z, nth_1, nth_2, nth_3, nth_4, nil_u, fa_0, an_next, set_next, St.seen_next, jn_next, z0_next, jn_getC, z0_getC, rU_z, rU_seen, rU_set, rU_an, rU_sl, mov_v, x0, ← hs1, c1, q1, x2, ← hs3, c2, q2, x4, ← hs5, c3, q3]
  rw [apartIs (n0 := s.next) (fun _ => s.next) [0, 0, 0, 0, 50, 0, 0, 0, 0, 50, 0, 0, 0, 0, 50, 0] ?hc ?h0 ?hk _ (by kernel_rfl), cond_true]
  · simp (disch := (first | omega | (simp only [an_next, set_next, St.seen_next, jn_next, z0_next]; try omega; done))) only [op2_s, op_s, bin_e, pick_e, not_e, ext_e, nth_z, nth_1, nth_2, nth_3, gval_e, gval_u, cmp_e, orUndef_t, orUndef_f, condV_t, condV_f, cond_true, cond_false, eqI_eq, neI_eq, ltI_eq, leI_eq, gtI_eq, geI_eq, Bool.not_true, Bool.not_false, bf_tt, bf_tf, bf_ft, bf_ff, decide_true, decide_false, oneOf_1, oneOf_2, oneOf_3, thenV_n, thenV_e, thenV_r, exV_e, exV_r, Nat.beq_refl, eq_self, new_a, boxA, an_ati, an_atp, an_ats, an_atb, an_ne, set_ati, set_atp, set_ats, set_atb, set_ne, seen_getC, loadn_o, store_2, store_i, store_b, store_s, store_p, load_u, cut_22, put_22, cut_53, cut_55, put_55, put_50, put_51, put_52, put_53, store_5, nth_z, nth_1, nth_2, nth_3, nth_4, nil_u, fa_0, an_next, set_next, St.seen_next, jn_next, z0_next, jn_getC, z0_getC, rU_z, rU_seen, rU_set, rU_an, rU_sl, mov_v, fa_30, fa_31, x6, ← hs7, c4, q4, x8, ← hs9, c5, q5]
    rw [apartIs (n0 := s.next) (fun _ => s.next) [0, 0, 0, 0, 0, 0, 50, 0, 0, 0, 0, 0, 50, 0] ?hc2 ?h02 ?hk2 _ (by kernel_rfl), cond_true]
    · refine ⟨_, _, rfl, ?_, G10⟩
      have b := bsStill b5 st5
      unfold encB
      rw [List.nil_append] at b
      exact b
    case hc2 => exact fun i j _ _ => Nat.le_refl _
    case h02 => exact fun i _ => Nat.le_refl _
    case hk2 =>
      exact ⟨kI (KI.pure _ _ _ _ _) (by decide), kI (KI.pure _ _ _ _ _) (by decide), kI (KI.pure _ _ _ _ _) (by decide), kI (KI.pure _ _ _ _ _) (by decide), kI (KI.pure _ _ _ _ _) (by decide), kI (KI.ld _ _ _ _ _ _ _ hlt) (by decide), kW (KW.own _ _ _ _ o4 (by omega)),
        kI (KI.pure _ _ _ _ _) (by decide), kI (KI.pure _ _ _ _ _) (by decide), kI (KI.pure _ _ _ _ _) (by decide), kI (KI.pure _ _ _ _ _) (by decide), kI (KI.ld _ _ _ _ _ _ _ hlt) (by decide), kW (KW.own _ _ _ _ o5 (by omega)), kI (KI.pure _ _ _ _ _) (by decide), trivial⟩
  case hc => exact fun i j _ _ => Nat.le_refl _
  case h0 => exact fun i _ => Nat.le_refl _
  case hk =>
    exact ⟨kI (KI.pure _ _ _ _ _) (by decide), kI (KI.pure _ _ _ _ _) (by decide), kI (KI.pure _ _ _ _ _) (by decide), kI (KI.ld _ _ _ _ _ _ _ hlt) (by decide), kW (KW.own _ _ _ _ o1 (by omega)),
      kI (KI.pure _ _ _ _ _) (by decide), kI (KI.pure _ _ _ _ _) (by decide), kI (KI.pure _ _ _ _ _) (by decide), kI (KI.ld _ _ _ _ _ _ _ hlt) (by decide), kW (KW.own _ _ _ _ o2 (by omega)),
      kI (KI.pure _ _ _ _ _) (by decide), kI (KI.pure _ _ _ _ _) (by decide), kI (KI.pure _ _ _ _ _) (by decide), kI (KI.ld _ _ _ _ _ _ _ hlt) (by decide), kW (KW.own _ _ _ _ o3 (by omega)), kI (KI.pure _ _ _ _ _) (by decide), trivial⟩
end Go.Proofs.Ytdnedangfnincaa.AbsAccO
namespace Go.Proofs.Ytdnedangfnincaa.AbsAccO
open Go Go.Abs Go.Proofs
set_option maxRecDepth 100000
set_option linter.unusedVariables false
set_option linter.unusedSimpArgs false

attribute [local congr] h_opt2 h_opt h_condV h_cond
/-! numbers read from bytes -/
/-- a reader at rb: it stands at o of the bytes L, that lie in b -/
structure Rdr (s : St) (rb b : Nat) (L : List Nat) (o : Nat) : Prop where
  cell : s.getC rb = some [.slice (some ⟨b, o, none⟩) (L.length - o) (UNK + 1), .bool false]
  bytes : s.getC b = some (cB L)
  ne : b ≠ rb
  rl : rb < s.next
  bl : b < s.next
  r8 : 8 ≤ rb
  le : o ≤ L.length
theorem Rdr.still {s u : St} {rb b : Nat} {L : List Nat} {o : Nat} (h : Rdr s rb b L o) (g : Still s u) : Rdr u rb b L o :=
  ⟨(g.2 _).trans h.cell, (g.2 _).trans h.bytes, h.ne, by rw [g.1]; exact h.rl, by rw [g.1]; exact h.bl, h.r8, h.le⟩
theorem vb_last (f u : Nat) (h : u ≤ 127) : vb f u = [u] := by
  cases f with
  | zero => rfl
  | succ f => exact if_neg (by omega)
theorem vb_more (f u : Nat) (h : 127 < u) : vb (f + 1) u = (u % 128 + 128) :: vb f (u / 128) := if_pos h
theorem pow_128 (i : Nat) : 2 ^ (7 * i) = 128 ^ i := by rw [Nat.pow_mul]
theorem or_mod (u i : Nat) : (u % 128 ^ i) ||| (u / 128 ^ i % 128 * 128 ^ i) = u % 128 ^ (i + 1) := by
  have h1 : u % 128 ^ i < 2 ^ (7 * i) := by rw [pow_128]; exact Nat.mod_lt _ (Nat.pow_pos (by omega))
  have h2 := Nat.two_pow_add_eq_or_of_lt (i := 7 * i) h1 (u / 128 ^ i % 128)
  rw [pow_128] at h2
  rw [Nat.or_comm, Nat.mul_comm, ← h2, Nat.pow_succ, Nat.mod_mul, Nat.add_comm]
noncomputable abbrev lp (m rb b o n fuel : Nat) (z : Value) (a i : Nat) (s : St) := loopV (B41_l0 (callN E m) m (.pointer (some ⟨rb, 0, none⟩), .slice (some ⟨b, o, none⟩) n (UNK + 1), .int .i64 (n : Int))) fuel (z, .int .u64 (a : Int), .int .i64 (i : Int)) s
theorem mul7 (i : Nat) (h : i ≤ 9) : int2 mulO (.int .u64 7) (.int .u64 (i : Int)) = some (.int .u64 ((7 * i : Nat) : Int)) := mulU 7 i (by omega)
/-- the bits of one byte more -/
theorem shl_at (w i : Nat) (hi : i ≤ 9) (h : w * 2 ^ (7 * i) < 18446744073709551616) : sh2 shlO (.int .u64 (w : Int)) (.int .u64 ((7 * i : Nat) : Int)) = some (.int .u64 ((w * 128 ^ i : Nat) : Int)) := by
  rw [shlU w (7 * i) (by omega), Nat.mod_eq_of_lt h, pow_128]
theorem mod_lt_u {u : Nat} (hu : u < 18446744073709551616) (k : Nat) : u % k < 18446744073709551616 := Nat.lt_of_le_of_lt (Nat.mod_le _ _) hu
theorem part_lt {u : Nat} (hu : u < 18446744073709551616) (i : Nat) : u / 128 ^ i % 128 * 128 ^ i < 18446744073709551616 := by
  have h1 : u / 128 ^ i % 128 * 128 ^ i ≤ u / 128 ^ i * 128 ^ i := Nat.mul_le_mul_right _ (Nat.mod_le _ _)
  have h2 := Nat.div_mul_le_self u (128 ^ i)
  omega
theorem more41 (m rb b o : Nat) (L rest : List Nat) (u : Nat) (hu : u < 18446744073709551616) (hL : L.length ≤ 1000) (s0 s : St) (hr : Rdr s0 rb b L o) (i fuel : Nat) (z : Value) (hs : Still s0 s) (hi : i < 9)
    (hd : L.drop (o + i) = (u / 128 ^ i % 128 + 128) :: rest) :
    ∃ z' s', lp m rb b o (L.length - o) (fuel + 1) z (u % 128 ^ i) i s = lp m rb b o (L.length - o) fuel z' (u % 128 ^ (i + 1)) (i + 1) s' ∧ Still s0 s' := by
  have hlen := congrArg List.length hd
  rw [List.length_drop, List.length_cons] at hlen
  have e1 : decide ((i : Int) < ((L.length - o : Nat) : Int)) = true := decide_eq_true (by omega)
  have hidx := idxL_e 1 b o (L.length - o) (UNK + 1) i (callN E m) PT.nil s (by omega)
  rw [Nat.mul_one] at hidx
  have g0 := (hs.2 b).trans hr.bytes
  have hn := nth_cB hd
  have e2 : decide ((i : Int) = 9) = false := decide_eq_false (by omega)
  have a1 := and127_8 (u / 128 ^ i % 128 + 128) (by omega)
  rw [show (u / 128 ^ i % 128 + 128) % 128 = u / 128 ^ i % 128 by omega] at a1
  have sh := shl_at (u / 128 ^ i % 128) i (by omega) (by rw [pow_128]; exact part_lt hu i)
  have orr := orU_ (u % 128 ^ i) (u / 128 ^ i % 128 * 128 ^ i) (mod_lt_u hu _) (part_lt hu i)
  rw [or_mod] at orr
  have m7 := mul7 i (by omega)
  have e3 : decide ((128 : Int) ≤ ((u / 128 ^ i % 128 + 128 : Nat) : Int)) = true := decide_eq_true (by omega)
  have ad : int2 addO (.int .i64 (i : Int)) (.int .i64 1) = some (.int .i64 ((i + 1 : Nat) : Int)) := by rw [add_e _ _ (by omega) (by omega)]; rfl
  refine ⟨z, s.seen b, ?_, hs.trans (Still.seen s b)⟩
  show loopV _ (fuel + 1) _ _ = _
  rw [loopV_s, B41_l0]
  simp (disch := omega) only [op2_s, op_s, bin_e, pick_e, not_e, ext_e, nth_z, nth_1, nth_2, nth_3, gval_e, gval_u, cmp_e, orUndef_t, orUndef_f, condV_t, condV_f, cond_true, cond_false, eqI_eq, neI_eq, ltI_eq, leI_eq, gtI_eq, geI_eq, Bool.not_true, Bool.not_false, bf_tt, bf_tf, bf_ft, bf_ff, decide_true, decide_false, oneOf_1, oneOf_2, oneOf_3, thenV_n, thenV_e, thenV_r, exV_e, exV_r, Nat.beq_refl, eq_self, e1, hidx, load_u, g0, hn, e2, a1, toU, m7, sh, orr, e3, ad]
theorem last41 (m rb b o : Nat) (L rest : List Nat) (u : Nat) (hu : u < 18446744073709551616) (hL : L.length ≤ 1000) (s0 s : St) (hr : Rdr s0 rb b L o) (i fuel : Nat) (z : Value) (hs : Still s0 s) (hi : i ≤ 9) (hn1 : s0.next ≤ lim)
    (hw : u / 128 ^ i ≤ 127) (hw9 : i = 9 → u / 128 ^ i ≤ 1) (hpos : i = 0 ∨ 0 < u / 128 ^ i) (hd : L.drop (o + i) = (u / 128 ^ i) :: rest) :
    ∃ x y s', lp m rb b o (L.length - o) (fuel + 1) z (u % 128 ^ i) i s = some (.ret, ((.int .u64 (u : Int), x, y), s')) ∧ Rdr s' rb b L (o + i + 1) ∧ s'.next = s0.next ∧ ∀ y, y ≠ rb → s'.getC y = s0.getC y := by
  have hlim : lim = 1000000000 := rfl
  have hlen := congrArg List.length hd
  rw [List.length_drop, List.length_cons] at hlen
  have e1 : decide ((i : Int) < ((L.length - o : Nat) : Int)) = true := decide_eq_true (by omega)
  have hidx := idxL_e 1 b o (L.length - o) (UNK + 1) i (callN E m) PT.nil s (by omega)
  rw [Nat.mul_one] at hidx
  have g0 := (hs.2 b).trans hr.bytes
  have hn := nth_cB hd
  have a1 := and127_8 (u / 128 ^ i) (by omega)
  have em : u / 128 ^ i % 128 = u / 128 ^ i := Nat.mod_eq_of_lt (by omega)
  have pl := part_lt hu i
  have om := or_mod u i
  rw [em] at a1 pl om
  have sh := shl_at (u / 128 ^ i) i hi (by rw [pow_128]; exact pl)
  have orr := orU_ (u % 128 ^ i) (u / 128 ^ i * 128 ^ i) (mod_lt_u hu _) pl
  have eu : u % 128 ^ (i + 1) = u := Nat.mod_eq_of_lt (by
    have h := (Nat.div_lt_iff_lt_mul (y := 128) (Nat.pow_pos (n := i) (show 0 < 128 by omega))).1 (show u / 128 ^ i < 128 by omega)
    rw [Nat.pow_succ, Nat.mul_comm]
    exact h)
  rw [om, eu] at orr
  have m7 := mul7 i hi
  have e3 : decide ((128 : Int) ≤ ((u / 128 ^ i : Nat) : Int)) = false := decide_eq_false (by omega)
  have ad : int2 addO (.int .i64 (i : Int)) (.int .i64 1) = some (.int .i64 ((i + 1 : Nat) : Int)) := by rw [add_e _ _ (by omega) (by omega)]; rfl
  have sl := sl_u b o (L.length - o) (i + 1) (callN E m) ((s.seen b).seen rb) (by omega)
  have gr := (hs.2 rb).trans hr.cell
  have fin : ∀ x y : Value, ∃ (x' y' : Value) (s' : St), some (AExit.ret, (((Value.int .u64 (u : Int)), x, y), ((s.seen b).seen rb).set rb (some [.slice (some ⟨b, o + (i + 1), none⟩) (L.length - o - (i + 1)) (UNK + 1), .bool false]))) = some (AExit.ret, ((Value.int .u64 (u : Int), x', y'), s')) ∧ Rdr s' rb b L (o + i + 1) ∧ s'.next = s0.next ∧ ∀ y, y ≠ rb → s'.getC y = s0.getC y := fun x y => by
    have b1 := hr.rl; have b2 := hr.bl
    refine ⟨x, y, _, rfl, ⟨?_, ?_, hr.ne, ?_, ?_, hr.r8, by omega⟩, ?_, fun y hy => ?_⟩
    · rw [set_ats _ _ _ _ _ _ _ hr.r8 (by omega) rfl, show L.length - o - (i + 1) = L.length - (o + i + 1) by omega, show o + (i + 1) = o + i + 1 by omega]
    · rw [set_ne _ _ _ _ (by omega) hr.ne, seen_getC, seen_getC, g0]
    · rw [set_next, St.seen_next, St.seen_next, hs.1]; exact b1
    · rw [set_next, St.seen_next, St.seen_next, hs.1]; exact b2
    · rw [set_next, St.seen_next, St.seen_next, hs.1]
    · rw [set_ne _ _ _ _ (by omega) hy, seen_getC, seen_getC, hs.2]
  show ∃ x y s', loopV _ (fuel + 1) _ _ = _ ∧ _
  rw [loopV_s, B41_l0]
  by_cases h9 : i = 9
  · have e2 : decide ((i : Int) = 9) = true := decide_eq_true (by omega)
    have e4 : decide ((1 : Int) < ((u / 128 ^ i : Nat) : Int)) = false := decide_eq_false (by have := hw9 h9; omega)
    have e5 : decide (((u / 128 ^ i : Nat) : Int) = 0) = false := decide_eq_false (by omega)
    simp (disch := omega) only [op2_s, op_s, bin_e, pick_e, not_e, ext_e, nth_z, nth_1, nth_2, nth_3, gval_e, gval_u, cmp_e, orUndef_t, orUndef_f, condV_t, condV_f, cond_true, cond_false, eqI_eq, neI_eq, ltI_eq, leI_eq, gtI_eq, geI_eq, Bool.not_true, Bool.not_false, bf_tt, bf_tf, bf_ft, bf_ff, decide_true, decide_false, oneOf_1, oneOf_2, oneOf_3, thenV_n, thenV_e, thenV_r, exV_e, exV_r, Nat.beq_refl, eq_self, new_a, boxA, an_ati, an_atp, an_ats, an_atb, an_ne, set_ati, set_atp, set_ats, set_atb, set_ne, seen_getC, loadn_o, store_2, store_i, store_b, store_s, store_p, load_u, cut_22, put_22, cut_53, cut_55, put_55, put_50, put_51, put_52, put_53, store_5, nth_z, nth_1, nth_2, nth_3, nth_4, nil_u, fa_0, an_next, set_next, St.seen_next, jn_next, z0_next, jn_getC, z0_getC, rU_z, rU_seen, rU_set, rU_an, rU_sl, put_20, e1, hidx, load_u, g0, hn, e2, e4, a1, toU, m7, sh, orr, e3, e5, ad, gr, sl]
    exact fin _ _
  · have e2 : decide ((i : Int) = 9) = false := decide_eq_false (by omega)
    by_cases h0 : u / 128 ^ i = 0
    · have e5 : decide (((u / 128 ^ i : Nat) : Int) = 0) = true := decide_eq_true (by omega)
      have e6 : decide (0 < (i : Int)) = false := decide_eq_false (by omega)
      simp (disch := omega) only [op2_s, op_s, bin_e, pick_e, not_e, ext_e, nth_z, nth_1, nth_2, nth_3, gval_e, gval_u, cmp_e, orUndef_t, orUndef_f, condV_t, condV_f, cond_true, cond_false, eqI_eq, neI_eq, ltI_eq, leI_eq, gtI_eq, geI_eq, Bool.not_true, Bool.not_false, bf_tt, bf_tf, bf_ft, bf_ff, decide_true, decide_false, oneOf_1, oneOf_2, oneOf_3, thenV_n, thenV_e, thenV_r, exV_e, exV_r, Nat.beq_refl, eq_self, new_a, boxA, an_ati, an_atp, an_ats, an_atb, an_ne, set_ati, set_atp, set_ats, set_atb, set_ne, seen_getC, loadn_o, store_2, store_i, store_b, store_s, store_p, load_u, cut_22, put_22, cut_53, cut_55, put_55, put_50, put_51, put_52, put_53, store_5, nth_z, nth_1, nth_2, nth_3, nth_4, nil_u, fa_0, an_next, set_next, St.seen_next, jn_next, z0_next, jn_getC, z0_getC, rU_z, rU_seen, rU_set, rU_an, rU_sl, put_20, e1, hidx, load_u, g0, hn, e2, a1, toU, m7, sh, orr, e3, e5, e6, ad, gr, sl]
      exact fin _ _
    · have e5 : decide (((u / 128 ^ i : Nat) : Int) = 0) = false := decide_eq_false (by omega)
      simp (disch := omega) only [op2_s, op_s, bin_e, pick_e, not_e, ext_e, nth_z, nth_1, nth_2, nth_3, gval_e, gval_u, cmp_e, orUndef_t, orUndef_f, condV_t, condV_f, cond_true, cond_false, eqI_eq, neI_eq, ltI_eq, leI_eq, gtI_eq, geI_eq, Bool.not_true, Bool.not_false, bf_tt, bf_tf, bf_ft, bf_ff, decide_true, decide_false, oneOf_1, oneOf_2, oneOf_3, thenV_n, thenV_e, thenV_r, exV_e, exV_r, Nat.beq_refl, eq_self, new_a, boxA, an_ati, an_atp, an_ats, an_atb, an_ne, set_ati, set_atp, set_ats, set_atb, set_ne, seen_getC, loadn_o, store_2, store_i, store_b, store_s, store_p, load_u, cut_22, put_22, cut_53, cut_55, put_55, put_50, put_51, put_52, put_53, store_5, nth_z, nth_1, nth_2, nth_3, nth_4, nil_u, fa_0, an_next, set_next, St.seen_next, jn_next, z0_next, jn_getC, z0_getC, rU_z, rU_seen, rU_set, rU_an, rU_sl, put_20, e1, hidx, load_u, g0, hn, e2, a1, toU, m7, sh, orr, e3, e5, ad, gr, sl]
      exact fin _ _
theorem b41 (m rb b o : Nat) (L rest : List Nat) (u : Nat) (hu : u < 18446744073709551616) (hL : L.length ≤ 1000) (s0 : St) (hr : Rdr s0 rb b L o) (hn1 : s0.next ≤ lim) :
    ∀ (f i fuel : Nat) (s : St) (z : Value), Still s0 s → f + i = 9 → f < fuel → (i = 0 ∨ 0 < u / 128 ^ i) → L.drop (o + i) = vb f (u / 128 ^ i) ++ rest →
    ∃ x y s', lp m rb b o (L.length - o) fuel z (u % 128 ^ i) i s = some (.ret, ((.int .u64 (u : Int), x, y), s')) ∧ Rdr s' rb b L (o + i + (vb f (u / 128 ^ i)).length) ∧ s'.next = s0.next ∧ ∀ y, y ≠ rb → s'.getC y = s0.getC y := by
  intro f
  induction f with
  | zero =>
    intro i fuel s z hs hf hfu hpos hd
    obtain rfl : i = 9 := by omega
    obtain ⟨fuel, rfl⟩ : ∃ k, fuel = k + 1 := ⟨fuel - 1, by omega⟩
    have h9 : u / 128 ^ 9 ≤ 1 := by
      have : (128 : Nat) ^ 9 = 9223372036854775808 := rfl
      omega
    rw [vb_last 0 _ (by omega)] at hd ⊢
    exact last41 m rb b o L rest u hu hL s0 s hr 9 fuel z hs (by omega) hn1 (by omega) (fun _ => h9) hpos hd
  | succ f ih =>
    intro i fuel s z hs hf hfu hpos hd
    obtain ⟨fuel, rfl⟩ : ∃ k, fuel = k + 1 := ⟨fuel - 1, by omega⟩
    by_cases h : 127 < u / 128 ^ i
    · rw [vb_more f _ h] at hd ⊢
      obtain ⟨z', s', a1, a2⟩ := more41 m rb b o L _ u hu hL s0 s hr i fuel z hs (by omega) hd
      have ed : u / 128 ^ (i + 1) = u / 128 ^ i / 128 := by rw [Nat.pow_succ, Nat.div_div_eq_div_mul]
      have hd' : L.drop (o + (i + 1)) = vb f (u / 128 ^ (i + 1)) ++ rest := by
        rw [ed]
        have := congrArg (List.drop 1) hd
        rw [List.drop_drop] at this
        exact this
      obtain ⟨x, y, s'', b1, b2, b3, b4⟩ := ih (i + 1) fuel s' z' a2 (by omega) (by omega) (.inr (by rw [ed]; omega)) hd'
      refine ⟨x, y, s'', a1.trans b1, ?_, b3, b4⟩
      rw [ed] at b2
      rw [List.length_cons, show o + i + ((vb f (u / 128 ^ i / 128)).length + 1) = o + (i + 1) + (vb f (u / 128 ^ i / 128)).length by omega]
      exact b2
    · rw [vb_last (f + 1) _ (by omega)] at hd ⊢
      exact last41 m rb b o L rest u hu hL s0 s hr i fuel z hs (by omega) hn1 (by omega) (fun e => by omega) hpos hd
/-- U -/
theorem r41 (M : Nat) (hM : 20 ≤ M) (s : St) (rb b o : Nat) (L rest : List Nat) (u : Nat) (hu : u < 18446744073709551616) (hL : L.length ≤ 1000) (hr : Rdr s rb b L o) (hn1 : s.next ≤ lim) (hd : L.drop o = vb 9 u ++ rest) :
    ∃ s', callN E M 41 [.pointer (some ⟨rb, 0, none⟩)] s = some (.int .u64 (u : Int), s') ∧ Rdr s' rb b L (o + (vb 9 u).length) ∧ s'.next = s.next ∧ ∀ y, y ≠ rb → s'.getC y = s.getC y := by
  obtain ⟨m, rfl⟩ : ∃ m, M = m + 1 := ⟨M - 1, by omega⟩
  have e1 : u / 128 ^ 0 = u := by simp
  have e2 : u % 128 ^ 0 = 0 := Nat.mod_one u
  have st := Still.seen s rb
  obtain ⟨x, y, s', a1, a2, a3, a4⟩ := b41 m rb b o L rest u hu hL s hr hn1 9 0 m (s.seen rb) (.int .u64 0) st rfl (by omega) (.inl rfl) (by rw [e1]; exact hd)
  rw [e1] at a2
  rw [e2] at a1
  have g0 := hr.cell
  have a1 : loopV (B41_l0 (callN E m) m (.pointer (some ⟨rb, 0, none⟩), .slice (some ⟨b, o, none⟩) (L.length - o) (UNK + 1), .int .i64 ((L.length - o : Nat) : Int))) m (.int .u64 0, .int .u64 0, .int .i64 0) (s.seen rb) = _ := a1
  rw [x41]
  unfold F41
  simp only [op2_s, op_s, bin_e, pick_e, not_e, ext_e, nth_z, nth_1, nth_2, nth_3, gval_e, gval_u, cmp_e, orUndef_t, orUndef_f, condV_t, condV_f, cond_true, cond_false, eqI_eq, neI_eq, ltI_eq, leI_eq, gtI_eq, geI_eq, Bool.not_true, Bool.not_false, bf_tt, bf_tf, bf_ft, bf_ff, decide_true, decide_false, oneOf_1, oneOf_2, oneOf_3, thenV_n, thenV_e, thenV_r, exV_e, exV_r, Nat.beq_refl, eq_self, new_a, boxA, an_ati, an_atp, an_ats, an_atb, an_ne, set_ati, set_atp, set_ats, set_atb, set_ne, seen_getC, loadn_o, store_2, store_i, store_b, store_s, store_p, load_u, cut_22, put_22, cut_53, cut_55, put_55, put_50, put_51, put_52, put_53, store_5, nth_z, nth_1, nth_2, nth_3, nth_4, nil_u, fa_0, an_next, set_next, St.seen_next, jn_next, z0_next, jn_getC, z0_getC, rU_z, rU_seen, rU_set, rU_an, rU_sl, g0, lenL_e, a1, C41_l0]
  exact ⟨s', rfl, a2, a3, a4⟩
end Go.Proofs.Ytdnedangfnincaa.AbsAccO
namespace Go.Proofs.Ytdnedangfnincaa.AbsAccO
open Go Go.Abs Go.Proofs
set_option maxRecDepth 100000
set_option linter.unusedVariables false
set_option linter.unusedSimpArgs false

attribute [local congr] h_opt2 h_opt h_condV h_cond
/-! Decode -/
theorem xor0I (n : Nat) (h : n < 9223372036854775808) (z : Int) (hz : z = 0) : int2 xorO (.int .i64 (n : Int)) (.int .i64 z) = some (.int .i64 (n : Int)) := by
  subst hz
  show setI .i64 (IntKind.i64.wrap ((BitVec.ofInt 64 (n : Int) ^^^ BitVec.ofInt 64 0).toNat : Int)) = _
  have e0 : BitVec.ofInt 64 0 = 0#64 := rfl
  rw [setI_eq, e0, BitVec.xor_zero]
  have e : (BitVec.ofInt 64 (n : Int)).toNat = n := by simp [BitVec.toNat_ofInt]; omega
  rw [e, wrap_i64 _ (by omega) (by omega)]
theorem neg0 (rec : Rec) (s : St) : oNeg (.v (.int .i64 ((0 : Nat) : Int))) rec PT.nil s = some (.int .i64 0, s) := nrfl rfl
theorem r40 (M : Nat) (hM : 21 ≤ M) (s : St) (rb b o : Nat) (L rest : List Nat) (n : Nat) (hu : n < 4611686018427387904) (hL : L.length ≤ 1000) (hr : Rdr s rb b L o) (hn1 : s.next ≤ lim) (hd : L.drop o = vb 9 (2 * n) ++ rest) :
    ∃ s', callN E M 40 [.pointer (some ⟨rb, 0, none⟩)] s = some (.int .i64 (n : Int), s') ∧ Rdr s' rb b L (o + (vb 9 (2 * n)).length) ∧ s'.next = s.next ∧ ∀ y, y ≠ rb → s'.getC y = s.getC y := by
  obtain ⟨m, rfl⟩ : ∃ m, M = m + 1 := ⟨M - 1, by omega⟩
  obtain ⟨s', a1, a2, a3, a4⟩ := r41 m (by omega) s rb b o L rest (2 * n) (by omega) hL hr hn1 hd
  have e1 : 2 * n / 2 = n := by omega
  have e2 : 2 * n % 2 = 0 := by omega
  rw [x40]
  unfold F40
  simp (disch := omega) only [op2_s, op_s, bin_e, pick_e, not_e, ext_e, nth_z, nth_1, nth_2, nth_3, gval_e, gval_u, cmp_e, orUndef_t, orUndef_f, condV_t, condV_f, cond_true, cond_false, eqI_eq, neI_eq, ltI_eq, leI_eq, gtI_eq, geI_eq, Bool.not_true, Bool.not_false, bf_tt, bf_tf, bf_ft, bf_ff, decide_true, decide_false, oneOf_1, oneOf_2, oneOf_3, thenV_n, thenV_e, thenV_r, exV_e, exV_r, Nat.beq_refl, eq_self, a1, shr1_u, e1, toI, and1_u, e2, neg0, xor0I]
  exact ⟨s', rfl, a2, a3, a4⟩
theorem bs2 (a : Addr) (n k : Nat) (rec : Rec) (s : St) : oBuild [(.slice none 0 0), (.bool false)] [(0, 1, (.v (.slice (some a) n k)))] rec PT.nil s = some (aggOf [.slice (some a) n k, .bool false], s) := nrfl rfl
/-- Read -/
theorem r39 (M : Nat) (hM : 2 ≤ M) (s : St) (v : Value) (L : List Nat) (hb : Bs s v L) (hne : L ≠ []) (h8 : 8 ≤ s.next) (hn : s.next + 4 ≤ lim) (hL : L.length ≤ 1000) :
    ∃ rb b s', callN E M 39 [v] s = some (.pointer (some ⟨rb, 0, none⟩), s') ∧ Rdr s' rb b L 0 ∧ Grew 3 s s' ∧ s.next ≤ rb ∧ s.next ≤ b := by
  have hlim : lim = 1000000000 := rfl
  obtain ⟨m, rfl⟩ : ∃ m, M = m + 1 := ⟨M - 1, by omega⟩
  obtain ⟨v1, s1, a1, a2, a3, a4, a5⟩ := r60 m (by omega) s v L hb h8 (by omega) hL
  have g1 := a4.1; have g2 := a4.2.1
  rcases a2 with ⟨h, _⟩ | ⟨b, rfl, h1, h2, _⟩
  · exact absurd h hne
  · have hb' : s.next ≤ b := a3 _ _ _ rfl
    rw [x39]
    unfold F39
    simp (disch := (first | omega | (simp only [an_next, set_next, St.seen_next, jn_next, z0_next]; try omega; done))) only [op2_s, op_s, bin_e, pick_e, not_e, ext_e, nth_z, nth_1, nth_2, nth_3, gval_e, gval_u, cmp_e, orUndef_t, orUndef_f, condV_t, condV_f, cond_true, cond_false, eqI_eq, neI_eq, ltI_eq, leI_eq, gtI_eq, geI_eq, Bool.not_true, Bool.not_false, bf_tt, bf_tf, bf_ft, bf_ff, decide_true, decide_false, oneOf_1, oneOf_2, oneOf_3, thenV_n, thenV_e, thenV_r, exV_e, exV_r, Nat.beq_refl, eq_self, new_a, boxA, an_ati, an_atp, an_ats, an_atb, an_ne, set_ati, set_atp, set_ats, set_atb, set_ne, seen_getC, loadn_o, store_2, store_i, store_b, store_s, store_p, load_u, cut_22, put_22, cut_53, cut_55, put_55, put_50, put_51, put_52, put_53, store_5, nth_z, nth_1, nth_2, nth_3, nth_4, nil_u, fa_0, an_next, set_next, St.seen_next, jn_next, z0_next, jn_getC, z0_getC, rU_z, rU_seen, rU_set, rU_an, rU_sl, a1, bs2]
    refine ⟨s1.next, b, _, rfl, ⟨?_, ?_, by omega, by rw [an_next]; omega, by rw [an_next]; omega, by omega, Nat.zero_le _⟩, a4.an _ (by omega), g1, hb'⟩
    · rw [an_ats s1 _ _ _ _ _ (by omega) rfl, Nat.sub_zero]
    · rw [an_ne s1 _ b (by omega) (by omega), h1]
theorem r42 (M : Nat) (hM : 1 ≤ M) (s : St) (rb b o : Nat) (L : List Nat) (hr : Rdr s rb b L o) : callN E M 42 [.pointer (some ⟨rb, 0, none⟩)] s = some (.bool false, s.seen rb) := by
  obtain ⟨m, rfl⟩ : ∃ m, M = m + 1 := ⟨M - 1, by omega⟩
  have g := hr.cell
  rw [x42]
  unfold F42
  simp only [op2_s, op_s, bin_e, pick_e, not_e, ext_e, nth_z, nth_1, nth_2, nth_3, gval_e, gval_u, cmp_e, orUndef_t, orUndef_f, condV_t, condV_f, cond_true, cond_false, eqI_eq, neI_eq, ltI_eq, leI_eq, gtI_eq, geI_eq, Bool.not_true, Bool.not_false, bf_tt, bf_tf, bf_ft, bf_ff, decide_true, decide_false, oneOf_1, oneOf_2, oneOf_3, thenV_n, thenV_e, thenV_r, exV_e, exV_r, Nat.beq_refl, eq_self, new_a, boxA, an_ati, an_atp, an_ats, an_atb, an_ne, set_ati, set_atp, set_ats, set_atb, set_ne, seen_getC, loadn_o, store_2, store_i, store_b, store_s, store_p, load_u, cut_22, put_22, cut_53, cut_55, put_55, put_50, put_51, put_52, put_53, store_5, nth_z, nth_1, nth_2, nth_3, nth_4, nil_u, fa_0, an_next, set_next, St.seen_next, jn_next, z0_next, jn_getC, z0_getC, rU_z, rU_seen, rU_set, rU_an, rU_sl, g]
theorem r43 (M : Nat) (hM : 1 ≤ M) (s : St) (rb b o : Nat) (L : List Nat) (hr : Rdr s rb b L o) : callN E M 43 [.pointer (some ⟨rb, 0, none⟩)] s = some (.int .i64 ((L.length - o : Nat) : Int), s.seen rb) := by
  obtain ⟨m, rfl⟩ : ∃ m, M = m + 1 := ⟨M - 1, by omega⟩
  have g := hr.cell
  rw [x43]
  unfold F43
  simp only [op2_s, op_s, bin_e, pick_e, not_e, ext_e, nth_z, nth_1, nth_2, nth_3, gval_e, gval_u, cmp_e, orUndef_t, orUndef_f, condV_t, condV_f, cond_true, cond_false, eqI_eq, neI_eq, ltI_eq, leI_eq, gtI_eq, geI_eq, Bool.not_true, Bool.not_false, bf_tt, bf_tf, bf_ft, bf_ff, decide_true, decide_false, oneOf_1, oneOf_2, oneOf_3, thenV_n, thenV_e, thenV_r, exV_e, exV_r, Nat.beq_refl, eq_self, new_a, boxA, an_ati, an_atp, an_ats, an_atb, an_ne, set_ati, set_atp, set_ats, set_atb, set_ne, seen_getC, loadn_o, store_2, store_i, store_b, store_s, store_p, load_u, cut_22, put_22, cut_53, cut_55, put_55, put_50, put_51, put_52, put_53, store_5, nth_z, nth_1, nth_2, nth_3, nth_4, nil_u, fa_0, an_next, set_next, St.seen_next, jn_next, z0_next, jn_getC, z0_getC, rU_z, rU_seen, rU_set, rU_an, rU_sl, g, lenL_e]
/-- Cmp with 2^100 -/
theorem r44 (M : Nat) (hM : 1 ≤ M) (A : Nat) (hA : A / 18446744073709551616 < 68719476736) (s : St) (h8 : 8 ≤ s.next) (hn : s.next + 2 ≤ lim) :
    ∃ s', callN E M 44 [W A, aggOf [.int .i64 68719476736, .int .u64 0]] s = some (.int .i64 (-1), s') ∧ Grew 2 s s' := by
  have hlim : lim = 1000000000 := rfl
  obtain ⟨m, rfl⟩ : ∃ m, M = m + 1 := ⟨M - 1, by omega⟩
  have e1 : decide (((A / 18446744073709551616 : Nat) : Int) = 68719476736) = false := decide_eq_false (by omega)
  have e2 : decide (((A / 18446744073709551616 : Nat) : Int) < 68719476736) = true := decide_eq_true (by omega)
  rw [x44]
  unfold F44
  simp (disch := (first | omega | (simp only [an_next, set_next, St.seen_next, jn_next, z0_next]; try omega; done))) only [op2_s, op_s, bin_e, pick_e, not_e, ext_e, nth_z, nth_1, nth_2, nth_3, gval_e, gval_u, cmp_e, orUndef_t, orUndef_f, condV_t, condV_f, cond_true, cond_false, eqI_eq, neI_eq, ltI_eq, leI_eq, gtI_eq, geI_eq, Bool.not_true, Bool.not_false, bf_tt, bf_tf, bf_ft, bf_ff, decide_true, decide_false, oneOf_1, oneOf_2, oneOf_3, thenV_n, thenV_e, thenV_r, exV_e, exV_r, Nat.beq_refl, eq_self, new_a, boxA, an_ati, an_atp, an_ats, an_atb, an_ne, set_ati, set_atp, set_ats, set_atb, set_ne, seen_getC, loadn_o, store_2, store_i, store_b, store_s, store_p, load_u, cut_22, put_22, cut_53, cut_55, put_55, put_50, put_51, put_52, put_53, store_5, nth_z, nth_1, nth_2, nth_3, nth_4, nil_u, fa_0, an_next, set_next, St.seen_next, jn_next, z0_next, jn_getC, z0_getC, rU_z, rU_seen, rU_set, rU_an, rU_sl, W, eqsN, e1, Bool.false_and, e2, Q44_q0, J44_j0]
  refine ⟨_, rfl, ?_⟩
  (repeat (first | exact Grew.refl _ | assumption | refine Grew.seen ?_ _ | refine Grew.set ?_ _ _ (by (first | omega | (simp only [an_next, set_next, St.seen_next, jn_next, z0_next]; try omega; done))) (by (first | omega | (simp only [an_next, set_next, St.seen_next, jn_next, z0_next]; try omega; done))) | refine Grew.an ?_ _ (by (first | omega | (simp only [an_next, set_next, St.seen_next, jn_next, z0_next]; try omega; done)))))
theorem buH (rec : Rec) (s : St) : oBuild [(.int .i64 0), (.int .u64 0)] [(0, 1, (.v (.int .i64 68719476736)))] rec PT.nil s = some (aggOf [.int .i64 68719476736, .int .u64 0], s) := nrfl rfl
theorem bu53 (d p q h l : Int) (rec : Rec) (s : St) : oBuild [(.int .i64 0), (.int .i64 0), (.int .i64 0), (.int .i64 0), (.int .u64 0)] [(0, 1, (.v (.int .i64 d))), (1, 1, (.v (.int .i64 p))), (2, 1, (.v (.int .i64 q))), (3, 2, (.v (aggOf [.int .i64 h, .int .u64 l])))] rec PT.nil s = some (aggOf [.int .i64 d, .int .i64 p, .int .i64 q, .int .i64 h, .int .u64 l], s) := nrfl rfl
theorem drop_on {L a rest : List Nat} {o : Nat} (h : L.drop o = a ++ rest) : L.drop (o + a.length) = rest := by
  rw [← List.drop_drop, h, List.drop_left]
/-- Decode, of an account's bytes -/
theorem r12 (M : Nat) (hM : 23 ≤ M) (s : St) (v : Value) (d p q A : Nat) (hd : d ≤ 109572) (hp : p ≤ 4503599627370496) (hq : q ≤ 4503599627370496) (hA : A / 18446744073709551616 < 68719476736) (hb : Bs s v (encB d p q A)) (h8 : 8 ≤ s.next) (hn : s.next + 20 ≤ lim) :
    ∃ cb s', callN E M 12 [v] s = some (tupOf [.pointer (some ⟨cb, 0, none⟩), .int .i64 0], s') ∧ s'.getC cb = some (accC d p q A) ∧ s.next ≤ cb ∧ cb < s'.next ∧ Grew 10 s s' := by
  have hlim : lim = 1000000000 := rfl
  obtain ⟨m, rfl⟩ : ∃ m, M = m + 1 := ⟨M - 1, by omega⟩
  have l1 := vb_len 9 (2 * d); have l2 := vb_len 9 (2 * p); have l3 := vb_len 9 (2 * q); have l4 := vb_len 9 (2 * (A / 18446744073709551616)); have l5 := vb_len 9 (A % 18446744073709551616)
  have hlen : (encB d p q A).length = (vb 9 (2 * d)).length + (vb 9 (2 * p)).length + (vb 9 (2 * q)).length + (vb 9 (2 * (A / 18446744073709551616))).length + (vb 9 (A % 18446744073709551616)).length := by
    unfold encB; simp only [List.length_append]
  obtain ⟨rb, b, s1, c1, R1, G1, f1, f2⟩ := r39 m (by omega) s v _ hb (by intro e; rw [e] at hlen; simp at hlen; omega) h8 (by omega) (by omega)
  have a1 := G1.1; have a1' := G1.2.1
  have d0 : (encB d p q A).drop 0 = vb 9 (2 * d) ++ (vb 9 (2 * p) ++ (vb 9 (2 * q) ++ (vb 9 (2 * (A / 18446744073709551616)) ++ (vb 9 (A % 18446744073709551616) ++ [])))) := by
    rw [List.drop_zero]; unfold encB; simp only [List.append_assoc, List.append_nil]
  obtain ⟨s2, c2, R2, n2, k2⟩ := r40 m (by omega) s1 rb b 0 _ _ d (by omega) (by omega) R1 (by omega) d0
  have d1 := drop_on d0
  obtain ⟨s3, c3, R3, n3, k3⟩ := r40 m (by omega) s2 rb b _ _ _ p (by omega) (by omega) R2 (by omega) d1
  have d2 := drop_on d1
  obtain ⟨s4, c4, R4, n4, k4⟩ := r40 m (by omega) s3 rb b _ _ _ q (by omega) (by omega) R3 (by omega) d2
  have d3 := drop_on d2
  obtain ⟨s5, c5, R5, n5, k5⟩ := r40 m (by omega) s4 rb b _ _ _ _ (by omega) (by omega) R4 (by omega) d3
  have d4 := drop_on d3
  obtain ⟨s6, c6, R6, n6, k6⟩ := r41 m (by omega) s5 rb b _ _ _ _ (by omega) (by omega) R5 (by omega) d4
  have n6' : s6.next = s1.next := by omega
  obtain ⟨s7, hs7⟩ : ∃ x, x = (an s6 [.int .i64 0, .int .u64 0]).set s6.next (some [.int .i64 ((A / 18446744073709551616 : Nat) : Int), .int .u64 ((A % 18446744073709551616 : Nat) : Int)]) := ⟨_, rfl⟩
  have n7 : s7.next = s6.next + 1 := by rw [hs7, set_next, an_next]
  have g7 : s7.getC s6.next = some [.int .i64 ((A / 18446744073709551616 : Nat) : Int), .int .u64 ((A % 18446744073709551616 : Nat) : Int)] := by rw [hs7]; exact set_ati _ _ _ _ _ _ (by omega) (by omega) rfl
  have o7 : ∀ y, y < s6.next → s7.getC y = s6.getC y := fun y hy => by rw [hs7, set_ne _ _ _ _ (by omega) (by omega), an_ne _ _ _ (by omega) (by omega)]
  have R7 : Rdr s7 rb b (encB d p q A) (0 + (vb 9 (2 * d)).length + (vb 9 (2 * p)).length + (vb 9 (2 * q)).length + (vb 9 (2 * (A / 18446744073709551616))).length + (vb 9 (A % 18446744073709551616)).length) :=
    ⟨(o7 _ R6.rl).trans R6.cell, (o7 _ R6.bl).trans R6.bytes, R6.ne, by have := R6.rl; omega, by have := R6.bl; omega, R6.r8, R6.le⟩
  have c7 := r42 m (by omega) s7 rb b _ _ R7
  have c8 := r43 m (by omega) (s7.seen rb) rb b _ _ (R7.still (Still.seen _ _))
  rw [show (encB d p q A).length - (0 + (vb 9 (2 * d)).length + (vb 9 (2 * p)).length + (vb 9 (2 * q)).length + (vb 9 (2 * (A / 18446744073709551616))).length + (vb 9 (A % 18446744073709551616)).length) = 0 by omega] at c8
  obtain ⟨s8, hs8⟩ : ∃ x, x = (((s7.seen rb).seen rb).seen s6.next).seen s6.next := ⟨_, rfl⟩
  have n8 : s8.next = s7.next := by rw [hs8]; simp only [St.seen_next]
  have o8 : ∀ y, s8.getC y = s7.getC y := fun y => by rw [hs8]; simp only [seen_getC]
  obtain ⟨s9, c9, G9⟩ := r44 m (by omega) A hA s8 (by omega) (by omega)
  have a9 := G9.1; have a9' := G9.2.1
  have g9 : s9.getC s6.next = some [.int .i64 ((A / 18446744073709551616 : Nat) : Int), .int .u64 ((A % 18446744073709551616 : Nat) : Int)] := (G9.2.2 _ (by omega)).trans ((o8 _).trans g7)
  have e0 : decide (0 < ((0 : Nat) : Int)) = false := rfl
  have e1 : decide ((d : Int) < 0) = false := decide_eq_false (by omega)
  have e2 : decide (109572 < (d : Int)) = false := decide_eq_false (by omega)
  have e3 : decide ((p : Int) < 0) = false := decide_eq_false (by omega)
  have e4 : decide (4503599627370496 < (p : Int)) = false := decide_eq_false (by omega)
  have e5 : decide ((q : Int) < 0) = false := decide_eq_false (by omega)
  have e6 : decide (4503599627370496 < (q : Int)) = false := decide_eq_false (by omega)
  have e7 : decide (((A / 18446744073709551616 : Nat) : Int) < 0) = false := decide_eq_false (by omega)
  have e8 : decide ((0 : Int) < -1) = false := rfl
  unfold W at c9
  rw [x12]
  unfold F12
  simp (disch := (first | omega | (simp only [an_next, set_next, St.seen_next, jn_next, z0_next]; try omega; done))) only [op2_s, op_s, bin_e, pick_e, not_e, ext_e, nth_z, nth_1, nth_2, nth_3, gval_e, gval_u, cmp_e, orUndef_t, orUndef_f, condV_t, condV_f, cond_true, cond_false, eqI_eq, neI_eq, ltI_eq, leI_eq, gtI_eq, geI_eq, Bool.not_true, Bool.not_false, bf_tt, bf_tf, bf_ft, bf_ff, decide_true, decide_false, oneOf_1, oneOf_2, oneOf_3, thenV_n, thenV_e, thenV_r, exV_e, exV_r, Nat.beq_refl, eq_self, new_a, boxA, an_ati, an_atp, an_ats, an_atb, an_ne, set_ati, set_atp, set_ats, set_atb, set_ne, seen_getC, loadn_o, store_2, store_i, store_b, store_s, store_p, load_u, cut_22, put_22, cut_53, cut_55, put_55, put_50, put_51, put_52, put_53, store_5, nth_z, nth_1, nth_2, nth_3, nth_4, nil_u, fa_0, an_next, set_next, St.seen_next, jn_next, z0_next, jn_getC, z0_getC, rU_z, rU_seen, rU_set, rU_an, rU_sl, c1, c2, c3, c4, c5, c6, bu, ← hs7, c7, c8, e0, e1, e2, Q12_q1, e3, e4, e5, Q12_q0, e6, g7, e7, ← hs8, buH, c9, e8, J12_j0, J12_j1, g9, bu53]
  refine ⟨_, _, rfl, ?_, ?_, ?_, ?_⟩
  · rw [an_ati _ _ _ _ _ (by rw [St.seen_next]; omega) (by rw [St.seen_next])]
    rfl
  · omega
  · simp only [an_next, St.seen_next]; omega
  · have key : ∀ y, y < s.next → s9.getC y = s.getC y := fun y hy => by
      have hy1 : y ≠ rb := by omega
      rw [G9.2.2 y (by omega), o8, o7 y (by omega), k6 y hy1, k5 y hy1, k4 y hy1, k3 y hy1, k2 y hy1, G1.2.2 y hy]
    refine ⟨by simp only [an_next, St.seen_next]; omega, by simp only [an_next, St.seen_next]; omega, fun y hy => ?_⟩
    rw [an_ne _ _ _ (by rw [St.seen_next]; omega) (by rw [St.seen_next]; omega), seen_getC, key y hy]
end Go.Proofs.Ytdnedangfnincaa.AbsAccO
namespace Go.Proofs.Ytdnedangfnincaa.AbsAccO
open Go Go.Abs Go.Proofs
set_option maxRecDepth 100000
set_option linter.unusedVariables false
set_option linter.unusedSimpArgs false

/-! AccrueCopies -/
theorem sumN_one (r t : Nat) (ht : t ≤ 109573) : sumN [((0 : Int), (r : Int))] t = t * r := by
  have e : R.sumP 0 (t : Int) [((0 : Int), (r : Int))] = ((t * r : Nat) : Int) := by
    show R.gain 0 109573 (r : Int) 0 (t : Int) + 0 = _
    rw [gain_eq (by omega) (by omega), Int.add_zero]
    have e1 : min (max (t : Int) 0) 109573 - min (max 0 0) 109573 = (t : Int) := by omega
    rw [e1, ← Int.natCast_mul]
  unfold sumN
  rw [e]
  rfl
theorem tab_upd {s u : St} {tb ab k : Nat} {v : Value} {l : List (Int × Int)} {c : Blk} (h : R.Tab s tb v l) (g : Upd k ab c s u) (h1 : tb ≠ ab) (h2 : R.blkOf v ≠ some ab) : R.Tab u tb v l :=
  h.keep g.1 (g.2.2.2 _ h.lt h1) fun b hb => g.2.2.2 b (h.blt b hb) fun e => h2 (by rw [hb, e])
theorem j8 (M : Nat) (hM : 5000 ≤ M) (s : St) (p day more : Nat) (hp : 1 ≤ p ∧ p ≤ 1099511627776) (hd : day ≤ 2000) (hm : more ≤ 2000) (h8 : 8 ≤ s.next) (hn : s.next ≤ 2000) :
    ∃ s', J8_j1 (callN E M) M (.int .i64 (p : Int), .int .i64 (day : Int), .int .i64 (more : Int)) s = some (.bool true, s') := by
  have hlim : lim = 1000000000 := rfl
  obtain ⟨l, hl⟩ : ∃ l, l = [((0 : Int), ((54321 : Nat) : Int))] := ⟨_, rfl⟩
  obtain ⟨u1, u2, v, c1, c2, ht, n1, n2, o2⟩ := one_tab M (by omega) s 0 ((54321 : Nat) : Int) ⟨by omega, by omega⟩ ⟨by omega, by omega⟩ h8 (by omega)
  have ho : R.Okl l := by rw [hl]; exact okl_one ⟨by omega, by omega⟩ ⟨by omega, by omega⟩
  rw [← hl] at ht
  have hll : l.length ≤ 256 := by rw [hl]; simp
  have sm : ∀ t, t ≤ 4000 → sumN l t = t * 54321 := fun t h => by rw [hl]; exact sumN_one 54321 t (by omega)
  have ob : ∀ t, t ≤ 4000 → owed p l t ≤ 4503599627370496 := fun t h => by
    unfold owed
    rw [sm t h]
    have : p * (t * 54321) ≤ 1099511627776 * (4000 * 54321) := Nat.mul_le_mul hp.2 (Nat.mul_le_mul_right _ h)
    omega
  obtain ⟨u3, c3, n3, x3, o3⟩ := r11 M (by omega) u2 0 p (by omega) (by omega) (by omega)
  have e0 : ((0 : Nat) : Int) = 0 := rfl
  rw [e0] at c3
  have z : p * sumN l 0 = 0 := by rw [sumN_zero _ ho, Nat.mul_zero]
  rw [← z] at x3
  have ht3 : R.Tab u3 s.next v l := ht.keep (by omega) (o3 _ ht.lt) fun b hb => o3 b (ht.blt b hb)
  have va : ∀ b, u2.next ≤ b → R.blkOf v ≠ some b := fun b h e => by have := ht.blt b e; omega
  obtain ⟨u4, c4, g4⟩ := r20 M (by omega) u3 u2.next s.next 0 p 0 day v l hll ho ht3 (by omega) (by omega) (by omega) (by omega) (by rw [z] at x3 ⊢; exact x3) (by omega) (by omega) (ob day (by omega)) (by omega) (by omega)
  rw [e0, Int.sub_zero] at c4
  have b4 := g4.1; have b4' := g4.2.1
  have x4 := g4.2.2.1
  have ht4 := tab_upd ht3 g4 (by omega) (va _ (by omega))
  obtain ⟨u5, c5, g5, x5, n5⟩ := r38 M (by omega) u4 u2.next _ _ _ _ x4 (by omega) (by omega) (by omega)
  have oA : p * sumN l day ≤ 1099511627776 * (4000 * 54321) := by rw [sm day (by omega)]; exact Nat.mul_le_mul hp.2 (Nat.mul_le_mul_right _ (by omega))
  have od := ob day (by omega)
  have x5a := (g5.2.2 u2.next (by omega)).trans x4
  obtain ⟨bv, u6, c6, hb6, g6⟩ := r24 M (by omega) u5 u2.next _ _ _ _ (by omega) (by omega) (by omega) (by omega) x5a (by omega) (by omega) (by omega)
  have b6 := g6.1; have b6' := g6.2.1
  obtain ⟨cb, u7, c7, x7, f7, f7', g7⟩ := r12 M (by omega) u6 bv _ _ _ _ (by omega) (by omega) (by omega) (by omega) hb6 (by omega) (by omega)
  have b7 := g7.1; have b7' := g7.2.1
  have x7a := (g7.2.2 u2.next (by omega)).trans ((g6.2.2 _ (by omega)).trans x5a)
  have x7b := (g7.2.2 u4.next (by omega)).trans ((g6.2.2 _ (by omega)).trans x5)
  have ht7 : R.Tab u7 s.next v l := ((ht4.grew (k := 1) g5).grew (k := 110) g6).grew (k := 10) g7
  have mo : ((day : Int) + (more : Int)) = ((day + more : Nat) : Int) := by omega
  have ad : int2 addO (.int .i64 (day : Int)) (.int .i64 (more : Int)) = some (.int .i64 ((day + more : Nat) : Int)) := by rw [add_e _ _ (by omega) (by omega), mo]
  have oe := ob (day + more) (by omega)
  obtain ⟨u8, c8, g8⟩ := r20 M (by omega) u7 u4.next s.next _ _ _ (day + more) v l hll ho ht7 (by omega) (by omega) (by omega) od x7b (by omega) (by omega) oe (by omega) (by omega)
  have b8 := g8.1; have b8' := g8.2.1
  have ht8 := tab_upd ht7 g8 (by omega) (va _ (by omega))
  have x8c := (g8.2.2.2 cb (by omega) (by omega)).trans x7
  have x8a := (g8.2.2.2 u2.next (by omega) (by omega)).trans x7a
  obtain ⟨u9, c9, g9⟩ := r20 M (by omega) u8 cb s.next _ _ _ (day + more) v l hll ho ht8 (by omega) (by omega) (by omega) od x8c (by omega) (by omega) oe (by omega) (by omega)
  have b9 := g9.1; have b9' := g9.2.1
  have ht9 := tab_upd ht8 g9 (by omega) (va _ (by omega))
  have x9a := (g9.2.2.2 u2.next (by omega) (by omega)).trans x8a
  have x9b := (g9.2.2.2 u4.next (by omega) (by omega)).trans g8.2.2.1
  have x9c := g9.2.2.1
  obtain ⟨u10, c10, g10⟩ := r22 M (by omega) u9 u2.next s.next _ _ _ (day + more) v l hll ho ht9 (by omega) (by omega) (by omega) od x9a (by omega) (by omega) (by omega) (by omega)
  rw [if_pos oe] at c10
  have b10 := g10.1; have b10' := g10.2.1
  have x10a := (g10.2.2 _ (by omega)).trans x9a
  have x10b := (g10.2.2 _ (by omega)).trans x9b
  have x10c := (g10.2.2 _ (by omega)).trans x9c
  have c11 := r30 M (by omega) u10 u2.next _ _ _ _ x10a
  obtain ⟨u12, c12, g12⟩ := r33 M (by omega) (u10.seen u2.next) u4.next _ _ _ _ ((seen_getC _ _ _).trans x10b) (by rw [St.seen_next]; omega) (by rw [St.seen_next]; omega) (by rw [St.seen_next]; omega)
  have b12 := g12.1; have b12' := g12.2.1
  rw [St.seen_next] at b12 b12'
  have k12 : ∀ y, y < u10.next → u12.getC y = u10.getC y := fun y hy => (g12.2.2 y (by rw [St.seen_next]; exact hy)).trans (seen_getC _ _ _)
  obtain ⟨u13, c13, g13⟩ := r33 M (by omega) u12 cb _ _ _ _ ((k12 _ (by omega)).trans x10c) (by omega) (by omega) (by omega)
  have b13 := g13.1
  have c14 := r32 M (by omega) u13 u4.next _ _ _ _ ((g13.2.2 _ (by omega)).trans ((k12 _ (by omega)).trans x10b))
  have c15 := r32 M (by omega) (u13.seen u4.next) u2.next _ _ _ _ ((seen_getC _ _ _).trans ((g13.2.2 _ (by omega)).trans ((k12 _ (by omega)).trans x10a)))
  have q0 : decide ((0 : Int) = 0) = true := rfl
  have qd : decide ((day : Int) = (day : Int)) = true := decide_eq_true rfl
  obtain ⟨X, hX⟩ : ∃ X : Int, X = (owed p l (day + more) : Int) - (owed p l day : Int) := ⟨_, rfl⟩
  rw [← hX] at c8 c9 c10
  have qx : decide (X = X) = true := decide_eq_true rfl
  have ad2 : int2 addO (.int .i64 ((owed p l day : Nat) : Int)) (.int .i64 X) = some (.int .i64 ((owed p l (day + more) : Nat) : Int)) := by
    rw [add_e _ _ (by omega) (by omega), hX]
    congr 2
    omega
  have qo : decide (((owed p l (day + more) : Nat) : Int) = ((owed p l (day + more) : Nat) : Int)) = true := decide_eq_true rfl
  have e5 : ((54321 : Nat) : Int) = 54321 := rfl
  rw [e5] at c2
  unfold W at c12 c13
  have qh : ∀ a : Int, decide (a = a) = true := fun a => decide_eq_true rfl
  unfold J8_j1
  simp only [op2_s, op_s, bin_e, pick_e, not_e, ext_e, nth_z, nth_1, nth_2, nth_3, gval_e, gval_u, cmp_e, orUndef_t, orUndef_f, condV_t, condV_f, cond_true, cond_false, eqI_eq, neI_eq, ltI_eq, leI_eq, gtI_eq, geI_eq, Bool.not_true, Bool.not_false, bf_tt, bf_tf, bf_ft, bf_ff, decide_true, decide_false, oneOf_1, oneOf_2, oneOf_3, thenV_n, thenV_e, thenV_r, exV_e, exV_r, Nat.beq_refl, eq_self, c1, c2, c3, c4, c5, c6, c7, q0, ad, c8, c9, c10, qx, Q8_q2, c11, qd, Q8_q1, c12, c13, eqsN, qh, Bool.and_self, c14, c15, ad2, qo]
  exact ⟨_, rfl⟩
theorem r8 (M : Nat) (hM : 5000 ≤ M) (s s1 : St) (P day more : Int) (haw : callN E M 9 [] s = some (.bool true, s1)) (h8 : 8 ≤ s1.next) (hn : s1.next ≤ 2000) :
    ∃ s', callN E (M + 1) 8 [.int .i64 P, .int .i64 day, .int .i64 more] s = some (.bool true, s') := by
  rw [x8]
  unfold F8
  by_cases h1 : P < 1
  · have e1 := decide_eq_true h1
    simp only [op2_s, op_s, bin_e, pick_e, not_e, ext_e, nth_z, nth_1, nth_2, nth_3, gval_e, gval_u, cmp_e, orUndef_t, orUndef_f, condV_t, condV_f, cond_true, cond_false, eqI_eq, neI_eq, ltI_eq, leI_eq, gtI_eq, geI_eq, Bool.not_true, Bool.not_false, bf_tt, bf_tf, bf_ft, bf_ff, decide_true, decide_false, oneOf_1, oneOf_2, oneOf_3, thenV_n, thenV_e, thenV_r, exV_e, exV_r, Nat.beq_refl, eq_self, haw, e1, Q8_q0, J8_j0]
    exact ⟨_, rfl⟩
  have e1 := decide_eq_false h1
  by_cases h2 : 1099511627776 < P
  · have e2 := decide_eq_true h2
    simp only [op2_s, op_s, bin_e, pick_e, not_e, ext_e, nth_z, nth_1, nth_2, nth_3, gval_e, gval_u, cmp_e, orUndef_t, orUndef_f, condV_t, condV_f, cond_true, cond_false, eqI_eq, neI_eq, ltI_eq, leI_eq, gtI_eq, geI_eq, Bool.not_true, Bool.not_false, bf_tt, bf_tf, bf_ft, bf_ff, decide_true, decide_false, oneOf_1, oneOf_2, oneOf_3, thenV_n, thenV_e, thenV_r, exV_e, exV_r, Nat.beq_refl, eq_self, haw, e1, e2, Q8_q0, J8_j0]
    exact ⟨_, rfl⟩
  have e2 := decide_eq_false h2
  by_cases h3 : day < 0
  · have e3 := decide_eq_true h3
    simp only [op2_s, op_s, bin_e, pick_e, not_e, ext_e, nth_z, nth_1, nth_2, nth_3, gval_e, gval_u, cmp_e, orUndef_t, orUndef_f, condV_t, condV_f, cond_true, cond_false, eqI_eq, neI_eq, ltI_eq, leI_eq, gtI_eq, geI_eq, Bool.not_true, Bool.not_false, bf_tt, bf_tf, bf_ft, bf_ff, decide_true, decide_false, oneOf_1, oneOf_2, oneOf_3, thenV_n, thenV_e, thenV_r, exV_e, exV_r, Nat.beq_refl, eq_self, haw, e1, e2, e3, Q8_q0, J8_j0]
    exact ⟨_, rfl⟩
  have e3 := decide_eq_false h3
  by_cases h4 : 2000 < day
  · have e4 := decide_eq_true h4
    simp only [op2_s, op_s, bin_e, pick_e, not_e, ext_e, nth_z, nth_1, nth_2, nth_3, gval_e, gval_u, cmp_e, orUndef_t, orUndef_f, condV_t, condV_f, cond_true, cond_false, eqI_eq, neI_eq, ltI_eq, leI_eq, gtI_eq, geI_eq, Bool.not_true, Bool.not_false, bf_tt, bf_tf, bf_ft, bf_ff, decide_true, decide_false, oneOf_1, oneOf_2, oneOf_3, thenV_n, thenV_e, thenV_r, exV_e, exV_r, Nat.beq_refl, eq_self, haw, e1, e2, e3, e4, Q8_q0, J8_j0]
    exact ⟨_, rfl⟩
  have e4 := decide_eq_false h4
  by_cases h5 : more < 0
  · have e5 := decide_eq_true h5
    simp only [op2_s, op_s, bin_e, pick_e, not_e, ext_e, nth_z, nth_1, nth_2, nth_3, gval_e, gval_u, cmp_e, orUndef_t, orUndef_f, condV_t, condV_f, cond_true, cond_false, eqI_eq, neI_eq, ltI_eq, leI_eq, gtI_eq, geI_eq, Bool.not_true, Bool.not_false, bf_tt, bf_tf, bf_ft, bf_ff, decide_true, decide_false, oneOf_1, oneOf_2, oneOf_3, thenV_n, thenV_e, thenV_r, exV_e, exV_r, Nat.beq_refl, eq_self, haw, e1, e2, e3, e4, e5, Q8_q0, J8_j0]
    exact ⟨_, rfl⟩
  have e5 := decide_eq_false h5
  by_cases h6 : 2000 < more
  · have e6 := decide_eq_true h6
    simp only [op2_s, op_s, bin_e, pick_e, not_e, ext_e, nth_z, nth_1, nth_2, nth_3, gval_e, gval_u, cmp_e, orUndef_t, orUndef_f, condV_t, condV_f, cond_true, cond_false, eqI_eq, neI_eq, ltI_eq, leI_eq, gtI_eq, geI_eq, Bool.not_true, Bool.not_false, bf_tt, bf_tf, bf_ft, bf_ff, decide_true, decide_false, oneOf_1, oneOf_2, oneOf_3, thenV_n, thenV_e, thenV_r, exV_e, exV_r, Nat.beq_refl, eq_self, haw, e1, e2, e3, e4, e5, e6, Q8_q0, J8_j0]
    exact ⟨_, rfl⟩
  have e6 := decide_eq_false h6
  obtain ⟨p, rfl⟩ := Int.eq_ofNat_of_zero_le (show 0 ≤ P by omega)
  obtain ⟨d, rfl⟩ := Int.eq_ofNat_of_zero_le (show 0 ≤ day by omega)
  obtain ⟨m, rfl⟩ := Int.eq_ofNat_of_zero_le (show 0 ≤ more by omega)
  obtain ⟨s', q1⟩ := j8 M hM s1 p d m ⟨by omega, by omega⟩ (by omega) (by omega) h8 hn
  simp only [op2_s, op_s, bin_e, pick_e, not_e, ext_e, nth_z, nth_1, nth_2, nth_3, gval_e, gval_u, cmp_e, orUndef_t, orUndef_f, condV_t, condV_f, cond_true, cond_false, eqI_eq, neI_eq, ltI_eq, leI_eq, gtI_eq, geI_eq, Bool.not_true, Bool.not_false, bf_tt, bf_tf, bf_ft, bf_ff, decide_true, decide_false, oneOf_1, oneOf_2, oneOf_3, thenV_n, thenV_e, thenV_r, exV_e, exV_r, Nat.beq_refl, eq_self, haw, e1, e2, e3, e4, e5, e6, Q8_q0, J8_j0]
  exact ⟨s', q1⟩
end Go.Proofs.Ytdnedangfnincaa.AbsAccO
namespace Go.Proofs.Ytdnedangfnincaa.AbsAccO
open Go Go.Abs Go.Proofs
set_option maxRecDepth 100000
set_option linter.unusedVariables false
set_option linter.unusedSimpArgs false

theorem lawAccrueCopies (P day more : Int) (W : World) : Calls Try.prog 8 [.int .i64 P, .int .i64 day, .int .i64 more].toArray W fun e w' => e = .returned (.bool true) ∧ RowKit.Below W.heap.size W w' := by
  obtain ⟨s1, h1, h2, h3, _⟩ := awake 0 [] st8 (.inl ⟨rfl, rfl⟩)
  exact plain_law (E := E) (m := 20002) mixed exOk ⟨fnsOk, known⟩ rfl W (r8 20001 (by omega) st8 s1 P day more h1 h2 h3)
end Go.Proofs.Ytdnedangfnincaa.AbsAccO
