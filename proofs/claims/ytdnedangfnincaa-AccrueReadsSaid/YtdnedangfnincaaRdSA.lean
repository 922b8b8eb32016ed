import Derived.Test.YtdnedangfnincaaXAccR
import Derived.Test.YtdnedangfnincaaAbsZP
namespace Go.Proofs.Ytdnedangfnincaa.AbsAccR
open Go Go.Abs Go.Proofs
set_option maxRecDepth 100000
set_option linter.unusedVariables false
set_option linter.unusedSimpArgs false

attribute [local congr] h_opt2 h_opt h_condV h_cond
theorem quoU (a b : Nat) (ha : a < 18446744073709551616) (hb : 0 < b) : int2 quoO (.int .u64 (a : Int)) (.int .u64 (b : Int)) = some (.int .u64 ((a / b : Nat) : Int)) := by
  show quoO .u64 a b = _
  unfold quoO
  rw [eqI_eq, decide_eq_false (show ¬ ((b : Int) = 0) by omega), cond_false, mkInt_eq, u64w, Int.tdiv_eq_ediv_of_nonneg (by omega), ← Int.natCast_ediv]
  have h := Nat.div_le_self a b
  generalize a / b = q at *
  congr 2
  omega
theorem remU (a b : Nat) (hb : 0 < b) : int2 remO (.int .u64 (a : Int)) (.int .u64 (b : Int)) = some (.int .u64 ((a % b : Nat) : Int)) := by
  show remO .u64 a b = _
  unfold remO
  rw [eqI_eq, decide_eq_false (show ¬ ((b : Int) = 0) by omega), cond_false, forceI_eq, Int.tmod_eq_emod_of_nonneg (by omega)]
  rfl
theorem orU_ (a b : Nat) (ha : a < 18446744073709551616) (hb : b < 18446744073709551616) : int2 orO (.int .u64 (a : Int)) (.int .u64 (b : Int)) = some (.int .u64 ((a ||| b : Nat) : Int)) := by
  show setI .u64 (IntKind.u64.wrap ((BitVec.ofInt 64 (a : Int) ||| BitVec.ofInt 64 (b : Int)).toNat : Int)) = _
  rw [setI_eq, u64w, BitVec.toNat_or]
  have e : ∀ n : Nat, n < 18446744073709551616 → (BitVec.ofInt 64 (n : Int)).toNat = n := fun n hn => by
    simp [BitVec.toNat_ofInt]; omega
  rw [e a ha, e b hb]
  have := Nat.or_lt_two_pow (n := 64) (show a < 2 ^ 64 by omega) (show b < 2 ^ 64 by omega)
  congr 2
  omega
theorem shlU (n j : Nat) (hj : j ≤ 64) : sh2 shlO (.int .u64 (n : Int)) (.int .u64 (j : Int)) = some (.int .u64 ((n * 2 ^ j % 18446744073709551616 : Nat) : Int)) := by
  show (bif ltI (j : Int) 0 then none else mkInt .u64 ((n : Int) * 2 ^ (min (j : Int).toNat IntKind.u64.bits))) = _
  have e : ltI (j : Int) 0 = false := by rw [ltI_eq]; exact decide_eq_false (by omega)
  have e2 : min (j : Int).toNat IntKind.u64.bits = j := by rw [Int.toNat_natCast]; show min j 64 = j; omega
  rw [e, cond_false, e2, mkInt_eq, u64w]
  rfl
def W (n : Nat) : Value := aggOf [.int .i64 ((n / 18446744073709551616 : Nat) : Int), .int .u64 ((n % 18446744073709551616 : Nat) : Int)]
theorem W_load (n : Nat) : W n = aggOf [.int .i64 ((n / 18446744073709551616 : Nat) : Int), .int .u64 ((n % 18446744073709551616 : Nat) : Int)] := rfl
theorem bu (a b : Int) (rec : Rec) (s : St) : oBuild [(.int .i64 0), (.int .u64 0)] [(0, 1, (.v (.int .i64 a))), (1, 1, (.v (.int .u64 b)))] rec PT.nil s = some (aggOf [.int .i64 a, .int .u64 b], s) := nrfl rfl
def accC (d p q A : Nat) : List Value := [.int .i64 (d : Int), .int .i64 (p : Int), .int .i64 (q : Int), .int .i64 ((A / 18446744073709551616 : Nat) : Int), .int .u64 ((A % 18446744073709551616 : Nat) : Int)]
/-! numbers in bytes -/
def vb : Nat → Nat → List Nat
  | 0, u => [u]
  | f + 1, u => if 127 < u then (u % 128 + 128) :: vb f (u / 128) else [u]
theorem vb_len : ∀ f u, 1 ≤ (vb f u).length ∧ (vb f u).length ≤ f + 1
  | 0, u => ⟨Nat.le_refl _, Nat.le_refl _⟩
  | f + 1, u => by
    have := vb_len f (u / 128)
    unfold vb
    split
    · simp only [List.length_cons]; omega
    · simp
theorem eqL_nil (b : Addr) (n k : Nat) (rec : Rec) (fs : Frm) (s : St) : oEqv eqL false (.v (.slice (some b) n k)) (.v (.slice none 0 0)) rec fs s = some (.bool false, s) := nrfl rfl
theorem eqL_nn (rec : Rec) (fs : Frm) (s : St) : oEqv eqL false (.v (.slice none 0 0)) (.v (.slice none 0 0)) rec fs s = some (.bool true, s) := nrfl rfl
theorem bs_0 (rec : Rec) (s : St) (h : s.next ≤ lim) : oBuildSlice 0 [] [] rec PT.nil s = some (.slice (some ⟨s.next, 0, none⟩) 0 0, an s []) := by
  rw [bs_a _ _ _ _ _ h]; rfl
/-- slices.Clone of bytes -/
theorem r60 (M : Nat) (hM : 1 ≤ M) (s : St) (v : Value) (L : List Nat) (hb : Bs s v L) (h8 : 8 ≤ s.next) (hn : s.next + 2 ≤ lim) (hL : L.length ≤ 1000) :
    ∃ v' s', callN E M 60 [v] s = some (v', s') ∧ Bs s' v' L ∧ Nw s.next v' ∧ Grew 2 s s' ∧ Own s s' := by
  have hlim : lim = 1000000000 := rfl
  obtain ⟨m, rfl⟩ : ∃ m, M = m + 1 := ⟨M - 1, by omega⟩
  rcases hb with ⟨rfl, rfl⟩ | ⟨b, rfl, h1, h2, h3⟩
  · rw [x60]
    unfold F60
    simp only [op2_s, op_s, bin_e, pick_e, not_e, ext_e, nth_z, nth_1, nth_2, nth_3, gval_e, gval_u, cmp_e, orUndef_t, orUndef_f, condV_t, condV_f, cond_true, cond_false, eqI_eq, neI_eq, ltI_eq, leI_eq, gtI_eq, geI_eq, Bool.not_true, Bool.not_false, bf_tt, bf_tf, bf_ft, bf_ff, decide_true, decide_false, oneOf_1, oneOf_2, oneOf_3, thenV_n, thenV_e, thenV_r, exV_e, exV_r, Nat.beq_refl, eq_self, eqL_nn]
    exact ⟨_, _, rfl, .inl ⟨rfl, rfl⟩, (fun b c k h => by cases h), (Grew.refl s).mono (by omega), Own.refl s⟩
  · have hx : (an s []).getC b = some (cB L) := (an_ne s [] b (by omega) (by omega)).trans h1
    have nx : (an s []).next = s.next + 1 := rfl
    have hL0 : 0 < L.length := List.length_pos_iff.2 h3
    have ap := app_emp (an s []) s.next b L.length (UNK + 1) (cB L) (callN E m) PT.nil hx (cB_len L) hL0 (by omega) (by rw [nx]; omega)
    rw [x60]
    unfold F60
    simp (disch := omega) only [op2_s, op_s, bin_e, pick_e, not_e, ext_e, nth_z, nth_1, nth_2, nth_3, gval_e, gval_u, cmp_e, orUndef_t, orUndef_f, condV_t, condV_f, cond_true, cond_false, eqI_eq, neI_eq, ltI_eq, leI_eq, gtI_eq, geI_eq, Bool.not_true, Bool.not_false, bf_tt, bf_tf, bf_ft, bf_ff, decide_true, decide_false, oneOf_1, oneOf_2, oneOf_3, thenV_n, thenV_e, thenV_r, exV_e, exV_r, Nat.beq_refl, eq_self, eqL_nil, bs_0, ap]
    refine ⟨_, _, rfl, .inr ⟨_, rfl, ?_, ?_, h3⟩, fun b c k h => by cases h; show s.next ≤ s.next + 1; omega, ?_, ?_⟩
    · rw [an_at _ _ _ (by rw [St.seen_next, nx]; omega) (cB_map L) (by rw [St.seen_next])]
    · simp only [an_next, St.seen_next]; omega
    · exact (((Grew.refl s).an _ (by omega)).seen _).an _ (by rw [St.seen_next, nx]; omega)
    · exact (((Own.refl s).an _ (by omega)).seen _ (by rw [nx]; omega)).an _ (by rw [St.seen_next, nx]; omega)
theorem or7 (n : Nat) (h : n < 128) : int2 orO (.int .u64 (n : Int)) (.int .u64 128) = some (.int .u64 ((n + 128 : Nat) : Int)) := by
  have := orU_ n 128 (by omega) (by omega)
  have e := Nat.two_pow_add_eq_or_of_lt (i := 7) (show n < 2 ^ 7 by omega) 1
  rw [Nat.or_comm, show (2 : Nat) ^ 7 * 1 = 128 from rfl] at e
  rw [← e] at this
  rw [show n + 128 = 128 + n by omega]
  exact this
/-- U, behind its clone -/
theorem U_run (M : Nat) (s0 : St) (h8 : 8 ≤ s0.next) : ∀ (f fuel w k : Nat) (L : List Nat) (v : Value) (s : St), w < 128 ^ (f + 1) → w < 18446744073709551616 → f < fuel → Bs s v L → Nw s0.next v → Grew k s0 s → Own s0 s → s.next + 2 * (f + 1) ≤ lim → L.length + f ≤ 900 →
    ∃ v' s', opt2 (loopV (B52_l0 (callN E M) M (.slice none 0 0)) fuel (v, .int .u64 (w : Int)) s) (C52_l0 (callN E M) M (.slice none 0 0)) = some (v', s') ∧ Bs s' v' (L ++ vb f w) ∧ Nw s0.next v' ∧ Grew (k + 2 * (f + 1)) s0 s' ∧ Own s0 s' := by
  intro f
  induction f with
  | zero =>
    intro fuel w k L v s hw hw' hf hb hv g o hn hL
    obtain ⟨fuel, rfl⟩ : ∃ m, fuel = m + 1 := ⟨fuel - 1, by omega⟩
    have e1 : decide (127 < (w : Int)) = false := decide_eq_false (by omega)
    obtain ⟨v', s', a1, a2, a3, a4, a5⟩ := app1 s0 s v L w k (callN E M) hb hv h8 g o (by omega) (by omega)
    rw [loopV_s, B52_l0]
    simp (disch := omega) only [op2_s, op_s, bin_e, pick_e, not_e, ext_e, nth_z, nth_1, nth_2, nth_3, gval_e, gval_u, cmp_e, orUndef_t, orUndef_f, condV_t, condV_f, cond_true, cond_false, eqI_eq, neI_eq, ltI_eq, leI_eq, gtI_eq, geI_eq, Bool.not_true, Bool.not_false, bf_tt, bf_tf, bf_ft, bf_ff, decide_true, decide_false, oneOf_1, oneOf_2, oneOf_3, thenV_n, thenV_e, thenV_r, exV_e, exV_r, Nat.beq_refl, eq_self, e1, C52_l0, J52_r0, toB, bs1, a1]
    exact ⟨_, _, rfl, a2, a3, a4, a5⟩
  | succ f ih =>
    intro fuel w k L v s hw hw' hf hb hv g o hn hL
    obtain ⟨fuel, rfl⟩ : ∃ m, fuel = m + 1 := ⟨fuel - 1, by omega⟩
    have hlim : lim = 1000000000 := rfl
    by_cases h : 127 < w
    · have e1 : decide (127 < (w : Int)) = true := decide_eq_true (by omega)
      obtain ⟨v', s', a1, a2, a3, a4, a5⟩ := app1 s0 s v L (w % 128 + 128) k (callN E M) hb hv h8 g o (by omega) (by omega)
      have n1 := a5.1
      have hx : s'.next ≤ s.next + 2 := by
        have hh := a1
        rcases hb with ⟨rfl, rfl⟩ | ⟨b, rfl, h1, h2, h3⟩
        · rw [app_nil _ _ 1 1 _ _ PT.nil (an_ati s _ _ _ _ (by omega) rfl) rfl (by omega) (by omega) (by rw [an_next]; omega)] at hh
          cases hh
          simp only [an_next, St.seen_next]; omega
        · rw [app_on _ b L.length _ 1 1 _ _ _ PT.nil ((an_ne s _ b (by omega) (by omega)).trans h1) (cB_len L) (an_ati s _ _ _ _ (by omega) rfl) rfl (by omega) (by omega) (by rw [an_next]; omega)] at hh
          cases hh
          simp only [an_next, set_next, St.seen_next]; omega
      obtain ⟨v'', s'', b1, b2, b3, b4, b5⟩ := ih fuel (w / 128) (k + 2) (L ++ [w % 128 + 128]) v' s' (by rw [Nat.pow_succ] at hw; omega) (by omega) (by omega) a2 a3 a4 a5 (by omega) (by simp; omega)
      have ev : vb (f + 1) w = (w % 128 + 128) :: vb f (w / 128) := if_pos h
      rw [loopV_s, B52_l0]
      simp (disch := omega) only [op2_s, op_s, bin_e, pick_e, not_e, ext_e, nth_z, nth_1, nth_2, nth_3, gval_e, gval_u, cmp_e, orUndef_t, orUndef_f, condV_t, condV_f, cond_true, cond_false, eqI_eq, neI_eq, ltI_eq, leI_eq, gtI_eq, geI_eq, Bool.not_true, Bool.not_false, bf_tt, bf_tf, bf_ft, bf_ff, decide_true, decide_false, oneOf_1, oneOf_2, oneOf_3, thenV_n, thenV_e, thenV_r, exV_e, exV_r, Nat.beq_refl, eq_self, e1, and7_u, or7, toB, bs1, a1, shr7_u]
      refine ⟨v'', s'', b1, ?_, b3, b4.mono (by omega), b5⟩
      rw [ev]
      rw [List.append_assoc] at b2
      exact b2
    · have e1 : decide (127 < (w : Int)) = false := decide_eq_false (by omega)
      obtain ⟨v', s', a1, a2, a3, a4, a5⟩ := app1 s0 s v L w k (callN E M) hb hv h8 g o (by omega) (by omega)
      have ev : vb (f + 1) w = [w] := if_neg h
      rw [loopV_s, B52_l0]
      simp (disch := omega) only [op2_s, op_s, bin_e, pick_e, not_e, ext_e, nth_z, nth_1, nth_2, nth_3, gval_e, gval_u, cmp_e, orUndef_t, orUndef_f, condV_t, condV_f, cond_true, cond_false, eqI_eq, neI_eq, ltI_eq, leI_eq, gtI_eq, geI_eq, Bool.not_true, Bool.not_false, bf_tt, bf_tf, bf_ft, bf_ff, decide_true, decide_false, oneOf_1, oneOf_2, oneOf_3, thenV_n, thenV_e, thenV_r, exV_e, exV_r, Nat.beq_refl, eq_self, e1, C52_l0, J52_r0, toB, bs1, a1, ev]
      exact ⟨_, _, rfl, a2, a3, a4.mono (by omega), a5⟩
/-- U -/
theorem r52 (M : Nat) (hM : 20 ≤ M) (s : St) (v : Value) (L : List Nat) (u : Nat) (hu : u < 18446744073709551616) (hb : Bs s v L) (h8 : 8 ≤ s.next) (hn : s.next + 30 ≤ lim) (hL : L.length ≤ 800) :
    ∃ v' s', callN E M 52 [v, .int .u64 (u : Int)] s = some (v', s') ∧ Bs s' v' (L ++ vb 9 u) ∧ Nw s.next v' ∧ Grew 22 s s' ∧ Own s s' := by
  obtain ⟨m, rfl⟩ : ∃ m, M = m + 1 := ⟨M - 1, by omega⟩
  obtain ⟨v1, s1, a1, a2, a3, a4, a5⟩ := r60 m (by omega) s v L hb h8 (by omega) (by omega)
  have n1 := a4.2.1
  obtain ⟨v2, s2, b1, b2, b3, b4, b5⟩ := U_run m s h8 9 m u 2 L v1 s1 (by simp; omega) hu (by omega) a2 a3 a4 a5 (by omega) (by omega)
  rw [x52]
  unfold F52
  simp only [op2_s, op_s, bin_e, pick_e, not_e, ext_e, nth_z, nth_1, nth_2, nth_3, gval_e, gval_u, cmp_e, orUndef_t, orUndef_f, condV_t, condV_f, cond_true, cond_false, eqI_eq, neI_eq, ltI_eq, leI_eq, gtI_eq, geI_eq, Bool.not_true, Bool.not_false, bf_tt, bf_tf, bf_ft, bf_ff, decide_true, decide_false, oneOf_1, oneOf_2, oneOf_3, thenV_n, thenV_e, thenV_r, exV_e, exV_r, Nat.beq_refl, eq_self, a1]
  exact ⟨v2, s2, b1, b2, b3, b4, b5⟩
theorem xor0 (n : Nat) (h : n < 18446744073709551616) : int2 xorO (.int .u64 (n : Int)) (.int .u64 ((0 : Nat) : Int)) = some (.int .u64 (n : Int)) := by
  show setI .u64 (IntKind.u64.wrap ((BitVec.ofInt 64 (n : Int) ^^^ BitVec.ofInt 64 ((0 : Nat) : Int)).toNat : Int)) = _
  have e0 : BitVec.ofInt 64 ((0 : Nat) : Int) = 0#64 := rfl
  rw [setI_eq, u64w, e0, BitVec.xor_zero]
  have e : (BitVec.ofInt 64 (n : Int)).toNat = n := by simp [BitVec.toNat_ofInt]; omega
  rw [e]
  congr 2
  omega
theorem shl1_i (n : Nat) (h : n < 4611686018427387904) : sh2 shlO (.int .i64 (n : Int)) (.int .u64 1) = some (.int .i64 ((2 * n : Nat) : Int)) := by
  show (bif ltI 1 0 then none else mkInt .i64 ((n : Int) * 2 ^ (min (1 : Int).toNat IntKind.i64.bits))) = _
  have e : (2 : Int) ^ (min (1 : Int).toNat IntKind.i64.bits) = 2 := by decide
  rw [e, mkInt_eq, wrap_i64 _ (by omega) (by omega)]
  show some (Value.int .i64 ((n : Int) * 2)) = _
  congr 2
  omega
/-- I, of a number that is not below nought -/
theorem r51 (M : Nat) (hM : 21 ≤ M) (s : St) (v : Value) (L : List Nat) (n : Nat) (hu : n < 4611686018427387904) (hb : Bs s v L) (h8 : 8 ≤ s.next) (hn : s.next + 30 ≤ lim) (hL : L.length ≤ 800) :
    ∃ v' s', callN E M 51 [v, .int .i64 (n : Int)] s = some (v', s') ∧ Bs s' v' (L ++ vb 9 (2 * n)) ∧ Nw s.next v' ∧ Grew 22 s s' ∧ Own s s' := by
  obtain ⟨m, rfl⟩ : ∃ m, M = m + 1 := ⟨M - 1, by omega⟩
  obtain ⟨v2, s2, b1, b2, b3, b4, b5⟩ := r52 m (by omega) s v L (2 * n) (by omega) hb h8 hn hL
  have e : n / 9223372036854775808 = 0 := by omega
  rw [x51]
  unfold F51
  simp (disch := omega) only [op2_s, op_s, bin_e, pick_e, not_e, ext_e, nth_z, nth_1, nth_2, nth_3, gval_e, gval_u, cmp_e, orUndef_t, orUndef_f, condV_t, condV_f, cond_true, cond_false, eqI_eq, neI_eq, ltI_eq, leI_eq, gtI_eq, geI_eq, Bool.not_true, Bool.not_false, bf_tt, bf_tf, bf_ft, bf_ff, decide_true, decide_false, oneOf_1, oneOf_2, oneOf_3, thenV_n, thenV_e, thenV_r, exV_e, exV_r, Nat.beq_refl, eq_self, shl1_i, toU, shr63_u, e, xor0, b1]
  exact ⟨v2, s2, rfl, b2, b3, b4, b5⟩
theorem fa_30 (b : Nat) (rec : Rec) (fs : Frm) (s : St) : oFieldAddr 0 (.v (.pointer (some ⟨b, 3, none⟩))) rec fs s = some (.pointer (some ⟨b, 3, none⟩), s) := by rw [fieldAddr_e]
theorem fa_31 (b : Nat) (rec : Rec) (fs : Frm) (s : St) : oFieldAddr 1 (.v (.pointer (some ⟨b, 3, none⟩))) rec fs s = some (.pointer (some ⟨b, 4, none⟩), s) := by rw [fieldAddr_e]
theorem bsStill {s u : St} {v : Value} {L : List Nat} (h : Bs s v L) (g : Still s u) : Bs u v L := h.grew (k := 0) g.grew
def encB (d p q A : Nat) : List Nat := vb 9 (2 * d) ++ vb 9 (2 * p) ++ vb 9 (2 * q) ++ vb 9 (2 * (A / 18446744073709551616)) ++ vb 9 (A % 18446744073709551616)
theorem r24 (M : Nat) (hM : 22 ≤ M) (s : St) (ab d p q A : Nat) (hd : d < 4611686018427387904) (hp : p < 4611686018427387904) (hq : q < 4611686018427387904) (hA : A / 18446744073709551616 < 4611686018427387904) (hab : s.getC ab = some (accC d p q A)) (hlt : ab < s.next) (h8 : 8 ≤ s.next) (hn : s.next + 200 ≤ lim) :
    ∃ v s', callN E M 24 [.pointer (some ⟨ab, 0, none⟩)] s = some (v, s') ∧ Bs s' v (encB d p q A) ∧ Grew 110 s s' ∧ Own s s' := by
  have hlim : lim = 1000000000 := rfl
  obtain ⟨m, rfl⟩ : ∃ m, M = m + 1 := ⟨M - 1, by omega⟩
  have l1 := vb_len 9 (2 * d); have l2 := vb_len 9 (2 * p); have l3 := vb_len 9 (2 * q); have l4 := vb_len 9 (2 * (A / 18446744073709551616))
  obtain ⟨s1, hs1⟩ : ∃ x, x = s.seen ab := ⟨_, rfl⟩
  have n1 : s1.next = s.next := by rw [hs1, St.seen_next]
  have G1 : Grew 0 s s1 := by rw [hs1]; exact (Grew.refl s).seen _
  obtain ⟨v1, t1, c1, b1, w1, g1, o1⟩ := r51 m (by omega) (z0 s1) (.slice none 0 0) [] d hd (.inl ⟨rfl, rfl⟩) (by rw [z0_next]; omega) (by rw [z0_next]; omega) (by simp)
  have m1 := g1.1; have m1' := g1.2.1
  rw [z0_next] at m1 m1'
  obtain ⟨s2, hs2⟩ : ∃ x, x = jn s1 t1 := ⟨_, rfl⟩
  have G2 : Grew 22 s s2 := by rw [hs2]; exact (G1.trans g1.z0).mono (by omega)
  have n2 : s2.next = t1.next := by rw [hs2]; rfl
  obtain ⟨s3, hs3⟩ : ∃ x, x = s2.seen ab := ⟨_, rfl⟩
  have n3 : s3.next = t1.next := by rw [hs3, St.seen_next, n2]
  have G3 : Grew 22 s s3 := by rw [hs3]; exact G2.seen _
  have st1 : Still t1 (z0 s3) := ⟨by rw [z0_next, n3], fun y => by rw [z0_getC, hs3, seen_getC, hs2, jn_getC]⟩
  obtain ⟨v2, t2, c2, b2, w2, g2, o2⟩ := r51 m (by omega) (z0 s3) v1 _ p hp (bsStill b1 st1) (by rw [z0_next]; omega) (by rw [z0_next]; omega) (by simp; omega)
  have m2 := g2.1; have m2' := g2.2.1
  rw [z0_next] at m2 m2'
  obtain ⟨s4, hs4⟩ : ∃ x, x = jn s3 t2 := ⟨_, rfl⟩
  have G4 : Grew 44 s s4 := by rw [hs4]; exact (G3.trans g2.z0).mono (by omega)
  have n4 : s4.next = t2.next := by rw [hs4]; rfl
  obtain ⟨s5, hs5⟩ : ∃ x, x = s4.seen ab := ⟨_, rfl⟩
  have n5 : s5.next = t2.next := by rw [hs5, St.seen_next, n4]
  have G5 : Grew 44 s s5 := by rw [hs5]; exact G4.seen _
  have st2 : Still t2 (z0 s5) := ⟨by rw [z0_next, n5], fun y => by rw [z0_getC, hs5, seen_getC, hs4, jn_getC]⟩
  obtain ⟨v3, t3, c3, b3, w3, g3, o3⟩ := r51 m (by omega) (z0 s5) v2 _ q hq (bsStill b2 st2) (by rw [z0_next]; omega) (by rw [z0_next]; omega) (by simp; omega)
  have m3 := g3.1; have m3' := g3.2.1
  rw [z0_next] at m3 m3'
  obtain ⟨s6, hs6⟩ : ∃ x, x = jn s5 t3 := ⟨_, rfl⟩
  have G6 : Grew 66 s s6 := by rw [hs6]; exact (G5.trans g3.z0).mono (by omega)
  have n6 : s6.next = t3.next := by rw [hs6]; rfl
  obtain ⟨s7, hs7⟩ : ∃ x, x = s6.seen ab := ⟨_, rfl⟩
  have n7 : s7.next = t3.next := by rw [hs7, St.seen_next, n6]
  have G7 : Grew 66 s s7 := by rw [hs7]; exact G6.seen _
  have st3 : Still t3 (z0 s7) := ⟨by rw [z0_next, n7], fun y => by rw [z0_getC, hs7, seen_getC, hs6, jn_getC]⟩
  obtain ⟨v4, t4', c4, b4, w4, g4, o4⟩ := r51 m (by omega) (z0 s7) v3 _ _ hA (bsStill b3 st3) (by rw [z0_next]; omega) (by rw [z0_next]; omega) (by simp; omega)
  have m4 := g4.1; have m4' := g4.2.1
  rw [z0_next] at m4 m4'
  obtain ⟨s8, hs8⟩ : ∃ x, x = jn s7 t4' := ⟨_, rfl⟩
  have G8 : Grew 88 s s8 := by rw [hs8]; exact (G7.trans g4.z0).mono (by omega)
  have n8 : s8.next = t4'.next := by rw [hs8]; rfl
  obtain ⟨s9, hs9⟩ : ∃ x, x = s8.seen ab := ⟨_, rfl⟩
  have n9 : s9.next = t4'.next := by rw [hs9, St.seen_next, n8]
  have G9 : Grew 88 s s9 := by rw [hs9]; exact G8.seen _
  have st4 : Still t4' (z0 s9) := ⟨by rw [z0_next, n9], fun y => by rw [z0_getC, hs9, seen_getC, hs8, jn_getC]⟩
  obtain ⟨v5, t5', c5, b5, w5, g5, o5⟩ := r52 m (by omega) (z0 s9) v4 _ (A % 18446744073709551616) (by omega) (bsStill b4 st4) (by rw [z0_next]; omega) (by rw [z0_next]; omega) (by simp; omega)
  obtain ⟨s10, hs10⟩ : ∃ x, x = jn s9 t5' := ⟨_, rfl⟩
  have G10 : Grew 110 s s10 := by rw [hs10]; exact (G9.trans g5.z0).mono (by omega)
  have st5 : Still t5' s10 := ⟨by rw [hs10]; rfl, fun y => by rw [hs10, jn_getC]⟩
  have O1 : Own s s1 := by rw [hs1]; exact (Own.refl s).seen _ hlt
  have O2 : Own s s2 := by rw [hs2]; exact O1.trans o1.jn
  have O3 : Own s s3 := by rw [hs3]; exact O2.seen _ (by omega)
  have O4 : Own s s4 := by rw [hs4]; exact O3.trans o2.jn
  have O5 : Own s s5 := by rw [hs5]; exact O4.seen _ (by omega)
  have O6 : Own s s6 := by rw [hs6]; exact O5.trans o3.jn
  have O7 : Own s s7 := by rw [hs7]; exact O6.seen _ (by omega)
  have O8 : Own s s8 := by rw [hs8]; exact O7.trans o4.jn
  have O9 : Own s s9 := by rw [hs9]; exact O8.seen _ (by omega)
  have O10 : Own s s10 := by rw [hs10]; exact O9.trans o5.jn
  have q1 := rU_c v1 PT.nil s1 t1
  have q2 := rU_c v2 PT.nil s3 t2
  have q3 := rU_c v3 PT.nil s5 t3
  have q4 := rU_c v4 PT.nil s7 t4'
  have q5 := rU_c v5 PT.nil s9 t5'
  rw [← hs2] at q1
  rw [← hs4] at q2
  rw [← hs6] at q3
  rw [← hs8] at q4
  rw [← hs10] at q5
  have x0 := hab
  have x2 := (G2.2.2 ab hlt).trans hab
  have x4 := (G4.2.2 ab hlt).trans hab
  have x6 := (G6.2.2 ab hlt).trans hab
  have x8 := (G8.2.2 ab hlt).trans hab
  unfold accC at x0 x2 x4 x6 x8
  rw [x24]
  unfold F24
  simp only [z0_e]
  simp (disch := (first | omega | (simp only [an_next, set_next, St.seen_next, jn_next, z0_next]; try omega; done))) only [op2_s, op_s, bin_e, pick_e, not_e, ext_e, nth_z, nth_1, nth_2, nth_3, gval_e, gval_u, cmp_e, orUndef_t, orUndef_f, condV_t, condV_f, cond_true, cond_false, eqI_eq, neI_eq, ltI_eq, leI_eq, gtI_eq, geI_eq, Bool.not_true, Bool.not_false, bf_tt, bf_tf, bf_ft, bf_ff, decide_true, decide_false, oneOf_1, oneOf_2, oneOf_3, thenV_n, thenV_e, thenV_r, exV_e, exV_r, Nat.beq_refl, eq_self, new_a, boxA, an_ati, an_atp, an_ats, an_atb, an_ne, set_ati, set_atp, set_ats, set_atb, set_ne, seen_getC, loadn_o, store_2, store_i, store_b, store_s, store_p, load_u, cut_22, put_22, cut_53, cut_55, put_55, put_50, put_51, put_52, put_53, store_5, nth_z, nth_1, nth_2, nth_3, nth_4, nil_u, fa_0, an_next, set_next, St.seen_next, jn_next, z0_next, jn_getC, z0_getC, rU_z, rU_seen, rU_set, rU_an, rU_sl, mov_v, x0, ← hs1, c1, q1, x2, ← hs3, c2, q2, x4, ← hs5, c3, q3]
  rw [apartIs (n0 := s.next) (fun _ => s.next) [0, 0, 0, 0, 50, 0, 0, 0, 0, 50, 0, 0, 0, 0, 50, 0] ?hc ?h0 ?hk _ (by kernel_rfl), cond_true]
  · simp (disch := (first | omega | (simp only [an_next, set_next, St.seen_next, jn_next, z0_next]; try omega; done))) only [op2_s, op_s, bin_e, pick_e, not_e, ext_e, nth_z, nth_1, nth_2, nth_3, gval_e, gval_u, cmp_e, orUndef_t, orUndef_f, condV_t, condV_f, cond_true, cond_false, eqI_eq, neI_eq, ltI_eq, leI_eq, gtI_eq, geI_eq, Bool.not_true, Bool.not_false, bf_tt, bf_tf, bf_ft, bf_ff, decide_true, decide_false, oneOf_1, oneOf_2, oneOf_3, thenV_n, thenV_e, thenV_r, exV_e, exV_r, Nat.beq_refl, eq_self, new_a, boxA, an_ati, an_atp, an_ats, an_atb, an_ne, set_ati, set_atp, set_ats, set_atb, set_ne, seen_getC, loadn_o, store_2, store_i, store_b, store_s, store_p, load_u, cut_22, put_22, cut_53, cut_55, put_55, put_50, put_51, put_52, put_53, store_5, nth_z, nth_1, nth_2, nth_3, nth_4, nil_u, fa_0, an_next, set_next, St.seen_next, jn_next, z0_next, jn_getC, z0_getC, rU_z, rU_seen, rU_set, rU_an, rU_sl, mov_v, fa_30, fa_31, x6, ← hs7, c4, q4, x8, ← hs9, c5, q5]
    rw [apartIs (n0 := s.next) (fun _ => s.next) [0, 0, 0, 0, 0, 0, 50, 0, 0, 0, 0, 0, 50, 0] ?hc2 ?h02 ?hk2 _ (by kernel_rfl), cond_true]
    · refine ⟨_, _, rfl, ?_, G10, O10⟩
      have b := bsStill b5 st5
      unfold encB
      rw [List.nil_append] at b
      exact b
    case hc2 => exact fun i j _ _ => Nat.le_refl _
    case h02 => exact fun i _ => Nat.le_refl _
    case hk2 =>
      exact ⟨kI (KI.pure _ _ _ _ _) (by decide), kI (KI.pure _ _ _ _ _) (by decide), kI (KI.pure _ _ _ _ _) (by decide), kI (KI.pure _ _ _ _ _) (by decide), kI (KI.pure _ _ _ _ _) (by decide), kI (KI.ld _ _ _ _ _ _ _ hlt) (by decide), kW (KW.own _ _ _ _ o4 (by omega)),
        kI (KI.pure _ _ _ _ _) (by decide), kI (KI.pure _ _ _ _ _) (by decide), kI (KI.pure _ _ _ _ _) (by decide), kI (KI.pure _ _ _ _ _) (by decide), kI (KI.ld _ _ _ _ _ _ _ hlt) (by decide), kW (KW.own _ _ _ _ o5 (by omega)), kI (KI.pure _ _ _ _ _) (by decide), trivial⟩
  case hc => exact fun i j _ _ => Nat.le_refl _
  case h0 => exact fun i _ => Nat.le_refl _
  case hk =>
    exact ⟨kI (KI.pure _ _ _ _ _) (by decide), kI (KI.pure _ _ _ _ _) (by decide), kI (KI.pure _ _ _ _ _) (by decide), kI (KI.ld _ _ _ _ _ _ _ hlt) (by decide), kW (KW.own _ _ _ _ o1 (by omega)),
      kI (KI.pure _ _ _ _ _) (by decide), kI (KI.pure _ _ _ _ _) (by decide), kI (KI.pure _ _ _ _ _) (by decide), kI (KI.ld _ _ _ _ _ _ _ hlt) (by decide), kW (KW.own _ _ _ _ o2 (by omega)),
      kI (KI.pure _ _ _ _ _) (by decide), kI (KI.pure _ _ _ _ _) (by decide), kI (KI.pure _ _ _ _ _) (by decide), kI (KI.ld _ _ _ _ _ _ _ hlt) (by decide), kW (KW.own _ _ _ _ o3 (by omega)), kI (KI.pure _ _ _ _ _) (by decide), trivial⟩
/-- a reader at rb: it stands at o of the bytes L, that lie in b -/
structure Rdr (s : St) (rb b : Nat) (L : List Nat) (o : Nat) : Prop where
  cell : s.getC rb = some [.slice (some ⟨b, o, none⟩) (L.length - o) (UNK + 1), .bool false]
  bytes : s.getC b = some (cB L)
  ne : b ≠ rb
  rl : rb < s.next
  bl : b < s.next
  r8 : 8 ≤ rb
  le : o ≤ L.length
theorem Rdr.still {s u : St} {rb b : Nat} {L : List Nat} {o : Nat} (h : Rdr s rb b L o) (g : Still s u) : Rdr u rb b L o :=
  ⟨(g.2 _).trans h.cell, (g.2 _).trans h.bytes, h.ne, by rw [g.1]; exact h.rl, by rw [g.1]; exact h.bl, h.r8, h.le⟩
theorem vb_last (f u : Nat) (h : u ≤ 127) : vb f u = [u] := by
  cases f with
  | zero => rfl
  | succ f => exact if_neg (by omega)
theorem vb_more (f u : Nat) (h : 127 < u) : vb (f + 1) u = (u % 128 + 128) :: vb f (u / 128) := if_pos h
theorem pow_128 (i : Nat) : 2 ^ (7 * i) = 128 ^ i := by rw [Nat.pow_mul]
theorem or_mod (u i : Nat) : (u % 128 ^ i) ||| (u / 128 ^ i % 128 * 128 ^ i) = u % 128 ^ (i + 1) := by
  have h1 : u % 128 ^ i < 2 ^ (7 * i) := by rw [pow_128]; exact Nat.mod_lt _ (Nat.pow_pos (by omega))
  have h2 := Nat.two_pow_add_eq_or_of_lt (i := 7 * i) h1 (u / 128 ^ i % 128)
  rw [pow_128] at h2
  rw [Nat.or_comm, Nat.mul_comm, ← h2, Nat.pow_succ, Nat.mod_mul, Nat.add_comm]
theorem mul7 (i : Nat) (h : i ≤ 9) : int2 mulO (.int .u64 7) (.int .u64 (i : Int)) = some (.int .u64 ((7 * i : Nat) : Int)) := mulU 7 i (by omega)
/-- the bits of one byte more -/
theorem shl_at (w i : Nat) (hi : i ≤ 9) (h : w * 2 ^ (7 * i) < 18446744073709551616) : sh2 shlO (.int .u64 (w : Int)) (.int .u64 ((7 * i : Nat) : Int)) = some (.int .u64 ((w * 128 ^ i : Nat) : Int)) := by
  rw [shlU w (7 * i) (by omega), Nat.mod_eq_of_lt h, pow_128]
theorem mod_lt_u {u : Nat} (hu : u < 18446744073709551616) (k : Nat) : u % k < 18446744073709551616 := Nat.lt_of_le_of_lt (Nat.mod_le _ _) hu
theorem part_lt {u : Nat} (hu : u < 18446744073709551616) (i : Nat) : u / 128 ^ i % 128 * 128 ^ i < 18446744073709551616 := by
  have h1 : u / 128 ^ i % 128 * 128 ^ i ≤ u / 128 ^ i * 128 ^ i := Nat.mul_le_mul_right _ (Nat.mod_le _ _)
  have h2 := Nat.div_mul_le_self u (128 ^ i)
  omega
theorem xor0I (n : Nat) (h : n < 9223372036854775808) (z : Int) (hz : z = 0) : int2 xorO (.int .i64 (n : Int)) (.int .i64 z) = some (.int .i64 (n : Int)) := by
  subst hz
  show setI .i64 (IntKind.i64.wrap ((BitVec.ofInt 64 (n : Int) ^^^ BitVec.ofInt 64 0).toNat : Int)) = _
  have e0 : BitVec.ofInt 64 0 = 0#64 := rfl
  rw [setI_eq, e0, BitVec.xor_zero]
  have e : (BitVec.ofInt 64 (n : Int)).toNat = n := by simp [BitVec.toNat_ofInt]; omega
  rw [e, wrap_i64 _ (by omega) (by omega)]
theorem neg0 (rec : Rec) (s : St) : oNeg (.v (.int .i64 ((0 : Nat) : Int))) rec PT.nil s = some (.int .i64 0, s) := nrfl rfl
theorem bs2 (a : Addr) (n k : Nat) (rec : Rec) (s : St) : oBuild [(.slice none 0 0), (.bool false)] [(0, 1, (.v (.slice (some a) n k)))] rec PT.nil s = some (aggOf [.slice (some a) n k, .bool false], s) := nrfl rfl
/-- Read -/
theorem r39 (M : Nat) (hM : 2 ≤ M) (s : St) (v : Value) (L : List Nat) (hb : Bs s v L) (hne : L ≠ []) (h8 : 8 ≤ s.next) (hn : s.next + 4 ≤ lim) (hL : L.length ≤ 1000) :
    ∃ rb b s', callN E M 39 [v] s = some (.pointer (some ⟨rb, 0, none⟩), s') ∧ Rdr s' rb b L 0 ∧ Grew 3 s s' ∧ s.next ≤ rb ∧ s.next ≤ b := by
  have hlim : lim = 1000000000 := rfl
  obtain ⟨m, rfl⟩ : ∃ m, M = m + 1 := ⟨M - 1, by omega⟩
  obtain ⟨v1, s1, a1, a2, a3, a4, a5⟩ := r60 m (by omega) s v L hb h8 (by omega) hL
  have g1 := a4.1; have g2 := a4.2.1
  rcases a2 with ⟨h, _⟩ | ⟨b, rfl, h1, h2, _⟩
  · exact absurd h hne
  · have hb' : s.next ≤ b := a3 _ _ _ rfl
    rw [x39]
    unfold F39
    simp (disch := (first | omega | (simp only [an_next, set_next, St.seen_next, jn_next, z0_next]; try omega; done))) only [op2_s, op_s, bin_e, pick_e, not_e, ext_e, nth_z, nth_1, nth_2, nth_3, gval_e, gval_u, cmp_e, orUndef_t, orUndef_f, condV_t, condV_f, cond_true, cond_false, eqI_eq, neI_eq, ltI_eq, leI_eq, gtI_eq, geI_eq, Bool.not_true, Bool.not_false, bf_tt, bf_tf, bf_ft, bf_ff, decide_true, decide_false, oneOf_1, oneOf_2, oneOf_3, thenV_n, thenV_e, thenV_r, exV_e, exV_r, Nat.beq_refl, eq_self, new_a, boxA, an_ati, an_atp, an_ats, an_atb, an_ne, set_ati, set_atp, set_ats, set_atb, set_ne, seen_getC, loadn_o, store_2, store_i, store_b, store_s, store_p, load_u, cut_22, put_22, cut_53, cut_55, put_55, put_50, put_51, put_52, put_53, store_5, nth_z, nth_1, nth_2, nth_3, nth_4, nil_u, fa_0, an_next, set_next, St.seen_next, jn_next, z0_next, jn_getC, z0_getC, rU_z, rU_seen, rU_set, rU_an, rU_sl, a1, bs2]
    refine ⟨s1.next, b, _, rfl, ⟨?_, ?_, by omega, by rw [an_next]; omega, by rw [an_next]; omega, by omega, Nat.zero_le _⟩, a4.an _ (by omega), g1, hb'⟩
    · rw [an_ats s1 _ _ _ _ _ (by omega) rfl, Nat.sub_zero]
    · rw [an_ne s1 _ b (by omega) (by omega), h1]
theorem buH (rec : Rec) (s : St) : oBuild [(.int .i64 0), (.int .u64 0)] [(0, 1, (.v (.int .i64 68719476736)))] rec PT.nil s = some (aggOf [.int .i64 68719476736, .int .u64 0], s) := nrfl rfl
theorem bu53 (d p q h l : Int) (rec : Rec) (s : St) : oBuild [(.int .i64 0), (.int .i64 0), (.int .i64 0), (.int .i64 0), (.int .u64 0)] [(0, 1, (.v (.int .i64 d))), (1, 1, (.v (.int .i64 p))), (2, 1, (.v (.int .i64 q))), (3, 2, (.v (aggOf [.int .i64 h, .int .u64 l])))] rec PT.nil s = some (aggOf [.int .i64 d, .int .i64 p, .int .i64 q, .int .i64 h, .int .u64 l], s) := nrfl rfl
theorem drop_on {L a rest : List Nat} {o : Nat} (h : L.drop o = a ++ rest) : L.drop (o + a.length) = rest := by
  rw [← List.drop_drop, h, List.drop_left]
end Go.Proofs.Ytdnedangfnincaa.AbsAccR
namespace Go.Proofs.Ytdnedangfnincaa.AbsAccR
open Go Go.Abs Go.Proofs
set_option maxRecDepth 100000
set_option linter.unusedVariables false
set_option linter.unusedSimpArgs false

attribute [local congr] h_opt2 h_opt h_condV h_cond
/-! any bytes read as numbers: the plain law, and the code's reader -/
def bitsAt (x i : Nat) : Nat := x % 128 * 2 ^ (7 * i) % 18446744073709551616
/-- a number read: itself and how many bytes it has -/
def rdm : Nat → Nat → List Nat → Option (Nat × Nat)
  | _, _, [] => none
  | i, a, x :: l => if i = 9 ∧ 1 < x then none else if 128 ≤ x then rdm (i + 1) (a ||| bitsAt x i) l else if x = 0 ∧ 0 < i then none else some (a ||| bitsAt x i, i + 1)
theorem rdm_f1 {i a x : Nat} {l : List Nat} (h : i = 9) (h' : 1 < x) : rdm i a (x :: l) = none := by unfold rdm; rw [if_pos ⟨h, h'⟩]
theorem rdm_m {i a x : Nat} {l : List Nat} (h : ¬(i = 9 ∧ 1 < x)) (h' : 128 ≤ x) : rdm i a (x :: l) = rdm (i + 1) (a ||| bitsAt x i) l := by
  conv => lhs; unfold rdm
  rw [if_neg h, if_pos h']
theorem rdm_f2 {i a x : Nat} {l : List Nat} (h : ¬(i = 9 ∧ 1 < x)) (h1 : x = 0) (h2 : 0 < i) : rdm i a (x :: l) = none := by
  unfold rdm; rw [if_neg h, if_neg (by omega), if_pos ⟨h1, h2⟩]
theorem rdm_d {i a x : Nat} {l : List Nat} (h : ¬(i = 9 ∧ 1 < x)) (h' : ¬128 ≤ x) (h1 : ¬(x = 0 ∧ 0 < i)) : rdm i a (x :: l) = some (a ||| bitsAt x i, i + 1) := by
  unfold rdm; rw [if_neg h, if_neg h', if_neg h1]
theorem bits_lt (x i : Nat) : bitsAt x i < 18446744073709551616 := Nat.mod_lt _ (by omega)
theorem or_lt64 {a b : Nat} (h : a < 18446744073709551616) (h' : b < 18446744073709551616) : a ||| b < 18446744073709551616 := by
  have := Nat.or_lt_two_pow (n := 64) (show a < 2 ^ 64 by omega) (show b < 2 ^ 64 by omega)
  omega
theorem or_add (a y i : Nat) (h : a < 128 ^ i) : a ||| (y * 128 ^ i) = a + y * 128 ^ i := by
  have h2 := Nat.two_pow_add_eq_or_of_lt (i := 7 * i) (by rw [pow_128]; exact h) y
  rw [pow_128] at h2
  rw [Nat.or_comm, Nat.mul_comm y, ← h2, Nat.add_comm]
theorem bits_eq (x i : Nat) (h : x % 128 * 128 ^ i < 18446744073709551616) : bitsAt x i = x % 128 * 128 ^ i := by
  unfold bitsAt
  rw [pow_128, Nat.mod_eq_of_lt h]
/-- what is read is what would be written -/
theorem rdm_ok : ∀ (l : List Nat) (i a u n : Nat), i ≤ 9 → a < 128 ^ i → (∀ x ∈ l, x < 256) → rdm i a l = some (u, n) →
    ∃ w rest, u = a + w * 128 ^ i ∧ u < 18446744073709551616 ∧ l = vb (9 - i) w ++ rest ∧ n = i + (vb (9 - i) w).length ∧ (0 < i → 0 < w)
  | [], i, a, u, n, _, _, _, h => by cases h
  | x :: l, i, a, u, n, hi, ha, hl, h => by
    have hx := hl x List.mem_cons_self
    by_cases h9 : i = 9 ∧ 1 < x
    · rw [rdm_f1 h9.1 h9.2] at h; cases h
    by_cases hm : 128 ≤ x
    · have hi8 : i ≤ 8 := by omega
      have pb : 128 ^ i ≤ 72057594037927936 := Nat.le_trans (Nat.pow_le_pow_right (by omega) hi8) (by decide)
      have ps : 128 ^ (i + 1) = 128 ^ i * 128 := by rw [Nat.pow_succ]
      have qb : x % 128 * 128 ^ i ≤ 127 * 128 ^ i := Nat.mul_le_mul_right _ (by omega)
      rw [rdm_m h9 hm, bits_eq x i (by omega), or_add _ _ _ ha] at h
      obtain ⟨w, rest, e1, e2, e3, e4, e5⟩ := rdm_ok l (i + 1) _ u n (by omega) (by omega) (fun y hy => hl y (List.mem_cons_of_mem _ hy)) h
      have hw := e5 (by omega)
      refine ⟨x % 128 + 128 * w, rest, ?_, e2, ?_, ?_, fun _ => by omega⟩
      · rw [e1, ps, Nat.add_mul, Nat.mul_comm (128 ^ i) 128, ← Nat.mul_assoc, Nat.mul_comm w 128, Nat.add_assoc]
      · rw [show 9 - i = (9 - (i + 1)) + 1 by omega, vb_more _ _ (by omega), show (x % 128 + 128 * w) / 128 = w by omega, show (x % 128 + 128 * w) % 128 + 128 = x by omega, e3]
        rfl
      · rw [show 9 - i = (9 - (i + 1)) + 1 by omega, vb_more _ _ (by omega), show (x % 128 + 128 * w) / 128 = w by omega, List.length_cons, e4]
        omega
    · by_cases h0 : x = 0 ∧ 0 < i
      · rw [rdm_f2 h9 h0.1 h0.2] at h; cases h
      have em : x % 128 = x := Nat.mod_eq_of_lt (by omega)
      have qb : x * 128 ^ i < 18446744073709551616 ∧ a + x * 128 ^ i < 18446744073709551616 := by
        by_cases hi9 : i = 9
        · subst hi9
          have : (128 : Nat) ^ 9 = 9223372036854775808 := rfl
          have hx1 : x ≤ 1 := by omega
          rw [this] at ha ⊢
          omega
        · have pb : 128 ^ i ≤ 72057594037927936 := Nat.le_trans (Nat.pow_le_pow_right (by omega) (show i ≤ 8 by omega)) (by decide)
          have qb : x * 128 ^ i ≤ 127 * 128 ^ i := Nat.mul_le_mul_right _ (by omega)
          omega
      rw [rdm_d h9 hm h0, bits_eq x i (by rw [em]; exact qb.1), em, or_add _ _ _ ha] at h
      obtain ⟨rfl, rfl⟩ := Prod.mk.inj (Option.some.inj h)
      refine ⟨x, l, rfl, qb.2, ?_, ?_, fun _ => by omega⟩
      · rw [vb_last _ _ (by omega)]; rfl
      · rw [vb_last _ _ (by omega)]; rfl
/-- where a reader stands after one number more -/
def nxU (L : List Nat) : Option Nat → Nat × Option Nat
  | none => (0, none)
  | some o => match rdm 0 0 (L.drop o) with
    | none => (0, none)
    | some (u, n) => (u, some (o + n))
theorem nxU_no {L : List Nat} {o : Nat} (h : rdm 0 0 (L.drop o) = none) : nxU L (some o) = (0, none) := by simp only [nxU, h]
theorem nxU_yes {L : List Nat} {o u n : Nat} (h : rdm 0 0 (L.drop o) = some (u, n)) : nxU L (some o) = (u, some (o + n)) := by simp only [nxU, h]
def Spo (s : St) (rb : Nat) : Prop := s.getC rb = some [.slice none 0 0, .bool true] ∧ 8 ≤ rb ∧ rb < s.next
/-- a reader: it stands somewhere, or is spoilt -/
def RS (s : St) (rb b : Nat) (L : List Nat) : Option Nat → Prop
  | some o => Rdr s rb b L o
  | none => Spo s rb
def Kept (rb : Nat) (s s' : St) : Prop := s'.next = s.next ∧ ∀ y, y ≠ rb → s'.getC y = s.getC y
theorem Kept.refl (rb : Nat) (s : St) : Kept rb s s := ⟨rfl, fun _ _ => rfl⟩
theorem Kept.trans {rb : Nat} {a b c : St} (h : Kept rb a b) (g : Kept rb b c) : Kept rb a c := ⟨g.1.trans h.1, fun y hy => (g.2 y hy).trans (h.2 y hy)⟩
theorem RS.cell {s : St} {rb b : Nat} {L : List Nat} {st : Option Nat} (h : RS s rb b L st) : (∃ a n c f, s.getC rb = some [.slice a n c, .bool f]) ∧ 8 ≤ rb ∧ rb < s.next := by
  cases st with
  | none => exact ⟨⟨_, _, _, _, h.1⟩, h.2.1, h.2.2⟩
  | some o =>
    have h : Rdr s rb b L o := h
    exact ⟨⟨_, _, _, _, h.cell⟩, h.r8, h.rl⟩
/-- what spoils: both cells set -/
theorem spoil_st {s t : St} {rb : Nat} (hs : Still s t) (h8 : 8 ≤ rb) (hr : rb < s.next) (hl : s.next ≤ lim) (c : List Value) : Spo ((t.set rb (some c)).set rb (some [.slice none 0 0, .bool true])) rb ∧ Kept rb s ((t.set rb (some c)).set rb (some [.slice none 0 0, .bool true])) := by
  have hlim : lim = 1000000000 := rfl
  refine ⟨⟨set_ats _ _ _ _ _ _ _ h8 (by omega) rfl, h8, by rw [set_next, set_next, hs.1]; exact hr⟩, by rw [set_next, set_next, hs.1], fun y hy => ?_⟩
  rw [set_ne _ _ _ _ (by omega) hy, set_ne _ _ _ _ (by omega) hy, hs.2]
theorem r61 (M : Nat) (hM : 1 ≤ M) (s t : St) (rb b : Nat) (L : List Nat) (st : Option Nat) (h : RS s rb b L st) (hs : Still s t) (hl : s.next ≤ lim) :
    ∃ s', callN E M 61 [.pointer (some ⟨rb, 0, none⟩)] t = some (oneOf [], s') ∧ Spo s' rb ∧ Kept rb s s' := by
  have hlim : lim = 1000000000 := rfl
  obtain ⟨m, rfl⟩ : ∃ m, M = m + 1 := ⟨M - 1, by omega⟩
  obtain ⟨⟨a, n, c, f, hc⟩, h8, hr⟩ := h.cell
  have g := (hs.2 rb).trans hc
  obtain ⟨p1, p2⟩ := spoil_st hs h8 hr hl [.slice none 0 0, .bool f]
  rw [x61]
  unfold F61
  simp (disch := omega) only [op2_s, op_s, bin_e, pick_e, not_e, ext_e, nth_z, nth_1, nth_2, nth_3, gval_e, gval_u, cmp_e, orUndef_t, orUndef_f, condV_t, condV_f, cond_true, cond_false, eqI_eq, neI_eq, ltI_eq, leI_eq, gtI_eq, geI_eq, Bool.not_true, Bool.not_false, bf_tt, bf_tf, bf_ft, bf_ff, decide_true, decide_false, oneOf_1, oneOf_2, oneOf_3, thenV_n, thenV_e, thenV_r, exV_e, exV_r, Nat.beq_refl, eq_self, new_a, boxA, an_ati, an_atp, an_ats, an_atb, an_ne, set_ati, set_atp, set_ats, set_atb, set_ne, seen_getC, loadn_o, store_2, store_i, store_b, store_s, store_p, load_u, cut_22, put_22, cut_53, cut_55, put_55, put_50, put_51, put_52, put_53, store_5, nth_z, nth_1, nth_2, nth_3, nth_4, nil_u, fa_0, an_next, set_next, St.seen_next, jn_next, z0_next, jn_getC, z0_getC, rU_z, rU_seen, rU_set, rU_an, rU_sl, g, put_20, put_21]
  exact ⟨_, rfl, p1, p2⟩
noncomputable abbrev lp (m rb b o n fuel : Nat) (z : Value) (a i : Nat) (s : St) := loopV (B41_l0 (callN E m) m (.pointer (some ⟨rb, 0, none⟩), .slice (some ⟨b, o, none⟩) n (UNK + 1), .int .i64 (n : Int))) fuel (z, .int .u64 (a : Int), .int .i64 (i : Int)) s
theorem lp_g (m rb b o : Nat) (L : List Nat) (hb : ∀ x ∈ L, x < 256) (hL : L.length ≤ 1000) (s0 : St) (hr : Rdr s0 rb b L o) (hn1 : s0.next ≤ lim) : ∀ (l : List Nat) (i fuel a : Nat) (s : St) (z : Value), L.drop (o + i) = l → i ≤ 9 → a < 18446744073709551616 → Still s0 s → l.length < fuel →
    (rdm i a l = none → ∃ z' s', lp m rb b o (L.length - o) fuel z a i s = some (.exit 0, z', s') ∧ Still s0 s') ∧
    (∀ u n, rdm i a l = some (u, n) → ∃ x y s', lp m rb b o (L.length - o) fuel z a i s = some (.ret, ((.int .u64 (u : Int), x, y), s')) ∧ Rdr s' rb b L (o + n) ∧ Kept rb s0 s') := by
  have hlim : lim = 1000000000 := rfl
  intro l
  induction l with
  | nil =>
    intro i fuel a s z hd hi ha hs hf
    obtain ⟨fuel, rfl⟩ : ∃ k, fuel = k + 1 := ⟨fuel - 1, by omega⟩
    have hlen := congrArg List.length hd
    rw [List.length_drop, List.length_nil] at hlen
    have e1 : decide ((i : Int) < ((L.length - o : Nat) : Int)) = false := decide_eq_false (by omega)
    refine ⟨fun _ => ?_, fun u n h => by cases h⟩
    show ∃ z' s', loopV _ (fuel + 1) _ _ = _ ∧ _
    rw [loopV_s, B41_l0]
    simp only [op2_s, op_s, bin_e, pick_e, not_e, ext_e, nth_z, nth_1, nth_2, nth_3, gval_e, gval_u, cmp_e, orUndef_t, orUndef_f, condV_t, condV_f, cond_true, cond_false, eqI_eq, neI_eq, ltI_eq, leI_eq, gtI_eq, geI_eq, Bool.not_true, Bool.not_false, bf_tt, bf_tf, bf_ft, bf_ff, decide_true, decide_false, oneOf_1, oneOf_2, oneOf_3, thenV_n, thenV_e, thenV_r, exV_e, exV_r, Nat.beq_refl, eq_self, e1]
    exact ⟨_, _, rfl, hs⟩
  | cons x l ih =>
    intro i fuel a s z hd hi ha hs hf
    obtain ⟨fuel, rfl⟩ : ∃ k, fuel = k + 1 := ⟨fuel - 1, by omega⟩
    have hlen := congrArg List.length hd
    rw [List.length_drop, List.length_cons] at hlen
    have hf : l.length < fuel := by rw [List.length_cons] at hf; omega
    have hx : x < 256 := hb x (List.mem_of_mem_drop (hd ▸ List.mem_cons_self))
    have hd' : L.drop (o + (i + 1)) = l := by
      have := congrArg (List.drop 1) hd
      rw [List.drop_drop] at this
      exact this
    have e1 : decide ((i : Int) < ((L.length - o : Nat) : Int)) = true := decide_eq_true (by omega)
    have hidx := idxL_e 1 b o (L.length - o) (UNK + 1) i (callN E m) PT.nil s (by omega)
    rw [Nat.mul_one] at hidx
    have g0 := (hs.2 b).trans hr.bytes
    have hn := nth_cB hd
    have a1 := and127_8 x hx
    have sh := shlU (x % 128) (7 * i) (by omega)
    have orr := orU_ a (bitsAt x i) ha (bits_lt x i)
    have m7 := mul7 i hi
    have ad : int2 addO (.int .i64 (i : Int)) (.int .i64 1) = some (.int .i64 ((i + 1 : Nat) : Int)) := by rw [add_e _ _ (by omega) (by omega)]; rfl
    have hs' := hs.trans (Still.seen s b)
    have sb : ((x % 128 * 2 ^ (7 * i) % 18446744073709551616 : Nat) : Int) = (bitsAt x i : Int) := rfl
    rw [sb] at sh
    show (_ → ∃ z' s', loopV _ (fuel + 1) _ _ = _ ∧ _) ∧ (∀ u n, _ → ∃ x y s', loopV _ (fuel + 1) _ _ = _ ∧ _)
    rw [loopV_s, B41_l0]
    by_cases h91 : i = 9 ∧ 1 < x
    · have e2 : decide ((i : Int) = 9) = true := decide_eq_true (by omega)
      have e4 : decide ((1 : Int) < (x : Int)) = true := decide_eq_true (by omega)
      rw [rdm_f1 h91.1 h91.2]
      refine ⟨fun _ => ?_, fun u n h => by cases h⟩
      simp (disch := omega) only [op2_s, op_s, bin_e, pick_e, not_e, ext_e, nth_z, nth_1, nth_2, nth_3, gval_e, gval_u, cmp_e, orUndef_t, orUndef_f, condV_t, condV_f, cond_true, cond_false, eqI_eq, neI_eq, ltI_eq, leI_eq, gtI_eq, geI_eq, Bool.not_true, Bool.not_false, bf_tt, bf_tf, bf_ft, bf_ff, decide_true, decide_false, oneOf_1, oneOf_2, oneOf_3, thenV_n, thenV_e, thenV_r, exV_e, exV_r, Nat.beq_refl, eq_self, e1, hidx, load_u, g0, hn, e2, e4]
      exact ⟨_, _, rfl, hs'⟩
    by_cases hm : 128 ≤ x
    · have hi9 : i ≠ 9 := by omega
      have e2 : decide ((i : Int) = 9) = false := decide_eq_false (by omega)
      have e3 : decide ((128 : Int) ≤ (x : Int)) = true := decide_eq_true (by omega)
      rw [rdm_m h91 hm]
      obtain ⟨r1, r2⟩ := ih (i + 1) fuel (a ||| bitsAt x i) (s.seen b) z hd' (by omega) (or_lt64 ha (bits_lt x i)) hs' hf
      refine ⟨fun h => ?_, fun u n h => ?_⟩
      · obtain ⟨z', s', q1, q2⟩ := r1 h
        simp (disch := omega) only [op2_s, op_s, bin_e, pick_e, not_e, ext_e, nth_z, nth_1, nth_2, nth_3, gval_e, gval_u, cmp_e, orUndef_t, orUndef_f, condV_t, condV_f, cond_true, cond_false, eqI_eq, neI_eq, ltI_eq, leI_eq, gtI_eq, geI_eq, Bool.not_true, Bool.not_false, bf_tt, bf_tf, bf_ft, bf_ff, decide_true, decide_false, oneOf_1, oneOf_2, oneOf_3, thenV_n, thenV_e, thenV_r, exV_e, exV_r, Nat.beq_refl, eq_self, e1, hidx, load_u, g0, hn, e2, a1, toU, m7, sh, orr, e3, ad]
        exact ⟨z', s', q1, q2⟩
      · obtain ⟨x', y', s', q1, q2⟩ := r2 u n h
        simp (disch := omega) only [op2_s, op_s, bin_e, pick_e, not_e, ext_e, nth_z, nth_1, nth_2, nth_3, gval_e, gval_u, cmp_e, orUndef_t, orUndef_f, condV_t, condV_f, cond_true, cond_false, eqI_eq, neI_eq, ltI_eq, leI_eq, gtI_eq, geI_eq, Bool.not_true, Bool.not_false, bf_tt, bf_tf, bf_ft, bf_ff, decide_true, decide_false, oneOf_1, oneOf_2, oneOf_3, thenV_n, thenV_e, thenV_r, exV_e, exV_r, Nat.beq_refl, eq_self, e1, hidx, load_u, g0, hn, e2, a1, toU, m7, sh, orr, e3, ad]
        exact ⟨x', y', s', q1, q2⟩
    have e3 : decide ((128 : Int) ≤ (x : Int)) = false := decide_eq_false (by omega)
    by_cases h0 : x = 0 ∧ 0 < i
    · have e5 : decide ((x : Int) = 0) = true := decide_eq_true (by omega)
      have e6 : decide (0 < (i : Int)) = true := decide_eq_true (by omega)
      rw [rdm_f2 h91 h0.1 h0.2]
      refine ⟨fun _ => ?_, fun u n h => by cases h⟩
      by_cases h9 : i = 9
      · have e2 : decide ((i : Int) = 9) = true := decide_eq_true (by omega)
        have e4 : decide ((1 : Int) < (x : Int)) = false := decide_eq_false (by omega)
        simp (disch := omega) only [op2_s, op_s, bin_e, pick_e, not_e, ext_e, nth_z, nth_1, nth_2, nth_3, gval_e, gval_u, cmp_e, orUndef_t, orUndef_f, condV_t, condV_f, cond_true, cond_false, eqI_eq, neI_eq, ltI_eq, leI_eq, gtI_eq, geI_eq, Bool.not_true, Bool.not_false, bf_tt, bf_tf, bf_ft, bf_ff, decide_true, decide_false, oneOf_1, oneOf_2, oneOf_3, thenV_n, thenV_e, thenV_r, exV_e, exV_r, Nat.beq_refl, eq_self, e1, hidx, load_u, g0, hn, e2, e4, a1, toU, m7, sh, orr, e3, e5, e6]
        exact ⟨_, _, rfl, hs'⟩
      · have e2 : decide ((i : Int) = 9) = false := decide_eq_false (by omega)
        simp (disch := omega) only [op2_s, op_s, bin_e, pick_e, not_e, ext_e, nth_z, nth_1, nth_2, nth_3, gval_e, gval_u, cmp_e, orUndef_t, orUndef_f, condV_t, condV_f, cond_true, cond_false, eqI_eq, neI_eq, ltI_eq, leI_eq, gtI_eq, geI_eq, Bool.not_true, Bool.not_false, bf_tt, bf_tf, bf_ft, bf_ff, decide_true, decide_false, oneOf_1, oneOf_2, oneOf_3, thenV_n, thenV_e, thenV_r, exV_e, exV_r, Nat.beq_refl, eq_self, e1, hidx, load_u, g0, hn, e2, a1, toU, m7, sh, orr, e3, e5, e6]
        exact ⟨_, _, rfl, hs'⟩
    rw [rdm_d h91 hm h0]
    refine ⟨fun h => (by cases h), fun u n h => ?_⟩
    obtain ⟨rfl, rfl⟩ := Prod.mk.inj (Option.some.inj h)
    have sl := sl_u b o (L.length - o) (i + 1) (callN E m) ((s.seen b).seen rb) (by omega)
    have gr := (hs.2 rb).trans hr.cell
    have fin : ∀ x' y' : Value, ∃ (x'' y'' : Value) (s' : St), some (AExit.ret, (((Value.int .u64 ((a ||| bitsAt x i : Nat) : Int)), x', y'), ((s.seen b).seen rb).set rb (some [.slice (some ⟨b, o + (i + 1), none⟩) (L.length - o - (i + 1)) (UNK + 1), .bool false]))) = some (AExit.ret, ((Value.int .u64 ((a ||| bitsAt x i : Nat) : Int), x'', y''), s')) ∧ Rdr s' rb b L (o + (i + 1)) ∧ Kept rb s0 s' := fun x' y' => by
      have b1 := hr.rl; have b2 := hr.bl
      refine ⟨x', y', _, rfl, ⟨?_, ?_, hr.ne, ?_, ?_, hr.r8, by omega⟩, ?_, fun y hy => ?_⟩
      · rw [set_ats _ _ _ _ _ _ _ hr.r8 (by omega) rfl, show L.length - o - (i + 1) = L.length - (o + (i + 1)) by omega]
      · rw [set_ne _ _ _ _ (by omega) hr.ne, seen_getC, seen_getC, g0]
      · rw [set_next, St.seen_next, St.seen_next, hs.1]; exact b1
      · rw [set_next, St.seen_next, St.seen_next, hs.1]; exact b2
      · rw [set_next, St.seen_next, St.seen_next, hs.1]
      · rw [set_ne _ _ _ _ (by omega) hy, seen_getC, seen_getC, hs.2]
    by_cases h9 : i = 9
    · have e2 : decide ((i : Int) = 9) = true := decide_eq_true (by omega)
      have e4 : decide ((1 : Int) < (x : Int)) = false := decide_eq_false (by omega)
      have e5 : decide ((x : Int) = 0) = false := decide_eq_false (by omega)
      simp (disch := omega) only [op2_s, op_s, bin_e, pick_e, not_e, ext_e, nth_z, nth_1, nth_2, nth_3, gval_e, gval_u, cmp_e, orUndef_t, orUndef_f, condV_t, condV_f, cond_true, cond_false, eqI_eq, neI_eq, ltI_eq, leI_eq, gtI_eq, geI_eq, Bool.not_true, Bool.not_false, bf_tt, bf_tf, bf_ft, bf_ff, decide_true, decide_false, oneOf_1, oneOf_2, oneOf_3, thenV_n, thenV_e, thenV_r, exV_e, exV_r, Nat.beq_refl, eq_self, new_a, boxA, an_ati, an_atp, an_ats, an_atb, an_ne, set_ati, set_atp, set_ats, set_atb, set_ne, seen_getC, loadn_o, store_2, store_i, store_b, store_s, store_p, load_u, cut_22, put_22, cut_53, cut_55, put_55, put_50, put_51, put_52, put_53, store_5, nth_z, nth_1, nth_2, nth_3, nth_4, nil_u, fa_0, an_next, set_next, St.seen_next, jn_next, z0_next, jn_getC, z0_getC, rU_z, rU_seen, rU_set, rU_an, rU_sl, put_20, e1, hidx, load_u, g0, hn, e2, e4, a1, toU, m7, sh, orr, e3, e5, ad, gr, sl]
      exact fin _ _
    · have e2 : decide ((i : Int) = 9) = false := decide_eq_false (by omega)
      by_cases hx0 : x = 0
      · have e5 : decide ((x : Int) = 0) = true := decide_eq_true (by omega)
        have e6 : decide (0 < (i : Int)) = false := decide_eq_false (by omega)
        simp (disch := omega) only [op2_s, op_s, bin_e, pick_e, not_e, ext_e, nth_z, nth_1, nth_2, nth_3, gval_e, gval_u, cmp_e, orUndef_t, orUndef_f, condV_t, condV_f, cond_true, cond_false, eqI_eq, neI_eq, ltI_eq, leI_eq, gtI_eq, geI_eq, Bool.not_true, Bool.not_false, bf_tt, bf_tf, bf_ft, bf_ff, decide_true, decide_false, oneOf_1, oneOf_2, oneOf_3, thenV_n, thenV_e, thenV_r, exV_e, exV_r, Nat.beq_refl, eq_self, new_a, boxA, an_ati, an_atp, an_ats, an_atb, an_ne, set_ati, set_atp, set_ats, set_atb, set_ne, seen_getC, loadn_o, store_2, store_i, store_b, store_s, store_p, load_u, cut_22, put_22, cut_53, cut_55, put_55, put_50, put_51, put_52, put_53, store_5, nth_z, nth_1, nth_2, nth_3, nth_4, nil_u, fa_0, an_next, set_next, St.seen_next, jn_next, z0_next, jn_getC, z0_getC, rU_z, rU_seen, rU_set, rU_an, rU_sl, put_20, e1, hidx, load_u, g0, hn, e2, a1, toU, m7, sh, orr, e3, e5, e6, ad, gr, sl]
        exact fin _ _
      · have e5 : decide ((x : Int) = 0) = false := decide_eq_false (by omega)
        simp (disch := omega) only [op2_s, op_s, bin_e, pick_e, not_e, ext_e, nth_z, nth_1, nth_2, nth_3, gval_e, gval_u, cmp_e, orUndef_t, orUndef_f, condV_t, condV_f, cond_true, cond_false, eqI_eq, neI_eq, ltI_eq, leI_eq, gtI_eq, geI_eq, Bool.not_true, Bool.not_false, bf_tt, bf_tf, bf_ft, bf_ff, decide_true, decide_false, oneOf_1, oneOf_2, oneOf_3, thenV_n, thenV_e, thenV_r, exV_e, exV_r, Nat.beq_refl, eq_self, new_a, boxA, an_ati, an_atp, an_ats, an_atb, an_ne, set_ati, set_atp, set_ats, set_atb, set_ne, seen_getC, loadn_o, store_2, store_i, store_b, store_s, store_p, load_u, cut_22, put_22, cut_53, cut_55, put_55, put_50, put_51, put_52, put_53, store_5, nth_z, nth_1, nth_2, nth_3, nth_4, nil_u, fa_0, an_next, set_next, St.seen_next, jn_next, z0_next, jn_getC, z0_getC, rU_z, rU_seen, rU_set, rU_an, rU_sl, put_20, e1, hidx, load_u, g0, hn, e2, a1, toU, m7, sh, orr, e3, e5, ad, gr, sl]
        exact fin _ _
/-- U: of the code -/
theorem r41 (M : Nat) (hM : 1100 ≤ M) (s : St) (rb b : Nat) (L : List Nat) (hb : ∀ x ∈ L, x < 256) (hL : L.length ≤ 1000) (st : Option Nat) (hr : RS s rb b L st) (hn1 : s.next ≤ lim) :
    ∃ s', callN E M 41 [.pointer (some ⟨rb, 0, none⟩)] s = some (.int .u64 ((nxU L st).1 : Int), s') ∧ RS s' rb b L (nxU L st).2 ∧ Kept rb s s' := by
  have hlim : lim = 1000000000 := rfl
  obtain ⟨m, rfl⟩ : ∃ m, M = m + 1 := ⟨M - 1, by omega⟩
  rw [x41]
  unfold F41
  cases st with
  | none =>
    have h : Spo s rb := hr
    have hc := h.1
    obtain ⟨f, hf⟩ : ∃ k, m = k + 1 := ⟨m - 1, by omega⟩
    obtain ⟨s', q1, q2, q3⟩ := r61 m (by omega) s (s.seen rb) rb b L none hr (Still.seen s rb) hn1
    have e1 : decide ((0 : Int) < ((0 : Nat) : Int)) = false := rfl
    have lv : loopV (B41_l0 (callN E m) m (.pointer (some ⟨rb, 0, none⟩), .slice none 0 0, .int .i64 ((0 : Nat) : Int))) m (.int .u64 0, .int .u64 0, .int .i64 0) (s.seen rb) = some (.exit 0, (.int .u64 0, .int .u64 0, .int .i64 0), s.seen rb) := by
      conv => lhs; arg 2; rw [hf]
      rw [loopV_s, B41_l0]
      simp only [op2_s, op_s, bin_e, pick_e, not_e, ext_e, nth_z, nth_1, nth_2, nth_3, gval_e, gval_u, cmp_e, orUndef_t, orUndef_f, condV_t, condV_f, cond_true, cond_false, eqI_eq, neI_eq, ltI_eq, leI_eq, gtI_eq, geI_eq, Bool.not_true, Bool.not_false, bf_tt, bf_tf, bf_ft, bf_ff, decide_true, decide_false, oneOf_1, oneOf_2, oneOf_3, thenV_n, thenV_e, thenV_r, exV_e, exV_r, Nat.beq_refl, eq_self, e1]
    simp only [op2_s, op_s, bin_e, pick_e, not_e, ext_e, nth_z, nth_1, nth_2, nth_3, gval_e, gval_u, cmp_e, orUndef_t, orUndef_f, condV_t, condV_f, cond_true, cond_false, eqI_eq, neI_eq, ltI_eq, leI_eq, gtI_eq, geI_eq, Bool.not_true, Bool.not_false, bf_tt, bf_tf, bf_ft, bf_ff, decide_true, decide_false, oneOf_1, oneOf_2, oneOf_3, thenV_n, thenV_e, thenV_r, exV_e, exV_r, Nat.beq_refl, eq_self, new_a, boxA, an_ati, an_atp, an_ats, an_atb, an_ne, set_ati, set_atp, set_ats, set_atb, set_ne, seen_getC, loadn_o, store_2, store_i, store_b, store_s, store_p, load_u, cut_22, put_22, cut_53, cut_55, put_55, put_50, put_51, put_52, put_53, store_5, nth_z, nth_1, nth_2, nth_3, nth_4, nil_u, fa_0, an_next, set_next, St.seen_next, jn_next, z0_next, jn_getC, z0_getC, rU_z, rU_seen, rU_set, rU_an, rU_sl, hc, lenL_e, lv, C41_l0, J41_r0, q1]
    exact ⟨s', rfl, q2, q3⟩
  | some o =>
    have h : Rdr s rb b L o := hr
    have hc := h.cell
    obtain ⟨r1, r2⟩ := lp_g m rb b o L hb hL s h hn1 (L.drop (o + 0)) 0 m 0 (s.seen rb) (.int .u64 0) rfl (by omega) (by omega) (Still.seen s rb) (by rw [List.length_drop]; omega)
    rw [Nat.add_zero] at r1 r2
    cases hk : rdm 0 0 (L.drop o) with
    | none =>
      obtain ⟨z', t, p1, p2⟩ := r1 hk
      obtain ⟨s', q1, q2, q3⟩ := r61 m (by omega) s t rb b L (some o) hr p2 hn1
      rw [nxU_no hk]
      have p1 : loopV (B41_l0 (callN E m) m (.pointer (some ⟨rb, 0, none⟩), .slice (some ⟨b, o, none⟩) (L.length - o) (UNK + 1), .int .i64 ((L.length - o : Nat) : Int))) m (.int .u64 0, .int .u64 0, .int .i64 0) (s.seen rb) = some (.exit 0, z', t) := p1
      simp only [op2_s, op_s, bin_e, pick_e, not_e, ext_e, nth_z, nth_1, nth_2, nth_3, gval_e, gval_u, cmp_e, orUndef_t, orUndef_f, condV_t, condV_f, cond_true, cond_false, eqI_eq, neI_eq, ltI_eq, leI_eq, gtI_eq, geI_eq, Bool.not_true, Bool.not_false, bf_tt, bf_tf, bf_ft, bf_ff, decide_true, decide_false, oneOf_1, oneOf_2, oneOf_3, thenV_n, thenV_e, thenV_r, exV_e, exV_r, Nat.beq_refl, eq_self, new_a, boxA, an_ati, an_atp, an_ats, an_atb, an_ne, set_ati, set_atp, set_ats, set_atb, set_ne, seen_getC, loadn_o, store_2, store_i, store_b, store_s, store_p, load_u, cut_22, put_22, cut_53, cut_55, put_55, put_50, put_51, put_52, put_53, store_5, nth_z, nth_1, nth_2, nth_3, nth_4, nil_u, fa_0, an_next, set_next, St.seen_next, jn_next, z0_next, jn_getC, z0_getC, rU_z, rU_seen, rU_set, rU_an, rU_sl, hc, lenL_e, p1, C41_l0, J41_r0, q1]
      exact ⟨s', rfl, q2, q3⟩
    | some p =>
      obtain ⟨u, n⟩ := p
      obtain ⟨x, y, s', p1, p2, p3⟩ := r2 u n hk
      rw [nxU_yes hk]
      have p1 : loopV (B41_l0 (callN E m) m (.pointer (some ⟨rb, 0, none⟩), .slice (some ⟨b, o, none⟩) (L.length - o) (UNK + 1), .int .i64 ((L.length - o : Nat) : Int))) m (.int .u64 0, .int .u64 0, .int .i64 0) (s.seen rb) = some (.ret, (.int .u64 (u : Int), x, y), s') := p1
      simp only [op2_s, op_s, bin_e, pick_e, not_e, ext_e, nth_z, nth_1, nth_2, nth_3, gval_e, gval_u, cmp_e, orUndef_t, orUndef_f, condV_t, condV_f, cond_true, cond_false, eqI_eq, neI_eq, ltI_eq, leI_eq, gtI_eq, geI_eq, Bool.not_true, Bool.not_false, bf_tt, bf_tf, bf_ft, bf_ff, decide_true, decide_false, oneOf_1, oneOf_2, oneOf_3, thenV_n, thenV_e, thenV_r, exV_e, exV_r, Nat.beq_refl, eq_self, new_a, boxA, an_ati, an_atp, an_ats, an_atb, an_ne, set_ati, set_atp, set_ats, set_atb, set_ne, seen_getC, loadn_o, store_2, store_i, store_b, store_s, store_p, load_u, cut_22, put_22, cut_53, cut_55, put_55, put_50, put_51, put_52, put_53, store_5, nth_z, nth_1, nth_2, nth_3, nth_4, nil_u, fa_0, an_next, set_next, St.seen_next, jn_next, z0_next, jn_getC, z0_getC, rU_z, rU_seen, rU_set, rU_an, rU_sl, hc, lenL_e, p1, C41_l0]
      exact ⟨s', rfl, p2, p3⟩
end Go.Proofs.Ytdnedangfnincaa.AbsAccR
namespace Go.Proofs.Ytdnedangfnincaa.AbsAccR
open Go Go.Abs Go.Proofs
set_option maxRecDepth 100000
set_option linter.unusedVariables false
set_option linter.unusedSimpArgs false

attribute [local congr] h_opt2 h_opt h_condV h_cond
/-! the document's reader, of any bytes; numbers with a sign -/
theorem r59 (M : Nat) (hM : 1 ≤ M) (s t : St) (rb b : Nat) (L : List Nat) (st : Option Nat) (h : RS s rb b L st) (hs : Still s t) (hl : s.next ≤ lim) :
    ∃ s', callN E M 59 [.pointer (some ⟨rb, 0, none⟩)] t = some (.int .u64 0, s') ∧ Spo s' rb ∧ Kept rb s s' := by
  have hlim : lim = 1000000000 := rfl
  obtain ⟨m, rfl⟩ : ∃ m, M = m + 1 := ⟨M - 1, by omega⟩
  obtain ⟨⟨a, n, c, f, hc⟩, h8, hr⟩ := h.cell
  have g := (hs.2 rb).trans hc
  obtain ⟨p1, p2⟩ := spoil_st hs h8 hr hl [.slice a n c, .bool true]
  rw [x59]
  unfold F59
  simp (disch := omega) only [op2_s, op_s, bin_e, pick_e, not_e, ext_e, nth_z, nth_1, nth_2, nth_3, gval_e, gval_u, cmp_e, orUndef_t, orUndef_f, condV_t, condV_f, cond_true, cond_false, eqI_eq, neI_eq, ltI_eq, leI_eq, gtI_eq, geI_eq, Bool.not_true, Bool.not_false, bf_tt, bf_tf, bf_ft, bf_ff, decide_true, decide_false, oneOf_1, oneOf_2, oneOf_3, thenV_n, thenV_e, thenV_r, exV_e, exV_r, Nat.beq_refl, eq_self, new_a, boxA, an_ati, an_atp, an_ats, an_atb, an_ne, set_ati, set_atp, set_ats, set_atb, set_ne, seen_getC, loadn_o, store_2, store_i, store_b, store_s, store_p, load_u, cut_22, put_22, cut_53, cut_55, put_55, put_50, put_51, put_52, put_53, store_5, nth_z, nth_1, nth_2, nth_3, nth_4, nil_u, fa_0, an_next, set_next, St.seen_next, jn_next, z0_next, jn_getC, z0_getC, rU_z, rU_seen, rU_set, rU_an, rU_sl, g, put_20, put_21]
  exact ⟨_, rfl, p1, p2⟩
noncomputable abbrev lq (m rb fuel : Nat) (z : Value) (a i : Nat) (s : St) := opt2 (loopV (B35_l0 (callN E m) m (.pointer (some ⟨rb, 0, none⟩))) fuel (z, .int .u64 (a : Int), .int .i64 (i : Int)) s) (C35_l0 (callN E m) m (.pointer (some ⟨rb, 0, none⟩)))
theorem mul7i (i : Nat) (h : i ≤ 9) : int2 mulO (.int .i64 7) (.int .i64 (i : Int)) = some (.int .i64 ((7 * i : Nat) : Int)) := by
  rw [mul_e _ _ (by omega) (by omega)]; congr 2
theorem lq_g (m rb b o : Nat) (hm1 : 1 ≤ m) (L : List Nat) (hb : ∀ x ∈ L, x < 256) (hL : L.length ≤ 1000) (s0 : St) (hr : Rdr s0 rb b L o) (hn1 : s0.next ≤ lim) : ∀ (l : List Nat) (i fuel a : Nat) (s : St) (z : Value), L.drop (o + i) = l → i ≤ 10 → (i = 10 → False) → a < 18446744073709551616 → Still s0 s → l.length < fuel →
    (rdm i a l = none → ∃ s', lq m rb fuel z a i s = some (.int .u64 0, s') ∧ Spo s' rb ∧ Kept rb s0 s') ∧
    (∀ u n, rdm i a l = some (u, n) → ∃ s', lq m rb fuel z a i s = some (.int .u64 (u : Int), s') ∧ Rdr s' rb b L (o + n) ∧ Kept rb s0 s') := by
  have hlim : lim = 1000000000 := rfl
  have hrs : RS s0 rb b L (some o) := hr
  intro l
  induction l with
  | nil =>
    intro i fuel a s z hd hi hi' ha hs hf
    obtain ⟨fuel, rfl⟩ : ∃ k, fuel = k + 1 := ⟨fuel - 1, by omega⟩
    have hlen := congrArg List.length hd
    rw [List.length_drop, List.length_nil] at hlen
    have e1 : decide ((i : Int) < ((L.length - o : Nat) : Int)) = false := decide_eq_false (by omega)
    have gr := (hs.2 rb).trans hr.cell
    obtain ⟨s', q1, q2, q3⟩ := r59 m hm1 s0 (s.seen rb) rb b L _ hrs (hs.trans (Still.seen s rb)) hn1
    refine ⟨fun _ => ?_, fun u n h => by cases h⟩
    show ∃ s', opt2 (loopV _ (fuel + 1) _ _) _ = _ ∧ _
    rw [loopV_s, B35_l0]
    simp only [op2_s, op_s, bin_e, pick_e, not_e, ext_e, nth_z, nth_1, nth_2, nth_3, gval_e, gval_u, cmp_e, orUndef_t, orUndef_f, condV_t, condV_f, cond_true, cond_false, eqI_eq, neI_eq, ltI_eq, leI_eq, gtI_eq, geI_eq, Bool.not_true, Bool.not_false, bf_tt, bf_tf, bf_ft, bf_ff, decide_true, decide_false, oneOf_1, oneOf_2, oneOf_3, thenV_n, thenV_e, thenV_r, exV_e, exV_r, Nat.beq_refl, eq_self, new_a, boxA, an_ati, an_atp, an_ats, an_atb, an_ne, set_ati, set_atp, set_ats, set_atb, set_ne, seen_getC, loadn_o, store_2, store_i, store_b, store_s, store_p, load_u, cut_22, put_22, cut_53, cut_55, put_55, put_50, put_51, put_52, put_53, store_5, nth_z, nth_1, nth_2, nth_3, nth_4, nil_u, fa_0, an_next, set_next, St.seen_next, jn_next, z0_next, jn_getC, z0_getC, rU_z, rU_seen, rU_set, rU_an, rU_sl, gr, lenL_e, e1, C35_l0, J35_r0, q1]
    exact ⟨s', rfl, q2, q3⟩
  | cons x l ih =>
    intro i fuel a s z hd hi hi' ha hs hf
    have hi : i ≤ 9 := by
      by_cases h : i = 10
      · exact (hi' h).elim
      · omega
    obtain ⟨fuel, rfl⟩ : ∃ k, fuel = k + 1 := ⟨fuel - 1, by omega⟩
    have hlen := congrArg List.length hd
    rw [List.length_drop, List.length_cons] at hlen
    have hf : l.length < fuel := by rw [List.length_cons] at hf; omega
    have hx : x < 256 := hb x (List.mem_of_mem_drop (hd ▸ List.mem_cons_self))
    have hd' : L.drop (o + (i + 1)) = l := by
      have := congrArg (List.drop 1) hd
      rw [List.drop_drop] at this
      exact this
    have gr := (hs.2 rb).trans hr.cell
    have e1 : decide ((i : Int) < ((L.length - o : Nat) : Int)) = true := decide_eq_true (by omega)
    have e10 : decide ((i : Int) < 10) = true := decide_eq_true (by omega)
    have hidx := fun t : St => idxL_e 1 b o (L.length - o) (UNK + 1) i (callN E m) PT.nil t (by omega)
    simp only [Nat.mul_one] at hidx
    have g0 := (hs.2 b).trans hr.bytes
    have hn := nth_cB hd
    have a1 := and127_8 x hx
    have sh := shlU (x % 128) (7 * i) (by omega)
    have orr := orU_ a (bitsAt x i) ha (bits_lt x i)
    have m7 := mul7i i hi
    have ad : int2 addO (.int .i64 (i : Int)) (.int .i64 1) = some (.int .i64 ((i + 1 : Nat) : Int)) := by rw [add_e _ _ (by omega) (by omega)]; rfl
    obtain ⟨S1, hS1⟩ : ∃ t, t = ((s.seen rb).seen rb).seen b := ⟨_, rfl⟩
    have hs' : Still s0 S1 := by rw [hS1]; exact ((hs.trans (Still.seen s rb)).trans (Still.seen _ rb)).trans (Still.seen _ b)
    obtain ⟨s', q1, q2, q3⟩ := r59 m hm1 s0 S1 rb b L _ hrs hs' hn1
    have sb : ((x % 128 * 2 ^ (7 * i) % 18446744073709551616 : Nat) : Int) = (bitsAt x i : Int) := rfl
    rw [sb] at sh
    show (_ → ∃ s', opt2 (loopV _ (fuel + 1) _ _) _ = _ ∧ _) ∧ (∀ u n, _ → ∃ s', opt2 (loopV _ (fuel + 1) _ _) _ = _ ∧ _)
    rw [loopV_s, B35_l0]
    by_cases h91 : i = 9 ∧ 1 < x
    · have e2 : decide ((i : Int) = 9) = true := decide_eq_true (by omega)
      have e4 : decide ((1 : Int) < (x : Int)) = true := decide_eq_true (by omega)
      rw [rdm_f1 h91.1 h91.2]
      refine ⟨fun _ => ?_, fun u n h => by cases h⟩
      simp (disch := omega) only [op2_s, op_s, bin_e, pick_e, not_e, ext_e, nth_z, nth_1, nth_2, nth_3, gval_e, gval_u, cmp_e, orUndef_t, orUndef_f, condV_t, condV_f, cond_true, cond_false, eqI_eq, neI_eq, ltI_eq, leI_eq, gtI_eq, geI_eq, Bool.not_true, Bool.not_false, bf_tt, bf_tf, bf_ft, bf_ff, decide_true, decide_false, oneOf_1, oneOf_2, oneOf_3, thenV_n, thenV_e, thenV_r, exV_e, exV_r, Nat.beq_refl, eq_self, new_a, boxA, an_ati, an_atp, an_ats, an_atb, an_ne, set_ati, set_atp, set_ats, set_atb, set_ne, seen_getC, loadn_o, store_2, store_i, store_b, store_s, store_p, load_u, cut_22, put_22, cut_53, cut_55, put_55, put_50, put_51, put_52, put_53, store_5, nth_z, nth_1, nth_2, nth_3, nth_4, nil_u, fa_0, an_next, set_next, St.seen_next, jn_next, z0_next, jn_getC, z0_getC, rU_z, rU_seen, rU_set, rU_an, rU_sl, gr, lenL_e, e1, e10, hidx, g0, hn, e2, e4, ← hS1, q1, C35_l0]
      exact ⟨s', rfl, q2, q3⟩
    by_cases hm : 128 ≤ x
    · have hi9 : i ≠ 9 := by omega
      have e2 : decide ((i : Int) = 9) = false := decide_eq_false (by omega)
      have e3 : decide ((x : Int) < 128) = false := decide_eq_false (by omega)
      rw [rdm_m h91 hm]
      obtain ⟨r1, r2⟩ := ih (i + 1) fuel (a ||| bitsAt x i) S1 z hd' (by omega) (by omega) (or_lt64 ha (bits_lt x i)) hs' hf
      refine ⟨fun h => ?_, fun u n h => ?_⟩
      · obtain ⟨s', q1, q2⟩ := r1 h
        simp (disch := omega) only [op2_s, op_s, bin_e, pick_e, not_e, ext_e, nth_z, nth_1, nth_2, nth_3, gval_e, gval_u, cmp_e, orUndef_t, orUndef_f, condV_t, condV_f, cond_true, cond_false, eqI_eq, neI_eq, ltI_eq, leI_eq, gtI_eq, geI_eq, Bool.not_true, Bool.not_false, bf_tt, bf_tf, bf_ft, bf_ff, decide_true, decide_false, oneOf_1, oneOf_2, oneOf_3, thenV_n, thenV_e, thenV_r, exV_e, exV_r, Nat.beq_refl, eq_self, new_a, boxA, an_ati, an_atp, an_ats, an_atb, an_ne, set_ati, set_atp, set_ats, set_atb, set_ne, seen_getC, loadn_o, store_2, store_i, store_b, store_s, store_p, load_u, cut_22, put_22, cut_53, cut_55, put_55, put_50, put_51, put_52, put_53, store_5, nth_z, nth_1, nth_2, nth_3, nth_4, nil_u, fa_0, an_next, set_next, St.seen_next, jn_next, z0_next, jn_getC, z0_getC, rU_z, rU_seen, rU_set, rU_an, rU_sl, gr, lenL_e, e1, e10, hidx, g0, hn, e2, ← hS1, a1, toU, m7, sh, orr, e3, ad]
        exact ⟨s', q1, q2⟩
      · obtain ⟨s', q1, q2⟩ := r2 u n h
        simp (disch := omega) only [op2_s, op_s, bin_e, pick_e, not_e, ext_e, nth_z, nth_1, nth_2, nth_3, gval_e, gval_u, cmp_e, orUndef_t, orUndef_f, condV_t, condV_f, cond_true, cond_false, eqI_eq, neI_eq, ltI_eq, leI_eq, gtI_eq, geI_eq, Bool.not_true, Bool.not_false, bf_tt, bf_tf, bf_ft, bf_ff, decide_true, decide_false, oneOf_1, oneOf_2, oneOf_3, thenV_n, thenV_e, thenV_r, exV_e, exV_r, Nat.beq_refl, eq_self, new_a, boxA, an_ati, an_atp, an_ats, an_atb, an_ne, set_ati, set_atp, set_ats, set_atb, set_ne, seen_getC, loadn_o, store_2, store_i, store_b, store_s, store_p, load_u, cut_22, put_22, cut_53, cut_55, put_55, put_50, put_51, put_52, put_53, store_5, nth_z, nth_1, nth_2, nth_3, nth_4, nil_u, fa_0, an_next, set_next, St.seen_next, jn_next, z0_next, jn_getC, z0_getC, rU_z, rU_seen, rU_set, rU_an, rU_sl, gr, lenL_e, e1, e10, hidx, g0, hn, e2, ← hS1, a1, toU, m7, sh, orr, e3, ad]
        exact ⟨s', q1, q2⟩
    have e3 : decide ((x : Int) < 128) = true := decide_eq_true (by omega)
    by_cases h0 : x = 0 ∧ 0 < i
    · have e5 : decide ((x : Int) = 0) = true := decide_eq_true (by omega)
      have e6 : decide (0 < (i : Int)) = true := decide_eq_true (by omega)
      rw [rdm_f2 h91 h0.1 h0.2]
      refine ⟨fun _ => ?_, fun u n h => by cases h⟩
      by_cases h9 : i = 9
      · have e2 : decide ((i : Int) = 9) = true := decide_eq_true (by omega)
        have e4 : decide ((1 : Int) < (x : Int)) = false := decide_eq_false (by omega)
        simp (disch := omega) only [op2_s, op_s, bin_e, pick_e, not_e, ext_e, nth_z, nth_1, nth_2, nth_3, gval_e, gval_u, cmp_e, orUndef_t, orUndef_f, condV_t, condV_f, cond_true, cond_false, eqI_eq, neI_eq, ltI_eq, leI_eq, gtI_eq, geI_eq, Bool.not_true, Bool.not_false, bf_tt, bf_tf, bf_ft, bf_ff, decide_true, decide_false, oneOf_1, oneOf_2, oneOf_3, thenV_n, thenV_e, thenV_r, exV_e, exV_r, Nat.beq_refl, eq_self, new_a, boxA, an_ati, an_atp, an_ats, an_atb, an_ne, set_ati, set_atp, set_ats, set_atb, set_ne, seen_getC, loadn_o, store_2, store_i, store_b, store_s, store_p, load_u, cut_22, put_22, cut_53, cut_55, put_55, put_50, put_51, put_52, put_53, store_5, nth_z, nth_1, nth_2, nth_3, nth_4, nil_u, fa_0, an_next, set_next, St.seen_next, jn_next, z0_next, jn_getC, z0_getC, rU_z, rU_seen, rU_set, rU_an, rU_sl, gr, lenL_e, e1, e10, hidx, g0, hn, e2, e4, ← hS1, a1, toU, m7, sh, orr, e3, e5, e6, q1, C35_l0]
        exact ⟨s', rfl, q2, q3⟩
      · have e2 : decide ((i : Int) = 9) = false := decide_eq_false (by omega)
        simp (disch := omega) only [op2_s, op_s, bin_e, pick_e, not_e, ext_e, nth_z, nth_1, nth_2, nth_3, gval_e, gval_u, cmp_e, orUndef_t, orUndef_f, condV_t, condV_f, cond_true, cond_false, eqI_eq, neI_eq, ltI_eq, leI_eq, gtI_eq, geI_eq, Bool.not_true, Bool.not_false, bf_tt, bf_tf, bf_ft, bf_ff, decide_true, decide_false, oneOf_1, oneOf_2, oneOf_3, thenV_n, thenV_e, thenV_r, exV_e, exV_r, Nat.beq_refl, eq_self, new_a, boxA, an_ati, an_atp, an_ats, an_atb, an_ne, set_ati, set_atp, set_ats, set_atb, set_ne, seen_getC, loadn_o, store_2, store_i, store_b, store_s, store_p, load_u, cut_22, put_22, cut_53, cut_55, put_55, put_50, put_51, put_52, put_53, store_5, nth_z, nth_1, nth_2, nth_3, nth_4, nil_u, fa_0, an_next, set_next, St.seen_next, jn_next, z0_next, jn_getC, z0_getC, rU_z, rU_seen, rU_set, rU_an, rU_sl, gr, lenL_e, e1, e10, hidx, g0, hn, e2, ← hS1, a1, toU, m7, sh, orr, e3, e5, e6, q1, C35_l0]
        exact ⟨s', rfl, q2, q3⟩
    rw [rdm_d h91 hm h0]
    refine ⟨fun h => (by cases h), fun u n h => ?_⟩
    obtain ⟨rfl, rfl⟩ := Prod.mk.inj (Option.some.inj h)
    have sl := sl_u b o (L.length - o) (i + 1) (callN E m) (S1.seen rb) (by omega)
    have g1 : S1.getC rb = some [.slice (some ⟨b, o, none⟩) (L.length - o) (UNK + 1), .bool false] := (hs'.2 rb).trans hr.cell
    have fin : ∃ s', some (Value.int .u64 ((a ||| bitsAt x i : Nat) : Int), (S1.seen rb).set rb (some [.slice (some ⟨b, o + (i + 1), none⟩) (L.length - o - (i + 1)) (UNK + 1), .bool false])) = some (Value.int .u64 ((a ||| bitsAt x i : Nat) : Int), s') ∧ Rdr s' rb b L (o + (i + 1)) ∧ Kept rb s0 s' := by
      have b1 := hr.rl; have b2 := hr.bl
      refine ⟨_, rfl, ⟨?_, ?_, hr.ne, ?_, ?_, hr.r8, by omega⟩, ?_, fun y hy => ?_⟩
      · rw [set_ats _ _ _ _ _ _ _ hr.r8 (by omega) rfl, show L.length - o - (i + 1) = L.length - (o + (i + 1)) by omega]
      · rw [set_ne _ _ _ _ (by omega) hr.ne, seen_getC, hs'.2, hr.bytes]
      · rw [set_next, St.seen_next, hs'.1]; exact b1
      · rw [set_next, St.seen_next, hs'.1]; exact b2
      · rw [set_next, St.seen_next, hs'.1]
      · rw [set_ne _ _ _ _ (by omega) hy, seen_getC, hs'.2]
    by_cases h9 : i = 9
    · have e2 : decide ((i : Int) = 9) = true := decide_eq_true (by omega)
      have e4 : decide ((1 : Int) < (x : Int)) = false := decide_eq_false (by omega)
      have e5 : decide ((x : Int) = 0) = false := decide_eq_false (by omega)
      simp (disch := omega) only [op2_s, op_s, bin_e, pick_e, not_e, ext_e, nth_z, nth_1, nth_2, nth_3, gval_e, gval_u, cmp_e, orUndef_t, orUndef_f, condV_t, condV_f, cond_true, cond_false, eqI_eq, neI_eq, ltI_eq, leI_eq, gtI_eq, geI_eq, Bool.not_true, Bool.not_false, bf_tt, bf_tf, bf_ft, bf_ff, decide_true, decide_false, oneOf_1, oneOf_2, oneOf_3, thenV_n, thenV_e, thenV_r, exV_e, exV_r, Nat.beq_refl, eq_self, new_a, boxA, an_ati, an_atp, an_ats, an_atb, an_ne, set_ati, set_atp, set_ats, set_atb, set_ne, seen_getC, loadn_o, store_2, store_i, store_b, store_s, store_p, load_u, cut_22, put_22, cut_53, cut_55, put_55, put_50, put_51, put_52, put_53, store_5, nth_z, nth_1, nth_2, nth_3, nth_4, nil_u, fa_0, an_next, set_next, St.seen_next, jn_next, z0_next, jn_getC, z0_getC, rU_z, rU_seen, rU_set, rU_an, rU_sl, put_20, gr, lenL_e, e1, e10, hidx, g0, hn, e2, e4, ← hS1, a1, toU, m7, sh, orr, e3, e5, ad, g1, sl, C35_l0]
      exact fin
    · have e2 : decide ((i : Int) = 9) = false := decide_eq_false (by omega)
      by_cases hx0 : x = 0
      · have e5 : decide ((x : Int) = 0) = true := decide_eq_true (by omega)
        have e6 : decide (0 < (i : Int)) = false := decide_eq_false (by omega)
        simp (disch := omega) only [op2_s, op_s, bin_e, pick_e, not_e, ext_e, nth_z, nth_1, nth_2, nth_3, gval_e, gval_u, cmp_e, orUndef_t, orUndef_f, condV_t, condV_f, cond_true, cond_false, eqI_eq, neI_eq, ltI_eq, leI_eq, gtI_eq, geI_eq, Bool.not_true, Bool.not_false, bf_tt, bf_tf, bf_ft, bf_ff, decide_true, decide_false, oneOf_1, oneOf_2, oneOf_3, thenV_n, thenV_e, thenV_r, exV_e, exV_r, Nat.beq_refl, eq_self, new_a, boxA, an_ati, an_atp, an_ats, an_atb, an_ne, set_ati, set_atp, set_ats, set_atb, set_ne, seen_getC, loadn_o, store_2, store_i, store_b, store_s, store_p, load_u, cut_22, put_22, cut_53, cut_55, put_55, put_50, put_51, put_52, put_53, store_5, nth_z, nth_1, nth_2, nth_3, nth_4, nil_u, fa_0, an_next, set_next, St.seen_next, jn_next, z0_next, jn_getC, z0_getC, rU_z, rU_seen, rU_set, rU_an, rU_sl, put_20, gr, lenL_e, e1, e10, hidx, g0, hn, e2, ← hS1, a1, toU, m7, sh, orr, e3, e5, e6, ad, g1, sl, C35_l0]
        exact fin
      · have e5 : decide ((x : Int) = 0) = false := decide_eq_false (by omega)
        simp (disch := omega) only [op2_s, op_s, bin_e, pick_e, not_e, ext_e, nth_z, nth_1, nth_2, nth_3, gval_e, gval_u, cmp_e, orUndef_t, orUndef_f, condV_t, condV_f, cond_true, cond_false, eqI_eq, neI_eq, ltI_eq, leI_eq, gtI_eq, geI_eq, Bool.not_true, Bool.not_false, bf_tt, bf_tf, bf_ft, bf_ff, decide_true, decide_false, oneOf_1, oneOf_2, oneOf_3, thenV_n, thenV_e, thenV_r, exV_e, exV_r, Nat.beq_refl, eq_self, new_a, boxA, an_ati, an_atp, an_ats, an_atb, an_ne, set_ati, set_atp, set_ats, set_atb, set_ne, seen_getC, loadn_o, store_2, store_i, store_b, store_s, store_p, load_u, cut_22, put_22, cut_53, cut_55, put_55, put_50, put_51, put_52, put_53, store_5, nth_z, nth_1, nth_2, nth_3, nth_4, nil_u, fa_0, an_next, set_next, St.seen_next, jn_next, z0_next, jn_getC, z0_getC, rU_z, rU_seen, rU_set, rU_an, rU_sl, put_20, gr, lenL_e, e1, e10, hidx, g0, hn, e2, ← hS1, a1, toU, m7, sh, orr, e3, e5, ad, g1, sl, C35_l0]
        exact fin
/-- U: of the document -/
theorem r35 (M : Nat) (hM : 1100 ≤ M) (s : St) (rb b : Nat) (L : List Nat) (hb : ∀ x ∈ L, x < 256) (hL : L.length ≤ 1000) (st : Option Nat) (hr : RS s rb b L st) (hn1 : s.next ≤ lim) :
    ∃ s', callN E M 35 [.pointer (some ⟨rb, 0, none⟩)] s = some (.int .u64 ((nxU L st).1 : Int), s') ∧ RS s' rb b L (nxU L st).2 ∧ Kept rb s s' := by
  have hlim : lim = 1000000000 := rfl
  obtain ⟨m, rfl⟩ : ∃ m, M = m + 1 := ⟨M - 1, by omega⟩
  rw [x35]
  unfold F35
  cases st with
  | none =>
    have h : Spo s rb := hr
    have hc := h.1
    obtain ⟨f, hf⟩ : ∃ k, m = k + 1 := ⟨m - 1, by omega⟩
    obtain ⟨s', q1, q2, q3⟩ := r59 m (by omega) s (s.seen rb) rb b L none hr (Still.seen s rb) hn1
    have e1 : decide ((0 : Int) < ((0 : Nat) : Int)) = false := rfl
    have lv : loopV (B35_l0 (callN E m) m (.pointer (some ⟨rb, 0, none⟩))) m (.int .u64 0, .int .u64 0, .int .i64 0) s = some (.exit 0, (.int .u64 0, .int .u64 0, .int .i64 0), s.seen rb) := by
      conv => lhs; arg 2; rw [hf]
      rw [loopV_s, B35_l0]
      simp only [op2_s, op_s, bin_e, pick_e, not_e, ext_e, nth_z, nth_1, nth_2, nth_3, gval_e, gval_u, cmp_e, orUndef_t, orUndef_f, condV_t, condV_f, cond_true, cond_false, eqI_eq, neI_eq, ltI_eq, leI_eq, gtI_eq, geI_eq, Bool.not_true, Bool.not_false, bf_tt, bf_tf, bf_ft, bf_ff, decide_true, decide_false, oneOf_1, oneOf_2, oneOf_3, thenV_n, thenV_e, thenV_r, exV_e, exV_r, Nat.beq_refl, eq_self, new_a, boxA, an_ati, an_atp, an_ats, an_atb, an_ne, set_ati, set_atp, set_ats, set_atb, set_ne, seen_getC, loadn_o, store_2, store_i, store_b, store_s, store_p, load_u, cut_22, put_22, cut_53, cut_55, put_55, put_50, put_51, put_52, put_53, store_5, nth_z, nth_1, nth_2, nth_3, nth_4, nil_u, fa_0, an_next, set_next, St.seen_next, jn_next, z0_next, jn_getC, z0_getC, rU_z, rU_seen, rU_set, rU_an, rU_sl, hc, lenL_e, e1]
    simp only [op2_s, op_s, bin_e, pick_e, not_e, ext_e, nth_z, nth_1, nth_2, nth_3, gval_e, gval_u, cmp_e, orUndef_t, orUndef_f, condV_t, condV_f, cond_true, cond_false, eqI_eq, neI_eq, ltI_eq, leI_eq, gtI_eq, geI_eq, Bool.not_true, Bool.not_false, bf_tt, bf_tf, bf_ft, bf_ff, decide_true, decide_false, oneOf_1, oneOf_2, oneOf_3, thenV_n, thenV_e, thenV_r, exV_e, exV_r, Nat.beq_refl, eq_self, lv, C35_l0, J35_r0, q1]
    exact ⟨s', rfl, q2, q3⟩
  | some o =>
    have h : Rdr s rb b L o := hr
    obtain ⟨r1, r2⟩ := lq_g m rb b o (by omega) L hb hL s h hn1 (L.drop (o + 0)) 0 m 0 s (.int .u64 0) rfl (by omega) (by omega) (by omega) (Still.refl s) (by rw [List.length_drop]; omega)
    rw [Nat.add_zero] at r1 r2
    cases hk : rdm 0 0 (L.drop o) with
    | none =>
      obtain ⟨s', p1, p2, p3⟩ := r1 hk
      rw [nxU_no hk]
      exact ⟨s', p1, p2, p3⟩
    | some p =>
      obtain ⟨u, n⟩ := p
      obtain ⟨s', p1, p2, p3⟩ := r2 u n hk
      rw [nxU_yes hk]
      exact ⟨s', p1, p2, p3⟩
theorem nxU_lt {L : List Nat} (hb : ∀ x ∈ L, x < 256) (st : Option Nat) : (nxU L st).1 < 18446744073709551616 := by
  cases st with
  | none => show 0 < _; omega
  | some o =>
    cases hk : rdm 0 0 (L.drop o) with
    | none => rw [nxU_no hk]; show 0 < _; omega
    | some p =>
      obtain ⟨u, n⟩ := p
      rw [nxU_yes hk]
      obtain ⟨w, rest, _, h, _⟩ := rdm_ok _ _ _ _ _ (by omega) (by simp) (fun x hx => hb x (List.mem_of_mem_drop hx)) hk
      exact h
/-- with a sign -/
def zz (u : Nat) : Int := if u % 2 = 0 then ((u / 2 : Nat) : Int) else -((u / 2 : Nat) : Int) - 1
theorem zz_bd {u : Nat} (h : u < 18446744073709551616) : -9223372036854775808 ≤ zz u ∧ zz u ≤ 9223372036854775807 := by unfold zz; split <;> omega
theorem xorm1 (n : Nat) (h : n < 9223372036854775808) : int2 xorO (.int .i64 (n : Int)) (.int .i64 (-1)) = some (.int .i64 (-(n : Int) - 1)) := by
  show setI .i64 (IntKind.i64.wrap ((BitVec.ofInt 64 (n : Int) ^^^ BitVec.ofInt 64 (-1)).toNat : Int)) = _
  have e0 : BitVec.ofInt 64 (-1) = BitVec.allOnes 64 := by decide
  rw [setI_eq, e0, BitVec.xor_allOnes, BitVec.toNat_not]
  have e : (BitVec.ofInt 64 (n : Int)).toNat = n := by simp [BitVec.toNat_ofInt]; omega
  rw [e]
  have e2 : ((2 ^ 64 - 1 - n : Nat) : Int) = (-(n : Int) - 1) + 18446744073709551616 := by omega
  rw [e2]
  congr 2
  simp only [IntKind.wrap, IntKind.bits, IntKind.signed]
  simp
  omega
theorem neg1 (rec : Rec) (s : St) : oNeg (.v (.int .i64 ((1 : Nat) : Int))) rec PT.nil s = some (.int .i64 (-1), s) := nrfl rfl
theorem neg_n (n : Nat) (h : n < 9223372036854775808) (rec : Rec) (s : St) : oNeg (.v (.int .i64 (n : Int))) rec PT.nil s = some (.int .i64 (-(n : Int)), s) := by
  show (opt (mkInt .i64 (Int.sub 0 (n : Int))) fun v => some (v, s)) = _
  rw [mkInt_eq, show Int.sub 0 (n : Int) = -(n : Int) from Int.zero_sub _, wrap_i64 _ (by omega) (by omega), op_s]
/-- I: of the code, of the document -/
theorem r40 (M : Nat) (hM : 1101 ≤ M) (s : St) (rb b : Nat) (L : List Nat) (hb : ∀ x ∈ L, x < 256) (hL : L.length ≤ 1000) (st : Option Nat) (hr : RS s rb b L st) (hn1 : s.next ≤ lim) :
    ∃ s', callN E M 40 [.pointer (some ⟨rb, 0, none⟩)] s = some (.int .i64 (zz (nxU L st).1), s') ∧ RS s' rb b L (nxU L st).2 ∧ Kept rb s s' := by
  obtain ⟨m, rfl⟩ : ∃ m, M = m + 1 := ⟨M - 1, by omega⟩
  obtain ⟨s', a1, a2, a3⟩ := r41 m (by omega) s rb b L hb hL st hr hn1
  have hu := nxU_lt hb st
  rw [x40]
  unfold F40
  by_cases h : (nxU L st).1 % 2 = 0
  · have e : zz (nxU L st).1 = (((nxU L st).1 / 2 : Nat) : Int) := by unfold zz; rw [if_pos h]
    rw [e]
    simp (disch := omega) only [op2_s, op_s, bin_e, pick_e, not_e, ext_e, nth_z, nth_1, nth_2, nth_3, gval_e, gval_u, cmp_e, orUndef_t, orUndef_f, condV_t, condV_f, cond_true, cond_false, eqI_eq, neI_eq, ltI_eq, leI_eq, gtI_eq, geI_eq, Bool.not_true, Bool.not_false, bf_tt, bf_tf, bf_ft, bf_ff, decide_true, decide_false, oneOf_1, oneOf_2, oneOf_3, thenV_n, thenV_e, thenV_r, exV_e, exV_r, Nat.beq_refl, eq_self, a1, shr1_u, toI, and1_u, h, neg0, xor0I]
    exact ⟨s', rfl, a2, a3⟩
  · have h1 : (nxU L st).1 % 2 = 1 := by omega
    have e : zz (nxU L st).1 = -(((nxU L st).1 / 2 : Nat) : Int) - 1 := by unfold zz; rw [if_neg h]
    rw [e]
    simp (disch := omega) only [op2_s, op_s, bin_e, pick_e, not_e, ext_e, nth_z, nth_1, nth_2, nth_3, gval_e, gval_u, cmp_e, orUndef_t, orUndef_f, condV_t, condV_f, cond_true, cond_false, eqI_eq, neI_eq, ltI_eq, leI_eq, gtI_eq, geI_eq, Bool.not_true, Bool.not_false, bf_tt, bf_tf, bf_ft, bf_ff, decide_true, decide_false, oneOf_1, oneOf_2, oneOf_3, thenV_n, thenV_e, thenV_r, exV_e, exV_r, Nat.beq_refl, eq_self, a1, shr1_u, toI, and1_u, h1, neg1, xorm1]
    exact ⟨s', rfl, a2, a3⟩
theorem r34 (M : Nat) (hM : 1101 ≤ M) (s : St) (rb b : Nat) (L : List Nat) (hb : ∀ x ∈ L, x < 256) (hL : L.length ≤ 1000) (st : Option Nat) (hr : RS s rb b L st) (hn1 : s.next ≤ lim) :
    ∃ s', callN E M 34 [.pointer (some ⟨rb, 0, none⟩)] s = some (.int .i64 (zz (nxU L st).1), s') ∧ RS s' rb b L (nxU L st).2 ∧ Kept rb s s' := by
  obtain ⟨m, rfl⟩ : ∃ m, M = m + 1 := ⟨M - 1, by omega⟩
  obtain ⟨s', a1, a2, a3⟩ := r35 m (by omega) s rb b L hb hL st hr hn1
  have hu := nxU_lt hb st
  have q : int2 quoO (.int .u64 ((nxU L st).1 : Int)) (.int .u64 2) = some (.int .u64 (((nxU L st).1 / 2 : Nat) : Int)) := quoU (nxU L st).1 2 hu (by omega)
  have r : int2 remO (.int .u64 ((nxU L st).1 : Int)) (.int .u64 2) = some (.int .u64 (((nxU L st).1 % 2 : Nat) : Int)) := remU (nxU L st).1 2 (by omega)
  rw [x34]
  unfold F34
  by_cases h : (nxU L st).1 % 2 = 0
  · have e : zz (nxU L st).1 = (((nxU L st).1 / 2 : Nat) : Int) := by unfold zz; rw [if_pos h]
    have e1 : decide ((((nxU L st).1 % 2 : Nat) : Int) = 0) = true := decide_eq_true (by omega)
    rw [e]
    simp (disch := omega) only [op2_s, op_s, bin_e, pick_e, not_e, ext_e, nth_z, nth_1, nth_2, nth_3, gval_e, gval_u, cmp_e, orUndef_t, orUndef_f, condV_t, condV_f, cond_true, cond_false, eqI_eq, neI_eq, ltI_eq, leI_eq, gtI_eq, geI_eq, Bool.not_true, Bool.not_false, bf_tt, bf_tf, bf_ft, bf_ff, decide_true, decide_false, oneOf_1, oneOf_2, oneOf_3, thenV_n, thenV_e, thenV_r, exV_e, exV_r, Nat.beq_refl, eq_self, a1, r, e1, q, toI]
    exact ⟨s', rfl, a2, a3⟩
  · have e : zz (nxU L st).1 = -(((nxU L st).1 / 2 : Nat) : Int) - 1 := by unfold zz; rw [if_neg h]
    have e1 : decide ((((nxU L st).1 % 2 : Nat) : Int) = 0) = false := decide_eq_false (by omega)
    have sb : int2 subO (.int .i64 (-(((nxU L st).1 / 2 : Nat) : Int))) (.int .i64 1) = some (.int .i64 (-(((nxU L st).1 / 2 : Nat) : Int) - 1)) := sub_e _ _ (by omega) (by omega)
    rw [e]
    simp (disch := omega) only [op2_s, op_s, bin_e, pick_e, not_e, ext_e, nth_z, nth_1, nth_2, nth_3, gval_e, gval_u, cmp_e, orUndef_t, orUndef_f, condV_t, condV_f, cond_true, cond_false, eqI_eq, neI_eq, ltI_eq, leI_eq, gtI_eq, geI_eq, Bool.not_true, Bool.not_false, bf_tt, bf_tf, bf_ft, bf_ff, decide_true, decide_false, oneOf_1, oneOf_2, oneOf_3, thenV_n, thenV_e, thenV_r, exV_e, exV_r, Nat.beq_refl, eq_self, a1, r, e1, q, toI, neg_n, sb]
    exact ⟨s', rfl, a2, a3⟩
end Go.Proofs.Ytdnedangfnincaa.AbsAccR
namespace Go.Proofs.Ytdnedangfnincaa.AbsAccR
open Go Go.Abs Go.Proofs
set_option maxRecDepth 100000
set_option linter.unusedVariables false
set_option linter.unusedSimpArgs false

attribute [local congr] h_opt2 h_opt h_condV h_cond
/-! Decode, of any bytes -/
def n1 (L : List Nat) := nxU L (some 0)
def n2 (L : List Nat) := nxU L (n1 L).2
def n3 (L : List Nat) := nxU L (n2 L).2
def n4 (L : List Nat) := nxU L (n3 L).2
def n5 (L : List Nat) := nxU L (n4 L).2
/-- these bytes are an account -/
def okD (L : List Nat) : Prop := (n5 L).2 = some L.length ∧ 0 ≤ zz (n1 L).1 ∧ zz (n1 L).1 ≤ 109572 ∧ 0 ≤ zz (n2 L).1 ∧ zz (n2 L).1 ≤ 4503599627370496 ∧ 0 ≤ zz (n3 L).1 ∧ zz (n3 L).1 ≤ 4503599627370496 ∧ 0 ≤ zz (n4 L).1 ∧ (zz (n4 L).1 < 68719476736 ∨ zz (n4 L).1 = 68719476736 ∧ (n5 L).1 = 0)
def cmpD (h : Int) (l : Nat) : Int := if h = 68719476736 ∧ l = 0 then 0 else if h < 68719476736 then -1 else 1
theorem cmpD_pos (h : Int) (l : Nat) : 0 < cmpD h l ↔ ¬(h < 68719476736 ∨ h = 68719476736 ∧ l = 0) := by
  unfold cmpD
  by_cases h1 : h = 68719476736 ∧ l = 0
  · rw [if_pos h1]; omega
  · rw [if_neg h1]
    by_cases h2 : h < 68719476736
    · rw [if_pos h2]; omega
    · rw [if_neg h2]; omega
theorem r44 (M : Nat) (hM : 1 ≤ M) (h : Int) (l : Nat) (s : St) (h8 : 8 ≤ s.next) (hn : s.next + 2 ≤ lim) :
    ∃ s', callN E M 44 [aggOf [.int .i64 h, .int .u64 (l : Int)], aggOf [.int .i64 68719476736, .int .u64 0]] s = some (.int .i64 (cmpD h l), s') ∧ Grew 2 s s' := by
  have hlim : lim = 1000000000 := rfl
  obtain ⟨m, rfl⟩ : ∃ m, M = m + 1 := ⟨M - 1, by omega⟩
  obtain ⟨S0, hS0⟩ : ∃ z, z = an (an s [.int .i64 h, .int .u64 (l : Int)]) [.int .i64 68719476736, .int .u64 0] := ⟨_, rfl⟩
  have G0 : Grew 2 s S0 := by rw [hS0]; (repeat (first | exact Grew.refl _ | assumption | refine Grew.seen ?_ _ | refine Grew.set ?_ _ _ (by (first | omega | (simp only [an_next, set_next, St.seen_next, jn_next, z0_next]; try omega; done))) (by (first | omega | (simp only [an_next, set_next, St.seen_next, jn_next, z0_next]; try omega; done))) | refine Grew.an ?_ _ (by (first | omega | (simp only [an_next, set_next, St.seen_next, jn_next, z0_next]; try omega; done)))))
  have c1 : S0.getC s.next = some [.int .i64 h, .int .u64 (l : Int)] := by rw [hS0]; simp (disch := (first | omega | (simp only [an_next, set_next, St.seen_next, jn_next, z0_next]; try omega; done))) only [new_a, boxA, an_ati, an_atp, an_ats, an_atb, an_ne, set_ati, set_atp, set_ats, set_atb, set_ne, seen_getC, loadn_o, store_2, store_i, store_b, store_s, store_p, load_u, cut_22, put_22, cut_53, cut_55, put_55, put_50, put_51, put_52, put_53, store_5, nth_z, nth_1, nth_2, nth_3, nth_4, nil_u, fa_0, an_next, set_next, St.seen_next, jn_next, z0_next, jn_getC, z0_getC, rU_z, rU_seen, rU_set, rU_an, rU_sl]
  have c2 : S0.getC (s.next + 1) = some [.int .i64 68719476736, .int .u64 0] := by rw [hS0]; simp (disch := (first | omega | (simp only [an_next, set_next, St.seen_next, jn_next, z0_next]; try omega; done))) only [new_a, boxA, an_ati, an_atp, an_ats, an_atb, an_ne, set_ati, set_atp, set_ats, set_atb, set_ne, seen_getC, loadn_o, store_2, store_i, store_b, store_s, store_p, load_u, cut_22, put_22, cut_53, cut_55, put_55, put_50, put_51, put_52, put_53, store_5, nth_z, nth_1, nth_2, nth_3, nth_4, nil_u, fa_0, an_next, set_next, St.seen_next, jn_next, z0_next, jn_getC, z0_getC, rU_z, rU_seen, rU_set, rU_an, rU_sl]
  rw [x44]
  unfold F44
  by_cases hh : h = 68719476736
  · have e1 : decide (h = 68719476736) = true := decide_eq_true hh
    by_cases hl : l = 0
    · have e3 : decide ((l : Int) = 0) = true := decide_eq_true (by omega)
      have ec : cmpD h l = 0 := by unfold cmpD; rw [if_pos ⟨hh, hl⟩]
      simp (disch := (first | omega | (simp only [an_next, set_next, St.seen_next, jn_next, z0_next]; try omega; done))) only [op2_s, op_s, bin_e, pick_e, not_e, ext_e, nth_z, nth_1, nth_2, nth_3, gval_e, gval_u, cmp_e, orUndef_t, orUndef_f, condV_t, condV_f, cond_true, cond_false, eqI_eq, neI_eq, ltI_eq, leI_eq, gtI_eq, geI_eq, Bool.not_true, Bool.not_false, bf_tt, bf_tf, bf_ft, bf_ff, decide_true, decide_false, oneOf_1, oneOf_2, oneOf_3, thenV_n, thenV_e, thenV_r, exV_e, exV_r, Nat.beq_refl, eq_self, new_a, boxA, an_ati, an_atp, an_ats, an_atb, an_ne, set_ati, set_atp, set_ats, set_atb, set_ne, seen_getC, loadn_o, store_2, store_i, store_b, store_s, store_p, load_u, cut_22, put_22, cut_53, cut_55, put_55, put_50, put_51, put_52, put_53, store_5, nth_z, nth_1, nth_2, nth_3, nth_4, nil_u, fa_0, an_next, set_next, St.seen_next, jn_next, z0_next, jn_getC, z0_getC, rU_z, rU_seen, rU_set, rU_an, rU_sl, ← hS0, c1, c2, eqsN, e1, e3, Bool.and_true, ec]
      exact ⟨_, rfl, (G0.seen _).seen _⟩
    · have e2 : decide (h < 68719476736) = false := decide_eq_false (by omega)
      have e3 : decide ((l : Int) = 0) = false := decide_eq_false (by omega)
      have e4 : decide ((l : Int) < 0) = false := decide_eq_false (by omega)
      have ec : cmpD h l = 1 := by unfold cmpD; rw [if_neg (by omega), if_neg (by omega)]
      simp (disch := (first | omega | (simp only [an_next, set_next, St.seen_next, jn_next, z0_next]; try omega; done))) only [op2_s, op_s, bin_e, pick_e, not_e, ext_e, nth_z, nth_1, nth_2, nth_3, gval_e, gval_u, cmp_e, orUndef_t, orUndef_f, condV_t, condV_f, cond_true, cond_false, eqI_eq, neI_eq, ltI_eq, leI_eq, gtI_eq, geI_eq, Bool.not_true, Bool.not_false, bf_tt, bf_tf, bf_ft, bf_ff, decide_true, decide_false, oneOf_1, oneOf_2, oneOf_3, thenV_n, thenV_e, thenV_r, exV_e, exV_r, Nat.beq_refl, eq_self, new_a, boxA, an_ati, an_atp, an_ats, an_atb, an_ne, set_ati, set_atp, set_ats, set_atb, set_ne, seen_getC, loadn_o, store_2, store_i, store_b, store_s, store_p, load_u, cut_22, put_22, cut_53, cut_55, put_55, put_50, put_51, put_52, put_53, store_5, nth_z, nth_1, nth_2, nth_3, nth_4, nil_u, fa_0, an_next, set_next, St.seen_next, jn_next, z0_next, jn_getC, z0_getC, rU_z, rU_seen, rU_set, rU_an, rU_sl, ← hS0, c1, c2, eqsN, e1, e2, e3, e4, Bool.and_true, Bool.and_false, ec, Q44_q0, J44_j0, J44_j1]
      refine ⟨_, rfl, ?_⟩
      (repeat (first | exact Grew.refl _ | assumption | refine Grew.seen ?_ _ | refine Grew.set ?_ _ _ (by (first | omega | (simp only [an_next, set_next, St.seen_next, jn_next, z0_next]; try omega; done))) (by (first | omega | (simp only [an_next, set_next, St.seen_next, jn_next, z0_next]; try omega; done))) | refine Grew.an ?_ _ (by (first | omega | (simp only [an_next, set_next, St.seen_next, jn_next, z0_next]; try omega; done)))))
  · have e1 : decide (h = 68719476736) = false := decide_eq_false hh
    by_cases hl : h < 68719476736
    · have e2 : decide (h < 68719476736) = true := decide_eq_true hl
      have ec : cmpD h l = -1 := by unfold cmpD; rw [if_neg (by omega), if_pos hl]
      simp (disch := (first | omega | (simp only [an_next, set_next, St.seen_next, jn_next, z0_next]; try omega; done))) only [op2_s, op_s, bin_e, pick_e, not_e, ext_e, nth_z, nth_1, nth_2, nth_3, gval_e, gval_u, cmp_e, orUndef_t, orUndef_f, condV_t, condV_f, cond_true, cond_false, eqI_eq, neI_eq, ltI_eq, leI_eq, gtI_eq, geI_eq, Bool.not_true, Bool.not_false, bf_tt, bf_tf, bf_ft, bf_ff, decide_true, decide_false, oneOf_1, oneOf_2, oneOf_3, thenV_n, thenV_e, thenV_r, exV_e, exV_r, Nat.beq_refl, eq_self, new_a, boxA, an_ati, an_atp, an_ats, an_atb, an_ne, set_ati, set_atp, set_ats, set_atb, set_ne, seen_getC, loadn_o, store_2, store_i, store_b, store_s, store_p, load_u, cut_22, put_22, cut_53, cut_55, put_55, put_50, put_51, put_52, put_53, store_5, nth_z, nth_1, nth_2, nth_3, nth_4, nil_u, fa_0, an_next, set_next, St.seen_next, jn_next, z0_next, jn_getC, z0_getC, rU_z, rU_seen, rU_set, rU_an, rU_sl, ← hS0, c1, c2, eqsN, e1, e2, Bool.false_and, ec, Q44_q0, J44_j0, J44_j1]
      refine ⟨_, rfl, ?_⟩
      (repeat (first | exact Grew.refl _ | assumption | refine Grew.seen ?_ _ | refine Grew.set ?_ _ _ (by (first | omega | (simp only [an_next, set_next, St.seen_next, jn_next, z0_next]; try omega; done))) (by (first | omega | (simp only [an_next, set_next, St.seen_next, jn_next, z0_next]; try omega; done))) | refine Grew.an ?_ _ (by (first | omega | (simp only [an_next, set_next, St.seen_next, jn_next, z0_next]; try omega; done)))))
    · have e2 : decide (h < 68719476736) = false := decide_eq_false hl
      have ec : cmpD h l = 1 := by unfold cmpD; rw [if_neg (by omega), if_neg hl]
      simp (disch := (first | omega | (simp only [an_next, set_next, St.seen_next, jn_next, z0_next]; try omega; done))) only [op2_s, op_s, bin_e, pick_e, not_e, ext_e, nth_z, nth_1, nth_2, nth_3, gval_e, gval_u, cmp_e, orUndef_t, orUndef_f, condV_t, condV_f, cond_true, cond_false, eqI_eq, neI_eq, ltI_eq, leI_eq, gtI_eq, geI_eq, Bool.not_true, Bool.not_false, bf_tt, bf_tf, bf_ft, bf_ff, decide_true, decide_false, oneOf_1, oneOf_2, oneOf_3, thenV_n, thenV_e, thenV_r, exV_e, exV_r, Nat.beq_refl, eq_self, new_a, boxA, an_ati, an_atp, an_ats, an_atb, an_ne, set_ati, set_atp, set_ats, set_atb, set_ne, seen_getC, loadn_o, store_2, store_i, store_b, store_s, store_p, load_u, cut_22, put_22, cut_53, cut_55, put_55, put_50, put_51, put_52, put_53, store_5, nth_z, nth_1, nth_2, nth_3, nth_4, nil_u, fa_0, an_next, set_next, St.seen_next, jn_next, z0_next, jn_getC, z0_getC, rU_z, rU_seen, rU_set, rU_an, rU_sl, ← hS0, c1, c2, eqsN, e1, e2, Bool.false_and, ec, Q44_q0, J44_j0, J44_j1]
      refine ⟨_, rfl, ?_⟩
      (repeat (first | exact Grew.refl _ | assumption | refine Grew.seen ?_ _ | refine Grew.set ?_ _ _ (by (first | omega | (simp only [an_next, set_next, St.seen_next, jn_next, z0_next]; try omega; done))) (by (first | omega | (simp only [an_next, set_next, St.seen_next, jn_next, z0_next]; try omega; done))) | refine Grew.an ?_ _ (by (first | omega | (simp only [an_next, set_next, St.seen_next, jn_next, z0_next]; try omega; done)))))
theorem r42 (M : Nat) (hM : 1 ≤ M) (s : St) (rb b : Nat) (L : List Nat) (st : Option Nat) (hr : RS s rb b L st) : callN E M 42 [.pointer (some ⟨rb, 0, none⟩)] s = some (.bool st.isNone, s.seen rb) := by
  obtain ⟨m, rfl⟩ : ∃ m, M = m + 1 := ⟨M - 1, by omega⟩
  rw [x42]
  unfold F42
  cases st with
  | none =>
    have h : Spo s rb := hr
    have g := h.1
    simp only [op2_s, op_s, bin_e, pick_e, not_e, ext_e, nth_z, nth_1, nth_2, nth_3, gval_e, gval_u, cmp_e, orUndef_t, orUndef_f, condV_t, condV_f, cond_true, cond_false, eqI_eq, neI_eq, ltI_eq, leI_eq, gtI_eq, geI_eq, Bool.not_true, Bool.not_false, bf_tt, bf_tf, bf_ft, bf_ff, decide_true, decide_false, oneOf_1, oneOf_2, oneOf_3, thenV_n, thenV_e, thenV_r, exV_e, exV_r, Nat.beq_refl, eq_self, new_a, boxA, an_ati, an_atp, an_ats, an_atb, an_ne, set_ati, set_atp, set_ats, set_atb, set_ne, seen_getC, loadn_o, store_2, store_i, store_b, store_s, store_p, load_u, cut_22, put_22, cut_53, cut_55, put_55, put_50, put_51, put_52, put_53, store_5, nth_z, nth_1, nth_2, nth_3, nth_4, nil_u, fa_0, an_next, set_next, St.seen_next, jn_next, z0_next, jn_getC, z0_getC, rU_z, rU_seen, rU_set, rU_an, rU_sl, g]
    rfl
  | some o =>
    have h : Rdr s rb b L o := hr
    have g := h.cell
    simp only [op2_s, op_s, bin_e, pick_e, not_e, ext_e, nth_z, nth_1, nth_2, nth_3, gval_e, gval_u, cmp_e, orUndef_t, orUndef_f, condV_t, condV_f, cond_true, cond_false, eqI_eq, neI_eq, ltI_eq, leI_eq, gtI_eq, geI_eq, Bool.not_true, Bool.not_false, bf_tt, bf_tf, bf_ft, bf_ff, decide_true, decide_false, oneOf_1, oneOf_2, oneOf_3, thenV_n, thenV_e, thenV_r, exV_e, exV_r, Nat.beq_refl, eq_self, new_a, boxA, an_ati, an_atp, an_ats, an_atb, an_ne, set_ati, set_atp, set_ats, set_atb, set_ne, seen_getC, loadn_o, store_2, store_i, store_b, store_s, store_p, load_u, cut_22, put_22, cut_53, cut_55, put_55, put_50, put_51, put_52, put_53, store_5, nth_z, nth_1, nth_2, nth_3, nth_4, nil_u, fa_0, an_next, set_next, St.seen_next, jn_next, z0_next, jn_getC, z0_getC, rU_z, rU_seen, rU_set, rU_an, rU_sl, g]
    rfl
theorem r43 (M : Nat) (hM : 1 ≤ M) (s : St) (rb b o : Nat) (L : List Nat) (hr : Rdr s rb b L o) : callN E M 43 [.pointer (some ⟨rb, 0, none⟩)] s = some (.int .i64 ((L.length - o : Nat) : Int), s.seen rb) := by
  obtain ⟨m, rfl⟩ : ∃ m, M = m + 1 := ⟨M - 1, by omega⟩
  have g := hr.cell
  rw [x43]
  unfold F43
  simp only [op2_s, op_s, bin_e, pick_e, not_e, ext_e, nth_z, nth_1, nth_2, nth_3, gval_e, gval_u, cmp_e, orUndef_t, orUndef_f, condV_t, condV_f, cond_true, cond_false, eqI_eq, neI_eq, ltI_eq, leI_eq, gtI_eq, geI_eq, Bool.not_true, Bool.not_false, bf_tt, bf_tf, bf_ft, bf_ff, decide_true, decide_false, oneOf_1, oneOf_2, oneOf_3, thenV_n, thenV_e, thenV_r, exV_e, exV_r, Nat.beq_refl, eq_self, new_a, boxA, an_ati, an_atp, an_ats, an_atb, an_ne, set_ati, set_atp, set_ats, set_atb, set_ne, seen_getC, loadn_o, store_2, store_i, store_b, store_s, store_p, load_u, cut_22, put_22, cut_53, cut_55, put_55, put_50, put_51, put_52, put_53, store_5, nth_z, nth_1, nth_2, nth_3, nth_4, nil_u, fa_0, an_next, set_next, St.seen_next, jn_next, z0_next, jn_getC, z0_getC, rU_z, rU_seen, rU_set, rU_an, rU_sl, g, lenL_e]
theorem RS.old {s u : St} {rb b : Nat} {L : List Nat} {st : Option Nat} (h : RS s rb b L st) (hn : s.next ≤ u.next) (hg : ∀ y, y < s.next → u.getC y = s.getC y) : RS u rb b L st := by
  cases st with
  | none =>
    have h : Spo s rb := h
    exact (⟨(hg _ h.2.2).trans h.1, h.2.1, by have := h.2.2; omega⟩ : Spo u rb)
  | some o =>
    have h : Rdr s rb b L o := h
    exact (⟨(hg _ h.rl).trans h.cell, (hg _ h.bl).trans h.bytes, h.ne, by have := h.rl; omega, by have := h.bl; omega, h.r8, h.le⟩ : Rdr u rb b L o)
theorem RS.still {s u : St} {rb b : Nat} {L : List Nat} {st : Option Nat} (h : RS s rb b L st) (g : Still s u) : RS u rb b L st := h.old (by rw [g.1]; exact Nat.le_refl _) fun y _ => g.2 y
set_option maxHeartbeats 2000000 in
/-- Decode -/
theorem r12 (M : Nat) (hM : 1110 ≤ M) (s : St) (v : Value) (L : List Nat) (hb : ∀ x ∈ L, x < 256) (hL : L.length ≤ 1000) (hne : L ≠ []) (hv : Bs s v L) (h8 : 8 ≤ s.next) (hn : s.next + 20 ≤ lim) :
    (okD L → ∃ cb s', callN E M 12 [v] s = some (tupOf [.pointer (some ⟨cb, 0, none⟩), .int .i64 0], s') ∧ Grew 10 s s' ∧ s'.getC cb = some [.int .i64 (zz (n1 L).1), .int .i64 (zz (n2 L).1), .int .i64 (zz (n3 L).1), .int .i64 (zz (n4 L).1), .int .u64 ((n5 L).1 : Int)] ∧ s.next ≤ cb ∧ cb < s'.next) ∧
    (¬okD L → ∃ s', callN E M 12 [v] s = some (tupOf [.pointer none, .int .i64 3], s') ∧ Grew 10 s s') := by
  have hlim : lim = 1000000000 := rfl
  obtain ⟨m, rfl⟩ : ∃ m, M = m + 1 := ⟨M - 1, by omega⟩
  obtain ⟨rb, b, s1, c1, R1, G1, f1, f2⟩ := r39 m (by omega) s v L hv hne h8 (by omega) (by omega)
  have a1 := G1.1; have a1' := G1.2.1
  have R1 : RS s1 rb b L (some 0) := R1
  obtain ⟨s2, c2, R2, k2⟩ := r40 m (by omega) s1 rb b L hb hL _ R1 (by omega)
  obtain ⟨s3, c3, R3, k3⟩ := r40 m (by omega) s2 rb b L hb hL _ R2 (by have := k2.1; omega)
  obtain ⟨s4, c4, R4, k4⟩ := r40 m (by omega) s3 rb b L hb hL _ R3 (by have := k2.1; have := k3.1; omega)
  obtain ⟨s5, c5, R5, k5⟩ := r40 m (by omega) s4 rb b L hb hL _ R4 (by have := k2.1; have := k3.1; have := k4.1; omega)
  obtain ⟨s6, c6, R6, k6⟩ := r41 m (by omega) s5 rb b L hb hL _ R5 (by have := k2.1; have := k3.1; have := k4.1; have := k5.1; omega)
  have K6 : Kept rb s1 s6 := (((k2.trans k3).trans k4).trans k5).trans k6
  have n6' := K6.1
  change callN E m 40 _ s1 = some (.int .i64 (zz (n1 L).1), s2) at c2
  change callN E m 40 _ s2 = some (.int .i64 (zz (n2 L).1), s3) at c3
  change callN E m 40 _ s3 = some (.int .i64 (zz (n3 L).1), s4) at c4
  change callN E m 40 _ s4 = some (.int .i64 (zz (n4 L).1), s5) at c5
  change callN E m 41 _ s5 = some (.int .u64 ((n5 L).1 : Int), s6) at c6
  change RS s6 rb b L (n5 L).2 at R6
  obtain ⟨d, hd⟩ : ∃ z, z = zz (n1 L).1 := ⟨_, rfl⟩
  obtain ⟨p, hp⟩ : ∃ z, z = zz (n2 L).1 := ⟨_, rfl⟩
  obtain ⟨q, hq⟩ : ∃ z, z = zz (n3 L).1 := ⟨_, rfl⟩
  obtain ⟨h, hh⟩ : ∃ z, z = zz (n4 L).1 := ⟨_, rfl⟩
  obtain ⟨l, hl⟩ : ∃ z, z = (n5 L).1 := ⟨_, rfl⟩
  obtain ⟨st, hst⟩ : ∃ z, z = (n5 L).2 := ⟨_, rfl⟩
  have hok : okD L ↔ st = some L.length ∧ 0 ≤ d ∧ d ≤ 109572 ∧ 0 ≤ p ∧ p ≤ 4503599627370496 ∧ 0 ≤ q ∧ q ≤ 4503599627370496 ∧ 0 ≤ h ∧ (h < 68719476736 ∨ h = 68719476736 ∧ l = 0) := by
    rw [hd, hp, hq, hh, hl, hst]; exact Iff.rfl
  rw [hok, ← hd, ← hp, ← hq, ← hh, ← hl]
  rw [← hd] at c2
  rw [← hp] at c3
  rw [← hq] at c4
  rw [← hh] at c5
  rw [← hl] at c6
  rw [← hst] at R6
  obtain ⟨s7, hs7⟩ : ∃ x, x = (an s6 [.int .i64 0, .int .u64 0]).set s6.next (some [.int .i64 h, .int .u64 (l : Int)]) := ⟨_, rfl⟩
  have n7 : s7.next = s6.next + 1 := by rw [hs7, set_next, an_next]
  have g7 : s7.getC s6.next = some [.int .i64 h, .int .u64 (l : Int)] := by rw [hs7]; exact set_ati _ _ _ _ _ _ (by omega) (by omega) rfl
  have o7 : ∀ y, y < s6.next → s7.getC y = s6.getC y := fun y hy => by rw [hs7, set_ne _ _ _ _ (by omega) (by omega), an_ne _ _ _ (by omega) (by omega)]
  have R7 : RS s7 rb b L st := R6.old (by omega) o7
  have c7 := r42 m (by omega) s7 rb b L _ R7
  have G7 : Grew 5 s s7 := ⟨by omega, by omega, fun y hy => by rw [o7 y (by omega), K6.2 y (by omega), G1.2.2 y hy]⟩
  have fin : ∀ t : St, Still s7 t → ∃ s', some (tupOf [.pointer none, .int .i64 3], t) = some (tupOf [.pointer none, .int .i64 3], s') ∧ Grew 10 s s' := fun t ht => ⟨t, rfl, (G7.still ht).mono (by omega)⟩
  rw [x12]
  unfold F12
  cases st with
  | none =>
    refine ⟨fun k => (by cases k.1), fun _ => ?_⟩
    rw [show (none : Option Nat).isNone = true from rfl] at c7
    simp (disch := (first | omega | (simp only [an_next, set_next, St.seen_next, jn_next, z0_next]; try omega; done))) only [op2_s, op_s, bin_e, pick_e, not_e, ext_e, nth_z, nth_1, nth_2, nth_3, gval_e, gval_u, cmp_e, orUndef_t, orUndef_f, condV_t, condV_f, cond_true, cond_false, eqI_eq, neI_eq, ltI_eq, leI_eq, gtI_eq, geI_eq, Bool.not_true, Bool.not_false, bf_tt, bf_tf, bf_ft, bf_ff, decide_true, decide_false, oneOf_1, oneOf_2, oneOf_3, thenV_n, thenV_e, thenV_r, exV_e, exV_r, Nat.beq_refl, eq_self, new_a, boxA, an_ati, an_atp, an_ats, an_atb, an_ne, set_ati, set_atp, set_ats, set_atb, set_ne, seen_getC, loadn_o, store_2, store_i, store_b, store_s, store_p, load_u, cut_22, put_22, cut_53, cut_55, put_55, put_50, put_51, put_52, put_53, store_5, nth_z, nth_1, nth_2, nth_3, nth_4, nil_u, fa_0, an_next, set_next, St.seen_next, jn_next, z0_next, jn_getC, z0_getC, rU_z, rU_seen, rU_set, rU_an, rU_sl, c1, c2, c3, c4, c5, c6, bu, ← hs7, c7, Q12_q1, Q12_q0, J12_j0]
    exact fin _ (Still.seen _ _)
  | some o =>
    have R7 : Rdr s7 rb b L o := R7
    have ho := R7.le
    rw [show (some o : Option Nat).isNone = false from rfl] at c7
    have c8 := r43 m (by omega) (s7.seen rb) rb b o L (R7.still (Still.seen _ _))
    by_cases y0 : o = L.length
    rotate_left
    · have e0 : decide (0 < ((L.length - o : Nat) : Int)) = true := decide_eq_true (by omega)
      refine ⟨fun k => absurd (Option.some.inj k.1) y0, fun _ => ?_⟩
      simp (disch := (first | omega | (simp only [an_next, set_next, St.seen_next, jn_next, z0_next]; try omega; done))) only [op2_s, op_s, bin_e, pick_e, not_e, ext_e, nth_z, nth_1, nth_2, nth_3, gval_e, gval_u, cmp_e, orUndef_t, orUndef_f, condV_t, condV_f, cond_true, cond_false, eqI_eq, neI_eq, ltI_eq, leI_eq, gtI_eq, geI_eq, Bool.not_true, Bool.not_false, bf_tt, bf_tf, bf_ft, bf_ff, decide_true, decide_false, oneOf_1, oneOf_2, oneOf_3, thenV_n, thenV_e, thenV_r, exV_e, exV_r, Nat.beq_refl, eq_self, new_a, boxA, an_ati, an_atp, an_ats, an_atb, an_ne, set_ati, set_atp, set_ats, set_atb, set_ne, seen_getC, loadn_o, store_2, store_i, store_b, store_s, store_p, load_u, cut_22, put_22, cut_53, cut_55, put_55, put_50, put_51, put_52, put_53, store_5, nth_z, nth_1, nth_2, nth_3, nth_4, nil_u, fa_0, an_next, set_next, St.seen_next, jn_next, z0_next, jn_getC, z0_getC, rU_z, rU_seen, rU_set, rU_an, rU_sl, c1, c2, c3, c4, c5, c6, bu, ← hs7, c7, c8, Q12_q1, Q12_q0, J12_j0, e0, g7]
      refine fin _ ?_
      repeat (first | exact Still.refl _ | refine Still.trans ?_ (Still.seen _ _))
    have e0 : decide (0 < ((L.length - o : Nat) : Int)) = false := decide_eq_false (by omega)
    by_cases y1 : 0 ≤ d
    rotate_left
    · have e1 : decide (d < 0) = true := decide_eq_true (by omega)
      refine ⟨fun k => (by have := k.2; omega), fun _ => ?_⟩
      simp (disch := (first | omega | (simp only [an_next, set_next, St.seen_next, jn_next, z0_next]; try omega; done))) only [op2_s, op_s, bin_e, pick_e, not_e, ext_e, nth_z, nth_1, nth_2, nth_3, gval_e, gval_u, cmp_e, orUndef_t, orUndef_f, condV_t, condV_f, cond_true, cond_false, eqI_eq, neI_eq, ltI_eq, leI_eq, gtI_eq, geI_eq, Bool.not_true, Bool.not_false, bf_tt, bf_tf, bf_ft, bf_ff, decide_true, decide_false, oneOf_1, oneOf_2, oneOf_3, thenV_n, thenV_e, thenV_r, exV_e, exV_r, Nat.beq_refl, eq_self, new_a, boxA, an_ati, an_atp, an_ats, an_atb, an_ne, set_ati, set_atp, set_ats, set_atb, set_ne, seen_getC, loadn_o, store_2, store_i, store_b, store_s, store_p, load_u, cut_22, put_22, cut_53, cut_55, put_55, put_50, put_51, put_52, put_53, store_5, nth_z, nth_1, nth_2, nth_3, nth_4, nil_u, fa_0, an_next, set_next, St.seen_next, jn_next, z0_next, jn_getC, z0_getC, rU_z, rU_seen, rU_set, rU_an, rU_sl, c1, c2, c3, c4, c5, c6, bu, ← hs7, c7, c8, Q12_q1, Q12_q0, J12_j0, e0, e1, g7]
      refine fin _ ?_
      repeat (first | exact Still.refl _ | refine Still.trans ?_ (Still.seen _ _))
    have e1 : decide (d < 0) = false := decide_eq_false (by omega)
    by_cases y2 : d ≤ 109572
    rotate_left
    · have e2 : decide (109572 < d) = true := decide_eq_true (by omega)
      refine ⟨fun k => (by have := k.2; omega), fun _ => ?_⟩
      simp (disch := (first | omega | (simp only [an_next, set_next, St.seen_next, jn_next, z0_next]; try omega; done))) only [op2_s, op_s, bin_e, pick_e, not_e, ext_e, nth_z, nth_1, nth_2, nth_3, gval_e, gval_u, cmp_e, orUndef_t, orUndef_f, condV_t, condV_f, cond_true, cond_false, eqI_eq, neI_eq, ltI_eq, leI_eq, gtI_eq, geI_eq, Bool.not_true, Bool.not_false, bf_tt, bf_tf, bf_ft, bf_ff, decide_true, decide_false, oneOf_1, oneOf_2, oneOf_3, thenV_n, thenV_e, thenV_r, exV_e, exV_r, Nat.beq_refl, eq_self, new_a, boxA, an_ati, an_atp, an_ats, an_atb, an_ne, set_ati, set_atp, set_ats, set_atb, set_ne, seen_getC, loadn_o, store_2, store_i, store_b, store_s, store_p, load_u, cut_22, put_22, cut_53, cut_55, put_55, put_50, put_51, put_52, put_53, store_5, nth_z, nth_1, nth_2, nth_3, nth_4, nil_u, fa_0, an_next, set_next, St.seen_next, jn_next, z0_next, jn_getC, z0_getC, rU_z, rU_seen, rU_set, rU_an, rU_sl, c1, c2, c3, c4, c5, c6, bu, ← hs7, c7, c8, Q12_q1, Q12_q0, J12_j0, e0, e1, e2, g7]
      refine fin _ ?_
      repeat (first | exact Still.refl _ | refine Still.trans ?_ (Still.seen _ _))
    have e2 : decide (109572 < d) = false := decide_eq_false (by omega)
    by_cases y3 : 0 ≤ p
    rotate_left
    · have e3 : decide (p < 0) = true := decide_eq_true (by omega)
      refine ⟨fun k => (by have := k.2; omega), fun _ => ?_⟩
      simp (disch := (first | omega | (simp only [an_next, set_next, St.seen_next, jn_next, z0_next]; try omega; done))) only [op2_s, op_s, bin_e, pick_e, not_e, ext_e, nth_z, nth_1, nth_2, nth_3, gval_e, gval_u, cmp_e, orUndef_t, orUndef_f, condV_t, condV_f, cond_true, cond_false, eqI_eq, neI_eq, ltI_eq, leI_eq, gtI_eq, geI_eq, Bool.not_true, Bool.not_false, bf_tt, bf_tf, bf_ft, bf_ff, decide_true, decide_false, oneOf_1, oneOf_2, oneOf_3, thenV_n, thenV_e, thenV_r, exV_e, exV_r, Nat.beq_refl, eq_self, new_a, boxA, an_ati, an_atp, an_ats, an_atb, an_ne, set_ati, set_atp, set_ats, set_atb, set_ne, seen_getC, loadn_o, store_2, store_i, store_b, store_s, store_p, load_u, cut_22, put_22, cut_53, cut_55, put_55, put_50, put_51, put_52, put_53, store_5, nth_z, nth_1, nth_2, nth_3, nth_4, nil_u, fa_0, an_next, set_next, St.seen_next, jn_next, z0_next, jn_getC, z0_getC, rU_z, rU_seen, rU_set, rU_an, rU_sl, c1, c2, c3, c4, c5, c6, bu, ← hs7, c7, c8, Q12_q1, Q12_q0, J12_j0, e0, e1, e2, e3, g7]
      refine fin _ ?_
      repeat (first | exact Still.refl _ | refine Still.trans ?_ (Still.seen _ _))
    have e3 : decide (p < 0) = false := decide_eq_false (by omega)
    by_cases y4 : p ≤ 4503599627370496
    rotate_left
    · have e4 : decide (4503599627370496 < p) = true := decide_eq_true (by omega)
      refine ⟨fun k => (by have := k.2; omega), fun _ => ?_⟩
      simp (disch := (first | omega | (simp only [an_next, set_next, St.seen_next, jn_next, z0_next]; try omega; done))) only [op2_s, op_s, bin_e, pick_e, not_e, ext_e, nth_z, nth_1, nth_2, nth_3, gval_e, gval_u, cmp_e, orUndef_t, orUndef_f, condV_t, condV_f, cond_true, cond_false, eqI_eq, neI_eq, ltI_eq, leI_eq, gtI_eq, geI_eq, Bool.not_true, Bool.not_false, bf_tt, bf_tf, bf_ft, bf_ff, decide_true, decide_false, oneOf_1, oneOf_2, oneOf_3, thenV_n, thenV_e, thenV_r, exV_e, exV_r, Nat.beq_refl, eq_self, new_a, boxA, an_ati, an_atp, an_ats, an_atb, an_ne, set_ati, set_atp, set_ats, set_atb, set_ne, seen_getC, loadn_o, store_2, store_i, store_b, store_s, store_p, load_u, cut_22, put_22, cut_53, cut_55, put_55, put_50, put_51, put_52, put_53, store_5, nth_z, nth_1, nth_2, nth_3, nth_4, nil_u, fa_0, an_next, set_next, St.seen_next, jn_next, z0_next, jn_getC, z0_getC, rU_z, rU_seen, rU_set, rU_an, rU_sl, c1, c2, c3, c4, c5, c6, bu, ← hs7, c7, c8, Q12_q1, Q12_q0, J12_j0, e0, e1, e2, e3, e4, g7]
      refine fin _ ?_
      repeat (first | exact Still.refl _ | refine Still.trans ?_ (Still.seen _ _))
    have e4 : decide (4503599627370496 < p) = false := decide_eq_false (by omega)
    by_cases y5 : 0 ≤ q
    rotate_left
    · have e5 : decide (q < 0) = true := decide_eq_true (by omega)
      refine ⟨fun k => (by have := k.2; omega), fun _ => ?_⟩
      simp (disch := (first | omega | (simp only [an_next, set_next, St.seen_next, jn_next, z0_next]; try omega; done))) only [op2_s, op_s, bin_e, pick_e, not_e, ext_e, nth_z, nth_1, nth_2, nth_3, gval_e, gval_u, cmp_e, orUndef_t, orUndef_f, condV_t, condV_f, cond_true, cond_false, eqI_eq, neI_eq, ltI_eq, leI_eq, gtI_eq, geI_eq, Bool.not_true, Bool.not_false, bf_tt, bf_tf, bf_ft, bf_ff, decide_true, decide_false, oneOf_1, oneOf_2, oneOf_3, thenV_n, thenV_e, thenV_r, exV_e, exV_r, Nat.beq_refl, eq_self, new_a, boxA, an_ati, an_atp, an_ats, an_atb, an_ne, set_ati, set_atp, set_ats, set_atb, set_ne, seen_getC, loadn_o, store_2, store_i, store_b, store_s, store_p, load_u, cut_22, put_22, cut_53, cut_55, put_55, put_50, put_51, put_52, put_53, store_5, nth_z, nth_1, nth_2, nth_3, nth_4, nil_u, fa_0, an_next, set_next, St.seen_next, jn_next, z0_next, jn_getC, z0_getC, rU_z, rU_seen, rU_set, rU_an, rU_sl, c1, c2, c3, c4, c5, c6, bu, ← hs7, c7, c8, Q12_q1, Q12_q0, J12_j0, e0, e1, e2, e3, e4, e5, g7]
      refine fin _ ?_
      repeat (first | exact Still.refl _ | refine Still.trans ?_ (Still.seen _ _))
    have e5 : decide (q < 0) = false := decide_eq_false (by omega)
    by_cases y6 : q ≤ 4503599627370496
    rotate_left
    · have e6 : decide (4503599627370496 < q) = true := decide_eq_true (by omega)
      refine ⟨fun k => (by have := k.2; omega), fun _ => ?_⟩
      simp (disch := (first | omega | (simp only [an_next, set_next, St.seen_next, jn_next, z0_next]; try omega; done))) only [op2_s, op_s, bin_e, pick_e, not_e, ext_e, nth_z, nth_1, nth_2, nth_3, gval_e, gval_u, cmp_e, orUndef_t, orUndef_f, condV_t, condV_f, cond_true, cond_false, eqI_eq, neI_eq, ltI_eq, leI_eq, gtI_eq, geI_eq, Bool.not_true, Bool.not_false, bf_tt, bf_tf, bf_ft, bf_ff, decide_true, decide_false, oneOf_1, oneOf_2, oneOf_3, thenV_n, thenV_e, thenV_r, exV_e, exV_r, Nat.beq_refl, eq_self, new_a, boxA, an_ati, an_atp, an_ats, an_atb, an_ne, set_ati, set_atp, set_ats, set_atb, set_ne, seen_getC, loadn_o, store_2, store_i, store_b, store_s, store_p, load_u, cut_22, put_22, cut_53, cut_55, put_55, put_50, put_51, put_52, put_53, store_5, nth_z, nth_1, nth_2, nth_3, nth_4, nil_u, fa_0, an_next, set_next, St.seen_next, jn_next, z0_next, jn_getC, z0_getC, rU_z, rU_seen, rU_set, rU_an, rU_sl, c1, c2, c3, c4, c5, c6, bu, ← hs7, c7, c8, Q12_q1, Q12_q0, J12_j0, e0, e1, e2, e3, e4, e5, e6, g7]
      refine fin _ ?_
      repeat (first | exact Still.refl _ | refine Still.trans ?_ (Still.seen _ _))
    have e6 : decide (4503599627370496 < q) = false := decide_eq_false (by omega)
    by_cases y7 : 0 ≤ h
    rotate_left
    · have e7 : decide (h < 0) = true := decide_eq_true (by omega)
      refine ⟨fun k => (by have := k.2; omega), fun _ => ?_⟩
      simp (disch := (first | omega | (simp only [an_next, set_next, St.seen_next, jn_next, z0_next]; try omega; done))) only [op2_s, op_s, bin_e, pick_e, not_e, ext_e, nth_z, nth_1, nth_2, nth_3, gval_e, gval_u, cmp_e, orUndef_t, orUndef_f, condV_t, condV_f, cond_true, cond_false, eqI_eq, neI_eq, ltI_eq, leI_eq, gtI_eq, geI_eq, Bool.not_true, Bool.not_false, bf_tt, bf_tf, bf_ft, bf_ff, decide_true, decide_false, oneOf_1, oneOf_2, oneOf_3, thenV_n, thenV_e, thenV_r, exV_e, exV_r, Nat.beq_refl, eq_self, new_a, boxA, an_ati, an_atp, an_ats, an_atb, an_ne, set_ati, set_atp, set_ats, set_atb, set_ne, seen_getC, loadn_o, store_2, store_i, store_b, store_s, store_p, load_u, cut_22, put_22, cut_53, cut_55, put_55, put_50, put_51, put_52, put_53, store_5, nth_z, nth_1, nth_2, nth_3, nth_4, nil_u, fa_0, an_next, set_next, St.seen_next, jn_next, z0_next, jn_getC, z0_getC, rU_z, rU_seen, rU_set, rU_an, rU_sl, c1, c2, c3, c4, c5, c6, bu, ← hs7, c7, c8, Q12_q1, Q12_q0, J12_j0, e0, e1, e2, e3, e4, e5, e6, e7, g7]
      refine fin _ ?_
      repeat (first | exact Still.refl _ | refine Still.trans ?_ (Still.seen _ _))
    have e7 : decide (h < 0) = false := decide_eq_false (by omega)
    obtain ⟨s8, hs8⟩ : ∃ x, x = (((s7.seen rb).seen rb).seen s6.next).seen s6.next := ⟨_, rfl⟩
    have n8 : s8.next = s7.next := by rw [hs8]; simp only [St.seen_next]
    have o8 : ∀ y, s8.getC y = s7.getC y := fun y => by rw [hs8]; simp only [seen_getC]
    obtain ⟨s9, c9, G9⟩ := r44 m (by omega) h l s8 (by omega) (by omega)
    have a9 := G9.1; have a9' := G9.2.1
    have g9 : s9.getC s6.next = some [.int .i64 h, .int .u64 (l : Int)] := (G9.2.2 _ (by omega)).trans ((o8 _).trans g7)
    have G8 : Grew 8 s s9 := ((G7.still ⟨n8, o8⟩).trans G9).mono (by omega)
    by_cases k9 : h < 68719476736 ∨ h = 68719476736 ∧ l = 0
    · have e9 : decide (0 < cmpD h l) = false := decide_eq_false (fun z => (cmpD_pos h l).mp z k9)
      refine ⟨fun _ => ?_, fun k => absurd ⟨by rw [y0], y1, y2, y3, y4, y5, y6, y7, k9⟩ k⟩
      simp (disch := (first | omega | (simp only [an_next, set_next, St.seen_next, jn_next, z0_next]; try omega; done))) only [op2_s, op_s, bin_e, pick_e, not_e, ext_e, nth_z, nth_1, nth_2, nth_3, gval_e, gval_u, cmp_e, orUndef_t, orUndef_f, condV_t, condV_f, cond_true, cond_false, eqI_eq, neI_eq, ltI_eq, leI_eq, gtI_eq, geI_eq, Bool.not_true, Bool.not_false, bf_tt, bf_tf, bf_ft, bf_ff, decide_true, decide_false, oneOf_1, oneOf_2, oneOf_3, thenV_n, thenV_e, thenV_r, exV_e, exV_r, Nat.beq_refl, eq_self, new_a, boxA, an_ati, an_atp, an_ats, an_atb, an_ne, set_ati, set_atp, set_ats, set_atb, set_ne, seen_getC, loadn_o, store_2, store_i, store_b, store_s, store_p, load_u, cut_22, put_22, cut_53, cut_55, put_55, put_50, put_51, put_52, put_53, store_5, nth_z, nth_1, nth_2, nth_3, nth_4, nil_u, fa_0, an_next, set_next, St.seen_next, jn_next, z0_next, jn_getC, z0_getC, rU_z, rU_seen, rU_set, rU_an, rU_sl, c1, c2, c3, c4, c5, c6, bu, ← hs7, c7, c8, Q12_q1, Q12_q0, J12_j0, e0, e1, e2, e3, e4, e5, e6, e7, g7, ← hs8, buH, c9, e9, J12_j1, g9, bu53]
      refine ⟨_, _, rfl, ?_, ?_, ?_, ?_⟩
      · exact ((G8.seen _).an _ (by rw [St.seen_next]; omega)).mono (by omega)
      · rw [an_ati _ _ _ _ _ (by rw [St.seen_next]; omega) (by rw [St.seen_next])]
      · omega
      · simp only [an_next, St.seen_next]; omega
    · have e9 : decide (0 < cmpD h l) = true := decide_eq_true ((cmpD_pos h l).mpr k9)
      refine ⟨fun k => absurd k.2.2.2.2.2.2.2.2 k9, fun _ => ?_⟩
      simp (disch := (first | omega | (simp only [an_next, set_next, St.seen_next, jn_next, z0_next]; try omega; done))) only [op2_s, op_s, bin_e, pick_e, not_e, ext_e, nth_z, nth_1, nth_2, nth_3, gval_e, gval_u, cmp_e, orUndef_t, orUndef_f, condV_t, condV_f, cond_true, cond_false, eqI_eq, neI_eq, ltI_eq, leI_eq, gtI_eq, geI_eq, Bool.not_true, Bool.not_false, bf_tt, bf_tf, bf_ft, bf_ff, decide_true, decide_false, oneOf_1, oneOf_2, oneOf_3, thenV_n, thenV_e, thenV_r, exV_e, exV_r, Nat.beq_refl, eq_self, new_a, boxA, an_ati, an_atp, an_ats, an_atb, an_ne, set_ati, set_atp, set_ats, set_atb, set_ne, seen_getC, loadn_o, store_2, store_i, store_b, store_s, store_p, load_u, cut_22, put_22, cut_53, cut_55, put_55, put_50, put_51, put_52, put_53, store_5, nth_z, nth_1, nth_2, nth_3, nth_4, nil_u, fa_0, an_next, set_next, St.seen_next, jn_next, z0_next, jn_getC, z0_getC, rU_z, rU_seen, rU_set, rU_an, rU_sl, c1, c2, c3, c4, c5, c6, bu, ← hs7, c7, c8, Q12_q1, Q12_q0, J12_j0, e0, e1, e2, e3, e4, e5, e6, e7, g7, ← hs8, buH, c9, e9]
      exact ⟨_, rfl, G8.mono (by omega)⟩
end Go.Proofs.Ytdnedangfnincaa.AbsAccR
