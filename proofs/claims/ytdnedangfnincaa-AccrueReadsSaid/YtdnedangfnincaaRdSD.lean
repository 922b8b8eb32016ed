import Derived.Test.YtdnedangfnincaaRdSA
import Derived.Test.YtdnedangfnincaaRdSC
import Derived.Test.YtdnedangfnincaaAbsZT
namespace Go.Proofs.Ytdnedangfnincaa.AbsAccR
open Go Go.Abs Go.Proofs
set_option maxRecDepth 100000
set_option linter.unusedVariables false
set_option linter.unusedSimpArgs false

attribute [local congr] h_opt2 h_opt h_condV h_cond
/-! an account's bytes: what is read is written as these bytes -/
theorem nxU_back {L : List Nat} {st : Option Nat} {o' : Nat} (hb : ∀ x ∈ L, x < 256) (h : (nxU L st).2 = some o') : ∃ o rest, st = some o ∧ L.drop o = vb 9 (nxU L st).1 ++ rest ∧ o' = o + (vb 9 (nxU L st).1).length := by
  cases st with
  | none => cases h
  | some o =>
    cases hk : rdm 0 0 (L.drop o) with
    | none => rw [nxU_no hk] at h; cases h
    | some p =>
      obtain ⟨u, n⟩ := p
      rw [nxU_yes hk] at h ⊢
      obtain ⟨w, rest, e1, e2, e3, e4, e5⟩ := rdm_ok _ _ _ _ _ (by omega) (by simp) (fun x hx => hb x (List.mem_of_mem_drop hx)) hk
      have e1 : u = w := by rw [e1, Nat.zero_add, Nat.pow_zero, Nat.mul_one]
      subst e1
      refine ⟨o, rest, rfl, e3, ?_⟩
      have h : o + n = o' := Option.some.inj h
      rw [← h, e4, Nat.zero_add]
theorem zz_even {u : Nat} (h : 0 ≤ zz u) : u = 2 * (u / 2) ∧ zz u = ((u / 2 : Nat) : Int) := by
  unfold zz at h ⊢
  split at h
  · exact ⟨by omega, by rw [if_pos (by assumption)]⟩
  · omega
theorem okD_enc {L : List Nat} (hb : ∀ x ∈ L, x < 256) (h : okD L) : ∃ d p q A : Nat, L = encB d p q A ∧ zz (n1 L).1 = (d : Int) ∧ zz (n2 L).1 = (p : Int) ∧ zz (n3 L).1 = (q : Int) ∧ zz (n4 L).1 = ((A / 18446744073709551616 : Nat) : Int) ∧ (n5 L).1 = A % 18446744073709551616 ∧ d ≤ 109572 ∧ p ≤ 4503599627370496 ∧ q ≤ 4503599627370496 ∧ A / 18446744073709551616 ≤ 68719476736 := by
  obtain ⟨h5, d0, d1, p0, p1, q0, q1, k0, k1⟩ := h
  obtain ⟨o4, t5, e4, x5, y5⟩ := nxU_back hb h5
  obtain ⟨o3, t4, e3, x4, y4⟩ := nxU_back hb e4
  obtain ⟨o2, t3, e2, x3, y3⟩ := nxU_back hb e3
  obtain ⟨o1, t2, e1, x2, y2⟩ := nxU_back hb e2
  obtain ⟨o0, t1, e0, x1, y1⟩ := nxU_back hb e1
  obtain rfl : 0 = o0 := Option.some.inj e0
  change List.drop 0 L = vb 9 (n1 L).1 ++ t1 at x1
  change o1 = 0 + (vb 9 (n1 L).1).length at y1
  change List.drop o1 L = vb 9 (n2 L).1 ++ t2 at x2
  change o2 = o1 + (vb 9 (n2 L).1).length at y2
  change List.drop o2 L = vb 9 (n3 L).1 ++ t3 at x3
  change o3 = o2 + (vb 9 (n3 L).1).length at y3
  change List.drop o3 L = vb 9 (n4 L).1 ++ t4 at x4
  change o4 = o3 + (vb 9 (n4 L).1).length at y4
  change List.drop o4 L = vb 9 (n5 L).1 ++ t5 at x5
  change L.length = o4 + (vb 9 (n5 L).1).length at y5
  have z1 := drop_on x1
  rw [← y1, x2] at z1
  have z2 := drop_on x2
  rw [← y2, x3] at z2
  have z3 := drop_on x3
  rw [← y3, x4] at z3
  have z4 := drop_on x4
  rw [← y4, x5] at z4
  have z5 := drop_on x5
  rw [← y5, List.drop_length] at z5
  rw [List.drop_zero, ← z1, ← z2, ← z3, ← z4, ← z5] at x1
  obtain ⟨i1, j1⟩ := zz_even d0
  obtain ⟨i2, j2⟩ := zz_even p0
  obtain ⟨i3, j3⟩ := zz_even q0
  obtain ⟨i4, j4⟩ := zz_even k0
  have hl := nxU_lt hb (n4 L).2
  change (n5 L).1 < 18446744073709551616 at hl
  have dv : ((n4 L).1 / 2 * 18446744073709551616 + (n5 L).1) / 18446744073709551616 = (n4 L).1 / 2 := by omega
  have md : ((n4 L).1 / 2 * 18446744073709551616 + (n5 L).1) % 18446744073709551616 = (n5 L).1 := by omega
  refine ⟨(n1 L).1 / 2, (n2 L).1 / 2, (n3 L).1 / 2, (n4 L).1 / 2 * 18446744073709551616 + (n5 L).1, ?_, j1, j2, j3, ?_, ?_, by omega, by omega, by omega, ?_⟩
  · unfold encB
    rw [dv, md, ← i1, ← i2, ← i3, ← i4]
    conv => lhs; rw [x1]
    simp only [List.append_assoc, List.append_nil]
  · rw [dv]; exact j4
  · rw [md]
  · rw [dv]; omega
theorem bytesOf_cB : ∀ L : List Nat, bytesOf (cB L) = some (L.map UInt8.ofNat)
  | [] => rfl
  | x :: L => by
    have ih := bytesOf_cB L
    show opt (bytesOf (cB L)) (fun r => some (UInt8.ofNat (Int.ofNat x).toNat :: r)) = _
    rw [ih, op_s]
    rfl
theorem str_cB (s : St) (b c : Nat) (L : List Nat) (rec : Rec) (fs : Frm) (hc : s.getC b = some (cB L)) (hne : L ≠ []) : oBytesStr (.v (.slice (some ⟨b, 0, none⟩) L.length c)) rec fs s = some (.string ⟨⟨L.map UInt8.ofNat⟩⟩, s.seen b) := by
  have hl : 0 < L.length := List.length_pos_iff.2 hne
  have z1 : Nat.beq L.length 0 = false := by rw [beq_eq']; exact decide_eq_false (by omega)
  show (bif Nat.beq L.length 0 then _ else opt2 (s.read b 0 L.length) fun c s => opt (bytesOf c) fun l => some (Value.string ⟨⟨l⟩⟩, s)) = _
  rw [z1, cond_false, read_u s b 0 L.length _ hc (by rw [cB_len]; omega), op2_s, List.drop_zero, List.take_of_length_le (by rw [cB_len]; exact Nat.le_refl _), bytesOf_cB, op_s]
theorem r30 (M : Nat) (hM : 1 ≤ M) (s : St) (ab : Nat) (d p q h l : Value) (hc : s.getC ab = some [d, p, q, h, l]) : callN E M 30 [.pointer (some ⟨ab, 0, none⟩)] s = some (d, s.seen ab) := by
  obtain ⟨m, rfl⟩ : ∃ m, M = m + 1 := ⟨M - 1, by omega⟩
  rw [x30]
  unfold F30
  simp only [op2_s, op_s, bin_e, pick_e, not_e, ext_e, nth_z, nth_1, nth_2, nth_3, gval_e, gval_u, cmp_e, orUndef_t, orUndef_f, condV_t, condV_f, cond_true, cond_false, eqI_eq, neI_eq, ltI_eq, leI_eq, gtI_eq, geI_eq, Bool.not_true, Bool.not_false, bf_tt, bf_tf, bf_ft, bf_ff, decide_true, decide_false, oneOf_1, oneOf_2, oneOf_3, thenV_n, thenV_e, thenV_r, exV_e, exV_r, Nat.beq_refl, eq_self, new_a, boxA, an_ati, an_atp, an_ats, an_atb, an_ne, set_ati, set_atp, set_ats, set_atb, set_ne, seen_getC, loadn_o, store_2, store_i, store_b, store_s, store_p, load_u, cut_22, put_22, cut_53, cut_55, put_55, put_50, put_51, put_52, put_53, store_5, nth_z, nth_1, nth_2, nth_3, nth_4, nil_u, fa_0, an_next, set_next, St.seen_next, jn_next, z0_next, jn_getC, z0_getC, rU_z, rU_seen, rU_set, rU_an, rU_sl, hc]
theorem r31 (M : Nat) (hM : 1 ≤ M) (s : St) (ab : Nat) (d p q h l : Value) (hc : s.getC ab = some [d, p, q, h, l]) : callN E M 31 [.pointer (some ⟨ab, 0, none⟩)] s = some (p, s.seen ab) := by
  obtain ⟨m, rfl⟩ : ∃ m, M = m + 1 := ⟨M - 1, by omega⟩
  rw [x31]
  unfold F31
  simp only [op2_s, op_s, bin_e, pick_e, not_e, ext_e, nth_z, nth_1, nth_2, nth_3, gval_e, gval_u, cmp_e, orUndef_t, orUndef_f, condV_t, condV_f, cond_true, cond_false, eqI_eq, neI_eq, ltI_eq, leI_eq, gtI_eq, geI_eq, Bool.not_true, Bool.not_false, bf_tt, bf_tf, bf_ft, bf_ff, decide_true, decide_false, oneOf_1, oneOf_2, oneOf_3, thenV_n, thenV_e, thenV_r, exV_e, exV_r, Nat.beq_refl, eq_self, new_a, boxA, an_ati, an_atp, an_ats, an_atb, an_ne, set_ati, set_atp, set_ats, set_atb, set_ne, seen_getC, loadn_o, store_2, store_i, store_b, store_s, store_p, load_u, cut_22, put_22, cut_53, cut_55, put_55, put_50, put_51, put_52, put_53, store_5, nth_z, nth_1, nth_2, nth_3, nth_4, nil_u, fa_0, an_next, set_next, St.seen_next, jn_next, z0_next, jn_getC, z0_getC, rU_z, rU_seen, rU_set, rU_an, rU_sl, hc]
theorem jR1 {n0 : Nat} {c : Nat → Nat} {s b : St} {x k : Nat} (h0 : c (k + 1) ≤ n0) (h : x < c (k + 1 + 1)) : KJ n0 c ⟨(((z0 s).seen x).rd, ((z0 s).seen x).wr), s, b, none⟩ (1, k) := by
  show KI n0 c _ (k + 1)
  refine ⟨fun y h => ?_, fun y h => ?_, fun p h => by cases h⟩
  · have h : ((z0 s).seen x).wr.testBit y = true := h
    rw [sn_wr] at h
    exact absurd ((Nat.zero_testBit y).symm.trans h) Bool.false_ne_true
  · have h : ((z0 s).seen x).rd.testBit y = true := h
    rw [St.seen_rd, testBit_lor, testBit_bit, Bool.or_eq_true, decide_eq_true_eq] at h
    rcases h with h | h
    · exact absurd ((Nat.zero_testBit y).symm.trans h) Bool.false_ne_true
    · by_cases hx : y < n0
      · exact .inl hx
      · exact .inr ⟨by omega, by omega, by omega⟩
theorem enc_ne (d p q A : Nat) : encB d p q A ≠ [] := by
  intro e
  have l1 := vb_len 9 (2 * d)
  have := congrArg List.length e
  unfold encB at this
  simp only [List.length_append, List.length_nil] at this
  omega
/-- it is an account: written again, it is these bytes -/
theorem j6_ok (m : Nat) (hm : 30 ≤ m) (T : St) (cb d p q A c : Nat) (hd : d ≤ 109572) (hp : p ≤ 4503599627370496) (hq : q ≤ 4503599627370496) (hA : A / 18446744073709551616 ≤ 68719476736)
    (hc : T.getC cb = some (accC d p q A)) (hlt : cb < T.next) (h0 : T.getC 0 = some (cB (encB d p q A))) (h8 : 8 ≤ T.next) (hn : T.next + 300 ≤ lim) :
    ∃ s', J6_j0 (callN E m) m (.slice (some ⟨0, 0, none⟩) (encB d p q A).length c, .pointer (some ⟨cb, 0, none⟩), .int .i64 0, .int .i64 (d : Int), .int .i64 (p : Int), .bool true) T = some (.bool true, s') ∧ Grew 110 T s' := by
  have hlim : lim = 1000000000 := rfl
  have hz : (z0 T).getC cb = some (accC d p q A) := hc
  obtain ⟨v, t1, c1, b1, g1, o1⟩ := r24 m (by omega) (z0 T) cb d p q A (by omega) (by omega) (by omega) (by omega) hz (by rw [z0_next]; omega) (by rw [z0_next]; omega) (by rw [z0_next]; omega)
  have a1 := g1.1; have a1' := g1.2.1
  rw [z0_next] at a1 a1'
  rcases b1 with ⟨h, _⟩ | ⟨bv, rfl, q1, q2, q3⟩
  · exact absurd h (enc_ne d p q A)
  obtain ⟨T1, hT1⟩ : ∃ z, z = jn T t1 := ⟨_, rfl⟩
  have n1' : T1.next = t1.next := by rw [hT1, jn_next]
  have G1 : Grew 110 T T1 := by rw [hT1]; exact g1.z0
  have e1 := rU_c (.slice (some ⟨bv, 0, none⟩) (encB d p q A).length (UNK + 1)) PT.nil T t1
  rw [← hT1] at e1
  have w1 : (z0 T1).getC bv = some (cB (encB d p q A)) := by rw [z0_getC, hT1, jn_getC]; exact q1
  have s1 := str_cB (z0 T1) bv (UNK + 1) (encB d p q A) (callN E m) PT.nil w1 q3
  have w0 : (z0 (T1.seen bv)).getC 0 = some (cB (encB d p q A)) := by rw [z0_getC, seen_getC, G1.2.2 0 (by omega)]; exact h0
  have s2 := str_cB (z0 (T1.seen bv)) 0 c (encB d p q A) (callN E m) PT.nil w0 q3
  have eq1 : ∀ l : List UInt8, str2 (cmpS eqBytes) (.string ⟨⟨l⟩⟩) (.string ⟨⟨l⟩⟩) = some (.bool true) := fun l => by rw [eqs_u, decide_eq_true rfl]
  obtain ⟨T2, hT2⟩ : ∃ z, z = (T1.seen bv).seen 0 := ⟨_, rfl⟩
  have n2' : T2.next = t1.next := by rw [hT2]; simp only [St.seen_next, n1']
  have G2 : Grew 110 T T2 := by rw [hT2]; exact (G1.seen _).seen _
  have w2 : (z0 T2).getC cb = some (accC d p q A) := by rw [z0_getC, G2.2.2 cb hlt]; exact hc
  have w3 : (z0 (T2.seen cb)).getC cb = some (accC d p q A) := by rw [z0_getC, seen_getC, G2.2.2 cb hlt]; exact hc
  unfold accC at w2 w3
  have d1 := r30 m (by omega) (z0 T2) cb _ _ _ _ _ w2
  have d2 := r31 m (by omega) (z0 (T2.seen cb)) cb _ _ _ _ _ w3
  have x1 : decide ((0 : Int) = 0) = true := rfl
  have x2 : decide ((d : Int) = (d : Int)) = true := decide_eq_true rfl
  have x3 : decide ((p : Int) = (p : Int)) = true := decide_eq_true rfl
  unfold J6_j0
  simp only [Q6_q4, z0_e]
  simp (maxSteps := 4000000) (disch := (first | omega | (simp only [an_next, set_next, St.seen_next, jn_next, z0_next]; try omega; done))) only [op2_s, op_s, bin_e, pick_e, not_e, ext_e, nth_z, nth_1, nth_2, nth_3, gval_e, gval_u, cmp_e, orUndef_t, orUndef_f, condV_t, condV_f, cond_true, cond_false, eqI_eq, neI_eq, ltI_eq, leI_eq, gtI_eq, geI_eq, Bool.not_true, Bool.not_false, bf_tt, bf_tf, bf_ft, bf_ff, decide_true, decide_false, oneOf_1, oneOf_2, oneOf_3, thenV_n, thenV_e, thenV_r, exV_e, exV_r, Nat.beq_refl, eq_self, new_a, boxA, an_ati, an_atp, an_ats, an_atb, an_ne, set_ati, set_atp, set_ats, set_atb, set_ne, seen_getC, loadn_o, store_2, store_i, store_b, store_s, store_p, load_u, cut_22, put_22, cut_53, cut_55, put_55, put_50, put_51, put_52, put_53, store_5, nth_z, nth_1, nth_2, nth_3, nth_4, nil_u, fa_0, an_next, set_next, St.seen_next, jn_next, z0_next, jn_getC, z0_getC, rU_z, rU_seen, rU_set, rU_an, rU_sl, mov_v, orM_t, x1, c1, e1, s1, s2, ← hT2, eq1, d1, d2, x2, x3, snM_n, snM_c]
  rw [apartJs (n0 := T.next) (fun k => if k ≤ 1 then T.next else t1.next) [(0, 0), (0, 0), (0, 0), (0, 0), (2, 0), (1, 0), (0, 0), (0, 0), (3, 0), (3, 0), (3, 0), (0, 0), (0, 0), (0, 0), (3, 0), (3, 0), (3, 0), (0, 0), (0, 0), (0, 0), (3, 0), (3, 0), (3, 0)] ?hc ?h0 ?hk _ (by kernel_rfl), cond_true]
  · exact ⟨_, rfl, (G2.seen _).seen _⟩
  case hc =>
    intro i j h1 h2
    try dsimp only
    repeat' split
    all_goals omega
  case h0 =>
    intro i h1
    try dsimp only
    repeat' split
    all_goals omega
  case hk =>
    refine ⟨jP (by decide), jP (by decide), jP (by decide), jP (by decide), jC o1 ?_ ?_, jR1 ?_ ?_, jP (by decide), jR (by omega), trivial, trivial, trivial, jP (by decide), jR (by omega), jP (by decide), trivial, trivial, trivial, jP (by decide), jR (by omega), jP (by decide), trivial, trivial, trivial, trivial⟩
    all_goals try dsimp only
    all_goals repeat' split
    all_goals first | omega | exact absurd trivial (by assumption)
end Go.Proofs.Ytdnedangfnincaa.AbsAccR
namespace Go.Proofs.Ytdnedangfnincaa.AbsAccR
open Go Go.Abs Go.Proofs
set_option maxRecDepth 100000
set_option linter.unusedVariables false
set_option linter.unusedSimpArgs false

attribute [local congr] h_opt2 h_opt h_condV h_cond
/-! AccrueReads -/
theorem eqp_nn (rec : Rec) (fs : Frm) (s : St) : oEqv eqP false (.v (.pointer none)) (.v (.pointer none)) rec fs s = some (.bool true, s) := nrfl rfl
theorem j6_no (m : Nat) (a x y : Value) (T : St) : J6_j0 (callN E m) m (a, .pointer none, .int .i64 3, x, y, .bool false) T = some (.bool true, T) := by
  have e1 : decide ((3 : Int) = 3) = true := rfl
  unfold J6_j0
  simp only [op2_s, op_s, bin_e, pick_e, not_e, ext_e, nth_z, nth_1, nth_2, nth_3, gval_e, gval_u, cmp_e, orUndef_t, orUndef_f, condV_t, condV_f, cond_true, cond_false, eqI_eq, neI_eq, ltI_eq, leI_eq, gtI_eq, geI_eq, Bool.not_true, Bool.not_false, bf_tt, bf_tf, bf_ft, bf_ff, decide_true, decide_false, oneOf_1, oneOf_2, oneOf_3, thenV_n, thenV_e, thenV_r, exV_e, exV_r, Nat.beq_refl, eq_self, e1, eqp_nn]
theorem sgn_ge (z : Int) : 0 ≤ sgn z ↔ 0 ≤ z := by
  unfold sgn
  by_cases h : z = 0
  · rw [if_pos h]; omega
  · rw [if_neg h]
    by_cases h2 : z < 0
    · rw [if_pos h2]; omega
    · rw [if_neg h2]; omega
theorem sgn_le (z : Int) : sgn z ≤ 0 ↔ z ≤ 0 := by
  unfold sgn
  by_cases h : z = 0
  · rw [if_pos h]; omega
  · rw [if_neg h]
    by_cases h2 : z < 0
    · rw [if_pos h2]; omega
    · rw [if_neg h2]; omega
theorem bs_of (s : St) (b : Nat) (L : List Nat) (h : s.getC b = some (cB L)) (hb : b < s.next) (hne : L ≠ []) : Bs s (.slice (some ⟨b, 0, none⟩) L.length (UNK + 1)) L := .inr ⟨b, rfl, h, hb, hne⟩
set_option maxHeartbeats 8000000 in
theorem r6 (M : Nat) (hM : 2000 ≤ M) (s s1 : St) (L : List Nat) (hb : ∀ x ∈ L, x < 256) (hne : L ≠ []) (c : Nat) (haw : callN E M 9 [] s = some (.bool true, s1)) (h8 : 8 ≤ s1.next) (hn : s1.next ≤ 2000) (h0 : s1.getC 0 = some (cB L)) :
    ∃ s', callN E (M + 1) 6 [.slice (some ⟨0, 0, none⟩) L.length c] s = some (.bool true, s') ∧ s'.getC 0 = some (cB L) := by
  have hlim : lim = 1000000000 := rfl
  have hL0 : 0 < L.length := List.length_pos_iff.2 hne
  rw [x6]
  unfold F6
  by_cases h100 : 100 < L.length
  · have e1 : decide ((100 : Int) < (L.length : Int)) = true := decide_eq_true (by omega)
    simp only [op2_s, op_s, bin_e, pick_e, not_e, ext_e, nth_z, nth_1, nth_2, nth_3, gval_e, gval_u, cmp_e, orUndef_t, orUndef_f, condV_t, condV_f, cond_true, cond_false, eqI_eq, neI_eq, ltI_eq, leI_eq, gtI_eq, geI_eq, Bool.not_true, Bool.not_false, bf_tt, bf_tf, bf_ft, bf_ff, decide_true, decide_false, oneOf_1, oneOf_2, oneOf_3, thenV_n, thenV_e, thenV_r, exV_e, exV_r, Nat.beq_refl, eq_self, haw, lenL_e, e1]
    exact ⟨s1, rfl, h0⟩
  have e100 : decide ((100 : Int) < (L.length : Int)) = false := decide_eq_false (by omega)
  obtain ⟨A0, hA0⟩ : ∃ z, z = an s1 [] := ⟨_, rfl⟩
  have nA0 : A0.next = s1.next + 1 := by rw [hA0, an_next]
  have x0 : A0.getC 0 = some (cB L) := by rw [hA0, an_ne _ _ _ (by omega) (by omega)]; exact h0
  have ap1 := app_emp A0 s1.next 0 L.length c (cB L) (callN E M) PT.nil x0 (cB_len L) hL0 (by omega) (by omega)
  obtain ⟨A1, hA1⟩ : ∃ z, z = an (A0.seen 0) (cB L) := ⟨_, rfl⟩
  rw [← hA1] at ap1
  have nA1 : A1.next = s1.next + 2 := by rw [hA1, an_next, St.seen_next, nA0]
  have y1 : A1.getC A0.next = some (cB L) := by rw [hA1]; exact an_at _ _ _ (by rw [St.seen_next]; omega) (cB_map L) (by rw [St.seen_next])
  have z1 : A1.getC 0 = some (cB L) := by rw [hA1, an_ne _ _ _ (by rw [St.seen_next]; omega) (by rw [St.seen_next]; omega), seen_getC]; exact x0
  obtain ⟨dy, dn⟩ := r12 M (by omega) A1 _ L hb (by omega) hne (bs_of A1 A0.next L y1 (by omega) hne) (by omega) (by omega)
  obtain ⟨pv, er, A2, cD, gD, okY, okN⟩ : ∃ (pv : Value) (er : Int) (A2 : St), callN E M 12 [.slice (some ⟨A0.next, 0, none⟩) L.length (UNK + 1)] A1 = some (tupOf [pv, .int .i64 er], A2) ∧ Grew 10 A1 A2 ∧ (okD L → er = 0 ∧ ∃ cb, pv = .pointer (some ⟨cb, 0, none⟩) ∧ A2.getC cb = some [.int .i64 (zz (n1 L).1), .int .i64 (zz (n2 L).1), .int .i64 (zz (n3 L).1), .int .i64 (zz (n4 L).1), .int .u64 ((n5 L).1 : Int)] ∧ cb < A2.next) ∧ (¬okD L → er = 3 ∧ pv = .pointer none) := by
    by_cases hk : okD L
    · obtain ⟨cb, A2, p1, p2, p3, p4, p5⟩ := dy hk
      exact ⟨_, _, A2, p1, p2, fun _ => ⟨rfl, cb, rfl, p3, p5⟩, fun k => absurd hk k⟩
    · obtain ⟨A2, p1, p2⟩ := dn hk
      exact ⟨_, _, A2, p1, p2, fun k => absurd k hk, fun _ => ⟨rfl, rfl⟩⟩
  have a2 := gD.1; have a2' := gD.2.1
  have z2 : A2.getC 0 = some (cB L) := (gD.2.2 0 (by omega)).trans z1
  obtain ⟨A3, hA3⟩ : ∃ z, z = an A2 [] := ⟨_, rfl⟩
  have nA3 : A3.next = A2.next + 1 := by rw [hA3, an_next]
  have z3 : A3.getC 0 = some (cB L) := by rw [hA3, an_ne _ _ _ (by omega) (by omega)]; exact z2
  have ap2 := app_emp A3 A2.next 0 L.length c (cB L) (callN E M) PT.nil z3 (cB_len L) hL0 (by omega) (by omega)
  obtain ⟨A4, hA4⟩ : ∃ z, z = an (A3.seen 0) (cB L) := ⟨_, rfl⟩
  rw [← hA4] at ap2
  have nA4 : A4.next = A2.next + 2 := by rw [hA4, an_next, St.seen_next, nA3]
  have y4 : A4.getC A3.next = some (cB L) := by rw [hA4]; exact an_at _ _ _ (by rw [St.seen_next]; omega) (cB_map L) (by rw [St.seen_next])
  obtain ⟨A5, hA5⟩ : ∃ z, z = an A4 [.slice (some ⟨A3.next, 0, none⟩) L.length (UNK + 1), .bool false] := ⟨_, rfl⟩
  have nA5 : A5.next = A2.next + 3 := by rw [hA5, an_next, nA4]
  have G5 : Grew 3 A2 A5 := by
    rw [hA5, hA4, hA3]
    exact (((Grew.refl A2).an _ (by omega)).seen _).an _ (by rw [St.seen_next, an_next]; omega) |>.an _ (by rw [an_next, St.seen_next, an_next]; omega)
  have R0 : RS A5 A4.next A3.next L (some 0) := by
    refine (⟨?_, ?_, by omega, by omega, by omega, by omega, by omega⟩ : Rdr A5 A4.next A3.next L 0)
    · rw [hA5, an_ats _ _ _ _ _ _ (by omega) rfl, Nat.sub_zero]
    · rw [hA5, an_ne _ _ _ (by omega) (by omega)]; exact y4
  obtain ⟨B1, c1, R1, k1⟩ := r34 M (by omega) A5 _ _ L hb (by omega) _ R0 (by omega)
  obtain ⟨B2, c2, R2, k2⟩ := r34 M (by omega) B1 _ _ L hb (by omega) _ R1 (by have := k1.1; omega)
  obtain ⟨B3, c3, R3, k3⟩ := r34 M (by omega) B2 _ _ L hb (by omega) _ R2 (by have := k1.1; have := k2.1; omega)
  obtain ⟨B4, c4, R4, k4⟩ := r34 M (by omega) B3 _ _ L hb (by omega) _ R3 (by have := k1.1; have := k2.1; have := k3.1; omega)
  obtain ⟨B5, c5, R5, k5⟩ := r35 M (by omega) B4 _ _ L hb (by omega) _ R4 (by have := k1.1; have := k2.1; have := k3.1; have := k4.1; omega)
  have K5 : Kept A4.next A5 B5 := (((k1.trans k2).trans k3).trans k4).trans k5
  have nB := K5.1
  change callN E M 34 _ A5 = some (.int .i64 (zz (n1 L).1), B1) at c1
  change callN E M 34 _ B1 = some (.int .i64 (zz (n2 L).1), B2) at c2
  change callN E M 34 _ B2 = some (.int .i64 (zz (n3 L).1), B3) at c3
  change callN E M 34 _ B3 = some (.int .i64 (zz (n4 L).1), B4) at c4
  change callN E M 35 _ B4 = some (.int .u64 ((n5 L).1 : Int), B5) at c5
  change RS B5 A4.next A3.next L (n5 L).2 at R5
  have hbd := zz_bd (nxU_lt hb (n3 L).2)
  change -9223372036854775808 ≤ zz (n4 L).1 ∧ zz (n4 L).1 ≤ 9223372036854775807 at hbd
  have lbd := nxU_lt hb (n4 L).2
  change (n5 L).1 < 18446744073709551616 at lbd
  obtain ⟨sv, C0, cW, bW, gW, oW⟩ := r36 M (by omega) B5 (zz (n4 L).1) ((n5 L).1 : Int) hbd.1 hbd.2 (by omega) (by omega) (by omega) (by omega)
  have aw := gW.1; have aw' := gW.2.1
  obtain ⟨S, hS⟩ : ∃ z, z = zz (n4 L).1 * 18446744073709551616 + ((n5 L).1 : Int) := ⟨_, rfl⟩
  rw [← hS] at bW
  have bW' := bW
  obtain ⟨w, rfl, dW⟩ := bW'
  obtain ⟨C1, hC1⟩ : ∃ z, z = (an C0 [.bool false, .slice none 0 0]).set C0.next (some [.bool (big S).1, w]) := ⟨_, rfl⟩
  have gC : Grew 1 C0 C1 := by rw [hC1]; exact ((Grew.refl C0).an _ (by omega)).set _ _ (by omega) (by omega)
  have nC : C1.next = C0.next + 1 := by rw [hC1, set_next, an_next]
  have cC : C1.getC C0.next = some [.bool (big S).1, w] := by rw [hC1]; exact set_atb _ _ _ _ _ (by omega) (by omega) rfl
  have RC : RS C1 A4.next A3.next L (n5 L).2 := (R5.old gW.1 gW.2.2).old gC.1 gC.2.2
  -- what is older than the reader is as it was
  have old : ∀ y, y < A2.next → C1.getC y = A2.getC y := fun y hy => by
    rw [gC.2.2 y (by omega), gW.2.2 y (by omega), K5.2 y (by omega), G5.2.2 y hy]
  have zC : C1.getC 0 = some (cB L) := (old 0 (by omega)).trans z2
  simp (disch := (first | omega | (simp only [an_next, set_next, St.seen_next, jn_next, z0_next]; try omega; done))) only [op2_s, op_s, bin_e, pick_e, not_e, ext_e, nth_z, nth_1, nth_2, nth_3, gval_e, gval_u, cmp_e, orUndef_t, orUndef_f, condV_t, condV_f, cond_true, cond_false, eqI_eq, neI_eq, ltI_eq, leI_eq, gtI_eq, geI_eq, Bool.not_true, Bool.not_false, bf_tt, bf_tf, bf_ft, bf_ff, decide_true, decide_false, oneOf_1, oneOf_2, oneOf_3, thenV_n, thenV_e, thenV_r, exV_e, exV_r, Nat.beq_refl, eq_self, new_a, boxA, an_ati, an_atp, an_ats, an_atb, an_ne, set_ati, set_atp, set_ats, set_atb, set_ne, seen_getC, loadn_o, store_2, store_i, store_b, store_s, store_p, load_u, cut_22, put_22, cut_53, cut_55, put_55, put_50, put_51, put_52, put_53, store_5, nth_z, nth_1, nth_2, nth_3, nth_4, nil_u, fa_0, an_next, set_next, St.seen_next, jn_next, z0_next, jn_getC, z0_getC, rU_z, rU_seen, rU_set, rU_an, rU_sl, haw, lenL_e, e100, bs_0, ← hA0, ap1, cD, ← hA3, ap2, bs2, ← hA5, c1, c2, c3, c4, c5, cW, ← hC1]
  simp only [Q6_q3, Q6_q2, Q6_q1, Q6_q0, z0_e]
  have fin : ∀ (k : Nat) (t : St), Grew k C1 t → ∃ s', some (Value.bool true, t) = some (Value.bool true, s') ∧ s'.getC 0 = some (cB L) := fun k t ht => ⟨t, rfl, (ht.2.2 0 (by omega)).trans zC⟩
  obtain ⟨d, hd⟩ : ∃ z, z = zz (n1 L).1 := ⟨_, rfl⟩
  obtain ⟨p, hp⟩ : ∃ z, z = zz (n2 L).1 := ⟨_, rfl⟩
  obtain ⟨q, hq⟩ : ∃ z, z = zz (n3 L).1 := ⟨_, rfl⟩
  obtain ⟨h, hh⟩ : ∃ z, z = zz (n4 L).1 := ⟨_, rfl⟩
  obtain ⟨l, hl⟩ : ∃ z, z = (n5 L).1 := ⟨_, rfl⟩
  obtain ⟨st, hst⟩ : ∃ z, z = (n5 L).2 := ⟨_, rfl⟩
  have hok : okD L ↔ st = some L.length ∧ 0 ≤ d ∧ d ≤ 109572 ∧ 0 ≤ p ∧ p ≤ 4503599627370496 ∧ 0 ≤ q ∧ q ≤ 4503599627370496 ∧ 0 ≤ h ∧ (h < 68719476736 ∨ h = 68719476736 ∧ l = 0) := by
    rw [hd, hp, hq, hh, hl, hst]; exact Iff.rfl
  rw [← hh, ← hl] at hS
  rw [← hl] at lbd
  rw [← hh] at hbd
  rw [← hst] at RC
  rw [← hd, ← hp, ← hq]
  have bS : Bd S := bdI (by omega) (by omega)
  have b0 : Bd 0 := bdI (by omega) (by omega)
  have bH : Bd 1267650600228229401496703205376 := bdI (by omega) (by omega)
  have xS : BigAt C1 (aggOf [.bool (big S).1, w]) S := bW.grew gC
  cases st with
  | none =>
    have hno : ¬okD L := fun k => by cases (hok.mp k).1
    obtain ⟨rfl, rfl⟩ := okN hno
    have RC : Spo C1 A4.next := RC
    have gr := RC.1
    simp (maxSteps := 4000000) (disch := (first | omega | (simp only [an_next, set_next, St.seen_next, jn_next, z0_next]; try omega; done))) only [op2_s, op_s, bin_e, pick_e, not_e, ext_e, nth_z, nth_1, nth_2, nth_3, gval_e, gval_u, cmp_e, orUndef_t, orUndef_f, condV_t, condV_f, cond_true, cond_false, eqI_eq, neI_eq, ltI_eq, leI_eq, gtI_eq, geI_eq, Bool.not_true, Bool.not_false, bf_tt, bf_tf, bf_ft, bf_ff, decide_true, decide_false, oneOf_1, oneOf_2, oneOf_3, thenV_n, thenV_e, thenV_r, exV_e, exV_r, Nat.beq_refl, eq_self, new_a, boxA, an_ati, an_atp, an_ats, an_atb, an_ne, set_ati, set_atp, set_ats, set_atb, set_ne, seen_getC, loadn_o, store_2, store_i, store_b, store_s, store_p, load_u, cut_22, put_22, cut_53, cut_55, put_55, put_50, put_51, put_52, put_53, store_5, nth_z, nth_1, nth_2, nth_3, nth_4, nil_u, fa_0, an_next, set_next, St.seen_next, jn_next, z0_next, jn_getC, z0_getC, rU_z, rU_seen, rU_set, rU_an, rU_sl, mov_v, orM_t, orM_f, lenL_e, snM_n, snM_c, gr]
    rw [apartJs (n0 := C1.next) (fun _ => C1.next) [(3, 0), (3, 0), (3, 0), (3, 0), (3, 0), (3, 0), (3, 0), (3, 0), (3, 0), (3, 0), (3, 0), (3, 0), (3, 0), (3, 0), (3, 0), (3, 0), (3, 0), (3, 0), (3, 0), (3, 0), (3, 0), (3, 0), (3, 0), (3, 0), (3, 0), (3, 0), (3, 0), (3, 0), (3, 0), (3, 0), (3, 0), (3, 0), (3, 0), (3, 0), (3, 0), (3, 0), (3, 0), (3, 0), (0, 0), (0, 0), (3, 0), (3, 0), (3, 0), (3, 0), (0, 0), (0, 0), (3, 0), (3, 0), (3, 0), (3, 0)] (fun i j _ _ => Nat.le_refl _) (fun i _ => Nat.le_refl _) ?hk _ (by kernel_rfl), cond_true]
    · rw [j6_no]
      refine fin 0 _ ?_
      repeat (first | exact Grew.refl _ | refine Grew.seen ?_ _)
    case hk => exact ⟨trivial, trivial, trivial, trivial, trivial, trivial, trivial, trivial, trivial, trivial, trivial, trivial, trivial, trivial, trivial, trivial, trivial, trivial, trivial, trivial, trivial, trivial, trivial, trivial, trivial, trivial, trivial, trivial, trivial, trivial, trivial, trivial, trivial, trivial, trivial, trivial, trivial, trivial, jP (by decide), jP (by decide), trivial, trivial, trivial, trivial, jP (by decide), jP (by decide), trivial, trivial, trivial, trivial, trivial⟩
  | some o =>
    have RC : Rdr C1 A4.next A3.next L o := RC
    have gr := RC.cell
    have ho := RC.le
    by_cases y0 : o = L.length
    rotate_left
    · have hno : ¬okD L := fun k => y0 (Option.some.inj (hok.mp k).1)
      obtain ⟨rfl, rfl⟩ := okN hno
      have e0 : decide (((L.length - o : Nat) : Int) = 0) = false := decide_eq_false (by omega)
      simp (maxSteps := 4000000) (disch := (first | omega | (simp only [an_next, set_next, St.seen_next, jn_next, z0_next]; try omega; done))) only [op2_s, op_s, bin_e, pick_e, not_e, ext_e, nth_z, nth_1, nth_2, nth_3, gval_e, gval_u, cmp_e, orUndef_t, orUndef_f, condV_t, condV_f, cond_true, cond_false, eqI_eq, neI_eq, ltI_eq, leI_eq, gtI_eq, geI_eq, Bool.not_true, Bool.not_false, bf_tt, bf_tf, bf_ft, bf_ff, decide_true, decide_false, oneOf_1, oneOf_2, oneOf_3, thenV_n, thenV_e, thenV_r, exV_e, exV_r, Nat.beq_refl, eq_self, new_a, boxA, an_ati, an_atp, an_ats, an_atb, an_ne, set_ati, set_atp, set_ats, set_atb, set_ne, seen_getC, loadn_o, store_2, store_i, store_b, store_s, store_p, load_u, cut_22, put_22, cut_53, cut_55, put_55, put_50, put_51, put_52, put_53, store_5, nth_z, nth_1, nth_2, nth_3, nth_4, nil_u, fa_0, an_next, set_next, St.seen_next, jn_next, z0_next, jn_getC, z0_getC, rU_z, rU_seen, rU_set, rU_an, rU_sl, mov_v, orM_t, orM_f, lenL_e, snM_n, snM_c, gr, e0]
      rw [apartJs (n0 := C1.next) (fun _ => C1.next) [(3, 0), (3, 0), (3, 0), (3, 0), (3, 0), (3, 0), (3, 0), (3, 0), (3, 0), (3, 0), (3, 0), (3, 0), (3, 0), (3, 0), (3, 0), (3, 0), (3, 0), (3, 0), (3, 0), (3, 0), (3, 0), (3, 0), (3, 0), (3, 0), (3, 0), (3, 0), (3, 0), (3, 0), (3, 0), (3, 0), (3, 0), (3, 0), (3, 0), (3, 0), (3, 0), (3, 0), (3, 0), (3, 0), (0, 0), (0, 0), (3, 0), (3, 0), (3, 0), (3, 0), (0, 0), (0, 0), (3, 0), (3, 0), (3, 0), (3, 0)] (fun i j _ _ => Nat.le_refl _) (fun i _ => Nat.le_refl _) ?hk _ (by kernel_rfl), cond_true]
      · rw [j6_no]
        refine fin 0 _ ?_
        repeat (first | exact Grew.refl _ | refine Grew.seen ?_ _)
      case hk => exact ⟨trivial, trivial, trivial, trivial, trivial, trivial, trivial, trivial, trivial, trivial, trivial, trivial, trivial, trivial, trivial, trivial, trivial, trivial, trivial, trivial, trivial, trivial, trivial, trivial, trivial, trivial, trivial, trivial, trivial, trivial, trivial, trivial, trivial, trivial, trivial, trivial, trivial, trivial, jP (by decide), jP (by decide), trivial, trivial, trivial, trivial, jP (by decide), jP (by decide), trivial, trivial, trivial, trivial, trivial⟩
    have e0 : decide (((L.length - o : Nat) : Int) = 0) = true := decide_eq_true (by omega)
    by_cases y1 : 0 ≤ d
    rotate_left
    · have hno : ¬okD L := fun k => y1 ((hok.mp k).2.1)
      obtain ⟨rfl, rfl⟩ := okN hno
      have e1 : decide (0 ≤ d) = false := decide_eq_false (by omega)
      simp (maxSteps := 4000000) (disch := (first | omega | (simp only [an_next, set_next, St.seen_next, jn_next, z0_next]; try omega; done))) only [op2_s, op_s, bin_e, pick_e, not_e, ext_e, nth_z, nth_1, nth_2, nth_3, gval_e, gval_u, cmp_e, orUndef_t, orUndef_f, condV_t, condV_f, cond_true, cond_false, eqI_eq, neI_eq, ltI_eq, leI_eq, gtI_eq, geI_eq, Bool.not_true, Bool.not_false, bf_tt, bf_tf, bf_ft, bf_ff, decide_true, decide_false, oneOf_1, oneOf_2, oneOf_3, thenV_n, thenV_e, thenV_r, exV_e, exV_r, Nat.beq_refl, eq_self, new_a, boxA, an_ati, an_atp, an_ats, an_atb, an_ne, set_ati, set_atp, set_ats, set_atb, set_ne, seen_getC, loadn_o, store_2, store_i, store_b, store_s, store_p, load_u, cut_22, put_22, cut_53, cut_55, put_55, put_50, put_51, put_52, put_53, store_5, nth_z, nth_1, nth_2, nth_3, nth_4, nil_u, fa_0, an_next, set_next, St.seen_next, jn_next, z0_next, jn_getC, z0_getC, rU_z, rU_seen, rU_set, rU_an, rU_sl, mov_v, orM_t, orM_f, lenL_e, snM_n, snM_c, gr, e0, e1]
      rw [apartJs (n0 := C1.next) (fun _ => C1.next) [(3, 0), (3, 0), (3, 0), (3, 0), (3, 0), (3, 0), (3, 0), (3, 0), (3, 0), (3, 0), (3, 0), (3, 0), (3, 0), (3, 0), (3, 0), (3, 0), (3, 0), (3, 0), (3, 0), (3, 0), (3, 0), (3, 0), (3, 0), (3, 0), (3, 0), (3, 0), (3, 0), (3, 0), (3, 0), (3, 0), (3, 0), (3, 0), (3, 0), (3, 0), (3, 0), (3, 0), (3, 0), (3, 0), (0, 0), (0, 0), (3, 0), (3, 0), (3, 0), (3, 0), (0, 0), (0, 0), (3, 0), (3, 0), (3, 0), (3, 0)] (fun i j _ _ => Nat.le_refl _) (fun i _ => Nat.le_refl _) ?hk _ (by kernel_rfl), cond_true]
      · rw [j6_no]
        refine fin 0 _ ?_
        repeat (first | exact Grew.refl _ | refine Grew.seen ?_ _)
      case hk => exact ⟨trivial, trivial, trivial, trivial, trivial, trivial, trivial, trivial, trivial, trivial, trivial, trivial, trivial, trivial, trivial, trivial, trivial, trivial, trivial, trivial, trivial, trivial, trivial, trivial, trivial, trivial, trivial, trivial, trivial, trivial, trivial, trivial, trivial, trivial, trivial, trivial, trivial, trivial, jP (by decide), jP (by decide), trivial, trivial, trivial, trivial, jP (by decide), jP (by decide), trivial, trivial, trivial, trivial, trivial⟩
    have e1 : decide (0 ≤ d) = true := decide_eq_true (by omega)
    by_cases y2 : d ≤ 109572
    rotate_left
    · have hno : ¬okD L := fun k => y2 ((hok.mp k).2.2.1)
      obtain ⟨rfl, rfl⟩ := okN hno
      have e2 : decide (d ≤ 109572) = false := decide_eq_false (by omega)
      simp (maxSteps := 4000000) (disch := (first | omega | (simp only [an_next, set_next, St.seen_next, jn_next, z0_next]; try omega; done))) only [op2_s, op_s, bin_e, pick_e, not_e, ext_e, nth_z, nth_1, nth_2, nth_3, gval_e, gval_u, cmp_e, orUndef_t, orUndef_f, condV_t, condV_f, cond_true, cond_false, eqI_eq, neI_eq, ltI_eq, leI_eq, gtI_eq, geI_eq, Bool.not_true, Bool.not_false, bf_tt, bf_tf, bf_ft, bf_ff, decide_true, decide_false, oneOf_1, oneOf_2, oneOf_3, thenV_n, thenV_e, thenV_r, exV_e, exV_r, Nat.beq_refl, eq_self, new_a, boxA, an_ati, an_atp, an_ats, an_atb, an_ne, set_ati, set_atp, set_ats, set_atb, set_ne, seen_getC, loadn_o, store_2, store_i, store_b, store_s, store_p, load_u, cut_22, put_22, cut_53, cut_55, put_55, put_50, put_51, put_52, put_53, store_5, nth_z, nth_1, nth_2, nth_3, nth_4, nil_u, fa_0, an_next, set_next, St.seen_next, jn_next, z0_next, jn_getC, z0_getC, rU_z, rU_seen, rU_set, rU_an, rU_sl, mov_v, orM_t, orM_f, lenL_e, snM_n, snM_c, gr, e0, e1, e2]
      rw [apartJs (n0 := C1.next) (fun _ => C1.next) [(3, 0), (3, 0), (3, 0), (3, 0), (3, 0), (3, 0), (3, 0), (3, 0), (3, 0), (3, 0), (3, 0), (3, 0), (3, 0), (3, 0), (3, 0), (3, 0), (3, 0), (3, 0), (3, 0), (3, 0), (3, 0), (3, 0), (3, 0), (3, 0), (3, 0), (3, 0), (3, 0), (3, 0), (3, 0), (3, 0), (3, 0), (3, 0), (3, 0), (3, 0), (3, 0), (3, 0), (3, 0), (3, 0), (0, 0), (0, 0), (3, 0), (3, 0), (3, 0), (3, 0), (0, 0), (0, 0), (3, 0), (3, 0), (3, 0), (3, 0)] (fun i j _ _ => Nat.le_refl _) (fun i _ => Nat.le_refl _) ?hk _ (by kernel_rfl), cond_true]
      · rw [j6_no]
        refine fin 0 _ ?_
        repeat (first | exact Grew.refl _ | refine Grew.seen ?_ _)
      case hk => exact ⟨trivial, trivial, trivial, trivial, trivial, trivial, trivial, trivial, trivial, trivial, trivial, trivial, trivial, trivial, trivial, trivial, trivial, trivial, trivial, trivial, trivial, trivial, trivial, trivial, trivial, trivial, trivial, trivial, trivial, trivial, trivial, trivial, trivial, trivial, trivial, trivial, trivial, trivial, jP (by decide), jP (by decide), trivial, trivial, trivial, trivial, jP (by decide), jP (by decide), trivial, trivial, trivial, trivial, trivial⟩
    have e2 : decide (d ≤ 109572) = true := decide_eq_true (by omega)
    by_cases y3 : 0 ≤ p
    rotate_left
    · have hno : ¬okD L := fun k => y3 ((hok.mp k).2.2.2.1)
      obtain ⟨rfl, rfl⟩ := okN hno
      have e3 : decide (0 ≤ p) = false := decide_eq_false (by omega)
      simp (maxSteps := 4000000) (disch := (first | omega | (simp only [an_next, set_next, St.seen_next, jn_next, z0_next]; try omega; done))) only [op2_s, op_s, bin_e, pick_e, not_e, ext_e, nth_z, nth_1, nth_2, nth_3, gval_e, gval_u, cmp_e, orUndef_t, orUndef_f, condV_t, condV_f, cond_true, cond_false, eqI_eq, neI_eq, ltI_eq, leI_eq, gtI_eq, geI_eq, Bool.not_true, Bool.not_false, bf_tt, bf_tf, bf_ft, bf_ff, decide_true, decide_false, oneOf_1, oneOf_2, oneOf_3, thenV_n, thenV_e, thenV_r, exV_e, exV_r, Nat.beq_refl, eq_self, new_a, boxA, an_ati, an_atp, an_ats, an_atb, an_ne, set_ati, set_atp, set_ats, set_atb, set_ne, seen_getC, loadn_o, store_2, store_i, store_b, store_s, store_p, load_u, cut_22, put_22, cut_53, cut_55, put_55, put_50, put_51, put_52, put_53, store_5, nth_z, nth_1, nth_2, nth_3, nth_4, nil_u, fa_0, an_next, set_next, St.seen_next, jn_next, z0_next, jn_getC, z0_getC, rU_z, rU_seen, rU_set, rU_an, rU_sl, mov_v, orM_t, orM_f, lenL_e, snM_n, snM_c, gr, e0, e1, e2, e3]
      rw [apartJs (n0 := C1.next) (fun _ => C1.next) [(3, 0), (3, 0), (3, 0), (3, 0), (3, 0), (3, 0), (3, 0), (3, 0), (3, 0), (3, 0), (3, 0), (3, 0), (3, 0), (3, 0), (3, 0), (3, 0), (3, 0), (3, 0), (3, 0), (3, 0), (3, 0), (3, 0), (3, 0), (3, 0), (3, 0), (3, 0), (3, 0), (3, 0), (3, 0), (3, 0), (3, 0), (3, 0), (3, 0), (3, 0), (3, 0), (3, 0), (3, 0), (3, 0), (0, 0), (0, 0), (3, 0), (3, 0), (3, 0), (3, 0), (0, 0), (0, 0), (3, 0), (3, 0), (3, 0), (3, 0)] (fun i j _ _ => Nat.le_refl _) (fun i _ => Nat.le_refl _) ?hk _ (by kernel_rfl), cond_true]
      · rw [j6_no]
        refine fin 0 _ ?_
        repeat (first | exact Grew.refl _ | refine Grew.seen ?_ _)
      case hk => exact ⟨trivial, trivial, trivial, trivial, trivial, trivial, trivial, trivial, trivial, trivial, trivial, trivial, trivial, trivial, trivial, trivial, trivial, trivial, trivial, trivial, trivial, trivial, trivial, trivial, trivial, trivial, trivial, trivial, trivial, trivial, trivial, trivial, trivial, trivial, trivial, trivial, trivial, trivial, jP (by decide), jP (by decide), trivial, trivial, trivial, trivial, jP (by decide), jP (by decide), trivial, trivial, trivial, trivial, trivial⟩
    have e3 : decide (0 ≤ p) = true := decide_eq_true (by omega)
    by_cases y4 : p ≤ 4503599627370496
    rotate_left
    · have hno : ¬okD L := fun k => y4 ((hok.mp k).2.2.2.2.1)
      obtain ⟨rfl, rfl⟩ := okN hno
      have e4 : decide (p ≤ 4503599627370496) = false := decide_eq_false (by omega)
      simp (maxSteps := 4000000) (disch := (first | omega | (simp only [an_next, set_next, St.seen_next, jn_next, z0_next]; try omega; done))) only [op2_s, op_s, bin_e, pick_e, not_e, ext_e, nth_z, nth_1, nth_2, nth_3, gval_e, gval_u, cmp_e, orUndef_t, orUndef_f, condV_t, condV_f, cond_true, cond_false, eqI_eq, neI_eq, ltI_eq, leI_eq, gtI_eq, geI_eq, Bool.not_true, Bool.not_false, bf_tt, bf_tf, bf_ft, bf_ff, decide_true, decide_false, oneOf_1, oneOf_2, oneOf_3, thenV_n, thenV_e, thenV_r, exV_e, exV_r, Nat.beq_refl, eq_self, new_a, boxA, an_ati, an_atp, an_ats, an_atb, an_ne, set_ati, set_atp, set_ats, set_atb, set_ne, seen_getC, loadn_o, store_2, store_i, store_b, store_s, store_p, load_u, cut_22, put_22, cut_53, cut_55, put_55, put_50, put_51, put_52, put_53, store_5, nth_z, nth_1, nth_2, nth_3, nth_4, nil_u, fa_0, an_next, set_next, St.seen_next, jn_next, z0_next, jn_getC, z0_getC, rU_z, rU_seen, rU_set, rU_an, rU_sl, mov_v, orM_t, orM_f, lenL_e, snM_n, snM_c, gr, e0, e1, e2, e3, e4]
      rw [apartJs (n0 := C1.next) (fun _ => C1.next) [(3, 0), (3, 0), (3, 0), (3, 0), (3, 0), (3, 0), (3, 0), (3, 0), (3, 0), (3, 0), (3, 0), (3, 0), (3, 0), (3, 0), (3, 0), (3, 0), (3, 0), (3, 0), (3, 0), (3, 0), (3, 0), (3, 0), (3, 0), (3, 0), (3, 0), (3, 0), (3, 0), (3, 0), (3, 0), (3, 0), (3, 0), (3, 0), (3, 0), (3, 0), (3, 0), (3, 0), (3, 0), (3, 0), (0, 0), (0, 0), (3, 0), (3, 0), (3, 0), (3, 0), (0, 0), (0, 0), (3, 0), (3, 0), (3, 0), (3, 0)] (fun i j _ _ => Nat.le_refl _) (fun i _ => Nat.le_refl _) ?hk _ (by kernel_rfl), cond_true]
      · rw [j6_no]
        refine fin 0 _ ?_
        repeat (first | exact Grew.refl _ | refine Grew.seen ?_ _)
      case hk => exact ⟨trivial, trivial, trivial, trivial, trivial, trivial, trivial, trivial, trivial, trivial, trivial, trivial, trivial, trivial, trivial, trivial, trivial, trivial, trivial, trivial, trivial, trivial, trivial, trivial, trivial, trivial, trivial, trivial, trivial, trivial, trivial, trivial, trivial, trivial, trivial, trivial, trivial, trivial, jP (by decide), jP (by decide), trivial, trivial, trivial, trivial, jP (by decide), jP (by decide), trivial, trivial, trivial, trivial, trivial⟩
    have e4 : decide (p ≤ 4503599627370496) = true := decide_eq_true (by omega)
    by_cases y5 : 0 ≤ q
    rotate_left
    · have hno : ¬okD L := fun k => y5 ((hok.mp k).2.2.2.2.2.1)
      obtain ⟨rfl, rfl⟩ := okN hno
      have e5 : decide (0 ≤ q) = false := decide_eq_false (by omega)
      simp (maxSteps := 4000000) (disch := (first | omega | (simp only [an_next, set_next, St.seen_next, jn_next, z0_next]; try omega; done))) only [op2_s, op_s, bin_e, pick_e, not_e, ext_e, nth_z, nth_1, nth_2, nth_3, gval_e, gval_u, cmp_e, orUndef_t, orUndef_f, condV_t, condV_f, cond_true, cond_false, eqI_eq, neI_eq, ltI_eq, leI_eq, gtI_eq, geI_eq, Bool.not_true, Bool.not_false, bf_tt, bf_tf, bf_ft, bf_ff, decide_true, decide_false, oneOf_1, oneOf_2, oneOf_3, thenV_n, thenV_e, thenV_r, exV_e, exV_r, Nat.beq_refl, eq_self, new_a, boxA, an_ati, an_atp, an_ats, an_atb, an_ne, set_ati, set_atp, set_ats, set_atb, set_ne, seen_getC, loadn_o, store_2, store_i, store_b, store_s, store_p, load_u, cut_22, put_22, cut_53, cut_55, put_55, put_50, put_51, put_52, put_53, store_5, nth_z, nth_1, nth_2, nth_3, nth_4, nil_u, fa_0, an_next, set_next, St.seen_next, jn_next, z0_next, jn_getC, z0_getC, rU_z, rU_seen, rU_set, rU_an, rU_sl, mov_v, orM_t, orM_f, lenL_e, snM_n, snM_c, gr, e0, e1, e2, e3, e4, e5]
      rw [apartJs (n0 := C1.next) (fun _ => C1.next) [(3, 0), (3, 0), (3, 0), (3, 0), (3, 0), (3, 0), (3, 0), (3, 0), (3, 0), (3, 0), (3, 0), (3, 0), (3, 0), (3, 0), (3, 0), (3, 0), (3, 0), (3, 0), (3, 0), (3, 0), (3, 0), (3, 0), (3, 0), (3, 0), (3, 0), (3, 0), (3, 0), (3, 0), (3, 0), (3, 0), (3, 0), (3, 0), (3, 0), (3, 0), (3, 0), (3, 0), (3, 0), (3, 0), (0, 0), (0, 0), (3, 0), (3, 0), (3, 0), (3, 0), (0, 0), (0, 0), (3, 0), (3, 0), (3, 0), (3, 0)] (fun i j _ _ => Nat.le_refl _) (fun i _ => Nat.le_refl _) ?hk _ (by kernel_rfl), cond_true]
      · rw [j6_no]
        refine fin 0 _ ?_
        repeat (first | exact Grew.refl _ | refine Grew.seen ?_ _)
      case hk => exact ⟨trivial, trivial, trivial, trivial, trivial, trivial, trivial, trivial, trivial, trivial, trivial, trivial, trivial, trivial, trivial, trivial, trivial, trivial, trivial, trivial, trivial, trivial, trivial, trivial, trivial, trivial, trivial, trivial, trivial, trivial, trivial, trivial, trivial, trivial, trivial, trivial, trivial, trivial, jP (by decide), jP (by decide), trivial, trivial, trivial, trivial, jP (by decide), jP (by decide), trivial, trivial, trivial, trivial, trivial⟩
    have e5 : decide (0 ≤ q) = true := decide_eq_true (by omega)
    by_cases y6 : q ≤ 4503599627370496
    rotate_left
    · have hno : ¬okD L := fun k => y6 ((hok.mp k).2.2.2.2.2.2.1)
      obtain ⟨rfl, rfl⟩ := okN hno
      have e6 : decide (q ≤ 4503599627370496) = false := decide_eq_false (by omega)
      simp (maxSteps := 4000000) (disch := (first | omega | (simp only [an_next, set_next, St.seen_next, jn_next, z0_next]; try omega; done))) only [op2_s, op_s, bin_e, pick_e, not_e, ext_e, nth_z, nth_1, nth_2, nth_3, gval_e, gval_u, cmp_e, orUndef_t, orUndef_f, condV_t, condV_f, cond_true, cond_false, eqI_eq, neI_eq, ltI_eq, leI_eq, gtI_eq, geI_eq, Bool.not_true, Bool.not_false, bf_tt, bf_tf, bf_ft, bf_ff, decide_true, decide_false, oneOf_1, oneOf_2, oneOf_3, thenV_n, thenV_e, thenV_r, exV_e, exV_r, Nat.beq_refl, eq_self, new_a, boxA, an_ati, an_atp, an_ats, an_atb, an_ne, set_ati, set_atp, set_ats, set_atb, set_ne, seen_getC, loadn_o, store_2, store_i, store_b, store_s, store_p, load_u, cut_22, put_22, cut_53, cut_55, put_55, put_50, put_51, put_52, put_53, store_5, nth_z, nth_1, nth_2, nth_3, nth_4, nil_u, fa_0, an_next, set_next, St.seen_next, jn_next, z0_next, jn_getC, z0_getC, rU_z, rU_seen, rU_set, rU_an, rU_sl, mov_v, orM_t, orM_f, lenL_e, snM_n, snM_c, gr, e0, e1, e2, e3, e4, e5, e6]
      rw [apartJs (n0 := C1.next) (fun _ => C1.next) [(3, 0), (3, 0), (3, 0), (3, 0), (3, 0), (3, 0), (3, 0), (3, 0), (3, 0), (3, 0), (3, 0), (3, 0), (3, 0), (3, 0), (3, 0), (3, 0), (3, 0), (3, 0), (3, 0), (3, 0), (3, 0), (3, 0), (3, 0), (3, 0), (3, 0), (3, 0), (3, 0), (3, 0), (3, 0), (3, 0), (3, 0), (3, 0), (3, 0), (3, 0), (3, 0), (3, 0), (3, 0), (3, 0), (0, 0), (0, 0), (3, 0), (3, 0), (3, 0), (3, 0), (0, 0), (0, 0), (3, 0), (3, 0), (3, 0), (3, 0)] (fun i j _ _ => Nat.le_refl _) (fun i _ => Nat.le_refl _) ?hk _ (by kernel_rfl), cond_true]
      · rw [j6_no]
        refine fin 0 _ ?_
        repeat (first | exact Grew.refl _ | refine Grew.seen ?_ _)
      case hk => exact ⟨trivial, trivial, trivial, trivial, trivial, trivial, trivial, trivial, trivial, trivial, trivial, trivial, trivial, trivial, trivial, trivial, trivial, trivial, trivial, trivial, trivial, trivial, trivial, trivial, trivial, trivial, trivial, trivial, trivial, trivial, trivial, trivial, trivial, trivial, trivial, trivial, trivial, trivial, jP (by decide), jP (by decide), trivial, trivial, trivial, trivial, jP (by decide), jP (by decide), trivial, trivial, trivial, trivial, trivial⟩
    have e6 : decide (q ≤ 4503599627370496) = true := decide_eq_true (by omega)
    obtain ⟨D1, hD1⟩ : ∃ z, z = ((C1.seen A4.next).seen A4.next).seen C0.next := ⟨_, rfl⟩
    have G1 : Grew 0 C1 D1 := by rw [hD1]; exact (((Grew.refl C1).seen _).seen _).seen _
    have m1 : D1.next = C1.next := by rw [hD1]; simp only [St.seen_next]
    obtain ⟨v0, t1, p1, p2, p3, p4⟩ := r37 M (by omega) (z0 D1) 0 (by omega) (by omega) (by rw [z0_next]; omega) (by rw [z0_next]; omega)
    have i1 := p3.1; have i1' := p3.2.1
    rw [z0_next] at i1 i1'
    obtain ⟨D2, hD2⟩ : ∃ z, z = jn D1 t1 := ⟨_, rfl⟩
    have G2 : Grew 13 C1 D2 := by rw [hD2]; exact (jzG G1 p3).mono (by omega)
    have m2 : D2.next = t1.next := by rw [hD2, jn_next]
    have xv : BigAt D2 v0 0 := by rw [hD2]; exact p2.j
    obtain ⟨t2, q1, q3, q4⟩ := r25 M (by omega) (z0 D2) _ v0 S 0 (xS.grew G2).z xv.z bS b0 (by rw [z0_next]; omega) (by rw [z0_next]; omega)
    have i2 := q3.1; have i2' := q3.2.1
    rw [z0_next] at i2 i2'
    obtain ⟨D3, hD3⟩ : ∃ z, z = jn D2 t2 := ⟨_, rfl⟩
    have G3 : Grew 123 C1 D3 := by rw [hD3]; exact jzG G2 q3
    have m3 : D3.next = t2.next := by rw [hD3, jn_next]
    have cC3 : D3.getC C0.next = some [.bool (big S).1, w] := (G3.2.2 _ (by omega)).trans cC
    have u1 := rU_c v0 PT.nil D1 t1
    rw [← hD2] at u1
    have u2 := rU_c (.int .i64 (sgn (S - 0))) PT.nil D2 t2
    rw [← hD3] at u2
    by_cases y7 : 0 ≤ h
    rotate_left
    · have hno : ¬okD L := fun k => y7 (hok.mp k).2.2.2.2.2.2.2.1
      obtain ⟨rfl, rfl⟩ := okN hno
      have e7 : decide (0 ≤ sgn (S - 0)) = false := decide_eq_false (fun k => by have := (sgn_ge _).mp k; omega)
      simp (maxSteps := 4000000) (disch := (first | omega | (simp only [an_next, set_next, St.seen_next, jn_next, z0_next]; try omega; done))) only [op2_s, op_s, bin_e, pick_e, not_e, ext_e, nth_z, nth_1, nth_2, nth_3, gval_e, gval_u, cmp_e, orUndef_t, orUndef_f, condV_t, condV_f, cond_true, cond_false, eqI_eq, neI_eq, ltI_eq, leI_eq, gtI_eq, geI_eq, Bool.not_true, Bool.not_false, bf_tt, bf_tf, bf_ft, bf_ff, decide_true, decide_false, oneOf_1, oneOf_2, oneOf_3, thenV_n, thenV_e, thenV_r, exV_e, exV_r, Nat.beq_refl, eq_self, new_a, boxA, an_ati, an_atp, an_ats, an_atb, an_ne, set_ati, set_atp, set_ats, set_atb, set_ne, seen_getC, loadn_o, store_2, store_i, store_b, store_s, store_p, load_u, cut_22, put_22, cut_53, cut_55, put_55, put_50, put_51, put_52, put_53, store_5, nth_z, nth_1, nth_2, nth_3, nth_4, nil_u, fa_0, an_next, set_next, St.seen_next, jn_next, z0_next, jn_getC, z0_getC, rU_z, rU_seen, rU_set, rU_an, rU_sl, mov_v, orM_t, orM_f, lenL_e, snM_n, snM_c, gr, e0, e1, e2, e3, e4, e5, e6, cC, ← hD1, p1, u1, q1, u2, e7]
      rw [apartJs (n0 := C1.next) (fun k => if k ≤ 1 then C1.next else t1.next) [(3, 0), (3, 0), (3, 0), (3, 0), (3, 0), (3, 0), (3, 0), (3, 0), (3, 0), (3, 0), (3, 0), (3, 0), (3, 0), (3, 0), (3, 0), (3, 0), (3, 0), (3, 0), (3, 0), (3, 0), (3, 0), (3, 0), (3, 0), (3, 0), (3, 0), (3, 0), (3, 0), (3, 0), (3, 0), (3, 0), (3, 0), (3, 0), (3, 0), (3, 0), (3, 0), (3, 0), (3, 0), (3, 0), (0, 0), (2, 0), (3, 0), (3, 0), (3, 0), (3, 0), (0, 0), (0, 0), (3, 0), (3, 0), (3, 0), (3, 0)] ?hc ?h0 ?hk _ (by kernel_rfl), cond_true]
      · rw [j6_no]
        exact fin 123 _ G3
      case hc =>
        intro i j h1 h2
        try dsimp only
        repeat' split
        all_goals omega
      case h0 =>
        intro i h1
        try dsimp only
        repeat' split
        all_goals omega
      case hk =>
        refine ⟨trivial, trivial, trivial, trivial, trivial, trivial, trivial, trivial, trivial, trivial, trivial, trivial, trivial, trivial, trivial, trivial, trivial, trivial, trivial, trivial, trivial, trivial, trivial, trivial, trivial, trivial, trivial, trivial, trivial, trivial, trivial, trivial, trivial, trivial, trivial, trivial, trivial, trivial, jR (by omega), jC p4 ?_ ?_, trivial, trivial, trivial, trivial, jP (by decide), jP (by decide), trivial, trivial, trivial, trivial, trivial⟩
        all_goals try dsimp only
        all_goals repeat' split
        all_goals first | omega | exact absurd trivial (by assumption)
    have e7 : decide (0 ≤ sgn (S - 0)) = true := decide_eq_true ((sgn_ge _).mpr (by omega))
    obtain ⟨D4, hD4⟩ : ∃ z, z = D3.seen C0.next := ⟨_, rfl⟩
    have G4 : Grew 123 C1 D4 := by rw [hD4]; exact G3.seen _
    have m4 : D4.next = t2.next := by rw [hD4, St.seen_next, m3]
    obtain ⟨v1, t3, w1, w2, w3, w4⟩ := r26 M (by omega) (z0 D4) (by rw [z0_next]; omega) (by rw [z0_next]; omega)
    have i3 := w3.1; have i3' := w3.2.1
    rw [z0_next] at i3 i3'
    obtain ⟨D5, hD5⟩ : ∃ z, z = jn D4 t3 := ⟨_, rfl⟩
    have G5' : Grew 163 C1 D5 := by rw [hD5]; exact jzG G4 w3
    have m5 : D5.next = t3.next := by rw [hD5, jn_next]
    have xv1 : BigAt D5 v1 1267650600228229401496703205376 := by rw [hD5]; exact w2.j
    obtain ⟨t4', f1, f3, f4⟩ := r25 M (by omega) (z0 D5) _ v1 S _ (xS.grew G5').z xv1.z bS bH (by rw [z0_next]; omega) (by rw [z0_next]; omega)
    have i4 := f3.1; have i4' := f3.2.1
    rw [z0_next] at i4 i4'
    obtain ⟨D6, hD6⟩ : ∃ z, z = jn D5 t4' := ⟨_, rfl⟩
    have G6 : Grew 273 C1 D6 := by rw [hD6]; exact jzG G5' f3
    have m6 : D6.next = t4'.next := by rw [hD6, jn_next]
    have u3 := rU_c v1 PT.nil D4 t3
    rw [← hD5] at u3
    have u4 := rU_c (.int .i64 (sgn (S - 1267650600228229401496703205376))) PT.nil D5 t4'
    rw [← hD6] at u4
    by_cases y8 : h < 68719476736 ∨ h = 68719476736 ∧ l = 0
    · have hk : okD L := hok.mpr ⟨by rw [y0], y1, y2, y3, y4, y5, y6, y7, y8⟩
      obtain ⟨rfl, cb, rfl, gcb, lcb⟩ := okY hk
      have e8 : decide (sgn (S - 1267650600228229401496703205376) ≤ 0) = true := decide_eq_true ((sgn_le _).mpr (by omega))
      obtain ⟨dN, pN, qN, AN, hE, j1, j2, j3, j4, j5, o1, o2, o3, o4⟩ := okD_enc hb hk
      have gT : D6.getC cb = some (accC dN pN qN AN) := by
        rw [G6.2.2 cb (by omega), old cb lcb, gcb, j1, j2, j3, j4, j5]; rfl
      have zT : D6.getC 0 = some (cB (encB dN pN qN AN)) := by rw [G6.2.2 0 (by omega), zC]; exact congrArg (fun z => some (cB z)) hE
      obtain ⟨s', r1, r2⟩ := j6_ok M (by omega) D6 cb dN pN qN AN c o1 o2 o3 o4 gT (by omega) zT (by omega) (by omega)
      rw [← hE, ← j1, ← j2, ← hd, ← hp] at r1
      simp (maxSteps := 4000000) (disch := (first | omega | (simp only [an_next, set_next, St.seen_next, jn_next, z0_next]; try omega; done))) only [op2_s, op_s, bin_e, pick_e, not_e, ext_e, nth_z, nth_1, nth_2, nth_3, gval_e, gval_u, cmp_e, orUndef_t, orUndef_f, condV_t, condV_f, cond_true, cond_false, eqI_eq, neI_eq, ltI_eq, leI_eq, gtI_eq, geI_eq, Bool.not_true, Bool.not_false, bf_tt, bf_tf, bf_ft, bf_ff, decide_true, decide_false, oneOf_1, oneOf_2, oneOf_3, thenV_n, thenV_e, thenV_r, exV_e, exV_r, Nat.beq_refl, eq_self, new_a, boxA, an_ati, an_atp, an_ats, an_atb, an_ne, set_ati, set_atp, set_ats, set_atb, set_ne, seen_getC, loadn_o, store_2, store_i, store_b, store_s, store_p, load_u, cut_22, put_22, cut_53, cut_55, put_55, put_50, put_51, put_52, put_53, store_5, nth_z, nth_1, nth_2, nth_3, nth_4, nil_u, fa_0, an_next, set_next, St.seen_next, jn_next, z0_next, jn_getC, z0_getC, rU_z, rU_seen, rU_set, rU_an, rU_sl, mov_v, orM_t, orM_f, lenL_e, snM_n, snM_c, gr, e0, e1, e2, e3, e4, e5, e6, cC, ← hD1, p1, u1, q1, u2, e7, cC3, ← hD4, w1, u3, f1, u4, e8]
      rw [apartJs (n0 := C1.next) (fun k => if k ≤ 1 then C1.next else if k = 2 then t1.next else t3.next) [(3, 0), (3, 0), (3, 0), (3, 0), (3, 0), (3, 0), (3, 0), (3, 0), (3, 0), (3, 0), (3, 0), (3, 0), (3, 0), (3, 0), (3, 0), (3, 0), (3, 0), (3, 0), (3, 0), (3, 0), (3, 0), (3, 0), (3, 0), (3, 0), (3, 0), (3, 0), (3, 0), (3, 0), (3, 0), (3, 0), (3, 0), (3, 0), (3, 0), (3, 0), (3, 0), (3, 0), (3, 0), (3, 0), (0, 0), (2, 0), (3, 0), (3, 0), (3, 0), (3, 0), (0, 0), (2, 1), (3, 0), (3, 0), (3, 0), (3, 0)] ?hc ?h0 ?hk _ (by kernel_rfl), cond_true]
      · exact ⟨s', r1, (r2.2.2 0 (by omega)).trans ((G6.2.2 0 (by omega)).trans zC)⟩
      case hc =>
        intro i j h1 h2
        try dsimp only
        repeat' split
        all_goals omega
      case h0 =>
        intro i h1
        try dsimp only
        repeat' split
        all_goals omega
      case hk =>
        refine ⟨trivial, trivial, trivial, trivial, trivial, trivial, trivial, trivial, trivial, trivial, trivial, trivial, trivial, trivial, trivial, trivial, trivial, trivial, trivial, trivial, trivial, trivial, trivial, trivial, trivial, trivial, trivial, trivial, trivial, trivial, trivial, trivial, trivial, trivial, trivial, trivial, trivial, trivial, jR (by omega), jC p4 ?_ ?_, trivial, trivial, trivial, trivial, jR (by omega), jC w4 ?_ ?_, trivial, trivial, trivial, trivial, trivial⟩
        all_goals try dsimp only
        all_goals repeat' split
        all_goals first | omega | exact absurd trivial (by assumption)
    · have hno : ¬okD L := fun k => y8 (hok.mp k).2.2.2.2.2.2.2.2
      obtain ⟨rfl, rfl⟩ := okN hno
      have e8 : decide (sgn (S - 1267650600228229401496703205376) ≤ 0) = false := decide_eq_false (fun k => by have := (sgn_le _).mp k; omega)
      simp (maxSteps := 4000000) (disch := (first | omega | (simp only [an_next, set_next, St.seen_next, jn_next, z0_next]; try omega; done))) only [op2_s, op_s, bin_e, pick_e, not_e, ext_e, nth_z, nth_1, nth_2, nth_3, gval_e, gval_u, cmp_e, orUndef_t, orUndef_f, condV_t, condV_f, cond_true, cond_false, eqI_eq, neI_eq, ltI_eq, leI_eq, gtI_eq, geI_eq, Bool.not_true, Bool.not_false, bf_tt, bf_tf, bf_ft, bf_ff, decide_true, decide_false, oneOf_1, oneOf_2, oneOf_3, thenV_n, thenV_e, thenV_r, exV_e, exV_r, Nat.beq_refl, eq_self, new_a, boxA, an_ati, an_atp, an_ats, an_atb, an_ne, set_ati, set_atp, set_ats, set_atb, set_ne, seen_getC, loadn_o, store_2, store_i, store_b, store_s, store_p, load_u, cut_22, put_22, cut_53, cut_55, put_55, put_50, put_51, put_52, put_53, store_5, nth_z, nth_1, nth_2, nth_3, nth_4, nil_u, fa_0, an_next, set_next, St.seen_next, jn_next, z0_next, jn_getC, z0_getC, rU_z, rU_seen, rU_set, rU_an, rU_sl, mov_v, orM_t, orM_f, lenL_e, snM_n, snM_c, gr, e0, e1, e2, e3, e4, e5, e6, cC, ← hD1, p1, u1, q1, u2, e7, cC3, ← hD4, w1, u3, f1, u4, e8]
      rw [apartJs (n0 := C1.next) (fun k => if k ≤ 1 then C1.next else if k = 2 then t1.next else t3.next) [(3, 0), (3, 0), (3, 0), (3, 0), (3, 0), (3, 0), (3, 0), (3, 0), (3, 0), (3, 0), (3, 0), (3, 0), (3, 0), (3, 0), (3, 0), (3, 0), (3, 0), (3, 0), (3, 0), (3, 0), (3, 0), (3, 0), (3, 0), (3, 0), (3, 0), (3, 0), (3, 0), (3, 0), (3, 0), (3, 0), (3, 0), (3, 0), (3, 0), (3, 0), (3, 0), (3, 0), (3, 0), (3, 0), (0, 0), (2, 0), (3, 0), (3, 0), (3, 0), (3, 0), (0, 0), (2, 1), (3, 0), (3, 0), (3, 0), (3, 0)] ?hc ?h0 ?hk _ (by kernel_rfl), cond_true]
      · rw [j6_no]
        exact fin 273 _ G6
      case hc =>
        intro i j h1 h2
        try dsimp only
        repeat' split
        all_goals omega
      case h0 =>
        intro i h1
        try dsimp only
        repeat' split
        all_goals omega
      case hk =>
        refine ⟨trivial, trivial, trivial, trivial, trivial, trivial, trivial, trivial, trivial, trivial, trivial, trivial, trivial, trivial, trivial, trivial, trivial, trivial, trivial, trivial, trivial, trivial, trivial, trivial, trivial, trivial, trivial, trivial, trivial, trivial, trivial, trivial, trivial, trivial, trivial, trivial, trivial, trivial, jR (by omega), jC p4 ?_ ?_, trivial, trivial, trivial, trivial, jR (by omega), jC w4 ?_ ?_, trivial, trivial, trivial, trivial, trivial⟩
        all_goals try dsimp only
        all_goals repeat' split
        all_goals first | omega | exact absurd trivial (by assumption)
end Go.Proofs.Ytdnedangfnincaa.AbsAccR
namespace Go.Proofs.Ytdnedangfnincaa.AbsAccR
open Go Go.Abs Go.Proofs
set_option maxRecDepth 100000
set_option linter.unusedVariables false
set_option linter.unusedSimpArgs false

noncomputable def stOf (o : Option (Value × St)) : St := Option.rec st0 (fun p => p.2) o
theorem of_parts {o : Option (Value × St)} (h : isTrue o = true) : o = some (.bool true, stOf o) := by
  obtain ⟨s', hs⟩ := isTrue_spec h
  rw [hs]
  rfl
theorem aw1 (c : Blk) : isTrue (callN E 20001 9 [] (st1 c)) = true := by kernel_rfl
theorem aw2 (c : Blk) : (stOf (callN E 20001 9 [] (st1 c))).get 0 = some c := by kernel_rfl
theorem aw3 (c : Blk) : Nat.ble 8 (stOf (callN E 20001 9 [] (st1 c))).next = true := by kernel_rfl
theorem aw4 (c : Blk) : Nat.ble (stOf (callN E 20001 9 [] (st1 c))).next 1000 = true := by kernel_rfl
theorem aw5 : isTrue (callN E 20001 9 [] st8) = true := by kernel_rfl
theorem aw6 : Nat.ble 8 (stOf (callN E 20001 9 [] st8)).next = true := by kernel_rfl
theorem aw7 : Nat.ble (stOf (callN E 20001 9 [] st8)).next 1000 = true := by kernel_rfl
theorem aw8 : (stOf (callN E 20001 9 [] st8)).get 0 = none := by kernel_rfl
theorem getC_of_get {s u : St} {y : Nat} (h : s.get y = u.get y) : s.getC y = u.getC y := by unfold St.getC; rw [h]
theorem awake (n : Nat) (flat : List Value) (s : St) (hs : (n = 0 ∧ s = st8) ∨ (n ≠ 0 ∧ s = st1 flat)) : ∃ s1, callN E 20001 9 [] s = some (.bool true, s1) ∧ 8 ≤ s1.next ∧ s1.next ≤ 2000 ∧ s1.getC 0 = s.getC 0 := by
  rcases hs with ⟨_, rfl⟩ | ⟨_, rfl⟩
  · have a6 := aw6; have a7 := aw7
    rw [ble_eq', decide_eq_true_eq] at a6 a7
    exact ⟨_, of_parts aw5, a6, by omega, getC_of_get (by rw [aw8, st8_get])⟩
  · have a3 := aw3 flat; have a4 := aw4 flat
    rw [ble_eq', decide_eq_true_eq] at a3 a4
    exact ⟨_, of_parts (aw1 flat), a3, by omega, getC_of_get (by rw [aw2, st1_get, if_pos rfl])⟩
theorem kept {s u : St} (flat : List Value) (n : Nat) (hm : isMapB flat = false) (h : u.getC 0 = s.getC 0) (hs : (n = 0 ∧ s = st8) ∨ (n ≠ 0 ∧ s = st1 flat)) : (s.get 0).isSome = true → (u.get 0).isSome = true := by
  intro h1
  rcases hs with ⟨_, rfl⟩ | ⟨_, rfl⟩
  · rw [st8_get] at h1; cases h1
  · have e : (st1 flat).getC 0 = some flat := by
      unfold St.getC
      rw [st1_get, if_pos rfl, op_s, hm]
      rfl
    rw [e] at h
    cases hu : u.get 0 with
    | some c => rfl
    | none =>
      unfold St.getC at h
      rw [hu] at h
      cases h
theorem mt1 : isTrue (callN E 20002 6 [.slice none 0 0] st8) = true := by kernel_rfl
theorem mt2 (c : Nat) : isTrue (callN E 20002 6 [.slice (some ⟨0, 0, none⟩) 0 c] st8) = true := by kernel_rfl
theorem cells_nat : ∀ (L : List Int), (∀ x ∈ L, (Lit.int .u8 x).wf = true) → ∃ N : List Nat, (L.map fun x => Value.int .u8 x) = cB N ∧ N.length = L.length ∧ ∀ x ∈ N, x < 256
  | [], _ => ⟨[], rfl, rfl, fun x h => by cases h⟩
  | x :: L, h => by
    obtain ⟨N, h1, h2, h3⟩ := cells_nat L fun y hy => h y (List.mem_cons_of_mem _ hy)
    have hx := h x List.mem_cons_self
    simp only [Lit.wf, Bool.and_eq_true, decide_eq_true_eq] at hx
    have m0 : IntKind.u8.min = 0 := by rfl
    have m1 : IntKind.u8.max = 255 := by rfl
    rw [m0, m1] at hx
    refine ⟨x.toNat :: N, ?_, by simp [h2], fun y hy => ?_⟩
    · show Value.int .u8 x :: (L.map fun x => Value.int .u8 x) = Value.int .u8 (Int.ofNat x.toNat) :: cB N
      rw [h1, show Int.ofNat x.toNat = x from Int.toNat_of_nonneg hx.1]
    · rcases List.mem_cons.1 hy with rfl | hy
      · omega
      · exact h3 y hy
theorem lawAccrueReads {v : Value} {L : List Int} {W : World} (hv : SlcIn 1 L.length (L.map fun x => .int .u8 x) W v) (hx : ∀ x ∈ L, (Lit.int .u8 x).wf = true) : Calls Try.prog 6 [v].toArray W fun e w' => e = .returned (.bool true) ∧ RowKit.Below W.heap.size W w' :=
  slc_law (E := E) (m := 20002) (pre := []) (rest := []) mixed exOk ⟨fnsOk, known⟩ rfl rfl (by simp) (flatI_gnd1 .u8 L) hv fun s a hs ha => by
    obtain ⟨N, e1, e2, e3⟩ := cells_nat L hx
    rcases hs with ⟨h0, rfl⟩ | ⟨h0, rfl⟩
    · have hk : ∀ o : Option (Value × St), isTrue o = true → ∃ s', o = some (.bool true, s') ∧ ((st8.get 0).isSome = true → (s'.get 0).isSome = true) := fun o h => by
        obtain ⟨s', hs⟩ := isTrue_spec h
        exact ⟨s', hs, fun k => by rw [st8_get] at k; cases k⟩
      rcases ha with ⟨_, rfl⟩ | ⟨c, rfl⟩
      · exact hk _ mt1
      · rw [h0]; exact hk _ (mt2 c)
    · rcases ha with ⟨k, _⟩ | ⟨c, rfl⟩
      · exact absurd k h0
      have hne : N ≠ [] := fun k => by rw [k] at e2; exact h0 e2.symm
      obtain ⟨s1, h1, h2, h3, h4⟩ := awake L.length (L.map fun x => .int .u8 x) _ (.inr ⟨h0, rfl⟩)
      have hc : (st1 (L.map fun x => Value.int .u8 x)).getC 0 = some (cB N) := by
        unfold St.getC
        rw [st1_get, if_pos rfl, op_s, e1, cB_map]
        rfl
      obtain ⟨s', q1, q2⟩ := r6 20001 (by omega) _ s1 N e3 hne c h1 h2 h3 (h4.trans hc)
      rw [e2] at q1
      refine ⟨s', q1, fun _ => ?_⟩
      cases hs' : s'.get 0 with
      | some c => rfl
      | none =>
        unfold St.getC at q2
        rw [hs'] at q2
        cases q2
end Go.Proofs.Ytdnedangfnincaa.AbsAccR
