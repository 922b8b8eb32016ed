import Derived.Test.YtikdjhlcbkkkfaaLexSC
namespace Go.Proofs.Ytikdjhlcbkkkfaa.AbsLexO
open Go Go.Abs Go.Proofs
set_option maxRecDepth 100000
set_option linter.unusedVariables false
set_option linter.unusedSimpArgs false

def core (w : Wd) : Int × List UInt8 × Int := (w.1, w.2.1, w.2.2.1)
def joinW (l : List Wd) : List UInt8 := l.flatMap fun w => w.2.1 ++ [32]
theorem joinW_c (w : Wd) (l : List Wd) : joinW (w :: l) = (w.2.1 ++ [32]) ++ joinW l := rfl
theorem joinW_app (l m : List Wd) : joinW (l ++ m) = joinW l ++ joinW m := by unfold joinW; rw [List.flatMap_append]
theorem sk_end : skF false [32] = 1 := rfl
theorem sk_blank (l : List UInt8) : skF false (32 :: l) = skF false l + 1 := by
  rw [skF_f]; rfl
theorem relex : ∀ (n at_ : Nat) (r : List UInt8), (cutF rdF n at_ r).2 = none → r.length < n → ∀ (n' p : Nat), (joinW (cutF rdF n at_ r).1).length + 1 < n' →
    ∃ ws, cutF rdF n' (p + skF false (joinW (cutF rdF n at_ r).1 ++ [32])) ((joinW (cutF rdF n at_ r).1 ++ [32]).drop (skF false (joinW (cutF rdF n at_ r).1 ++ [32]))) = (ws, none) ∧ ws.map core = (cutF rdF n at_ r).1.map core
  | 0, at_, r, h, hn, n', p, hn' => by omega
  | n + 1, at_, [], h, hn, n', p, hn' => by
    obtain ⟨n', rfl⟩ : ∃ m, n' = m + 1 := ⟨n' - 1, by omega⟩
    rw [cutF_nil]
    exact ⟨[], rfl, rfl⟩
  | n + 1, at_, b :: t, h, hn, n', p, hn' => by
    by_cases h0 : (wordF rdF (b :: t)).1 = 0
    · rw [cutF_no h0] at h; cases h
    have hb := wordF_b b t (joinW (cutF rdF n (at_ + (wordF rdF (b :: t)).2.1 + skF false ((b :: t).drop (wordF rdF (b :: t)).2.1)) (((b :: t).drop (wordF rdF (b :: t)).2.1).drop (skF false ((b :: t).drop (wordF rdF (b :: t)).2.1)))).1 ++ [32]) h0
    have hnb := wordF_nb h0
    obtain ⟨hp0, hple⟩ := wordF_len h0
    have hsk := skF_le false ((b :: t).drop (wordF rdF (b :: t)).2.1)
    rw [cutF_yes h0] at h hn' ⊢
    obtain ⟨W, hW⟩ : ∃ W, wordF rdF (b :: t) = W := ⟨_, rfl⟩
    rw [hW] at h hn' hb hp0 hple hsk h0 ⊢
    obtain ⟨kk, k, nn⟩ := W
    dsimp only at h hn' hb hp0 hple hsk h0 ⊢
    simp only [List.length_cons] at hn
    have hd1 : ((b :: t).drop k).length = t.length + 1 - k := by rw [List.length_drop, List.length_cons]
    have hd2 : (((b :: t).drop k).drop (skF false ((b :: t).drop k))).length = t.length + 1 - k - skF false ((b :: t).drop k) := by rw [List.length_drop, hd1]
    have ih := relex n (at_ + k + skF false ((b :: t).drop k)) (((b :: t).drop k).drop (skF false ((b :: t).drop k))) h (by omega)
    obtain ⟨ws1, hws1⟩ : ∃ ws1, (cutF rdF n (at_ + k + skF false ((b :: t).drop k)) (((b :: t).drop k).drop (skF false ((b :: t).drop k)))).1 = ws1 := ⟨_, rfl⟩
    rw [hws1] at ih hn' hb ⊢
    obtain ⟨n', rfl⟩ : ∃ m, n' = m + 1 := ⟨n' - 1, by omega⟩
    have hxl : ((b :: t).take k).length = k := by rw [List.length_take, List.length_cons]; omega
    rw [joinW_c] at hn' ⊢
    dsimp only at hn' ⊢
    rw [List.length_append, List.length_append, hxl] at hn'
    simp only [List.length_cons, List.length_nil] at hn'
    have hT : (b :: t).take k ++ [32] ++ joinW ws1 ++ [32] = (b :: t).take k ++ 32 :: (joinW ws1 ++ [32]) := by simp
    rw [hT]
    have hT2 : (b :: t).take k ++ 32 :: (joinW ws1 ++ [32]) = b :: (t.take (k - 1) ++ 32 :: (joinW ws1 ++ [32])) := by rw [take_cons_pos hp0]; rfl
    have hT3 : ((b :: t).take k ++ 32 :: (joinW ws1 ++ [32])).take k = (b :: t).take k := by rw [List.take_append_of_le_length (by omega), List.take_take, Nat.min_self]
    have hT4 : ((b :: t).take k ++ 32 :: (joinW ws1 ++ [32])).drop k = 32 :: (joinW ws1 ++ [32]) := by rw [List.drop_append_of_le_length (by omega), List.drop_of_length_le (by omega), List.nil_append]
    obtain ⟨ws, i1, i2⟩ := ih n' (p + k + 1) (by omega)
    have hsk0 : skF false ((b :: t).take k ++ 32 :: (joinW ws1 ++ [32])) = 0 := by rw [hT2]; exact hnb _
    rw [hsk0, List.drop_zero]
    rw [hT2] at hb hT3 hT4 ⊢
    have h0' : (wordF rdF (b :: (t.take (k - 1) ++ 32 :: (joinW ws1 ++ [32])))).1 ≠ 0 := by rw [hb]; exact h0
    rw [cutF_yes h0', hb]
    dsimp only
    rw [hT3, hT4, sk_blank, List.drop_succ_cons]
    have e : p + 0 + k + (skF false (joinW ws1 ++ [32]) + 1) = p + k + 1 + skF false (joinW ws1 ++ [32]) := by omega
    rw [e, i1]
    exact ⟨_, rfl, by rw [List.map_cons, List.map_cons, i2]; rfl⟩
/-- each word stands where its text is -/
theorem places (l : List UInt8) : ∀ (n at_ : Nat) (r : List UInt8), l.drop at_ = r → at_ + r.length = l.length → ∀ w ∈ (cutF rdF n at_ r).1, w.2.2.2 + w.2.1.length ≤ l.length ∧ (l.drop w.2.2.2).take w.2.1.length = w.2.1
  | 0, _, _, _, _, w, hw => by cases hw
  | n + 1, at_, [], _, _, w, hw => by rw [cutF_nil] at hw; cases hw
  | n + 1, at_, b :: t, hr, hi, w, hw => by
    by_cases h0 : (wordF rdF (b :: t)).1 = 0
    · rw [cutF_no h0] at hw; cases hw
    obtain ⟨hp0, hple⟩ := wordF_len h0
    have hsk := skF_le false ((b :: t).drop (wordF rdF (b :: t)).2.1)
    rw [cutF_yes h0] at hw
    simp only [List.length_cons] at hi
    have hxl : ((b :: t).take (wordF rdF (b :: t)).2.1).length = (wordF rdF (b :: t)).2.1 := by rw [List.length_take, List.length_cons]; omega
    rcases List.mem_cons.1 hw with rfl | hw
    · dsimp only
      rw [hxl, hr]
      exact ⟨by omega, rfl⟩
    · have hd1 : ((b :: t).drop (wordF rdF (b :: t)).2.1).length = t.length + 1 - (wordF rdF (b :: t)).2.1 := by rw [List.length_drop, List.length_cons]
      have hd2 : (((b :: t).drop (wordF rdF (b :: t)).2.1).drop (skF false ((b :: t).drop (wordF rdF (b :: t)).2.1))).length = t.length + 1 - (wordF rdF (b :: t)).2.1 - skF false ((b :: t).drop (wordF rdF (b :: t)).2.1) := by rw [List.length_drop, hd1]
      exact places l n _ _ (by rw [← List.drop_drop, ← List.drop_drop, hr]) (by omega) w hw
theorem join_len : ∀ (n at_ : Nat) (r : List UInt8), (joinW (cutF rdF n at_ r).1).length ≤ 2 * r.length
  | 0, _, _ => Nat.zero_le _
  | n + 1, _, [] => by rw [cutF_nil]; exact Nat.le_refl _
  | n + 1, at_, b :: t => by
    by_cases h0 : (wordF rdF (b :: t)).1 = 0
    · rw [cutF_no h0]; exact Nat.zero_le _
    obtain ⟨hp0, hple⟩ := wordF_len h0
    have hxl : ((b :: t).take (wordF rdF (b :: t)).2.1).length = (wordF rdF (b :: t)).2.1 := by rw [List.length_take, List.length_cons]; omega
    have hd1 : ((b :: t).drop (wordF rdF (b :: t)).2.1).length = t.length + 1 - (wordF rdF (b :: t)).2.1 := by rw [List.length_drop, List.length_cons]
    have hd2 : (((b :: t).drop (wordF rdF (b :: t)).2.1).drop (skF false ((b :: t).drop (wordF rdF (b :: t)).2.1))).length = t.length + 1 - (wordF rdF (b :: t)).2.1 - skF false ((b :: t).drop (wordF rdF (b :: t)).2.1) := by rw [List.length_drop, hd1]
    have ih := join_len n (at_ + (wordF rdF (b :: t)).2.1 + skF false ((b :: t).drop (wordF rdF (b :: t)).2.1)) (((b :: t).drop (wordF rdF (b :: t)).2.1).drop (skF false ((b :: t).drop (wordF rdF (b :: t)).2.1)))
    rw [cutF_yes h0, joinW_c, List.length_append, List.length_append]
    dsimp only
    rw [hxl]
    simp only [List.length_cons, List.length_nil]
    omega
end Go.Proofs.Ytikdjhlcbkkkfaa.AbsLexO
namespace Go.Proofs.Ytikdjhlcbkkkfaa.AbsLexO
open Go Go.Abs Go.Proofs
set_option maxRecDepth 100000
set_option linter.unusedVariables false
set_option linter.unusedSimpArgs false

attribute [local congr] h_opt2 h_opt h_condV h_cond
theorem flat_at : ∀ {L : List Wd} {i : Nat} {w : Wd} {r : List Wd}, L.drop i = w :: r → ∀ (j : Nat), j < 4 → nth (flat L) (i * 4 + j) = (wv w)[j]?
  | [], i, w, r, h, j, hj => by rw [List.drop_nil] at h; cases h
  | v :: L, 0, w, r, h, j, hj => by
    obtain ⟨rfl, rfl⟩ := List.cons.inj h
    rw [nth_eq, flat_c, Nat.zero_mul, Nat.zero_add, List.getElem?_append_left (by show j < 4; exact hj)]
  | v :: L, i + 1, w, r, h, j, hj => by
    have ih := flat_at (L := L) (i := i) (r := r) (w := w) h j hj
    rw [nth_eq] at ih ⊢
    rw [flat_c, List.getElem?_append_right (by show 4 ≤ _; omega), ← ih]
    congr 1
    show (i + 1) * 4 + j - 4 = i * 4 + j
    omega
theorem flat_facts {L : List Wd} {i : Nat} {w : Wd} {r : List Wd} (h : L.drop i = w :: r) :
    nth (flat L) (i * 4 + 0) = some (.int .i64 w.1) ∧ nth (flat L) (i * 4 + 1) = some (.string ⟨⟨w.2.1⟩⟩) ∧ nth (flat L) (i * 4 + 2) = some (.int .i64 w.2.2.1) ∧ nth (flat L) (i * 4 + 3) = some (.int .i64 (w.2.2.2 : Int)) :=
  ⟨flat_at h 0 (by omega), flat_at h 1 (by omega), flat_at h 2 (by omega), flat_at h 3 (by omega)⟩
theorem drop_lt {L : List Wd} {i : Nat} {w : Wd} {r : List Wd} (h : L.drop i = w :: r) : i < L.length ∧ L.drop (i + 1) = r := by
  refine ⟨?_, drop_succ h⟩
  have := congrArg List.length h
  rw [List.length_drop, List.length_cons] at this
  omega
set_option maxHeartbeats 1000000 in
theorem bet_step (rec : Rec) (N : Nat) (l : List UInt8) (hl : l.length ≤ 2500) (L : List Wd) (nb c i : Nat) (w : Wd) (r : List Wd) (hr : L.drop i = w :: r) (hLl : L.length ≤ 3000) (h1 : w.2.2.2 + w.2.1.length ≤ l.length) (h2 : (l.drop w.2.2.2).take w.2.1.length = w.2.1)
    (x : Value) (T : List UInt8) (hT : T.length ≤ 100000) (u : St) (hg : u.getC nb = some (flat L)) :
    ∃ u', B7_l0 rec N ((.string ⟨⟨l⟩⟩), (.slice (some ⟨nb, 0, none⟩) L.length c)) (x, (.string ⟨⟨T⟩⟩), (.int .i64 (i : Int))) u = some (.norm, ((x, (.string ⟨⟨T ++ (w.2.1 ++ [32])⟩⟩), (.int .i64 ((i + 1 : Nat) : Int))), u')) ∧ Still u u' := by
  obtain ⟨n0, n1, n2, n3⟩ := flat_facts hr
  obtain ⟨hi, _⟩ := drop_lt hr
  obtain ⟨kk, tx, nn, pl⟩ := w
  dsimp only at h1 h2 n0 n1 n2 n3 ⊢
  have e1 : decide ((i : Int) < (L.length : Int)) = true := decide_eq_true (by omega)
  have e2 : decide ((pl : Int) < 0) = false := decide_eq_false (by omega)
  have e3 : decide ((l.length : Int) - (tx.length : Int) < (pl : Int)) = false := decide_eq_false (by omega)
  have s1 : int2 subO (.int .i64 (l.length : Int)) (.int .i64 (tx.length : Int)) = some (.int .i64 ((l.length : Int) - (tx.length : Int))) := sub_e _ _ (by omega) (by omega)
  have a1 : int2 addO (.int .i64 (pl : Int)) (.int .i64 (tx.length : Int)) = some (.int .i64 ((pl + tx.length : Nat) : Int)) := by rw [add_e _ _ (by omega) (by omega)]; congr 2
  have a2 : int2 addO (.int .i64 (i : Int)) (.int .i64 1) = some (.int .i64 ((i + 1 : Nat) : Int)) := by rw [add_e _ _ (by omega) (by omega)]; rfl
  have hsl : ∀ s, oSliceS (.v (.string ⟨⟨l⟩⟩)) (some (.v (.int .i64 (pl : Int)))) (some (.v (.int .i64 ((pl + tx.length : Nat) : Int)))) rec PT.nil s = some (.string ⟨⟨tx⟩⟩, s) := fun s => by
    rw [slS_lh l pl (pl + tx.length) (by omega) h1 rec s, show pl + tx.length - pl = tx.length by omega, h2]
  have e4 : decide (tx = tx) = true := decide_eq_true rfl
  have c1 : str2 catO (.string ⟨⟨T⟩⟩) (.string ⟨⟨tx⟩⟩) = some (.string ⟨⟨T ++ tx⟩⟩) := cat_u _ _ (by omega)
  have c2 : str2 catO (.string ⟨⟨T ++ tx⟩⟩) (.string ⟨⟨[32]⟩⟩) = some (.string ⟨⟨T ++ (tx ++ [32])⟩⟩) := by
    rw [cat_u _ _ (by rw [List.length_append]; simp only [List.length_cons, List.length_nil]; omega), List.append_assoc]
  rw [B7_l0]
  simp (disch := omega) only [op2_s, op_s, bin_e, pick_e, not_e, ext_e, nth_z, nth_1, nth_2, nth_3, gval_e, gval_u, cmp_e, orUndef_t, orUndef_f, condV_t, condV_f, cond_true, cond_false, eqI_eq, neI_eq, ltI_eq, leI_eq, gtI_eq, geI_eq, Bool.not_true, Bool.not_false, bf_tt, bf_tf, bf_ft, bf_ff, decide_true, decide_false, oneOf_1, oneOf_2, oneOf_3, thenV_n, thenV_e, thenV_r, exV_e, exV_r, Nat.beq_refl, eq_self, lenL_e, e1, idxL0_u, fieldAddr_e, load_u, seen_getC, hg, n3, e2, lenS_u, Q7_q2, n1, s1, e3, Q7_q1, a1, Q7_q0, hsl, nes_u, e4, J7_j0, J7_j1, c1, c2, J7_j2, a2]
  exact ⟨_, rfl, by repeat (first | exact Still.refl _ | refine Still.trans ?_ (Still.seen _ _))⟩
set_option maxHeartbeats 1000000 in
theorem cmp_step (rec : Rec) (N : Nat) (L K : List Wd) (nb c mb d i : Nat) (w v : Wd) (r q : List Wd) (hr : L.drop i = w :: r) (hq : K.drop i = v :: q) (hLl : L.length ≤ 3000) (hcore : core v = core w) (x : Value) (u : St) (hg : u.getC nb = some (flat L)) (hk : u.getC mb = some (flat K)) :
    ∃ u', B7_l1 rec N ((.slice (some ⟨nb, 0, none⟩) L.length c), (.slice (some ⟨mb, 0, none⟩) K.length d)) (x, (.int .i64 (i : Int))) u = some (.norm, ((x, (.int .i64 ((i + 1 : Nat) : Int))), u')) ∧ Still u u' := by
  obtain ⟨n0, n1, n2, n3⟩ := flat_facts hr
  obtain ⟨k0, k1, k2, k3⟩ := flat_facts hq
  obtain ⟨hi, _⟩ := drop_lt hr
  obtain ⟨hj, _⟩ := drop_lt hq
  obtain ⟨kk, tx, nn, pl⟩ := w
  obtain ⟨kk', tx', nn', pl'⟩ := v
  unfold core at hcore
  simp only [Prod.mk.injEq] at hcore
  obtain ⟨rfl, rfl, rfl⟩ := hcore
  dsimp only at n0 n1 n2 n3 k0 k1 k2 k3
  have e1 : decide ((i : Int) < (L.length : Int)) = true := decide_eq_true (by omega)
  have e2 : decide (kk' = kk') = true := decide_eq_true rfl
  have e3 : decide (tx' = tx') = true := decide_eq_true rfl
  have e4 : decide (nn' = nn') = true := decide_eq_true rfl
  have a2 : int2 addO (.int .i64 (i : Int)) (.int .i64 1) = some (.int .i64 ((i + 1 : Nat) : Int)) := by rw [add_e _ _ (by omega) (by omega)]; rfl
  rw [B7_l1]
  simp (disch := omega) only [op2_s, op_s, bin_e, pick_e, not_e, ext_e, nth_z, nth_1, nth_2, nth_3, gval_e, gval_u, cmp_e, orUndef_t, orUndef_f, condV_t, condV_f, cond_true, cond_false, eqI_eq, neI_eq, ltI_eq, leI_eq, gtI_eq, geI_eq, Bool.not_true, Bool.not_false, bf_tt, bf_tf, bf_ft, bf_ff, decide_true, decide_false, oneOf_1, oneOf_2, oneOf_3, thenV_n, thenV_e, thenV_r, exV_e, exV_r, Nat.beq_refl, eq_self, lenL_e, e1, idxL0_u, fieldAddr_e, load_u, seen_getC, hg, hk, n0, k0, e2, Q7_q4, n1, k1, nes_u, e3, Q7_q3, n2, k2, e4, J7_j3, J7_j4, a2]
  exact ⟨_, rfl, by repeat (first | exact Still.refl _ | refine Still.trans ?_ (Still.seen _ _))⟩
end Go.Proofs.Ytikdjhlcbkkkfaa.AbsLexO
namespace Go.Proofs.Ytikdjhlcbkkkfaa.AbsLexO
open Go Go.Abs Go.Proofs
set_option maxRecDepth 100000
set_option linter.unusedVariables false
set_option linter.unusedSimpArgs false

attribute [local congr] h_opt2 h_opt h_condV h_cond
theorem bet_l (rec : Rec) (N : Nat) (l : List UInt8) (hl : l.length ≤ 2500) (L : List Wd) (nb c : Nat) (hLl : L.length ≤ 3000) (h : ∀ w ∈ L, w.2.2.2 + w.2.1.length ≤ l.length ∧ (l.drop w.2.2.2).take w.2.1.length = w.2.1) (x : Value) :
    ∀ (r : List Wd) (i fuel : Nat) (T : List UInt8) (u : St), L.drop i = r → i + r.length = L.length → r.length < fuel → T.length + (joinW r).length ≤ 100000 → u.getC nb = some (flat L) →
      ∃ v' u', loopV (B7_l0 rec N ((.string ⟨⟨l⟩⟩), (.slice (some ⟨nb, 0, none⟩) L.length c))) fuel (x, (.string ⟨⟨T⟩⟩), (.int .i64 (i : Int))) u = some (.exit 0, ((x, (.string ⟨⟨T ++ joinW r⟩⟩), v'), u')) ∧ Still u u'
  | [], i, fuel, T, u, hr, hi, hf, hT, hg => by
    obtain ⟨fuel, rfl⟩ : ∃ m, fuel = m + 1 := ⟨fuel - 1, by simp at hf; omega⟩
    have e1 : decide ((i : Int) < (L.length : Int)) = false := decide_eq_false (by simp at hi; omega)
    rw [loopV_s, B7_l0]
    simp only [op2_s, op_s, bin_e, pick_e, not_e, ext_e, nth_z, nth_1, nth_2, nth_3, gval_e, gval_u, cmp_e, orUndef_t, orUndef_f, condV_t, condV_f, cond_true, cond_false, eqI_eq, neI_eq, ltI_eq, leI_eq, gtI_eq, geI_eq, Bool.not_true, Bool.not_false, bf_tt, bf_tf, bf_ft, bf_ff, decide_true, decide_false, oneOf_1, oneOf_2, oneOf_3, thenV_n, thenV_e, thenV_r, exV_e, exV_r, Nat.beq_refl, eq_self, lenL_e, e1]
    rw [show T ++ joinW [] = T from List.append_nil T]
    exact ⟨_, _, rfl, Still.refl _⟩
  | w :: r, i, fuel, T, u, hr, hi, hf, hT, hg => by
    obtain ⟨fuel, rfl⟩ : ∃ m, fuel = m + 1 := ⟨fuel - 1, by simp at hf; omega⟩
    simp only [List.length_cons] at hi hf
    have hw := h w (List.mem_of_mem_drop (i := i) (by rw [hr]; exact List.mem_cons_self))
    rw [joinW_c, List.length_append, List.length_append] at hT
    obtain ⟨u1, q1, q2⟩ := bet_step rec N l hl L nb c i w r hr hLl hw.1 hw.2 x T (by omega) u hg
    obtain ⟨v', u', p1, p2⟩ := bet_l rec N l hl L nb c hLl h x r (i + 1) fuel (T ++ (w.2.1 ++ [32])) u1 (drop_succ hr) (by omega) (by omega) (by rw [List.length_append, List.length_append]; omega) ((q2.2 nb).trans hg)
    refine ⟨v', u', ?_, q2.trans p2⟩
    rw [loopV_s, q1, op2_s, thenV_n, p1, joinW_c, List.append_assoc]
theorem cmp_l (rec : Rec) (N : Nat) (L K : List Wd) (nb c mb d : Nat) (hLl : L.length ≤ 3000) (x : Value) :
    ∀ (r q : List Wd) (i fuel : Nat) (u : St), L.drop i = r → K.drop i = q → q.map core = r.map core → i + r.length = L.length → r.length < fuel → u.getC nb = some (flat L) → u.getC mb = some (flat K) →
      ∃ v' u', loopV (B7_l1 rec N ((.slice (some ⟨nb, 0, none⟩) L.length c), (.slice (some ⟨mb, 0, none⟩) K.length d))) fuel (x, (.int .i64 (i : Int))) u = some (.exit 2, ((x, v'), u'))
  | [], q, i, fuel, u, hr, hq, hc, hi, hf, hg, hk => by
    obtain ⟨fuel, rfl⟩ : ∃ m, fuel = m + 1 := ⟨fuel - 1, by simp at hf; omega⟩
    have e1 : decide ((i : Int) < (L.length : Int)) = false := decide_eq_false (by simp at hi; omega)
    rw [loopV_s, B7_l1]
    simp only [op2_s, op_s, bin_e, pick_e, not_e, ext_e, nth_z, nth_1, nth_2, nth_3, gval_e, gval_u, cmp_e, orUndef_t, orUndef_f, condV_t, condV_f, cond_true, cond_false, eqI_eq, neI_eq, ltI_eq, leI_eq, gtI_eq, geI_eq, Bool.not_true, Bool.not_false, bf_tt, bf_tf, bf_ft, bf_ff, decide_true, decide_false, oneOf_1, oneOf_2, oneOf_3, thenV_n, thenV_e, thenV_r, exV_e, exV_r, Nat.beq_refl, eq_self, lenL_e, e1]
    exact ⟨_, _, rfl⟩
  | w :: r, [], i, fuel, u, hr, hq, hc, hi, hf, hg, hk => by cases hc
  | w :: r, v :: q, i, fuel, u, hr, hq, hc, hi, hf, hg, hk => by
    obtain ⟨fuel, rfl⟩ : ∃ m, fuel = m + 1 := ⟨fuel - 1, by simp at hf; omega⟩
    simp only [List.length_cons] at hi hf
    rw [List.map_cons, List.map_cons] at hc
    obtain ⟨hc1, hc2⟩ := List.cons.inj hc
    obtain ⟨u1, q1, q2⟩ := cmp_step rec N L K nb c mb d i w v r q hr hq hLl hc1 x u hg hk
    obtain ⟨v', u', p1⟩ := cmp_l rec N L K nb c mb d hLl x r q (i + 1) fuel u1 (drop_succ hr) (drop_succ hq) hc2 (by omega) (by omega) ((q2.2 nb).trans hg) ((q2.2 mb).trans hk)
    exact ⟨v', u', by rw [loopV_s, q1, op2_s, thenV_n, p1]⟩
theorem acc_some {s : St} {v : Value} {n : Nat} {c : List Value} (h : Acc 4 s v (n + 1) c) : ∃ b, v = .slice (some ⟨b, 0, none⟩) (n + 1) (UNK + 4) ∧ s.getC b = some c ∧ b < s.next := by
  rcases h with ⟨_, h, _⟩ | ⟨_, _, h, _⟩ | ⟨b, h1, h2, h3, h4⟩
  · cases h
  · cases h
  · exact ⟨b, h1, h2, h4⟩
theorem r7 (M : Nat) (hM : 10050 ≤ M) (l : List UInt8) (s s1 : St) (haw : callN E M 8 [] s = some (.bool true, s1)) (hs : s1.next + 1000000 ≤ lim) : ∃ s', callN E (M + 1) 7 [.string ⟨⟨l⟩⟩] s = some (.bool true, s') := by
  have hlim : lim = 1000000000 := rfl
  obtain ⟨M, rfl⟩ : ∃ m, M = m + 1 := ⟨M - 1, by omega⟩
  rw [x7]; unfold F7
  by_cases hl : 2500 < l.length
  · have e1 : decide ((2500 : Int) < (l.length : Int)) = true := decide_eq_true (by omega)
    simp only [op2_s, op_s, bin_e, pick_e, not_e, ext_e, nth_z, nth_1, nth_2, nth_3, gval_e, gval_u, cmp_e, orUndef_t, orUndef_f, condV_t, condV_f, cond_true, cond_false, eqI_eq, neI_eq, ltI_eq, leI_eq, gtI_eq, geI_eq, Bool.not_true, Bool.not_false, bf_tt, bf_tf, bf_ft, bf_ff, decide_true, decide_false, oneOf_1, oneOf_2, oneOf_3, thenV_n, thenV_e, thenV_r, exV_e, exV_r, Nat.beq_refl, eq_self, haw, lenS_u, e1]
    exact ⟨_, rfl⟩
  have e1 : decide ((2500 : Int) < (l.length : Int)) = false := decide_eq_false (by omega)
  obtain ⟨s2, hcut, g2⟩ := r9 rd_ok M (by omega) l (by omega) s1 (by omega)
  rcases hcut with ⟨p, _, q⟩ | ⟨hn, v, q, hacc, hv⟩
  · have e2 : decide ((7 : Int) = 0) = false := rfl
    simp only [op2_s, op_s, bin_e, pick_e, not_e, ext_e, nth_z, nth_1, nth_2, nth_3, gval_e, gval_u, cmp_e, orUndef_t, orUndef_f, condV_t, condV_f, cond_true, cond_false, eqI_eq, neI_eq, ltI_eq, leI_eq, gtI_eq, geI_eq, Bool.not_true, Bool.not_false, bf_tt, bf_tf, bf_ft, bf_ff, decide_true, decide_false, oneOf_1, oneOf_2, oneOf_3, thenV_n, thenV_e, thenV_r, exV_e, exV_r, Nat.beq_refl, eq_self, haw, lenS_u, e1, q, e2]
    exact ⟨_, rfl⟩
  have hcnt : (cutT rdF l).1.length ≤ l.length := by
    have := cutF_count rdF (l.length + 1) (skF false l) (l.drop (skF false l))
    rw [List.length_drop] at this
    show (cutF rdF (l.length + 1) (skF false l) (l.drop (skF false l))).1.length ≤ _
    omega
  have hjl : (joinW (cutT rdF l).1).length ≤ 2 * l.length := by
    have := join_len (l.length + 1) (skF false l) (l.drop (skF false l))
    rw [List.length_drop] at this
    show (joinW (cutF rdF (l.length + 1) (skF false l) (l.drop (skF false l))).1).length ≤ _
    omega
  have hsk := skF_le false l
  have hpl : ∀ w ∈ (cutT rdF l).1 ++ [endW l], w.2.2.2 + w.2.1.length ≤ l.length ∧ (l.drop w.2.2.2).take w.2.1.length = w.2.1 := by
    intro w hw
    rcases List.mem_append.1 hw with hw | hw
    · exact places l (l.length + 1) (skF false l) _ rfl (by rw [List.length_drop]; omega) w hw
    · rw [List.mem_singleton] at hw
      subst hw
      exact ⟨Nat.le_refl _, rfl⟩
  have hre := relex (l.length + 1) (skF false l) (l.drop (skF false l)) hn (by rw [List.length_drop]; omega) ((joinW (cutT rdF l).1 ++ [32]).length + 1) 0 (by rw [List.length_append]; show (joinW (cutT rdF l).1).length + 1 < _; simp only [List.length_cons, List.length_nil]; omega)
  obtain ⟨ws', hw1, hw2⟩ := hre
  have hw1 : cutF rdF ((joinW (cutT rdF l).1 ++ [32]).length + 1) (0 + skF false (joinW (cutT rdF l).1 ++ [32])) ((joinW (cutT rdF l).1 ++ [32]).drop (skF false (joinW (cutT rdF l).1 ++ [32]))) = (ws', none) := hw1
  have hw2 : ws'.map core = (cutT rdF l).1.map core := hw2
  rw [Nat.zero_add] at hw1
  obtain ⟨ws, hws⟩ : ∃ ws, (cutT rdF l).1 = ws := ⟨_, rfl⟩
  rw [hws] at hacc hcnt hjl hpl hw1 hw2
  obtain ⟨b, rfl, hb, hbn⟩ := acc_some hacc
  have hLlen : (ws ++ [endW l]).length = ws.length + 1 := by rw [List.length_append]; rfl
  have hjoin : joinW (ws ++ [endW l]) = joinW ws ++ [32] := by rw [joinW_app]; rfl
  have hTl : (joinW ws ++ [32]).length ≤ 5001 := by rw [List.length_append]; simp only [List.length_cons, List.length_nil]; omega
  obtain ⟨v', u', p1, p2⟩ := bet_l (callN E (M + 1)) (M + 1) l (by omega) (ws ++ [endW l]) b (UNK + 4) (by omega) hpl (.bool false) (ws ++ [endW l]) 0 (M + 1) [] s2 rfl (by omega) (by omega) (by rw [hjoin]; simp only [List.length_nil]; omega) hb
  rw [hLlen, List.nil_append, hjoin] at p1
  have p1 : loopV (B7_l0 (callN E (M + 1)) (M + 1) ((.string ⟨⟨l⟩⟩), (.slice (some ⟨b, 0, none⟩) (ws.length + 1) (UNK + 4)))) (M + 1) ((.bool false), (.string ⟨⟨[]⟩⟩), (.int .i64 0)) s2 = some (.exit 0, (((.bool false), (.string ⟨⟨joinW ws ++ [32]⟩⟩), v'), u')) := p1
  have g2n := g2.2.1
  have hu'n : u'.next = s2.next := p2.1
  obtain ⟨s3, hcut3, g3⟩ := r9 rd_ok M (by omega) (joinW ws ++ [32]) (by omega) u' (by omega)
  have hT : cutT rdF (joinW ws ++ [32]) = (ws', none) := hw1
  rcases hcut3 with ⟨p, hp, _⟩ | ⟨_, v3, q3, hacc3, hv3⟩
  · rw [hT] at hp; cases hp
  rw [hT] at hacc3
  obtain ⟨b3, rfl, hb3, hbn3⟩ := acc_some hacc3
  have hwl : ws'.length = ws.length := by have := congrArg List.length hw2; simpa using this
  have hKlen : (ws' ++ [endW (joinW ws ++ [32])]).length = ws'.length + 1 := by rw [List.length_append]; rfl
  have hgL : s3.getC b = some (flat (ws ++ [endW l])) := g3.get ((p2.2 b).trans hb) (by omega)
  obtain ⟨v4, u4, p4⟩ := cmp_l (callN E (M + 1)) (M + 1) (ws ++ [endW l]) (ws' ++ [endW (joinW ws ++ [32])]) b (UNK + 4) b3 (UNK + 4) (by omega) (.bool false) (ws ++ [endW l]) (ws' ++ [endW (joinW ws ++ [32])]) 0 (M + 1) s3 rfl rfl (by rw [List.map_append, List.map_append, hw2]; rfl) (by omega) (by omega) hgL hb3
  rw [hLlen, hKlen] at p4
  have p4 : loopV (B7_l1 (callN E (M + 1)) (M + 1) ((.slice (some ⟨b, 0, none⟩) (ws.length + 1) (UNK + 4)), (.slice (some ⟨b3, 0, none⟩) (ws'.length + 1) (UNK + 4)))) (M + 1) ((.bool false), (.int .i64 0)) s3 = some (.exit 2, (((.bool false), v4), u4)) := p4
  have e2 : decide ((0 : Int) = 0) = true := rfl
  have e3 : decide (((ws'.length + 1 : Nat) : Int) = ((ws.length + 1 : Nat) : Int)) = true := decide_eq_true (by omega)
  refine ⟨u4, ?_⟩
  simp only [op2_s, op_s, bin_e, pick_e, not_e, ext_e, nth_z, nth_1, nth_2, nth_3, gval_e, gval_u, cmp_e, orUndef_t, orUndef_f, condV_t, condV_f, cond_true, cond_false, eqI_eq, neI_eq, ltI_eq, leI_eq, gtI_eq, geI_eq, Bool.not_true, Bool.not_false, bf_tt, bf_tf, bf_ft, bf_ff, decide_true, decide_false, oneOf_1, oneOf_2, oneOf_3, thenV_n, thenV_e, thenV_r, exV_e, exV_r, Nat.beq_refl, eq_self, haw, lenS_u, e1, q, e2, p1]
  unfold C7_l0
  simp only [op2_s, op_s, bin_e, pick_e, not_e, ext_e, nth_z, nth_1, nth_2, nth_3, gval_e, gval_u, cmp_e, orUndef_t, orUndef_f, condV_t, condV_f, cond_true, cond_false, eqI_eq, neI_eq, ltI_eq, leI_eq, gtI_eq, geI_eq, Bool.not_true, Bool.not_false, bf_tt, bf_tf, bf_ft, bf_ff, decide_true, decide_false, oneOf_1, oneOf_2, oneOf_3, thenV_n, thenV_e, thenV_r, exV_e, exV_r, Nat.beq_refl, eq_self]
  unfold J7_r1
  simp only [op2_s, op_s, bin_e, pick_e, not_e, ext_e, nth_z, nth_1, nth_2, nth_3, gval_e, gval_u, cmp_e, orUndef_t, orUndef_f, condV_t, condV_f, cond_true, cond_false, eqI_eq, neI_eq, ltI_eq, leI_eq, gtI_eq, geI_eq, Bool.not_true, Bool.not_false, bf_tt, bf_tf, bf_ft, bf_ff, decide_true, decide_false, oneOf_1, oneOf_2, oneOf_3, thenV_n, thenV_e, thenV_r, exV_e, exV_r, Nat.beq_refl, eq_self, q3, e2, lenL_e, e3, p4]
  unfold C7_l1
  simp only [op2_s, op_s, bin_e, pick_e, not_e, ext_e, nth_z, nth_1, nth_2, nth_3, gval_e, gval_u, cmp_e, orUndef_t, orUndef_f, condV_t, condV_f, cond_true, cond_false, eqI_eq, neI_eq, ltI_eq, leI_eq, gtI_eq, geI_eq, Bool.not_true, Bool.not_false, bf_tt, bf_tf, bf_ft, bf_ff, decide_true, decide_false, oneOf_1, oneOf_2, oneOf_3, thenV_n, thenV_e, thenV_r, exV_e, exV_r, Nat.beq_refl, eq_self, J7_r0]
noncomputable def stOf (o : Option (Value × St)) : St := Option.rec st0 (fun p => p.2) o
theorem of_parts {o : Option (Value × St)} (h : isTrue o = true) : o = some (.bool true, stOf o) := by
  obtain ⟨s', hs⟩ := isTrue_spec h
  rw [hs]
  rfl
theorem aw1 : isTrue (callN E 20001 8 [] st0) = true := by kernel_rfl
theorem aw2 : Nat.ble (stOf (callN E 20001 8 [] st0)).next 1000 = true := by kernel_rfl
theorem awake : ∃ s1, callN E 20001 8 [] st0 = some (.bool true, s1) ∧ s1.next ≤ 1000 := by
  have a := aw2
  rw [ble_eq', decide_eq_true_eq] at a
  exact ⟨_, of_parts aw1, a⟩
theorem lawLexBetween (b : ByteArray) (w : World) : Calls Try.prog 7 #[.string b] w fun e w' => e = .returned (.bool true) ∧ RowKit.Below w.heap.size w w' := by
  obtain ⟨s1, h1, h2⟩ := awake
  have hlim : lim = 1000000000 := rfl
  obtain ⟨s3, r1⟩ := r7 20001 (by omega) b.data.toList st0 s1 h1 (by omega)
  exact args_true (E := E) (n := 20001 + 1) (args := [.string b]) mixed exOk ⟨fnsOk, known⟩ rfl (by
    have r1 : callN E (20001 + 1) 7 [.string b] st0 = some (.bool true, s3) := r1
    rw [r1]; rfl) w
end Go.Proofs.Ytikdjhlcbkkkfaa.AbsLexO
