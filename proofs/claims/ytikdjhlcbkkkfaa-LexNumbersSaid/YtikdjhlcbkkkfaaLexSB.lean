import Derived.Test.YtikdjhlcbkkkfaaLexSA
namespace Go.Proofs.Ytikdjhlcbkkkfaa.AbsLexO
open Go Go.Abs Go.Proofs
set_option maxRecDepth 100000
set_option linter.unusedVariables false
set_option linter.unusedSimpArgs false

attribute [local congr] h_opt2 h_opt h_condV h_cond
/-! a word's contract -/
abbrev ptr (b : Nat) : Value := .pointer (some ⟨b, 0, none⟩)
theorem fin15 (b : Nat) (c : Blk) (u : St) (h : u.getC b = some c) (hc : c.length = 4) : finX [.cell t2 (some 4)] .ret ((PT.put (.pointer (some ⟨b, 0, none⟩)) t2 PT.nil), u) = some (aggOf c, u.seen b) := finc_u 4 b c t2 u h hc
theorem names_j (rec : Rec) (N a b : Nat) (kk : Int) (t : List UInt8) (u : St) (ha : u.getC a = some zw) (hb : u.getC b = some [.int .i64 kk, .string ⟨⟨t⟩⟩, .int .i64 0, .int .i64 0]) (ha40 : a + 1 < 1099511627776) :
    ∃ u', J15_j0 rec N ((.pointer (some ⟨a, 0, none⟩)), (.pointer (some ⟨b, 0, none⟩))) u = some (aggOf (bif decide (32 < t.length) then zw else [.int .i64 kk, .string ⟨⟨t⟩⟩, .int .i64 0, .int .i64 0]), u') ∧ u'.next = u.next ∧ ∀ y, y ≠ a → u'.getC y = u.getC y := by
  unfold J15_j0
  have hst : ∀ (w : St) (d : List Value), w.getC a = some zw → d.length = 4 → oStore 4 (.v (.pointer (some ⟨a, 0, none⟩))) (.v (aggOf d)) rec PT.nil w = some (UV, w.set a (some d)) := fun w d hw hd => storeall_u 4 a d zw _ _ w hw rfl hd
  by_cases h : 32 < t.length
  · have e1 : decide ((32 : Int) < (t.length : Int)) = true := decide_eq_true (by omega)
    rw [decide_eq_true h, cond_true]
    have hs1 := hst (u.seen b) zw ((seen_getC _ _ _).trans ha) rfl
    have hf := fin15 a zw ((u.seen b).set a (some zw)) (set_same _ _ _ ha40 rfl) rfl
    refine ⟨((u.seen b).set a (some zw)).seen a, ?_, by rw [St.seen_next, set_next, St.seen_next], fun y hy => by rw [seen_getC, set_ne _ _ _ _ ha40 hy, seen_getC]⟩
    simp only [es, cond_true, cond_false, eq_self, fieldAddr_e, Nat.zero_add, load_u, hb, lenS_u, e1, build0, hs1, hf]
  · have e1 : decide ((32 : Int) < (t.length : Int)) = false := decide_eq_false (by omega)
    rw [decide_eq_false h, cond_false]
    have hl := loadn_u 4 b 0 [.int .i64 kk, .string ⟨⟨t⟩⟩, .int .i64 0, .int .i64 0] rec PT.nil (u.seen b) ((seen_getC _ _ _).trans hb) (by show 0 + 4 ≤ 4; omega)
    have hl : oLoadN 4 (.v (.pointer (some ⟨b, 0, none⟩))) rec PT.nil (u.seen b) = some (aggOf [.int .i64 kk, .string ⟨⟨t⟩⟩, .int .i64 0, .int .i64 0], (u.seen b).seen b) := hl
    have hs1 := hst ((u.seen b).seen b) [.int .i64 kk, .string ⟨⟨t⟩⟩, .int .i64 0, .int .i64 0] (by rw [seen_getC, seen_getC]; exact ha) rfl
    have hf := fin15 a [.int .i64 kk, .string ⟨⟨t⟩⟩, .int .i64 0, .int .i64 0] (((u.seen b).seen b).set a (some [.int .i64 kk, .string ⟨⟨t⟩⟩, .int .i64 0, .int .i64 0])) (set_same _ _ _ ha40 rfl) rfl
    refine ⟨(((u.seen b).seen b).set a (some [.int .i64 kk, .string ⟨⟨t⟩⟩, .int .i64 0, .int .i64 0])).seen a, ?_, ?_, ?_⟩
    · simp only [es, cond_true, cond_false, eq_self, fieldAddr_e, Nat.zero_add, load_u, hb, lenS_u, e1, hl, hs1, hf]
    · rw [St.seen_next, set_next, St.seen_next, St.seen_next]
    · intro y hy
      rw [seen_getC, set_ne _ _ _ _ ha40 hy, seen_getC, seen_getC]
/-- how numbers of a kind are read -/
def Reads (M : Nat) (l : List UInt8) (kk : Int) (p : Nat × Int) : Prop := ∀ s : St, s.next + 3 ≤ lim → ∃ s', callN E M 31 [.string ⟨⟨l⟩⟩, .int .i64 kk] s = some (tupOf [.int .i64 (p.1 : Int), .int .i64 p.2], s') ∧ Grew 3 s s'
theorem dig_yes (M N : Nat) (l : List UInt8) (wb nb c i : Nat) (kk : Int) (p : Nat × Int) (cells : Blk) (u : St) (hi : i < 3) (hat : nth cells (i * 1) = some (.int .i64 kk)) (hg : u.getC nb = some cells) (hw : u.getC wb = some zw) (hwb : wb + 1 < 1099511627776) (hwn : wb < u.next)
    (hr : Reads M l kk p) (hr' : Reads (M + 1) l kk p) (hp : 0 < p.1) (hpl : p.1 ≤ l.length) (hs : u.next + 7 ≤ lim) :
    ∃ v u', B15_l0 (callN E (M + 1)) N ((.string ⟨⟨l⟩⟩), (.pointer (some ⟨wb, 0, none⟩)), (.slice (some ⟨nb, 0, none⟩) 3 c), (.int .i64 3)) (.int .i64 (i : Int)) u = some (.ret, (v, u')) ∧ u'.getC wb = some (madeC kk l p.1 p.2) ∧ u.next ≤ u'.next ∧ u'.next ≤ u.next + 7 ∧ ∀ y, y < u.next → y ≠ wb → u'.getC y = u.getC y := by
  have e1 : decide ((i : Int) < 3) = true := decide_eq_true (by omega)
  have e2 : decide (0 < (p.1 : Int)) = true := decide_eq_true (by omega)
  obtain ⟨u1, n1, g1⟩ := hr' (u.seen nb) (by rw [St.seen_next]; omega)
  have g1n := g1.2.1
  rw [St.seen_next] at g1n
  obtain ⟨u2, n2, g2⟩ := r29 M l kk p.1 p.2 hpl u1 (by omega) hr
  have g12 := g1.trans g2
  have hw2 : u2.getC wb = some zw := g12.get ((seen_getC _ _ _).trans hw) (by rw [St.seen_next]; exact hwn)
  have hst := storeall_u 4 wb (madeC kk l p.1 p.2) zw (callN E (M + 1)) PT.nil u2 hw2 rfl (madeC_len _ _ _ _)
  have a1 := g12.1
  have a2 := g12.2.1
  rw [St.seen_next] at a1 a2
  refine ⟨.int .i64 (i : Int), u2.set wb (some (madeC kk l p.1 p.2)), ?_, set_same _ _ _ hwb (madeC_map _ _ _ _), by rw [set_next]; exact a1, by rw [set_next]; omega, fun y hy hy2 => ?_⟩
  rotate_left
  · rw [set_ne _ _ _ _ hwb hy2, g12.2.2 y (by rw [St.seen_next]; exact hy), seen_getC]
  · rw [B15_l0]
    simp (disch := omega) only [es, cond_true, cond_false, eq_self, e1, idxL0_u, load_u, hg, hat, n1, e2, n2, hst]
theorem dig_no (M N : Nat) (l : List UInt8) (wb nb c i : Nat) (kk : Int) (p : Nat × Int) (cells : Blk) (u : St) (hi : i < 3) (hat : nth cells (i * 1) = some (.int .i64 kk)) (hg : u.getC nb = some cells)
    (hr : Reads M l kk p) (hp : ¬ 0 < p.1) (hs : u.next + 3 ≤ lim) :
    ∃ u', B15_l0 (callN E M) N ((.string ⟨⟨l⟩⟩), (.pointer (some ⟨wb, 0, none⟩)), (.slice (some ⟨nb, 0, none⟩) 3 c), (.int .i64 3)) (.int .i64 (i : Int)) u = some (.norm, ((.int .i64 ((i + 1 : Nat) : Int)), u')) ∧ Grew 3 u u' := by
  have e1 : decide ((i : Int) < 3) = true := decide_eq_true (by omega)
  have e2 : decide (0 < (p.1 : Int)) = false := decide_eq_false (by omega)
  have ha : int2 addO (.int .i64 (i : Int)) (.int .i64 1) = some (.int .i64 ((i + 1 : Nat) : Int)) := by rw [add_e _ _ (by omega) (by omega)]; rfl
  obtain ⟨u1, n1, g1⟩ := hr (u.seen nb) (by rw [St.seen_next]; omega)
  refine ⟨u1, ?_, by rw [← St.seen_next u nb]; exact g1.1, by rw [← St.seen_next u nb]; exact g1.2.1, fun y hy => (g1.2.2 y (by rw [St.seen_next]; exact hy)).trans (seen_getC _ _ _)⟩
  rw [B15_l0]
  simp (disch := omega) only [es, cond_true, cond_false, eq_self, e1, idxL0_u, load_u, hg, hat, n1, e2, ha]
end Go.Proofs.Ytikdjhlcbkkkfaa.AbsLexO
namespace Go.Proofs.Ytikdjhlcbkkkfaa.AbsLexO
open Go Go.Abs Go.Proofs
set_option maxRecDepth 100000
set_option linter.unusedVariables false
set_option linter.unusedSimpArgs false

attribute [local congr] h_opt2 h_opt h_condV h_cond
/-- memory of which one block may be another one -/
def But (a k : Nat) (u u' : St) : Prop := u.next ≤ u'.next ∧ u'.next ≤ u.next + k ∧ ∀ y, y < u.next → y ≠ a → u'.getC y = u.getC y
theorem But.seen {a k : Nat} {u u' : St} (h : But a k u u') (x : Nat) : But a k u (u'.seen x) := ⟨by rw [St.seen_next]; exact h.1, by rw [St.seen_next]; exact h.2.1, fun y h1 h2 => (seen_getC _ _ _).trans (h.2.2 y h1 h2)⟩
theorem But.trans {a j k : Nat} {u v w : St} (h : But a j u v) (g : But a k v w) : But a (j + k) u w :=
  ⟨Nat.le_trans h.1 g.1, by have := h.2.1; have := g.2.1; omega, fun y h1 h2 => (g.2.2 y (Nat.lt_of_lt_of_le h1 h.1) h2).trans (h.2.2 y h1 h2)⟩
theorem But.of {a k : Nat} {u v : St} (h : Grew k u v) : But a k u v := ⟨h.1, h.2.1, fun y h1 _ => h.2.2 y h1⟩
theorem But.fresh {k : Nat} {s u : St} (c : Blk) (hs : s.next ≤ lim) (h : But s.next k (al s c) u) : Grew (k + 1) s u := by
  have h1 := h.1
  have h2 := h.2.1
  rw [al_next _ _ hs] at h1 h2
  exact ⟨by omega, by omega, fun y hy => (h.2.2 y (by rw [al_next _ _ hs]; omega) (by omega)).trans (al_ne _ _ _ hs (by omega))⟩
def sgC (l : List UInt8) : List Value := match findS l SG with
  | some w => [.int .i64 7, .string ⟨⟨w⟩⟩, .int .i64 0, .int .i64 0]
  | none => zw
theorem signs_j (M : Nat) (hM : 10000 ≤ M) (l : List UInt8) (a : Nat) (u : St) (ha : u.getC a = some zw) (han : a < u.next) (hs : u.next + 1 ≤ lim) :
    ∃ u', J15_r1 (callN E M) M ((.string ⟨⟨l⟩⟩), (.pointer (some ⟨a, 0, none⟩))) u = some (aggOf (sgC l), u') ∧ But a 1 u u' := by
  have hlim : lim = 1000000000 := rfl
  obtain ⟨M, rfl⟩ : ∃ m, M = m + 2 := ⟨M - 2, by omega⟩
  obtain ⟨e, v, u', q1, q2, q3, q4⟩ := sign_l M (M + 2) u.next 20 a (by omega) (by omega) SG (by decide) l SG 0 (M + 2) (al u (strV SG)) rfl (by decide) (by show 20 < M + 2; omega) (al_same u _ (by omega) rfl) ((al_ne u _ a (by omega) (by omega)).trans ha)
  have q1 : loopV (B15_l1 (callN E (M + 2)) (M + 2) ((.string ⟨⟨l⟩⟩), (.pointer (some ⟨a, 0, none⟩)), (.slice (some ⟨u.next, 0, none⟩) 20 20), (.int .i64 ((20 : Nat) : Int)))) (M + 2) (.int .i64 0) (al u (strV SG)) = some (e, (v, u')) := q1
  have q2 := q2
  rw [al_next _ _ (by omega)] at q2
  have hb : But a 1 u u' := ⟨by omega, by omega, fun y hy hy2 => (q3 y hy2).trans (al_ne _ _ _ (by omega) (by omega))⟩
  have h32 := r32 (M + 1) u (by omega)
  unfold J15_r1
  simp only [es, cond_true, cond_false, eq_self, h32, lenL_e, q1]
  unfold C15_l1 sgC
  rcases q4 with ⟨w, hw, rfl, hc⟩ | ⟨hw, rfl, hc⟩
  · rw [hw]
    have hf := fin15 a _ u' hc rfl
    exact ⟨u'.seen a, by simp only [es, cond_true, cond_false, eq_self, hf], hb.seen a⟩
  · rw [hw]
    have hst := storeall_u 4 a zw zw (callN E (M + 2)) PT.nil u' hc rfl rfl
    have hf := fin15 a zw (u'.set a (some zw)) (set_same _ _ _ (by omega) rfl) rfl
    refine ⟨(u'.set a (some zw)).seen a, ?_, ?_⟩
    · simp only [es, cond_true, cond_false, eq_self]
      unfold J15_r0
      simp only [es, cond_true, cond_false, eq_self, build0, hst, hf]
    · refine But.seen ⟨by rw [set_next]; exact hb.1, by rw [set_next]; exact hb.2.1, fun y hy hy2 => ?_⟩ a
      rw [set_ne _ _ _ _ (by omega) hy2]
      exact hb.2.2 y hy hy2
/-- one of the three kinds of numbers that begin with a digit -/
def digW (rd : List UInt8 → Int × Bool) (l : List UInt8) : Int × Nat × Int := bif decide (0 < (dayF rd l).1) then mkW 6 (dayF rd l) else bif decide (0 < (rateF l).1) then mkW 5 (rateF l) else mkW 3 (cntN l)
theorem rtE_lt {l : List UInt8} (h : 0 < (rateF l).1) : (rateF l).1 ≤ l.length := by
  unfold rateF at h ⊢
  cases hn : decide (cntF isD l = 0)
  · rw [hn, cond_false] at h
    rw [cond_false]
    by_cases hh : (l.drop (rtE l)).head? = some 37
    · rw [decide_eq_true hh, cond_true]
      show rtE l + 1 ≤ l.length
      cases hd : l.drop (rtE l) with
      | nil => rw [hd] at hh; cases hh
      | cons c r =>
        have := congrArg List.length hd
        rw [List.length_drop, List.length_cons] at this
        omega
    · rw [decide_eq_false hh, cond_false] at h
      exact absurd h (by decide)
  · rw [hn, cond_true] at h
    exact absurd h (by decide)
theorem dayF_le {rd : List UInt8 → Int × Bool} {l : List UInt8} : (dayF rd l).1 ≤ l.length := by
  unfold dayF
  by_cases h : l.length < 10
  · rw [decide_eq_true h, Bool.true_or, cond_true]; exact Nat.zero_le _
  · rw [decide_eq_false h, Bool.false_or]
    cases nextD l
    · cases (rd (l.take 10)).2
      · exact Nat.zero_le _
      · show 10 ≤ l.length; omega
    · exact Nat.zero_le _
theorem dig_all {rd : List UInt8 → Int × Bool} (hrd : Rd rd) (M : Nat) (hM : 10020 ≤ M) (l : List UInt8) (hl : l.length ≤ 8999) (hd : 0 < cntF isD l) (a : Nat) (u : St) (ha : u.getC a = some zw) (han : a < u.next) (hs : u.next + 20 ≤ lim) :
    ∃ u', opt2 (loopV (B15_l0 (callN E M) M ((.string ⟨⟨l⟩⟩), (.pointer (some ⟨a, 0, none⟩)), (.slice (some ⟨u.next, 0, none⟩) 3 3), (.int .i64 3))) M (.int .i64 0) (al u [.int .i64 6, .int .i64 5, .int .i64 3])) (C15_l0 (callN E M) M ((.string ⟨⟨l⟩⟩), (.pointer (some ⟨a, 0, none⟩)), (.slice (some ⟨u.next, 0, none⟩) 3 3), (.int .i64 3))) = some (aggOf (wcell l (digW rd l)), u') ∧ But a 16 u u' := by
  have hlim : lim = 1000000000 := rfl
  obtain ⟨M, rfl⟩ : ∃ m, M = m + 3 := ⟨M - 3, by omega⟩
  have R6 : ∀ M', 10015 ≤ M' → Reads M' l 6 (dayF rd l) := fun M' h s hs => by
    obtain ⟨m, rfl⟩ : ∃ m, M' = m + 1 := ⟨M' - 1, by omega⟩
    exact r31_6 hrd m (by omega) l (by omega) s hs
  have R5 : ∀ M', 10015 ≤ M' → Reads M' l 5 (rateF l) := fun M' h s hs => by
    obtain ⟨m, rfl⟩ : ∃ m, M' = m + 1 := ⟨M' - 1, by omega⟩
    exact r31_5 m (by omega) l (by omega) s hs
  have R3 : ∀ M', 10015 ≤ M' → Reads M' l 3 (cntN l) := fun M' h s hs => by
    obtain ⟨m, rfl⟩ : ∃ m, M' = m + 1 := ⟨M' - 1, by omega⟩
    exact r31_3 m (by omega) l (by omega) s hs
  obtain ⟨u1, hu1⟩ : ∃ u1, al u [.int .i64 6, .int .i64 5, .int .i64 3] = u1 := ⟨_, rfl⟩
  have hg1 : u1.getC u.next = some [.int .i64 6, .int .i64 5, .int .i64 3] := by rw [← hu1]; exact al_same u _ (by omega) rfl
  have hw1 : u1.getC a = some zw := by rw [← hu1]; exact (al_ne u _ a (by omega) (by omega)).trans ha
  have n1 : u1.next = u.next + 1 := by rw [← hu1]; exact al_next u _ (by omega)
  have b1 : But a 1 u u1 := by rw [← hu1]; exact But.of ((Grew.refl u).al _ (by omega))
  rw [hu1]
  have fin : ∀ (kk : Int) (p : Nat × Int) (j : Nat) (v : Value) (w w' : St), kk ≠ 0 → j ≤ 9 → But a j u w → w'.getC a = some (madeC kk l p.1 p.2) → w.next ≤ w'.next → w'.next ≤ w.next + 7 → (∀ y, y < w.next → y ≠ a → w'.getC y = w.getC y) →
      ∃ u', C15_l0 (callN E (M + 3)) (M + 3) ((.string ⟨⟨l⟩⟩), (.pointer (some ⟨a, 0, none⟩)), (.slice (some ⟨u.next, 0, none⟩) 3 3), (.int .i64 3)) .ret (v, w') = some (aggOf (wcell l (mkW kk p)), u') ∧ But a 16 u u' := by
    intro kk p j v w w' hk hj hb hc h1 h2 h3
    have hf := fin15 a _ w' hc (madeC_len _ _ _ _)
    have hb2 : But a 7 w w' := ⟨h1, h2, h3⟩
    have hb3 := (hb.trans hb2).seen a
    refine ⟨w'.seen a, ?_, hb3.1, by have := hb3.2.1; omega, hb3.2.2⟩
    unfold C15_l0
    simp only [es, cond_true, cond_false, eq_self, hf]
    rw [wcell_mk l kk p hk]
  have b1n := b1.2.1
  unfold digW
  rw [loopV_s]
  by_cases h6 : 0 < (dayF rd l).1
  · rw [decide_eq_true h6, cond_true]
    obtain ⟨v, w', q1, q2, q3, q4, q5⟩ := dig_yes (M + 2) (M + 3) l a u.next 3 0 6 (dayF rd l) _ u1 (by omega) rfl hg1 hw1 (by omega) (by omega) (R6 _ (by omega)) (R6 _ (by omega)) h6 dayF_le (by omega)
    have q1 : B15_l0 (callN E (M + 3)) (M + 3) ((.string ⟨⟨l⟩⟩), (.pointer (some ⟨a, 0, none⟩)), (.slice (some ⟨u.next, 0, none⟩) 3 3), (.int .i64 3)) (.int .i64 0) u1 = some (.ret, (v, w')) := q1
    rw [q1, op2_s, thenV_r, op2_s]
    exact fin 6 _ 1 v u1 w' (by decide) (by omega) b1 q2 q3 q4 q5
  rw [decide_eq_false h6, cond_false]
  obtain ⟨u2, q1, g1⟩ := dig_no (M + 3) (M + 3) l a u.next 3 0 6 (dayF rd l) _ u1 (by omega) rfl hg1 (R6 _ (by omega)) h6 (by omega)
  have q1 : B15_l0 (callN E (M + 3)) (M + 3) ((.string ⟨⟨l⟩⟩), (.pointer (some ⟨a, 0, none⟩)), (.slice (some ⟨u.next, 0, none⟩) 3 3), (.int .i64 3)) (.int .i64 0) u1 = some (.norm, ((.int .i64 ((0 + 1 : Nat) : Int)), u2)) := q1
  have hg2 := g1.get hg1 (by omega)
  have hw2 := g1.get hw1 (by omega)
  have b2 := b1.trans (But.of g1)
  have g1n := g1.2.1
  rw [q1, op2_s, thenV_n, loopV_s]
  by_cases h5 : 0 < (rateF l).1
  · rw [decide_eq_true h5, cond_true]
    obtain ⟨v, w', q1, q2, q3, q4, q5⟩ := dig_yes (M + 2) (M + 3) l a u.next 3 1 5 (rateF l) _ u2 (by omega) rfl hg2 hw2 (by omega) (by have := g1.1; omega) (R5 _ (by omega)) (R5 _ (by omega)) h5 (rtE_lt h5) (by omega)
    rw [q1, op2_s, thenV_r, op2_s]
    exact fin 5 _ _ v u2 w' (by decide) (by omega) b2 q2 q3 q4 q5
  rw [decide_eq_false h5, cond_false]
  obtain ⟨u3, q2, g2⟩ := dig_no (M + 3) (M + 3) l a u.next 3 1 5 (rateF l) _ u2 (by omega) rfl hg2 (R5 _ (by omega)) h5 (by omega)
  have hg3 := g2.get hg2 (by have := g1.1; omega)
  have hw3 := g2.get hw2 (by have := g1.1; omega)
  have b3 := b2.trans (But.of g2)
  have g2n := g2.2.1
  rw [q2, op2_s, thenV_n, loopV_s]
  obtain ⟨v, w', q1, q2, q3, q4, q5⟩ := dig_yes (M + 2) (M + 3) l a u.next 3 2 3 (cntN l) _ u3 (by omega) rfl hg3 hw3 (by omega) (by have := g1.1; have := g2.1; omega) (R3 _ (by omega)) (R3 _ (by omega)) hd (cntF_le _ _) (by omega)
  rw [q1, op2_s, thenV_r, op2_s]
  exact fin 3 _ _ v u3 w' (by decide) (by omega) b3 q2 q3 q4 q5
end Go.Proofs.Ytikdjhlcbkkkfaa.AbsLexO
namespace Go.Proofs.Ytikdjhlcbkkkfaa.AbsLexO
open Go Go.Abs Go.Proofs
set_option maxRecDepth 100000
set_option linter.unusedVariables false
set_option linter.unusedSimpArgs false

attribute [local congr] h_opt2 h_opt h_condV h_cond
theorem wcell_names (rd : List UInt8 → Int × Bool) (b : UInt8) (t : List UInt8) (h : isL b = true) (kk : Int) (hk : kk = bif keptF ((b :: t).take (cntF isN (b :: t))) then 2 else 1) :
    wcell (b :: t) (wordF rd (b :: t)) = (bif decide (32 < ((b :: t).take (cntF isN (b :: t))).length) then zw else [.int .i64 kk, .string ⟨⟨(b :: t).take (cntF isN (b :: t))⟩⟩, .int .i64 0, .int .i64 0]) := by
  have e : wordF rd (b :: t) = (bif decide (32 < cntF isN (b :: t)) then W0 else (bif keptF ((b :: t).take (cntF isN (b :: t))) then 2 else 1, cntF isN (b :: t), 0)) := by
    show (bif isL b then _ else _) = _
    rw [h]; rfl
  have hle := cntF_le isN (b :: t)
  rw [e, List.length_take, Nat.min_eq_left hle]
  cases decide (32 < cntF isN (b :: t))
  · rw [cond_false, cond_false, ← hk]
    unfold wcell
    have : decide ((kk, cntF isN (b :: t), (0 : Int)).1 = 0) = false := by
      apply decide_eq_false
      show ¬ kk = 0
      rw [hk]
      cases keptF ((b :: t).take (cntF isN (b :: t))) <;> decide
    rw [this]; rfl
  · rfl
theorem r15 {rd : List UInt8 → Int × Bool} (hrd : Rd rd) (M : Nat) (hM : 10030 ≤ M) (b : UInt8) (t : List UInt8) (hl : t.length ≤ 8990) (s : St) (hs : s.next + 30 ≤ lim) :
    ∃ s', callN E (M + 1) 15 [.string ⟨⟨b :: t⟩⟩] s = some (aggOf (wcell (b :: t) (wordF rd (b :: t))), s') ∧ Grew 20 s s' := by
  have hlim : lim = 1000000000 := rfl
  obtain ⟨M, rfl⟩ : ∃ m, M = m + 3 := ⟨M - 3, by omega⟩
  have hnew := new_u zw (callN E (M + 3)) PT.nil s (by omega)
  obtain ⟨s1, hs1⟩ : ∃ s1, al s zw = s1 := ⟨_, rfl⟩
  have ha1 : s1.getC s.next = some zw := by rw [← hs1]; exact al_same s _ (by omega) rfl
  have n1 : s1.next = s.next + 1 := by rw [← hs1]; exact al_next s _ (by omega)
  have fresh : ∀ (k : Nat) (u : St), But s.next k s1 u → k + 1 ≤ 20 → Grew 20 s u := fun k u h hk => (But.fresh zw (by omega) (by rw [hs1]; exact h)).mono hk
  have hlen : (b :: t).length ≤ 8999 := by simp; omega
  rw [x15]; unfold F15
  rw [hs1] at hnew
  cases hL : isL b with
  | true =>
    have hcnt := cntF_le isN (b :: t)
    have hw : ∀ s, callN E (M + 3) 25 [.string ⟨⟨b :: t⟩⟩, .func (.func 28) #[] #[]] s = some (.int .i64 (cntF isN (b :: t) : Int), s) := fun s => r25 (M + 2) (by omega) 28 isN (fun b s => r28 M b s) (b :: t) (by omega) s
    have hsl : ∀ s, oSliceS (.v (.string ⟨⟨b :: t⟩⟩)) none (some (.v (.int .i64 (cntF isN (b :: t) : Int)))) (callN E (M + 3)) PT.nil s = some (.string ⟨⟨(b :: t).take (cntF isN (b :: t))⟩⟩, s) := fun s => slS_hi _ _ hcnt _ s
    have hcell := wcell_names rd b t hL
    obtain ⟨x, hx⟩ : ∃ x, (b :: t).take (cntF isN (b :: t)) = x := ⟨_, rfl⟩
    rw [hx] at hsl hcell
    have hnew2 := new_u zw (callN E (M + 3)) PT.nil s1 (by omega)
    obtain ⟨s2, hs2⟩ : ∃ s2, al s1 zw = s2 := ⟨_, rfl⟩
    rw [hs2] at hnew2
    have hz2 : s2.getC s1.next = some zw := by rw [← hs2]; exact al_same s1 _ (by omega) rfl
    have ha2 : s2.getC s.next = some zw := by rw [← hs2]; exact (al_ne s1 _ _ (by omega) (by omega)).trans ha1
    have n2 : s2.next = s1.next + 1 := by rw [← hs2]; exact al_next s1 _ (by omega)
    have b2 : But s.next 1 s1 s2 := by rw [← hs2]; exact But.of ((Grew.refl s1).al _ (by omega))
    have hst := storeall_u 4 s1.next [.int .i64 1, .string ⟨⟨x⟩⟩, .int .i64 0, .int .i64 0] zw (callN E (M + 3)) PT.nil s2 hz2 rfl rfl
    obtain ⟨s3, hs3⟩ : ∃ s3, s2.set s1.next (some [.int .i64 1, .string ⟨⟨x⟩⟩, .int .i64 0, .int .i64 0]) = s3 := ⟨_, rfl⟩
    rw [hs3] at hst
    have hz3 : s3.getC s1.next = some [.int .i64 1, .string ⟨⟨x⟩⟩, .int .i64 0, .int .i64 0] := by rw [← hs3]; exact set_same _ _ _ (by omega) rfl
    have o3 : ∀ y, y ≠ s1.next → s3.getC y = s2.getC y := fun y hy => by rw [← hs3]; exact set_ne _ _ _ _ (by omega) hy
    have n3 : s3.next = s2.next := by rw [← hs3]; exact set_next _ _ _
    have b3 : But s.next 1 s1 s3 := ⟨by omega, by omega, fun y h1 h2 => (o3 y (by omega)).trans (b2.2.2 y h1 h2)⟩
    simp only [es, cond_true, cond_false, eq_self, hnew, idxS_0, r27, hL, hw, hsl, build2, hnew2, hst, fieldAddr_e, Nat.zero_add, load_u, hz3, r12]
    cases hk : keptF x with
    | false =>
      rw [hk] at hcell
      obtain ⟨u', q1, q2, q3⟩ := names_j (callN E (M + 3)) (M + 3) s.next s1.next 1 x (s3.seen s1.next) (by rw [seen_getC, o3 _ (by omega)]; exact ha2) (by rw [seen_getC]; exact hz3) (by omega)
      refine ⟨u', ?_, fresh 1 u' ⟨by rw [q2, St.seen_next]; omega, by rw [q2, St.seen_next]; omega, fun y h1 h2 => by rw [q3 y h2, seen_getC]; exact b3.2.2 y h1 h2⟩ (by omega)⟩
      simp only [es, cond_true, cond_false, eq_self, hk]
      rw [hcell 1 rfl]
      exact q1
    | true =>
      rw [hk] at hcell
      have hst4 : oStore 1 (.v (.pointer (some ⟨s1.next, 0, none⟩))) (.v (.int .i64 2)) (callN E (M + 3)) PT.nil (s3.seen s1.next) = some (UV, (s3.seen s1.next).set s1.next (some [.int .i64 2, .string ⟨⟨x⟩⟩, .int .i64 0, .int .i64 0])) :=
        store1_u s1.next 0 (.int .i64 2) [.int .i64 1, .string ⟨⟨x⟩⟩, .int .i64 0, .int .i64 0] _ _ _ rfl (by rw [seen_getC]; exact hz3) (by show 0 < 4; omega)
      obtain ⟨s4, hs4⟩ : ∃ s4, (s3.seen s1.next).set s1.next (some [.int .i64 2, .string ⟨⟨x⟩⟩, .int .i64 0, .int .i64 0]) = s4 := ⟨_, rfl⟩
      rw [hs4] at hst4
      have hz4 : s4.getC s1.next = some [.int .i64 2, .string ⟨⟨x⟩⟩, .int .i64 0, .int .i64 0] := by rw [← hs4]; exact set_same _ _ _ (by omega) rfl
      have o4 : ∀ y, y ≠ s1.next → s4.getC y = s3.getC y := fun y hy => by rw [← hs4]; exact (set_ne _ _ _ _ (by omega) hy).trans (seen_getC _ _ _)
      have n4 : s4.next = s3.next := by rw [← hs4, set_next, St.seen_next]
      obtain ⟨u', q1, q2, q3⟩ := names_j (callN E (M + 3)) (M + 3) s.next s1.next 2 x s4 (by rw [o4 _ (by omega), o3 _ (by omega)]; exact ha2) hz4 (by omega)
      refine ⟨u', ?_, fresh 1 u' ⟨by omega, by omega, fun y h1 h2 => by rw [q3 y h2, o4 y (by omega)]; exact b3.2.2 y h1 h2⟩ (by omega)⟩
      simp only [es, cond_true, cond_false, eq_self, hk, hst4]
      rw [hcell 2 rfl]
      exact q1
  | false =>
    by_cases h36 : (b.toNat : Int) = 36
    · have hb : b = 36 := UInt8.toNat_inj.1 (by have e : (36 : UInt8).toNat = 36 := rfl; rw [e]; omega)
      subst hb
      have hle : (moneyF t).1 ≤ (36 :: t).length := by
        have hk := cntF_le isD t
        unfold moneyF
        by_cases h0 : cntF isD t = 0
        · rw [decide_eq_true h0]; exact Nat.zero_le _
        · rw [decide_eq_false h0, cond_false]
          by_cases h2 : plF 2 (t.drop (cntF isD t)) = 2
          · rw [decide_eq_true h2, cond_true]
            show 1 + cntF isD t + 3 ≤ t.length + 1
            obtain ⟨r, hr, hc, _⟩ := plF_two (n := 1) h2
            have h3 := cntF_le isD r
            have h4 := congrArg List.length hr
            rw [List.length_drop, List.length_cons] at h4
            omega
          · rw [decide_eq_false h2, cond_false]
            show 1 + cntF isD t ≤ t.length + 1
            omega
      obtain ⟨s2, m1, g1⟩ := r29 (M + 2) (36 :: t) 4 (moneyF t).1 (moneyF t).2 hle s1 (by omega) (fun s hs => r31_4 (M + 1) (by omega) t (by omega) s hs)
      have hst := storeall_u 4 s.next (madeC 4 (36 :: t) (moneyF t).1 (moneyF t).2) zw (callN E (M + 3)) PT.nil s2 (g1.get ha1 (by omega)) rfl (madeC_len _ _ _ _)
      have g1n := g1.2.1
      have hf := fin15 s.next (madeC 4 (36 :: t) (moneyF t).1 (moneyF t).2) (s2.set s.next (some (madeC 4 (36 :: t) (moneyF t).1 (moneyF t).2))) (set_same _ _ _ (by omega) (madeC_map _ _ _ _)) (madeC_len _ _ _ _)
      have e1 : decide (((36 : UInt8).toNat : Int) = 36) = true := rfl
      refine ⟨(s2.set s.next (some (madeC 4 (36 :: t) (moneyF t).1 (moneyF t).2))).seen s.next, ?_, fresh 4 _ (But.seen ⟨by rw [set_next]; exact g1.1, by rw [set_next]; exact g1.2.1, fun y h1 h2 => (set_ne s2 s.next y _ (by omega) h2).trans (g1.2.2 y h1)⟩ s.next) (by omega)⟩
      simp only [es, cond_true, cond_false, eq_self, hnew, idxS_0, r27, hL, e1, m1, hst, hf]
      have e : wordF rd (36 :: t) = mkW 4 (moneyF t) := by
        unfold wordF
        simp only [hL, cond_false]
        rfl
      rw [e, wcell_mk (36 :: t) 4 (moneyF t) (by decide)]
    have e1 : decide ((b.toNat : Int) = 36) = false := decide_eq_false h36
    cases hD : isD b with
    | true =>
      have hcd : 0 < cntF isD (b :: t) := by rw [cntF_c, hD, cond_true]; omega
      obtain ⟨u', q1, q2⟩ := dig_all hrd (M + 3) (by omega) (b :: t) hlen hcd s.next s1 ha1 (by omega) (by omega)
      have hbs : oBuildSlice 3 [(.int .i64 0), (.int .i64 0), (.int .i64 0)] [(0, 1, (.v (.int .i64 6))), (1, 1, (.v (.int .i64 5))), (2, 1, (.v (.int .i64 3)))] (callN E (M + 3)) PT.nil s1 = some (.slice (some ⟨s1.next, 0, none⟩) 3 3, al s1 [.int .i64 6, .int .i64 5, .int .i64 3]) := bs_u 3 _ _ _ _ s1 (by kernel_rfl) (by omega)
      refine ⟨u', ?_, fresh 16 u' q2 (by omega)⟩
      simp only [es, cond_true, cond_false, eq_self, hnew, idxS_0, r27, hL, e1, r30, hD, hbs, lenL_e]
      have e : wordF rd (b :: t) = digW rd (b :: t) := by
        show (bif isL b then _ else bif decide ((b.toNat : Int) = 36) then _ else bif isD b then digW rd (b :: t) else _) = _
        rw [hL, e1, hD]; rfl
      rw [e]
      exact q1
    | false =>
      obtain ⟨u', q1, q2⟩ := signs_j (M + 3) (by omega) (b :: t) s.next s1 ha1 (by omega) (by omega)
      refine ⟨u', ?_, fresh 1 u' q2 (by omega)⟩
      simp only [es, cond_true, cond_false, eq_self, hnew, idxS_0, r27, hL, e1, r30, hD]
      have e : wcell (b :: t) (wordF rd (b :: t)) = sgC (b :: t) := by
        have : wordF rd (b :: t) = (match findS (b :: t) SG with
          | some w => (7, w.length, 0)
          | none => W0) := by
          show (bif isL b then _ else bif decide ((b.toNat : Int) = 36) then _ else bif isD b then _ else _) = _
          rw [hL, e1, hD]; rfl
        rw [this]
        unfold sgC
        cases hf : findS (b :: t) SG with
        | none => rfl
        | some w => exact wcell_sg _ w (findS_pre hf).1
      rw [e]
      exact q1
end Go.Proofs.Ytikdjhlcbkkkfaa.AbsLexO
namespace Go.Proofs.Ytikdjhlcbkkkfaa.AbsLexO
open Go Go.Abs Go.Proofs
set_option maxRecDepth 100000
set_option linter.unusedVariables false
set_option linter.unusedSimpArgs false

attribute [local congr] h_opt2 h_opt h_condV h_cond
/-! the whole text -/
/-- a word: its kind, its text, its number, its place -/
abbrev Wd := Int × List UInt8 × Int × Nat
def wv (w : Wd) : List Value := [.int .i64 w.1, .string ⟨⟨w.2.1⟩⟩, .int .i64 w.2.2.1, .int .i64 (w.2.2.2 : Int)]
def flat (l : List Wd) : List Value := l.flatMap wv
theorem flat_len (l : List Wd) : (flat l).length = l.length * 4 := by
  induction l with
  | nil => rfl
  | cons w l ih => show (wv w ++ flat l).length = _; rw [List.length_append, ih, List.length_cons, Nat.add_mul]; show 4 + _ = _; omega
theorem flat_c (w : Wd) (l : List Wd) : flat (w :: l) = wv w ++ flat l := rfl
theorem map_app (c : List Value) (w : Wd) (h : isMapB c = false) : isMapB (c ++ wv w) = false := by
  cases c with
  | nil => rfl
  | cons x c => exact h
/-- the words of a text, and where it fails -/
def cutF (rd : List UInt8 → Int × Bool) : Nat → Nat → List UInt8 → List Wd × Option Nat
  | 0, _, _ => ([], none)
  | n + 1, at_, r => match r with
    | [] => ([], none)
    | b :: t => bif decide ((wordF rd (b :: t)).1 = 0) then ([], some at_) else
      (((wordF rd (b :: t)).1, (b :: t).take (wordF rd (b :: t)).2.1, (wordF rd (b :: t)).2.2, at_) :: (cutF rd n (at_ + (wordF rd (b :: t)).2.1 + skF false ((b :: t).drop (wordF rd (b :: t)).2.1)) (((b :: t).drop (wordF rd (b :: t)).2.1).drop (skF false ((b :: t).drop (wordF rd (b :: t)).2.1)))).1,
        (cutF rd n (at_ + (wordF rd (b :: t)).2.1 + skF false ((b :: t).drop (wordF rd (b :: t)).2.1)) (((b :: t).drop (wordF rd (b :: t)).2.1).drop (skF false ((b :: t).drop (wordF rd (b :: t)).2.1)))).2)
theorem mkW_len {kk : Int} {p : Nat × Int} {m : Nat} (h : (mkW kk p).1 ≠ 0) (hm : p.1 ≤ m) : 0 < (mkW kk p).2.1 ∧ (mkW kk p).2.1 ≤ m := by
  unfold mkW at h ⊢
  by_cases h0 : p.1 = 0
  · rw [decide_eq_true h0, Bool.true_or] at h
    exact absurd rfl h
  · rw [decide_eq_false h0, Bool.false_or] at h ⊢
    cases hd : decide (p.2 < 0)
    · exact ⟨by show 0 < p.1; omega, hm⟩
    · rw [hd] at h; exact absurd rfl h
theorem moneyF_le (t : List UInt8) : (moneyF t).1 ≤ t.length + 1 := by
  have hk := cntF_le isD t
  unfold moneyF
  by_cases h0 : cntF isD t = 0
  · rw [decide_eq_true h0]; exact Nat.zero_le _
  · rw [decide_eq_false h0, cond_false]
    by_cases h2 : plF 2 (t.drop (cntF isD t)) = 2
    · rw [decide_eq_true h2, cond_true]
      show 1 + cntF isD t + 3 ≤ t.length + 1
      obtain ⟨r, hr, hc, _⟩ := plF_two (n := 1) h2
      have h3 := cntF_le isD r
      have h4 := congrArg List.length hr
      rw [List.length_drop, List.length_cons] at h4
      omega
    · rw [decide_eq_false h2, cond_false]
      show 1 + cntF isD t ≤ t.length + 1
      omega
theorem wordF_len {rd : List UInt8 → Int × Bool} {b : UInt8} {t : List UInt8} (h : (wordF rd (b :: t)).1 ≠ 0) : 0 < (wordF rd (b :: t)).2.1 ∧ (wordF rd (b :: t)).2.1 ≤ t.length + 1 := by
  unfold wordF at h ⊢
  dsimp only at h ⊢
  cases hL : isL b with
  | true =>
    rw [hL, cond_true] at h
    rw [cond_true]
    by_cases h32 : 32 < cntF isN (b :: t)
    · rw [decide_eq_true h32] at h; exact absurd rfl h
    · rw [decide_eq_false h32, cond_false]
      have hn : isN b = true := by unfold isN; rw [hL]; rfl
      exact ⟨by show 0 < cntF isN (b :: t); rw [cntF_c, hn, cond_true]; omega, cntF_le isN (b :: t)⟩
  | false =>
    rw [hL, cond_false] at h
    rw [cond_false]
    cases h36 : decide ((b.toNat : Int) = 36) with
    | true =>
      rw [h36, cond_true] at h
      rw [cond_true]
      exact mkW_len h (moneyF_le t)
    | false =>
      rw [h36, cond_false] at h
      rw [cond_false]
      cases hD : isD b with
      | true =>
        rw [hD, cond_true] at h
        rw [cond_true]
        by_cases h6 : 0 < (dayF rd (b :: t)).1
        · rw [decide_eq_true h6, cond_true] at h ⊢
          exact mkW_len h dayF_le
        · rw [decide_eq_false h6, cond_false] at h ⊢
          by_cases h5 : 0 < (rateF (b :: t)).1
          · rw [decide_eq_true h5, cond_true] at h ⊢
            exact mkW_len h (rtE_lt h5)
          · rw [decide_eq_false h5, cond_false] at h ⊢
            exact mkW_len h (cntF_le isD (b :: t))
      | false =>
        rw [hD, cond_false] at h
        rw [cond_false]
        cases hf : findS (b :: t) SG with
        | none => rw [hf] at h; exact absurd rfl h
        | some w =>
          have hp := findS_pre hf
          have hpre := hp.1
          unfold prefF at hpre
          rw [Bool.and_eq_true, decide_eq_true_eq, decide_eq_true_eq] at hpre
          refine ⟨?_, hpre.1⟩
          show 0 < w.length
          have : ∀ w ∈ SG, 0 < w.length := by decide
          exact this w hp.2
theorem wcell_yes {l : List UInt8} {w : Int × Nat × Int} (h : w.1 ≠ 0) : wcell l w = [.int .i64 w.1, .string ⟨⟨l.take w.2.1⟩⟩, .int .i64 w.2.2, .int .i64 0] := by
  unfold wcell; rw [decide_eq_false h]; rfl
theorem wcell_kind (l : List UInt8) (w : Int × Nat × Int) : nth (wcell l w) 0 = some (.int .i64 w.1) := by
  unfold wcell
  by_cases h : w.1 = 0
  · rw [decide_eq_true h, h]; rfl
  · rw [decide_eq_false h]; rfl
end Go.Proofs.Ytikdjhlcbkkkfaa.AbsLexO
namespace Go.Proofs.Ytikdjhlcbkkkfaa.AbsLexO
open Go Go.Abs Go.Proofs
set_option maxRecDepth 100000
set_option linter.unusedVariables false
set_option linter.unusedSimpArgs false

attribute [local congr] h_opt2 h_opt h_condV h_cond
theorem buildW (w : Wd) (rec : Rec) (s : St) (h : s.next ≤ lim) : oBuildSlice 1 zw [(0, 4, (.v (aggOf (wv w))))] rec PT.nil s = some (.slice (some ⟨s.next, 0, none⟩) 1 1, al s (wv w)) := bs_u 1 _ _ _ _ s (by kernel_rfl) h
theorem acc_set {es n : Nat} {s : St} {v : Value} {c : List Value} (h : Acc es s v n c) {s' : St} (hn : s.next ≤ s'.next) (hg : ∀ y, y < s.next → s'.getC y = s.getC y) : Acc es s' v n c :=
  h.keep hn fun y hy => hg y (h.lt hy)
/-- one word more, and its state -/
theorem cut_step {rd : List UInt8 → Int × Bool} (hrd : Rd rd) (M N : Nat) (hM : 10040 ≤ M) (l : List UInt8) (hl : l.length ≤ 8900) (b : UInt8) (t : List UInt8) (at_ : Nat) (hr : l.drop at_ = b :: t) (v1 v2 v3 v : Value) (u : St) (hs : u.next + 100 ≤ lim)
    (m : Nat) (c : List Value) (ha : Acc 4 u v m c) (hmap : isMapB c = false) (hm : m ≤ 9000) :
    ((wordF rd (b :: t)).1 = 0 ∧ ∃ w' u', B9_l0 (callN E M) N (.string ⟨⟨l⟩⟩) (v1, v2, v3, v, (.int .i64 (at_ : Int))) u = some (.ret, (w', u')) ∧ w'.1 = .slice none 0 0 ∧ w'.2.1 = .int .i64 (at_ : Int) ∧ w'.2.2.1 = .int .i64 7 ∧ Grew 30 u u') ∨
    ((wordF rd (b :: t)).1 ≠ 0 ∧ ∃ v' u', B9_l0 (callN E M) N (.string ⟨⟨l⟩⟩) (v1, v2, v3, v, (.int .i64 (at_ : Int))) u = some (.norm, ((v1, v2, v3, v', (.int .i64 ((at_ + (wordF rd (b :: t)).2.1 + skF false ((b :: t).drop (wordF rd (b :: t)).2.1) : Nat) : Int))), u')) ∧
      Acc 4 u' v' (m + 1) (c ++ wv ((wordF rd (b :: t)).1, (b :: t).take (wordF rd (b :: t)).2.1, (wordF rd (b :: t)).2.2, at_)) ∧ (∀ y, accB v' y → u.next ≤ y) ∧ u.next ≤ u'.next ∧ u'.next ≤ u.next + 30 ∧ ∀ y, y < u.next → ¬ accB v y → u'.getC y = u.getC y) := by
  have hlim : lim = 1000000000 := rfl
  obtain ⟨M, rfl⟩ : ∃ m, M = m + 1 := ⟨M - 1, by omega⟩
  have hlen : t.length + 1 + at_ = l.length := by
    have := congrArg List.length hr
    rw [List.length_drop, List.length_cons] at this
    omega
  have e1 : decide ((at_ : Int) < (l.length : Int)) = true := decide_eq_true (by omega)
  have hsl : ∀ s, oSliceS (.v (.string ⟨⟨l⟩⟩)) (some (.v (.int .i64 (at_ : Int)))) none (callN E (M + 1)) PT.nil s = some (.string ⟨⟨b :: t⟩⟩, s) := fun s => by rw [slS_lo l at_ (by omega), hr]
  obtain ⟨u1, q1, g1⟩ := r15 hrd M (by omega) b t (by omega) u (by omega)
  have g1n := g1.2.1
  have hnew := new_u zw (callN E (M + 1)) PT.nil u1 (by omega)
  obtain ⟨u2, hu2⟩ : ∃ x, al u1 zw = x := ⟨_, rfl⟩
  rw [hu2] at hnew
  have n2 : u2.next = u1.next + 1 := by rw [← hu2]; exact al_next _ _ (by omega)
  have z2 : u2.getC u1.next = some zw := by rw [← hu2]; exact al_same _ _ (by omega) rfl
  have g2 : Grew 21 u u2 := by rw [← hu2]; exact g1.al _ (by omega)
  have hst := storeall_u 4 u1.next (wcell (b :: t) (wordF rd (b :: t))) zw (callN E (M + 1)) PT.nil u2 z2 rfl (wcell_len _ _)
  obtain ⟨u3, hu3⟩ : ∃ x, u2.set u1.next (some (wcell (b :: t) (wordF rd (b :: t)))) = x := ⟨_, rfl⟩
  rw [hu3] at hst
  have n3 : u3.next = u2.next := by rw [← hu3]; exact set_next _ _ _
  have z3 : u3.getC u1.next = some (wcell (b :: t) (wordF rd (b :: t))) := by rw [← hu3]; exact set_same _ _ _ (by omega) (wcell_map _ _)
  have g3 : Grew 21 u u3 := by rw [← hu3]; exact g2.set _ _ (by omega) g1.1
  have hk := wcell_kind (b :: t) (wordF rd (b :: t))
  by_cases h0 : (wordF rd (b :: t)).1 = 0
  · refine .inl ⟨h0, (.slice none 0 0, .int .i64 (at_ : Int), .int .i64 7, v, .int .i64 (at_ : Int)), u3.seen u1.next, ?_, rfl, rfl, rfl, (g3.seen _).mono (by omega)⟩
    have e2 : decide ((wordF rd (b :: t)).1 = 0) = true := decide_eq_true h0
    rw [B9_l0]
    simp only [es, cond_true, cond_false, eq_self, lenS_u, e1, hsl, q1, hnew, hst, fieldAddr_e, Nat.zero_add, load_u, z3, hk, e2]
  · refine .inr ⟨h0, ?_⟩
    have e2 : decide ((wordF rd (b :: t)).1 = 0) = false := decide_eq_false h0
    obtain ⟨hp0, hple⟩ := wordF_len h0
    have hwy := wcell_yes (l := b :: t) h0
    have hsk := skF_le false ((b :: t).drop (wordF rd (b :: t)).2.1)
    obtain ⟨W, hW⟩ : ∃ W, wordF rd (b :: t) = W := ⟨_, rfl⟩
    rw [hW] at hst hu3 z3 hk h0 e2 hp0 hple hwy hsk q1
    rw [hW]
    obtain ⟨kk, n, nn⟩ := W
    dsimp only at hp0 hple e2 hk h0 hwy hsk ⊢
    rw [hwy] at z3 hst q1
    have hst4 : oStore 1 (.v (.pointer (some ⟨u1.next, 3, none⟩))) (.v (.int .i64 (at_ : Int))) (callN E (M + 1)) PT.nil (u3.seen u1.next) = some (UV, (u3.seen u1.next).set u1.next (some (wv (kk, (b :: t).take n, nn, at_)))) :=
      store1_u u1.next 3 (.int .i64 (at_ : Int)) [.int .i64 kk, .string ⟨⟨(b :: t).take n⟩⟩, .int .i64 nn, .int .i64 0] _ _ _ rfl (by rw [seen_getC]; exact z3) (by show 3 < 4; omega)
    obtain ⟨u4, hu4⟩ : ∃ x, (u3.seen u1.next).set u1.next (some (wv (kk, (b :: t).take n, nn, at_))) = x := ⟨_, rfl⟩
    rw [hu4] at hst4
    have n4 : u4.next = u3.next := by rw [← hu4, set_next, St.seen_next]
    have z4 : u4.getC u1.next = some (wv (kk, (b :: t).take n, nn, at_)) := by rw [← hu4]; exact set_same _ _ _ (by omega) rfl
    have g4 : Grew 21 u u4 := by rw [← hu4]; exact (g3.seen _).set _ _ (by omega) g1.1
    have hld : oLoadN 4 (.v (.pointer (some ⟨u1.next, 0, none⟩))) (callN E (M + 1)) PT.nil u4 = some (aggOf (wv (kk, (b :: t).take n, nn, at_)), u4.seen u1.next) := loadn_u 4 u1.next 0 _ _ _ u4 z4 (by show 0 + 4 ≤ 4; omega)
    have hbs := buildW (kk, (b :: t).take n, nn, at_) (callN E (M + 1)) (u4.seen u1.next) (by rw [St.seen_next]; omega)
    rw [St.seen_next] at hbs
    obtain ⟨u5, hu5⟩ : ∃ x, al (u4.seen u1.next) (wv (kk, (b :: t).take n, nn, at_)) = x := ⟨_, rfl⟩
    rw [hu5] at hbs
    have n5 : u5.next = u4.next + 1 := by rw [← hu5, al_next _ _ (by rw [St.seen_next]; omega), St.seen_next]
    have z5 : u5.getC u4.next = some (wv (kk, (b :: t).take n, nn, at_)) := by rw [← hu5, ← St.seen_next u4 u1.next]; exact al_same _ _ (by rw [St.seen_next]; omega) rfl
    have o5 : ∀ y, y ≠ u4.next → u5.getC y = u4.getC y := fun y hy => by rw [← hu5, al_ne _ _ _ (by rw [St.seen_next]; omega) (by rw [St.seen_next]; exact hy), seen_getC]
    have g5 : Grew 22 u u5 := by rw [← hu5]; exact (g4.seen _).al _ (by rw [St.seen_next]; omega)
    have hacc5 : Acc 4 u5 v m c := acc_set ha g5.1 g5.2.2
    obtain ⟨v', u6, r1, r2, r3, r4, r5⟩ := append_u 4 40 u5 v m c (wv (kk, (b :: t).take n, nn, at_)) u4.next 1 1 hacc5 z5 rfl (by omega) (by omega) (by omega) (by omega) (by omega) (map_app _ _ hmap) (callN E (M + 1)) PT.nil (fun hv => by have := ha.lt hv; have := g4.1; omega)
    have ne1 : ¬ accB v u1.next := fun hv => by have := ha.lt hv; have := g1.1; omega
    have z6 : u6.getC u1.next = some (wv (kk, (b :: t).take n, nn, at_)) := by
      rw [r5 _ (by omega) ne1, o5 _ (by omega)]
      exact z4
    have htl : ((b :: t).take n).length = n := by rw [List.length_take, List.length_cons]; omega
    have ad1 : int2 addO (.int .i64 (at_ : Int)) (.int .i64 (n : Int)) = some (.int .i64 ((at_ + n : Nat) : Int)) := by rw [add_e _ _ (by omega) (by omega)]; congr 2
    have hsl2 : ∀ s, oSliceS (.v (.string ⟨⟨l⟩⟩)) (some (.v (.int .i64 ((at_ + n : Nat) : Int)))) none (callN E (M + 1)) PT.nil s = some (.string ⟨⟨(b :: t).drop n⟩⟩, s) := fun s => by rw [slS_lo l (at_ + n) (by omega), ← List.drop_drop, hr]
    have hdl : ((b :: t).drop n).length ≤ 9000 := by rw [List.length_drop, List.length_cons]; omega
    have hbl : ∀ s, callN E (M + 1) 14 [.string ⟨⟨(b :: t).drop n⟩⟩] s = some (.int .i64 (skF false ((b :: t).drop n) : Int), s) := fun s => r14 M (by omega) _ hdl s
    have hdl2 : ((b :: t).drop n).length = t.length + 1 - n := by rw [List.length_drop, List.length_cons]
    have ad2 : int2 addO (.int .i64 ((at_ + n : Nat) : Int)) (.int .i64 (skF false ((b :: t).drop n) : Int)) = some (.int .i64 ((at_ + n + skF false ((b :: t).drop n) : Nat) : Int)) := by rw [add_e _ _ (by omega) (by omega)]; congr 2
    have g5n := g5.2.1
    have g5m := g5.1
    refine ⟨v', u6.seen u1.next, ?_, acc_set r2 (by rw [St.seen_next]; exact Nat.le_refl _) (fun y _ => seen_getC _ _ _), fun y hy => by rw [r4 y hy]; exact g5m, by rw [St.seen_next]; omega, by rw [St.seen_next]; omega, fun y hy hv => by rw [seen_getC, r5 y (by omega) hv]; exact g5.2.2 y hy⟩
    have nz6 : nth (wv (kk, (b :: t).take n, nn, at_)) 1 = some (.string ⟨⟨(b :: t).take n⟩⟩) := rfl
    rw [B9_l0]
    simp only [es, cond_true, cond_false, eq_self, lenS_u, e1, hsl, q1, hnew, hst, fieldAddr_e, Nat.zero_add, load_u, z3, e2, hst4, hld, hbs, r1, z6, nz6, htl, ad1, hsl2, hbl, ad2]
end Go.Proofs.Ytikdjhlcbkkkfaa.AbsLexO
namespace Go.Proofs.Ytikdjhlcbkkkfaa.AbsLexO
open Go Go.Abs Go.Proofs
set_option maxRecDepth 100000
set_option linter.unusedVariables false
set_option linter.unusedSimpArgs false

attribute [local congr] h_opt2 h_opt h_condV h_cond
theorem cutF_nil (rd : List UInt8 → Int × Bool) (n at_ : Nat) : cutF rd (n + 1) at_ [] = ([], none) := rfl
theorem cutF_no {rd : List UInt8 → Int × Bool} {n at_ : Nat} {b : UInt8} {t : List UInt8} (h : (wordF rd (b :: t)).1 = 0) : cutF rd (n + 1) at_ (b :: t) = ([], some at_) := by
  show (bif decide ((wordF rd (b :: t)).1 = 0) then _ else _) = _
  rw [decide_eq_true h]; rfl
theorem cutF_yes {rd : List UInt8 → Int × Bool} {n at_ : Nat} {b : UInt8} {t : List UInt8} (h : (wordF rd (b :: t)).1 ≠ 0) : cutF rd (n + 1) at_ (b :: t) =
      (((wordF rd (b :: t)).1, (b :: t).take (wordF rd (b :: t)).2.1, (wordF rd (b :: t)).2.2, at_) :: (cutF rd n (at_ + (wordF rd (b :: t)).2.1 + skF false ((b :: t).drop (wordF rd (b :: t)).2.1)) (((b :: t).drop (wordF rd (b :: t)).2.1).drop (skF false ((b :: t).drop (wordF rd (b :: t)).2.1)))).1,
        (cutF rd n (at_ + (wordF rd (b :: t)).2.1 + skF false ((b :: t).drop (wordF rd (b :: t)).2.1)) (((b :: t).drop (wordF rd (b :: t)).2.1).drop (skF false ((b :: t).drop (wordF rd (b :: t)).2.1)))).2) := by
  show (bif decide ((wordF rd (b :: t)).1 = 0) then _ else _) = _
  rw [decide_eq_false h]; rfl
theorem cut_l {rd : List UInt8 → Int × Bool} (hrd : Rd rd) (M N : Nat) (hM : 10040 ≤ M) (l : List UInt8) (hl : l.length ≤ 8900) (s0 : St) :
    ∀ (n at_ : Nat) (r : List UInt8) (fuel : Nat) (v1 v2 v3 v : Value) (u : St) (m : Nat) (c : List Value), l.drop at_ = r → at_ + r.length = l.length → r.length < n → n ≤ fuel → u.next + 30 * r.length + 100 ≤ lim →
      Acc 4 u v m c → isMapB c = false → m + r.length ≤ 9000 → (∀ y, accB v y → s0.next ≤ y) → s0.next ≤ u.next → (∀ y, y < s0.next → u.getC y = s0.getC y) →
      ∃ e w' u', loopV (B9_l0 (callN E M) N (.string ⟨⟨l⟩⟩)) fuel (v1, v2, v3, v, (.int .i64 (at_ : Int))) u = some (e, (w', u')) ∧ s0.next ≤ u'.next ∧ u'.next ≤ u.next + 30 * (r.length + 1) ∧ (∀ y, y < s0.next → u'.getC y = s0.getC y) ∧
        (((cutF rd n at_ r).2 = none ∧ e = .exit 0 ∧ Acc 4 u' w'.2.2.2.1 (m + (cutF rd n at_ r).1.length) (c ++ flat (cutF rd n at_ r).1) ∧ isMapB (c ++ flat (cutF rd n at_ r).1) = false ∧ ∀ y, accB w'.2.2.2.1 y → s0.next ≤ y) ∨
         (∃ p : Nat, (cutF rd n at_ r).2 = some p ∧ e = .ret ∧ w'.1 = .slice none 0 0 ∧ w'.2.1 = .int .i64 (p : Int) ∧ w'.2.2.1 = .int .i64 7))
  | 0, at_, r, fuel, v1, v2, v3, v, u, m, c, hr, hi, hn, hf, hs, ha, hmap, hm, hv, hu, hk => by omega
  | n + 1, at_, [], fuel, v1, v2, v3, v, u, m, c, hr, hi, hn, hf, hs, ha, hmap, hm, hv, hu, hk => by
    obtain ⟨fuel, rfl⟩ : ∃ m, fuel = m + 1 := ⟨fuel - 1, by omega⟩
    have e1 : decide ((at_ : Int) < (l.length : Int)) = false := decide_eq_false (by simp at hi; omega)
    refine ⟨.exit 0, (v1, v2, v3, v, .int .i64 (at_ : Int)), u, ?_, hu, by omega, hk, .inl ⟨rfl, rfl, ?_, ?_, hv⟩⟩
    · rw [loopV_s, B9_l0]
      simp only [es, cond_true, cond_false, eq_self, lenS_u, e1]
    · rw [cutF_nil]; simpa [flat] using ha
    · rw [cutF_nil]; simpa [flat] using hmap
  | n + 1, at_, b :: t, fuel, v1, v2, v3, v, u, m, c, hr, hi, hn, hf, hs, ha, hmap, hm, hv, hu, hk => by
    obtain ⟨fuel, rfl⟩ : ∃ m, fuel = m + 1 := ⟨fuel - 1, by omega⟩
    simp only [List.length_cons] at hi hn hs hm
    rw [loopV_s]
    rcases cut_step hrd M N hM l hl b t at_ hr v1 v2 v3 v u (by omega) m c ha hmap (by omega) with ⟨h0, w', u', q1, q2, q3, q4, g⟩ | ⟨h0, v', u', q1, q2, q3, q4, q5, q6⟩
    · have gn := g.2.1
      refine ⟨.ret, w', u', by rw [q1, op2_s, thenV_r], by have := g.1; omega, by omega, fun y hy => (g.2.2 y (by omega)).trans (hk y hy), .inr ⟨at_, by rw [cutF_no h0], rfl, q2, q3, q4⟩⟩
    · rw [q1, op2_s, thenV_n, cutF_yes h0]
      obtain ⟨hp0, hple⟩ := wordF_len h0
      have hsk := skF_le false ((b :: t).drop (wordF rd (b :: t)).2.1)
      obtain ⟨W, hW⟩ : ∃ W, wordF rd (b :: t) = W := ⟨_, rfl⟩
      rw [hW] at hp0 hple hsk q2
      rw [hW]
      obtain ⟨kk, k, nn⟩ := W
      dsimp only at hp0 hple hsk q2 ⊢
      have hd1 : ((b :: t).drop k).length = t.length + 1 - k := by rw [List.length_drop, List.length_cons]
      have hd2 : (((b :: t).drop k).drop (skF false ((b :: t).drop k))).length = t.length + 1 - k - skF false ((b :: t).drop k) := by rw [List.length_drop, hd1]
      obtain ⟨e, w', u2, p1, p2, p3, p4, p5⟩ := cut_l hrd M N hM l hl s0 n (at_ + k + skF false ((b :: t).drop k)) (((b :: t).drop k).drop (skF false ((b :: t).drop k))) fuel v1 v2 v3 v' u' (m + 1) _
        (by rw [← List.drop_drop, ← List.drop_drop, hr]) (by omega) (by omega) (by omega) (by omega) q2 (map_app _ _ hmap) (by omega) (fun y hy => Nat.le_trans hu (q3 y hy)) (by omega)
        (fun y hy => (q6 y (by omega) (fun hh => by have := hv y hh; omega)).trans (hk y hy))
      refine ⟨e, w', u2, p1, p2, by simp only [List.length_cons]; omega, p4, ?_⟩
      rcases p5 with ⟨r1, r2, r3, r4, r5⟩ | ⟨p, r1, r2, r3, r4, r5⟩
      · refine .inl ⟨r1, r2, ?_, ?_, r5⟩
        · rw [flat_c, ← List.append_assoc, List.length_cons, Nat.add_comm _ 1, ← Nat.add_assoc]; exact r3
        · rw [flat_c, ← List.append_assoc]; exact r4
      · exact .inr ⟨p, r1, r2, r3, r4, r5⟩
/-- a text's words, the end's among them, and where it fails -/
def cutT (rd : List UInt8 → Int × Bool) (l : List UInt8) : List Wd × Option Nat := cutF rd (l.length + 1) (skF false l) (l.drop (skF false l))
def endW (l : List UInt8) : Wd := (0, [], 0, l.length)
theorem buildEnd (n : Int) (rec : Rec) (s : St) : oBuild zw [(3, 1, (.v (.int .i64 n)))] rec PT.nil s = some (aggOf [.int .i64 0, .string ⟨⟨[]⟩⟩, .int .i64 0, .int .i64 n], s) := by kernel_rfl
theorem cutF_count (rd : List UInt8 → Int × Bool) : ∀ (n at_ : Nat) (r : List UInt8), (cutF rd n at_ r).1.length ≤ r.length
  | 0, _, _ => Nat.zero_le _
  | n + 1, at_, [] => Nat.le_refl _
  | n + 1, at_, b :: t => by
    by_cases h : (wordF rd (b :: t)).1 = 0
    · rw [cutF_no h]; exact Nat.zero_le _
    · rw [cutF_yes h]
      obtain ⟨h1, h2⟩ := wordF_len h
      have ih := cutF_count rd n (at_ + (wordF rd (b :: t)).2.1 + skF false ((b :: t).drop (wordF rd (b :: t)).2.1)) (((b :: t).drop (wordF rd (b :: t)).2.1).drop (skF false ((b :: t).drop (wordF rd (b :: t)).2.1)))
      rw [List.length_drop, List.length_drop, List.length_cons] at ih
      simp only [List.length_cons]
      omega
/-- lex.Cut -/
theorem r9 {rd : List UInt8 → Int × Bool} (hrd : Rd rd) (M : Nat) (hM : 10040 ≤ M) (l : List UInt8) (hl : l.length ≤ 8000) (s : St) (hs : s.next + 300000 ≤ lim) :
    ∃ s', ((∃ p : Nat, (cutT rd l).2 = some p ∧ callN E (M + 1) 9 [.string ⟨⟨l⟩⟩] s = some (tupOf [.slice none 0 0, .int .i64 (p : Int), .int .i64 7], s')) ∨
        ((cutT rd l).2 = none ∧ ∃ v, callN E (M + 1) 9 [.string ⟨⟨l⟩⟩] s = some (tupOf [v, .int .i64 0, .int .i64 0], s') ∧ Acc 4 s' v ((cutT rd l).1.length + 1) (flat ((cutT rd l).1 ++ [endW l])) ∧ ∀ y, accB v y → s.next ≤ y)) ∧ Grew 270000 s s' := by
  have hlim : lim = 1000000000 := rfl
  have hsk := skF_le false l
  have hd : (l.drop (skF false l)).length = l.length - skF false l := List.length_drop
  obtain ⟨M, rfl⟩ : ∃ m, M = m + 1 := ⟨M - 1, by omega⟩
  obtain ⟨e, w', u', p1, p2, p3, p4, p5⟩ := cut_l hrd (M + 1) (M + 1) hM l (by omega) s (l.length + 1) (skF false l) (l.drop (skF false l)) (M + 1) (.slice none 0 0) (.int .i64 0) (.int .i64 0) (.slice none 0 0) s 0 [] rfl (by omega) (by omega) (by omega) (by omega)
    (.inl ⟨rfl, rfl, rfl⟩) rfl (by omega) (fun y hy => hy.elim) (Nat.le_refl _) (fun _ _ => rfl)
  have e1 : decide ((8192 : Int) < (l.length : Int)) = false := decide_eq_false (by omega)
  have hbl := r14 M (by omega) l (by omega) s
  rcases p5 with ⟨r1, r2, r3, r4, r5⟩ | ⟨p, r1, r2, r3, r4, r5⟩
  · subst r2
    have hcnt := cutF_count rd (l.length + 1) (skF false l) (l.drop (skF false l))
    obtain ⟨ws, hws⟩ : ∃ ws, cutF rd (l.length + 1) (skF false l) (l.drop (skF false l)) = ws := ⟨_, rfl⟩
    have hT : cutT rd l = ws := hws
    rw [hws] at r1 r3 r4 hcnt
    rw [Nat.zero_add, List.nil_append] at r3
    rw [List.nil_append] at r4
    have hbs : oBuildSlice 1 zw [(0, 4, (.v (aggOf [.int .i64 0, .string ⟨⟨[]⟩⟩, .int .i64 0, .int .i64 (l.length : Int)])))] (callN E (M + 1)) PT.nil u' = some (.slice (some ⟨u'.next, 0, none⟩) 1 1, al u' (wv (endW l))) := buildW (endW l) (callN E (M + 1)) u' (by omega)
    obtain ⟨u2, hu2⟩ : ∃ x, al u' (wv (endW l)) = x := ⟨_, rfl⟩
    rw [hu2] at hbs
    have n2 : u2.next = u'.next + 1 := by rw [← hu2]; exact al_next _ _ (by omega)
    have z2 : u2.getC u'.next = some (wv (endW l)) := by rw [← hu2]; exact al_same _ _ (by omega) rfl
    have o2 : ∀ y, y < u'.next → u2.getC y = u'.getC y := fun y hy => by rw [← hu2]; exact al_ne _ _ _ (by omega) (by omega)
    have ha2 := acc_set r3 (s' := u2) (by omega) o2
    obtain ⟨v', u3, q1, q2, q3, q4, q5⟩ := append_u 4 40 u2 _ _ _ (wv (endW l)) u'.next 1 1 ha2 z2 rfl (by omega) (by omega) (by omega) (by omega) (by omega) (map_app _ _ r4) (callN E (M + 1)) PT.nil (fun hv => by have := r3.lt hv; omega)
    refine ⟨u3, .inr ⟨by rw [hT]; exact r1, v', ?_, ?_, fun y hy => by rw [q4 y hy]; omega⟩, by omega, by omega, fun y hy => ?_⟩
    · rw [x9]; unfold F9
      simp only [es, cond_true, cond_false, eq_self, lenS_u, e1, hbl, p1]
      unfold C9_l0
      simp only [es, cond_true, cond_false, eq_self]
      unfold J9_r0
      simp only [es, cond_true, cond_false, eq_self, lenS_u, buildEnd, hbs, q1]
    · rw [hT]
      have : flat (ws.1 ++ [endW l]) = flat ws.1 ++ wv (endW l) := by unfold flat; rw [List.flatMap_append]; simp
      rw [this]; exact q2
    · rw [q5 y (by omega) (fun hv => by have := r5 y hv; omega), o2 y (by omega)]
      exact p4 y hy
  · subst r2
    refine ⟨u', .inl ⟨p, r1, ?_⟩, p2, by omega, p4⟩
    rw [x9]; unfold F9
    simp only [es, cond_true, cond_false, eq_self, lenS_u, e1, hbl, p1]
    unfold C9_l0
    simp only [es, cond_true, cond_false, eq_self, r3, r4, r5]
end Go.Proofs.Ytikdjhlcbkkkfaa.AbsLexO
namespace Go.Proofs.Ytikdjhlcbkkkfaa.AbsLexO
open Go Go.Abs Go.Proofs
set_option maxRecDepth 100000
set_option linter.unusedVariables false
set_option linter.unusedSimpArgs false

attribute [local congr] h_opt2 h_opt h_condV h_cond
/-! days: cal.Read -/
theorem rem_t (a b : Int) (hb : b ≠ 0) : int2 remO (.int .i64 a) (.int .i64 b) = some (.int .i64 (a.tmod b)) := by
  show remO .i64 a b = _
  unfold remO
  rw [eqI_eq, decide_eq_false hb, cond_false, forceI_eq]
def leapF (y : Int) : Bool := decide (y.tmod 4 = 0) && !decide (y.tmod 100 = 0) || decide (y.tmod 400 = 0)
theorem r65 (M : Nat) (y : Int) (s : St) : callN E (M + 1) 65 [.int .i64 y] s = some (.bool (leapF y), s) := by
  rw [x65]; unfold F65 leapF
  cases h1 : decide (y.tmod 4 = 0) <;> cases h2 : decide (y.tmod 100 = 0) <;> cases h3 : decide (y.tmod 400 = 0) <;> simp only [es, cond_true, cond_false, eq_self, rem_t _ 4 (by decide), rem_t _ 100 (by decide), rem_t _ 400 (by decide), h1, h2, h3] <;> rfl
def beforeF (y : Int) : Int := (y - 1900) * 365 + ((y - 1) / 4 - 474 - ((y - 1) / 100 - 18) + ((y - 1) / 400 - 4))
theorem r62 (M : Nat) (y : Int) (s : St) (h1 : 1900 ≤ y) (h2 : y ≤ 2300) : callN E (M + 1) 62 [.int .i64 y] s = some (.int .i64 (beforeF y), s) := by
  rw [x62]; unfold F62 beforeF
  simp (disch := omega) only [es, cond_true, cond_false, eq_self, add_e, sub_e, mul_e, quo_e]
def daysF (y m : Int) : Int := if m = 2 then (if leapF y then 29 else 28) else if m = 4 ∨ m = 6 ∨ m = 9 ∨ m = 11 then 30 else if 1 ≤ m ∧ m ≤ 12 then 31 else 0
theorem r61 (M : Nat) (y m : Int) (s : St) : callN E (M + 2) 61 [.int .i64 y, .int .i64 m] s = some (.int .i64 (daysF y m), s) := by
  rw [x61]; unfold F61
  by_cases hm : 1 ≤ m ∧ m ≤ 12
  · have : m = 1 ∨ m = 2 ∨ m = 3 ∨ m = 4 ∨ m = 5 ∨ m = 6 ∨ m = 7 ∨ m = 8 ∨ m = 9 ∨ m = 10 ∨ m = 11 ∨ m = 12 := by omega
    rcases this with rfl | rfl | rfl | rfl | rfl | rfl | rfl | rfl | rfl | rfl | rfl | rfl
    case inr.inl =>
      simp only [es, cond_true, cond_false, eq_self, Int.reduceEq, r65]
      unfold daysF
      rw [if_pos rfl]
      cases leapF y <;> simp only [es, cond_true, cond_false, eq_self] <;> rfl
    all_goals
      simp only [es, cond_true, cond_false, eq_self, Int.reduceEq, J61_j0, J61_j1, J61_j2]
      rfl
  · have e1 : decide (m = 1) = false := decide_eq_false (by omega)
    have e2 : decide (m = 2) = false := decide_eq_false (by omega)
    have e3 : decide (m = 3) = false := decide_eq_false (by omega)
    have e4 : decide (m = 4) = false := decide_eq_false (by omega)
    have e5 : decide (m = 5) = false := decide_eq_false (by omega)
    have e6 : decide (m = 6) = false := decide_eq_false (by omega)
    have e7 : decide (m = 7) = false := decide_eq_false (by omega)
    have e8 : decide (m = 8) = false := decide_eq_false (by omega)
    have e9 : decide (m = 9) = false := decide_eq_false (by omega)
    have e10 : decide (m = 10) = false := decide_eq_false (by omega)
    have e11 : decide (m = 11) = false := decide_eq_false (by omega)
    have e12 : decide (m = 12) = false := decide_eq_false (by omega)
    simp only [es, cond_true, cond_false, eq_self, e1, e2, e3, e4, e5, e6, e7, e8, e9, e10, e11, e12, J61_j0, J61_j1, J61_j2]
    unfold daysF
    rw [if_neg (by omega), if_neg (by omega), if_neg (by omega)]
def sumTo (y : Int) : Nat → Int
  | 0 => 0
  | k + 1 => sumTo y k + daysF y ((k : Int) + 1)
theorem days_in (y m : Int) (h1 : 1 ≤ m) (h2 : m ≤ 12) : 28 ≤ daysF y m ∧ daysF y m ≤ 31 := by
  unfold daysF
  split
  · split <;> omega
  · split
    · omega
    · split <;> omega
theorem days_pos {y m : Int} (h : 1 ≤ daysF y m) : ∃ k : Nat, m = (k : Int) + 1 ∧ k ≤ 11 := by
  have hm : 1 ≤ m ∧ m ≤ 12 := by
    apply Classical.byContradiction
    intro hc
    unfold daysF at h
    rw [if_neg (by omega), if_neg (by omega), if_neg (by omega)] at h
    omega
  exact ⟨(m - 1).toNat, by omega, by omega⟩
theorem sum_in (y : Int) : ∀ k : Nat, k ≤ 12 → 0 ≤ sumTo y k ∧ sumTo y k ≤ 31 * k
  | 0, _ => ⟨Int.le_refl _, by show (0 : Int) ≤ _; omega⟩
  | k + 1, h => by
    have ih := sum_in y k (by omega)
    have := days_in y ((k : Int) + 1) (by omega) (by omega)
    show 0 ≤ sumTo y k + daysF y ((k : Int) + 1) ∧ sumTo y k + daysF y ((k : Int) + 1) ≤ _
    omega
theorem before_in (y : Int) (h1 : 1900 ≤ y) (h2 : y ≤ 2200) : 0 ≤ beforeF y ∧ beforeF y ≤ 110000 := by unfold beforeF; omega
def ofR (y m d : Int) : Int × Bool := if 1900 ≤ y ∧ y ≤ 2199 ∧ 1 ≤ d ∧ d ≤ daysF y m then (beforeF y + sumTo y (m - 1).toNat + d - 1, true) else (0, false)
theorem of_l (M N : Nat) (y d : Int) (m : Nat) (hy1 : 1900 ≤ y) (hy2 : y ≤ 2199) (hm : m ≤ 11) (a b c : Value) (s : St) :
    ∀ (j i fuel : Nat), i + j = m → j < fuel → loopV (B55_l0 (callN E (M + 2)) N ((.int .i64 y), (.int .i64 ((m : Int) + 1)), a, b, c)) fuel ((.int .i64 (beforeF y + sumTo y i)), (.int .i64 ((i : Int) + 1))) s = some (.exit 0, (((.int .i64 (beforeF y + sumTo y m)), (.int .i64 ((m : Int) + 1))), s))
  | 0, i, fuel, hi, hf => by
    obtain ⟨fuel, rfl⟩ : ∃ m, fuel = m + 1 := ⟨fuel - 1, by omega⟩
    obtain rfl : i = m := by omega
    have e1 : decide ((i : Int) + 1 < (i : Int) + 1) = false := decide_eq_false (by omega)
    rw [loopV_s, B55_l0]
    simp only [es, cond_true, cond_false, eq_self, e1]
  | j + 1, i, fuel, hi, hf => by
    obtain ⟨fuel, rfl⟩ : ∃ m, fuel = m + 1 := ⟨fuel - 1, by omega⟩
    have e1 : decide ((i : Int) + 1 < (m : Int) + 1) = true := decide_eq_true (by omega)
    have hb := before_in y hy1 (by omega)
    have hs := sum_in y i (by omega)
    have hd := days_in y ((i : Int) + 1) (by omega) (by omega)
    have a1 : int2 addO (.int .i64 (beforeF y + sumTo y i)) (.int .i64 (daysF y ((i : Int) + 1))) = some (.int .i64 (beforeF y + sumTo y (i + 1))) := by
      rw [add_e _ _ (by omega) (by omega), Int.add_assoc]; rfl
    have a2 : int2 addO (.int .i64 ((i : Int) + 1)) (.int .i64 1) = some (.int .i64 (((i + 1 : Nat) : Int) + 1)) := by rw [add_e _ _ (by omega) (by omega)]; rfl
    rw [loopV_s, B55_l0]
    simp only [es, cond_true, cond_false, eq_self, e1, r61, a1, a2]
    exact of_l M N y d m hy1 hy2 hm a b c s j (i + 1) fuel (by omega) (by omega)
theorem r55 (M : Nat) (hM : 100 ≤ M) (y m d : Int) (s : St) : callN E (M + 1) 55 [.int .i64 y, .int .i64 m, .int .i64 d] s = some (tupOf [.int .i64 (ofR y m d).1, .bool (ofR y m d).2], s) := by
  obtain ⟨M, rfl⟩ : ∃ m, M = m + 2 := ⟨M - 2, by omega⟩
  rw [x55]; unfold F55 ofR
  by_cases h1 : y < 1900
  · have e1 := decide_eq_true h1
    rw [if_neg (by omega)]
    simp only [es, cond_true, cond_false, eq_self, e1]
  have e1 := decide_eq_false h1
  by_cases h2 : 2199 < y
  · have e2 := decide_eq_true h2
    rw [if_neg (by omega)]
    simp only [es, cond_true, cond_false, eq_self, e1, e2]
  have e2 := decide_eq_false h2
  by_cases h3 : d < 1
  · have e3 := decide_eq_true h3
    rw [if_neg (by omega)]
    simp only [es, cond_true, cond_false, eq_self, e1, e2, e3]
  have e3 := decide_eq_false h3
  by_cases h4 : daysF y m < d
  · have e4 := decide_eq_true h4
    rw [if_neg (by omega)]
    simp only [es, cond_true, cond_false, eq_self, e1, e2, e3, r61, e4]
  have e4 := decide_eq_false h4
  obtain ⟨k, rfl, hk⟩ := days_pos (show 1 ≤ daysF y m by omega)
  rw [if_pos (by omega)]
  have hb := before_in y (by omega) (by omega)
  have hs := sum_in y k (by omega)
  have hd := days_in y ((k : Int) + 1) (by omega) (by omega)
  have hl := of_l M (M + 2) y d k (by omega) (by omega) hk (.int .i64 d) (.int .i64 0) (.bool false) s k 0 (M + 2) (by omega) (by omega)
  have hl : loopV (B55_l0 (callN E (M + 2)) (M + 2) ((.int .i64 y), (.int .i64 ((k : Int) + 1)), (.int .i64 d), (.int .i64 0), (.bool false))) (M + 2) ((.int .i64 (beforeF y)), (.int .i64 1)) s = some (.exit 0, (((.int .i64 (beforeF y + sumTo y k)), (.int .i64 ((k : Int) + 1))), s)) := by
    have e : beforeF y + sumTo y 0 = beforeF y := Int.add_zero _
    rw [e] at hl
    exact hl
  have hbe := fun s => r62 (M + 1) y s (by omega) (by omega)
  have a1 : int2 addO (.int .i64 (beforeF y + sumTo y k)) (.int .i64 d) = some (.int .i64 (beforeF y + sumTo y k + d)) := add_e _ _ (by omega) (by omega)
  have a2 : int2 subO (.int .i64 (beforeF y + sumTo y k + d)) (.int .i64 1) = some (.int .i64 (beforeF y + sumTo y k + d - 1)) := sub_e _ _ (by omega) (by omega)
  simp only [es, cond_true, cond_false, eq_self, e1, e2, e3, r61, e4, hbe, hl]
  unfold C55_l0
  simp only [es, cond_true, cond_false, eq_self]
  unfold J55_r0
  simp only [es, cond_true, cond_false, eq_self, a1, a2]
  rw [show ((k : Int) + 1 - 1).toNat = k by omega]
end Go.Proofs.Ytikdjhlcbkkkfaa.AbsLexO
namespace Go.Proofs.Ytikdjhlcbkkkfaa.AbsLexO
open Go Go.Abs Go.Proofs
set_option maxRecDepth 100000
set_option linter.unusedVariables false
set_option linter.unusedSimpArgs false

attribute [local congr] h_opt2 h_opt h_condV h_cond
def numL (acc : Int) : List UInt8 → Int
  | [] => acc
  | b :: l => bif isD b then numL (acc * 10 + ((b.toNat : Int) - 48)) l else -1
theorem numL_c (acc : Int) (b : UInt8) (l : List UInt8) : numL acc (b :: l) = bif isD b then numL (acc * 10 + ((b.toNat : Int) - 48)) l else -1 := rfl
theorem num56 (rec : Rec) (N : Nat) (nb c : Nat) (l : List UInt8) (hl : l.length ≤ 8) :
    ∀ (r : List UInt8) (i fuel : Nat) (v : Int) (x : Value) (u : St), l.drop i = r → i + r.length = l.length → r.length < fuel → 0 ≤ v → v < 10 ^ i → u.getC nb = some (ofBytes l) →
      ∃ e w u', loopV (B56_l0 rec N ((.slice (some ⟨nb, 0, none⟩) l.length c), (.int .i64 (l.length : Int)))) fuel (x, (.int .i64 v), (.int .i64 (i : Int))) u = some (e, (w, u')) ∧ Still u u' ∧
        ((e = .ret ∧ w.1 = .int .i64 (numL v r)) ∨ (e = .exit 0 ∧ w.2.1 = .int .i64 (numL v r)))
  | [], i, fuel, v, x, u, hr, hi, hf, h0, h1, hg => by
    obtain ⟨fuel, rfl⟩ : ∃ m, fuel = m + 1 := ⟨fuel - 1, by simp at hf; omega⟩
    have e1 : decide ((i : Int) < (l.length : Int)) = false := decide_eq_false (by simp at hi; omega)
    rw [loopV_s, B56_l0]
    simp only [es, cond_true, cond_false, eq_self, e1]
    exact ⟨_, _, _, rfl, Still.refl _, .inr ⟨rfl, rfl⟩⟩
  | b :: r, i, fuel, v, x, u, hr, hi, hf, h0, h1, hg => by
    obtain ⟨fuel, rfl⟩ : ∃ m, fuel = m + 1 := ⟨fuel - 1, by simp at hf; omega⟩
    simp only [List.length_cons] at hi hf
    have e1 : decide ((i : Int) < (l.length : Int)) = true := decide_eq_true (by omega)
    have ha : int2 addO (.int .i64 (i : Int)) (.int .i64 1) = some (.int .i64 ((i + 1 : Nat) : Int)) := by rw [add_e _ _ (by omega) (by omega)]; rfl
    have hat : nth (ofBytes l) (i * 1) = some (.int .u8 (b.toNat : Int)) := by rw [Nat.mul_one]; exact ofBytes_at hr
    have hp : (10 : Int) ^ i ≤ 10 ^ 8 := by
      have := Nat.pow_le_pow_right (show 0 < 10 by omega) (show i ≤ 8 by omega)
      exact_mod_cast this
    have h8 : (10 : Int) ^ 8 = 100000000 := by decide
    have hpp : (10 : Int) ^ (i + 1) = 10 ^ i * 10 := Int.pow_succ ..
    have hb8 : b.toNat < 256 := b.toNat_lt
    rw [loopV_s, B56_l0]
    simp (disch := omega) only [es, cond_true, cond_false, eq_self, e1, idxL0_u, load_u, hg, hat]
    rw [numL_c]
    by_cases h48 : (b.toNat : Int) < 48
    · have e2 := decide_eq_true h48
      have hd : isD b = false := by unfold isD; rw [decide_eq_false (show ¬ 48 ≤ (b.toNat : Int) by omega)]; rfl
      rw [hd]
      simp only [es, cond_true, cond_false, eq_self, e2]
      exact ⟨_, _, _, rfl, Still.seen _ _, .inl ⟨rfl, rfl⟩⟩
    have e2 := decide_eq_false h48
    by_cases h57 : 57 < (b.toNat : Int)
    · have e3 := decide_eq_true h57
      have hd : isD b = false := by unfold isD; rw [decide_eq_false (show ¬ (b.toNat : Int) ≤ 57 by omega), Bool.and_false]
      rw [hd]
      simp only [es, cond_true, cond_false, eq_self, e2, e3]
      exact ⟨_, _, _, rfl, Still.seen _ _, .inl ⟨rfl, rfl⟩⟩
    have e3 := decide_eq_false h57
    have hd : isD b = true := by unfold isD; rw [decide_eq_true (show 48 ≤ (b.toNat : Int) by omega), decide_eq_true (show (b.toNat : Int) ≤ 57 by omega)]; rfl
    have m1 : int2 mulO (.int .i64 v) (.int .i64 10) = some (.int .i64 (v * 10)) := mul_e _ _ (by omega) (by omega)
    have m2 := sub8_u (b.toNat : Int) (by omega) (by omega)
    have m3 : int2 addO (.int .i64 (v * 10)) (.int .i64 ((b.toNat : Int) - 48)) = some (.int .i64 (v * 10 + ((b.toNat : Int) - 48))) := add_e _ _ (by omega) (by omega)
    rw [hd]
    simp (disch := omega) only [es, cond_true, cond_false, eq_self, e2, e3, m1, m2, conv64_u, m3, ha]
    obtain ⟨e, w, u', q1, q2, q3⟩ := num56 rec N nb c l hl r (i + 1) fuel (v * 10 + ((b.toNat : Int) - 48)) x (u.seen nb) (drop_next hr) (by omega) (by omega) (by omega) (by omega) ((seen_getC _ _ _).trans hg)
    exact ⟨e, w, u', q1, (Still.seen u nb).trans q2, q3⟩
theorem r56 (M : Nat) (hM : 100 ≤ M) (l : List UInt8) (hl : l.length ≤ 8) (s : St) (hs : s.next ≤ lim) : ∃ s', callN E (M + 1) 56 [.string ⟨⟨l⟩⟩] s = some (.int .i64 (numL 0 l), s') ∧ Grew 1 s s' := by
  obtain ⟨e, w, u', q1, q2, q3⟩ := num56 (callN E M) M s.next (UNK + 1) l hl l 0 M 0 (.int .i64 0) (al s (ofBytes l)) rfl (by omega) (by omega) (by omega) (by decide) (al_same s _ hs (ofBytes_map l))
  refine ⟨u', ?_, ((Grew.refl s).al _ hs).still q2⟩
  rw [x56]; unfold F56
  have hq : loopV (B56_l0 (callN E M) M ((.slice (some ⟨s.next, 0, none⟩) l.length (UNK + 1)), (.int .i64 (l.length : Int)))) M ((.int .i64 0), (.int .i64 0), (.int .i64 0)) (al s (ofBytes l)) = some (e, (w, u')) := q1
  simp (disch := omega) only [es, cond_true, cond_false, eq_self, strBytes_u, hs, lenL_e, hq]
  unfold C56_l0
  rcases q3 with ⟨rfl, hw⟩ | ⟨rfl, hw⟩
  · simp only [es, cond_true, cond_false, eq_self, hw]
  · simp only [es, cond_true, cond_false, eq_self, J56_r0, hw]
/-- ten bytes as a day -/
def rdF (l : List UInt8) : Int × Bool := match l with
  | [b0, b1, b2, b3, b4, b5, b6, b7, b8, b9] => bif decide ((b4.toNat : Int) = 45) && decide ((b7.toNat : Int) = 45) then ofR (numL 0 [b0, b1, b2, b3]) (numL 0 [b5, b6]) (numL 0 [b8, b9]) else (0, false)
  | _ => (0, false)
theorem ten {l : List UInt8} (h : l.length = 10) : ∃ b0 b1 b2 b3 b4 b5 b6 b7 b8 b9, l = [b0, b1, b2, b3, b4, b5, b6, b7, b8, b9] := by
  match l, h with
  | [b0, b1, b2, b3, b4, b5, b6, b7, b8, b9], _ => exact ⟨_, _, _, _, _, _, _, _, _, _, rfl⟩
theorem rd_ok : Rd rdF := fun M hM l hl s hs => by
  obtain ⟨M, rfl⟩ : ∃ m, M = m + 2 := ⟨M - 2, by omega⟩
  obtain ⟨b0, b1, b2, b3, b4, b5, b6, b7, b8, b9, rfl⟩ := ten hl
  have i4 : ∀ s, oIdxS (.v (.string ⟨⟨[b0, b1, b2, b3, b4, b5, b6, b7, b8, b9]⟩⟩)) (.v (.int .i64 4)) (callN E (M + 1)) PT.nil s = some (.int .u8 (b4.toNat : Int), s) := fun s => idx_at (i := 4) (l := [b0, b1, b2, b3, b4, b5, b6, b7, b8, b9]) (r := [b5, b6, b7, b8, b9]) rfl _ _ s
  have i7 : ∀ s, oIdxS (.v (.string ⟨⟨[b0, b1, b2, b3, b4, b5, b6, b7, b8, b9]⟩⟩)) (.v (.int .i64 7)) (callN E (M + 1)) PT.nil s = some (.int .u8 (b7.toNat : Int), s) := fun s => idx_at (i := 7) (l := [b0, b1, b2, b3, b4, b5, b6, b7, b8, b9]) (r := [b8, b9]) rfl _ _ s
  have el : decide ((([b0, b1, b2, b3, b4, b5, b6, b7, b8, b9] : List UInt8).length : Int) = 10) = true := rfl
  rw [x49]; unfold F49 rdF
  dsimp only
  cases h4 : decide ((b4.toNat : Int) = 45)
  · refine ⟨s, ?_, (Grew.refl s).mono (by omega)⟩
    simp only [es, cond_true, cond_false, eq_self, lenS_u, el, i4, h4, Bool.false_and]
  cases h7 : decide ((b7.toNat : Int) = 45)
  · refine ⟨s, ?_, (Grew.refl s).mono (by omega)⟩
    simp only [es, cond_true, cond_false, eq_self, lenS_u, el, i4, h4, i7, h7, Bool.and_false]
  have s1 : ∀ s, oSliceS (.v (.string ⟨⟨[b0, b1, b2, b3, b4, b5, b6, b7, b8, b9]⟩⟩)) none (some (.v (.int .i64 4))) (callN E (M + 1)) PT.nil s = some (.string ⟨⟨[b0, b1, b2, b3]⟩⟩, s) := fun s => slS_hi [b0, b1, b2, b3, b4, b5, b6, b7, b8, b9] 4 (by show 4 ≤ 10; decide) _ s
  have s2 : ∀ s, oSliceS (.v (.string ⟨⟨[b0, b1, b2, b3, b4, b5, b6, b7, b8, b9]⟩⟩)) (some (.v (.int .i64 5))) (some (.v (.int .i64 7))) (callN E (M + 1)) PT.nil s = some (.string ⟨⟨[b5, b6]⟩⟩, s) := fun s => slS_lh [b0, b1, b2, b3, b4, b5, b6, b7, b8, b9] 5 7 (by decide) (by show 7 ≤ 10; decide) _ s
  have s3 : ∀ s, oSliceS (.v (.string ⟨⟨[b0, b1, b2, b3, b4, b5, b6, b7, b8, b9]⟩⟩)) (some (.v (.int .i64 8))) none (callN E (M + 1)) PT.nil s = some (.string ⟨⟨[b8, b9]⟩⟩, s) := fun s => slS_lo [b0, b1, b2, b3, b4, b5, b6, b7, b8, b9] 8 (by show 8 ≤ 10; decide) _ s
  obtain ⟨u1, q1, g1⟩ := r56 M (by omega) [b0, b1, b2, b3] (by show 4 ≤ 8; decide) (z0 s) (by rw [z0_next]; omega)
  have g1 := g1.z0
  have n1 := g1.2.1
  obtain ⟨u2, q2, g2⟩ := r56 M (by omega) [b5, b6] (by show 2 ≤ 8; decide) (z0 (jn s u1)) (by rw [z0_next]; omega)
  have g2 := g2.z0
  have n2 := g2.2.1
  obtain ⟨u3, q3, g3⟩ := r56 M (by omega) [b8, b9] (by show 2 ≤ 8; decide) (z0 (jn (jn s u1) u2)) (by rw [z0_next]; omega)
  have g3 := g3.z0
  refine ⟨jn (jn (jn s u1) u2) u3, ?_, (g1.trans g2).trans g3⟩
  have h55 := fun s => r55 M (by omega) (numL 0 [b0, b1, b2, b3]) (numL 0 [b5, b6]) (numL 0 [b8, b9]) s
  simp only [es, cond_true, cond_false, eq_self, lenS_u, el, i4, h4, i7, h7, Bool.and_self, s1, s2, s3, q1, q2, q3, rV_s, h55, jn_z]
end Go.Proofs.Ytikdjhlcbkkkfaa.AbsLexO
