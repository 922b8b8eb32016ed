import Derived.Test.YthjhammjankekaaRatSB
namespace Go.Proofs.Ythjhammjankekaa.AbsRatO
open Go Go.Abs Go.Proofs
set_option maxRecDepth 100000
set_option linter.unusedVariables false
set_option linter.unusedSimpArgs false
/-! Put, whole: over a model of the table -/
def insP : List (Int × Int) → Int → Int → List (Int × Int)
  | [], d, r => [(d, r)]
  | p :: l, d, r => if d < p.1 then (d, r) :: p :: l else if d = p.1 then (d, r) :: l else p :: insP l d r
def Okl (l : List (Int × Int)) : Prop := Grows l ∧ ∀ p ∈ l, (0 ≤ p.1 ∧ p.1 ≤ 109572) ∧ (0 ≤ p.2 ∧ p.2 ≤ 1000000000)
def putE (d r : Int) : Int := if d < 0 ∨ 109572 < d then 12 else if r < 0 ∨ 1000000000 < r then 1 else 0
def putV (l : List (Int × Int)) (d r : Int) : List (Int × Int) := if putE d r = 0 then insP l d r else l
theorem insP_new (d r : Int) : ∀ (l : List (Int × Int)) (k : Nat), k ≤ l.length → (∀ x (h : x < l.length), x < k → l[x].1 ≤ d) → (∀ x (h : x < l.length), k ≤ x → d < l[x].1) → (∀ x (h : x < l.length), l[x].1 ≠ d) → insS l k (d, r) = insP l d r
  | [], k, hk, _, _, _ => by
    have : k = 0 := by simpa using hk
    subst this; rfl
  | p :: l, 0, hk, h1, h2, h3 => by
    have := h2 0 (by simp) (Nat.le_refl _)
    unfold insP insS
    rw [if_pos (by simpa using this)]
    rfl
  | p :: l, k + 1, hk, h1, h2, h3 => by
    have a1 : p.1 ≤ d := h1 0 (by simp) (by omega)
    have a2 : p.1 ≠ d := h3 0 (by simp)
    unfold insP
    rw [if_neg (by omega), if_neg (by omega)]
    have ih := insP_new d r l k (by simpa using hk) (fun x h hx => h1 (x + 1) (by simpa using h) (by omega)) (fun x h hx => h2 (x + 1) (by simpa using h) (by omega)) (fun x h => h3 (x + 1) (by simpa using h))
    rw [← ih]
    rfl
theorem insP_same (d r : Int) : ∀ (l : List (Int × Int)) (k : Nat) (hk : k < l.length), l[k].1 = d → (∀ x (h : x < l.length), x < k → l[x].1 < d) → l.set k (d, r) = insP l d r
  | [], k, hk, _, _ => absurd hk (by simp)
  | p :: l, 0, hk, h1, h2 => by
    have : p.1 = d := h1
    unfold insP
    rw [if_neg (by omega), if_pos this.symm]
    rfl
  | p :: l, k + 1, hk, h1, h2 => by
    have a1 : p.1 < d := h2 0 (by simp) (by omega)
    unfold insP
    rw [if_neg (by omega), if_neg (by omega), ← insP_same d r l k (by simpa using hk) (by simpa using h1) (fun x h hx => h2 (x + 1) (by simpa using h) (by omega))]
    rfl
theorem mem_insP {d r : Int} {q : Int × Int} : ∀ {l : List (Int × Int)}, q ∈ insP l d r → q = (d, r) ∨ q ∈ l
  | [], h => by
    have : q = (d, r) := by simpa [insP] using h
    exact .inl this
  | p :: l, h => by
    unfold insP at h
    split at h
    · rcases List.mem_cons.1 h with h | h
      · exact .inl h
      · exact .inr h
    · split at h
      · rcases List.mem_cons.1 h with h | h
        · exact .inl h
        · exact .inr (List.mem_cons_of_mem _ h)
      · rcases List.mem_cons.1 h with h | h
        · exact .inr (by rw [h]; exact List.mem_cons_self ..)
        · rcases mem_insP h with h | h
          · exact .inl h
          · exact .inr (List.mem_cons_of_mem _ h)
theorem insP_grows (d r : Int) : ∀ {l : List (Int × Int)}, Grows l → Grows (insP l d r)
  | [], _ => List.pairwise_singleton _ _
  | p :: l, h => by
    have h' := List.pairwise_cons.1 h
    unfold insP
    split
    · rename_i hd
      refine List.pairwise_cons.2 ⟨fun q hq => ?_, h⟩
      rcases List.mem_cons.1 hq with e | e
      · rw [e]; exact hd
      · have := h'.1 q e
        show d < q.1
        omega
    · split
      · rename_i hd
        refine List.pairwise_cons.2 ⟨fun q hq => ?_, h'.2⟩
        have := h'.1 q hq
        show d < q.1
        omega
      · refine List.pairwise_cons.2 ⟨fun q hq => ?_, insP_grows d r h'.2⟩
        rcases mem_insP hq with e | e
        · rw [e]; show p.1 < d; omega
        · exact h'.1 q e
theorem insP_len (d r : Int) : ∀ l : List (Int × Int), (insP l d r).length ≤ l.length + 1
  | [] => by simp [insP]
  | p :: l => by
    unfold insP
    have := insP_len d r l
    split
    · simp
    · split <;> simp
      omega
theorem Okl.ins {l : List (Int × Int)} (h : Okl l) {d r : Int} (hd : 0 ≤ d ∧ d ≤ 109572) (hr : 0 ≤ r ∧ r ≤ 1000000000) : Okl (insP l d r) :=
  ⟨insP_grows d r h.1, fun p hp => by
    rcases mem_insP hp with e | e
    · rw [e]; exact ⟨hd, hr⟩
    · exact h.2 p e⟩
theorem putE_zero {d r : Int} (h : putE d r = 0) : (0 ≤ d ∧ d ≤ 109572) ∧ (0 ≤ r ∧ r ≤ 1000000000) := by
  unfold putE at h
  split at h
  · omega
  · split at h
    · omega
    · omega
theorem Okl.put {l : List (Int × Int)} (h : Okl l) (d r : Int) : Okl (putV l d r) := by
  unfold putV
  split
  · rename_i he
    exact h.ins (putE_zero he).1 (putE_zero he).2
  · exact h
theorem putV_len (l : List (Int × Int)) (d r : Int) : (putV l d r).length ≤ l.length + 1 := by
  unfold putV
  split
  · exact insP_len d r l
  · omega
structure Tab (s : St) (tb : Nat) (v : Value) (l : List (Int × Int)) : Prop where
  lo : 8 ≤ tb
  lt : tb < s.next
  cell : s.getC tb = some [v]
  sl : SlcU s v l
  blo : ∀ b, blkOf v = some b → 8 ≤ b
theorem Tab.apart {s : St} {tb : Nat} {v : Value} {l : List (Int × Int)} (h : Tab s tb v l) : blkOf v ≠ some tb := by
  rcases h.sl with ⟨_, rfl⟩ | ⟨sb, rfl, h2, h3, h4⟩
  · intro e; cases e
  · intro e
    have e' : sb = tb := Option.some.inj e
    subst e'
    rw [h.cell] at h3
    cases l with
    | nil => exact h4 rfl
    | cons p l => exact absurd (congrArg List.length (Option.some.inj h3)) (by simp [flatV])
theorem Tab.blt {s : St} {tb : Nat} {v : Value} {l : List (Int × Int)} (h : Tab s tb v l) : ∀ b, blkOf v = some b → b < s.next := by
  intro b hb
  rcases h.sl with ⟨_, rfl⟩ | ⟨sb, rfl, h2, h3, h4⟩
  · cases hb
  · cases hb; exact h2
/-- what leaves a table's blocks as they are leaves the table -/
theorem Tab.keep {s u : St} {tb : Nat} {v : Value} {l : List (Int × Int)} (h : Tab s tb v l) (hn : s.next ≤ u.next) (h1 : u.getC tb = s.getC tb) (h2 : ∀ b, blkOf v = some b → u.getC b = s.getC b) : Tab u tb v l := by
  refine ⟨h.lo, Nat.lt_of_lt_of_le h.lt hn, h1.trans h.cell, ?_, h.blo⟩
  rcases h.sl with h0 | ⟨sb, rfl, a, b, c⟩
  · exact .inl h0
  · exact .inr ⟨sb, rfl, Nat.lt_of_lt_of_le a hn, (h2 sb rfl).trans b, c⟩
theorem Tab.grew {k : Nat} {s u : St} {tb : Nat} {v : Value} {l : List (Int × Int)} (h : Tab s tb v l) (g : Grew k s u) : Tab u tb v l :=
  h.keep g.1 (g.2.2 tb h.lt) fun b hb => g.2.2 b (h.blt b hb)
theorem Tab.at {s : St} {tb : Nat} {v : Value} {l : List (Int × Int)} (h : Tab s tb v l) : TabAt s tb l :=
  ⟨h.lt, v, h.cell, by
    rcases h.sl with h | ⟨sb, h1, h2, h3, _⟩
    · exact Or.inl h
    · exact Or.inr ⟨sb, _, h1, h2, h3⟩⟩
theorem put (M : Nat) (hM : 2000 ≤ M) (s : St) (tb : Nat) (v : Value) (l : List (Int × Int)) (d r : Int) (hl : l.length < 256) (ho : Okl l) (ht : Tab s tb v l) (hn : s.next + 3 ≤ lim) :
    ∃ v' u', callN E (M + 4) 14 [.pointer (some ⟨tb, 0, none⟩), .int .i64 d, .int .i64 r] s = some (.int .i64 (putE d r), u') ∧ Tab u' tb v' (putV l d r) ∧ s.next ≤ u'.next ∧ u'.next ≤ s.next + 4 ∧ (∀ y, y < s.next → y ≠ tb → blkOf v ≠ some y → u'.getC y = s.getC y) ∧ ∀ b, blkOf v' = some b → blkOf v = some b ∨ s.next ≤ b := by
  by_cases hd : d < 0 ∨ 109572 < d
  · have e : putE d r = 12 := if_pos hd
    have e' : putV l d r = l := if_neg (by rw [e]; decide)
    rw [e, e']
    exact ⟨v, s, put_day (M + 3) _ d r s hd, ht, by omega, by omega, fun _ _ _ _ => rfl, fun b hb => .inl hb⟩
  by_cases hr : r < 0 ∨ 1000000000 < r
  · have e : putE d r = 1 := by unfold putE; rw [if_neg hd, if_pos hr]
    have e' : putV l d r = l := if_neg (by rw [e]; decide)
    rw [e, e']
    exact ⟨v, s, put_rate (M + 3) _ d r s (by omega) hr, ht, by omega, by omega, fun _ _ _ _ => rfl, fun b hb => .inl hb⟩
  have e : putE d r = 0 := by unfold putE; rw [if_neg hd, if_neg hr]
  have e' : putV l d r = insP l d r := if_pos e
  have hs := ho.1.sorted
  have hlo := ht.lo
  have hlt := ht.lt
  rw [e, e']
  by_cases hx : ∃ k, ∃ hk : k < l.length, l[k].1 = d
  · obtain ⟨k, hk, hkd⟩ := hx
    rcases ht.sl with ⟨h0, _⟩ | ⟨sb, hv, hsb, hc, hne⟩
    · subst h0; exact absurd hk (by simp)
    subst hv
    have gr := List.pairwise_iff_getElem.1 ho.1
    obtain ⟨u', r1, r2, r3, r4, r5⟩ := put_same M hM s tb sb (UNK + 2) l d r (by omega) hs ht.lt ht.cell hsb hc (by omega) (by omega) (by omega) k
      ⟨hk, fun x h hx => by rw [← hkd]; exact hs x k h hk (by omega), fun x h hx => by rw [← hkd]; exact gr k x hk h (by omega)⟩ hk hkd (ht.blo sb rfl)
    have hpe := insP_same d r l k hk hkd fun x h hx => by rw [← hkd]; exact gr x k h hk hx
    rw [hpe] at r4
    have hlen : (insP l d r).length = l.length := by rw [← hpe, List.length_set]
    refine ⟨_, u', r1, ⟨ht.lo, by omega, (r5 tb ht.lt fun e => ht.apart (congrArg some e.symm)).trans ht.cell, .inr ⟨sb, by rw [hlen], by omega, r4, fun h0 => ?_⟩, ht.blo⟩, r2, by omega, fun y h1 h2 h3 => r5 y h1 fun e => h3 (congrArg some e.symm), fun b hb => .inl hb⟩
    rw [h0] at hlen
    have : l.length = 0 := hlen.symm
    omega
  · have hno : ∀ x (h : x < l.length), l[x].1 ≠ d := fun x h e => hx ⟨x, h, e⟩
    obtain ⟨k, u', sb', r1, r2, r3, r4, r5, r6, r7, r8, r9⟩ := put_new M hM s tb v l d r hl hs ht.lt ht.cell ht.sl hn (by omega) ht.lo (by omega) (by omega) hno
    have hpe := insP_new d r l k r2.1 r2.2.1 r2.2.2 hno
    have hlen : (insP l d r).length = l.length + 1 := by rw [← hpe]; exact insS_len l k _ r2.1
    rw [hpe] at r8
    refine ⟨_, u', r1, ⟨ht.lo, by omega, r7, .inr ⟨sb', by rw [hlen], r6, r8, fun h0 => ?_⟩, fun b hb => ?_⟩, r3, r4, r9, fun b hb => .inr ?_⟩
    · rw [h0] at hlen; simp at hlen
    · cases hb; show 8 ≤ sb'; omega
    · cases hb; exact r5
end Go.Proofs.Ythjhammjankekaa.AbsRatO
namespace Go.Proofs.Ythjhammjankekaa.AbsRatO
open Go Go.Abs Go.Proofs
set_option maxRecDepth 100000
set_option linter.unusedVariables false
set_option linter.unusedSimpArgs false
/-! Sum: its loop -/
def nxt : List (Int × Int) → Int
  | [] => 109573
  | q :: _ => q.1
def gain (d e r f t : Int) : Int := if 0 < min e t - max d f then (min e t - max d f) * r else 0
def sumP (f t : Int) : List (Int × Int) → Int
  | [] => 0
  | p :: l => gain p.1 (nxt l) p.2 f t + sumP f t l
theorem mulB {a b : Int} (ha : 0 ≤ a) (ha' : a ≤ 109573) (hb : 0 ≤ b) (hb' : b ≤ 1000000000) : 0 ≤ a * b ∧ a * b ≤ 109573000000000 :=
  ⟨Int.mul_nonneg ha hb, Int.le_trans (Int.mul_le_mul ha' hb' hb (by omega)) (by omega)⟩
theorem gainB {d e r f t : Int} (hf : 0 ≤ f ∧ f ≤ 109573) (ht : 0 ≤ t ∧ t ≤ 109573) (hr : 0 ≤ r ∧ r ≤ 1000000000) : 0 ≤ gain d e r f t ∧ gain d e r f t ≤ 109573000000000 := by
  unfold gain
  split
  · exact mulB (by omega) (by omega) hr.1 hr.2
  · omega
theorem drop_nxt (l : List (Int × Int)) (i : Nat) (h : i < l.length) : nxt (l.drop i) = l[i].1 := by
  rw [List.drop_eq_getElem_cons h]; rfl
theorem Grew.trans {j k : Nat} {a b c : St} (h : Grew j a b) (g : Grew k b c) : Grew (j + k) a c :=
  ⟨Nat.le_trans h.1 g.1, by have := h.2.1; have := g.2.1; omega, fun y hy => (g.2.2 y (Nat.lt_of_lt_of_le hy h.1)).trans (h.2.2 y hy)⟩
theorem sumL (rec : Rec) (N : Nat) (s : St) (tb sb c : Nat) (l : List (Int × Int)) (f t : Int) (hl : l.length ≤ 256) (ho : Okl l) (hf : 0 ≤ f ∧ f ≤ 109573) (ht : 0 ≤ t ∧ t ≤ 109573) (h8 : 8 ≤ s.next) (htb : tb < s.next) (hv : s.getC tb = some [.slice (some ⟨sb, 0, none⟩) l.length c]) (hsb : sb < s.next) (hc : s.getC sb = some (flatV l)) (hn : s.next + 300 ≤ lim) :
    ∀ (fuel i : Nat) (a : Int) (fs : Frm) (u : St), Grew i s u → fs.get t0 = some (.pointer (some ⟨tb, 0, none⟩)) → fs.get t1 = some (.int .i64 f) → fs.get t2 = some (.int .i64 t) → fs.get t7 = some (.int .i64 a) → fs.get t21 = some (.slice (some ⟨sb, 0, none⟩) l.length c) → fs.get t22 = some (.int .i64 (l.length : Int)) → fs.get t23 = some (.int .i64 (i : Int)) → i ≤ l.length → 0 ≤ a → a ≤ (i : Int) * 109573000000000 → l.length - i < fuel →
    ∃ fs' u', loopF (c16_l0 rec N) fuel fs u = some (.exit 0, fs', u') ∧ Grew 256 s u' ∧ fs'.get t7 = some (.int .i64 (a + sumP f t (l.drop i))) := by
  intro fuel
  induction fuel with
  | zero => intro i a fs u _ _ _ _ _ _ _ _ _ _ _ h; omega
  | succ fuel ih =>
    intro i a fs u hu h0 h1 h2 h7 h21 h22 h23 hi ha0 ha1 hfu
    have hlim : lim = 1000000000 := rfl
    have h40 : (2:Nat) ^ 40 = 1099511627776 := rfl
    rw [loop_s, d16_l0]
    unfold D16_l0
    by_cases hlt : i < l.length
    · have e1 : decide ((i : Int) < (l.length : Int)) = true := decide_eq_true (by omega)
      have q1 := hu.1
      have q2 := hu.2.1
      have ok := ho.2 l[i] (List.getElem_mem hlt)
      have uc : u.getC sb = some (flatV l) := (hu.2.2 sb hsb).trans hc
      have ld2 : oLoadN 2 (.v (.pointer (some ⟨sb, 0 + i * 2, none⟩))) rec PT.nil u = some (aggOf [.int .i64 l[i].1, .int .i64 l[i].2], u.seen sb) := load2_e sb (0 + i * 2) _ _ _ rec PT.nil u uc (by rw [flat_len]; omega) (by rw [Nat.zero_add]; exact flat_two l i hlt)
      obtain ⟨ua, a1, a2, a3, a4⟩ := alloc_e (u.seen sb) [.int .i64 0, .int .i64 0] (by rw [St.seen_next]; omega) rfl
      have nw := new2_e (.int .i64 0) (.int .i64 0) rec PT.nil (u.seen sb) ua a1
      have sto := store2_e (u.seen sb).next (.int .i64 0) (.int .i64 0) (.int .i64 l[i].1) (.int .i64 l[i].2) rec PT.nil ua a3
      rw [St.seen_next] at a2 a3 a4 nw sto
      obtain ⟨w, hw⟩ : ∃ w, w = ua.set u.next (some [.int .i64 l[i].1, .int .i64 l[i].2]) := ⟨_, rfl⟩
      rw [← hw] at sto
      have wget : ∀ y, w.getC y = if y = u.next then some [.int .i64 l[i].1, .int .i64 l[i].2] else u.getC y := by
        intro y
        rw [hw, set_getC _ _ _ _ (by omega) (by omega) rfl]
        by_cases e : y = u.next
        · rw [if_pos e, if_pos e]
        · rw [if_neg e, if_neg e, a4 y e, seen_getC]
      have wnext : w.next = u.next + 1 := by rw [hw, St.set_next, a2]
      have wn : w.getC u.next = some [.int .i64 l[i].1, .int .i64 l[i].2] := by rw [wget, if_pos rfl]
      have wt : w.getC tb = some [.slice (some ⟨sb, 0, none⟩) l.length c] := by rw [wget, if_neg (by omega), hu.2.2 tb htb, hv]
      have ws : w.getC sb = some (flatV l) := by rw [wget, if_neg (by omega), uc]
      have hgw : ∀ z, (∀ y, z.getC y = w.getC y) → z.next = w.next → Grew (i + 1) s z := fun z hz hzn => ⟨by omega, by omega, fun y hy => by rw [hz, wget, if_neg (by omega), hu.2.2 y hy]⟩
      have l1 : ∀ (rec : Rec) (fs : Frm) (z : St), (∀ y, z.getC y = w.getC y) → oLoad1 (.v (.pointer (some ⟨tb, 0 + 0, none⟩))) rec fs z = some (.slice (some ⟨sb, 0, none⟩) l.length c, z.seen tb) := fun rec fs z h => load1_e tb (0 + 0) _ _ rec fs z ((h tb).trans wt) rfl
      have l3 : ∀ (rec : Rec) (fs : Frm) (z : St), (∀ y, z.getC y = w.getC y) → oLoad1 (.v (.pointer (some ⟨u.next, 0 + 0, none⟩))) rec fs z = some (.int .i64 l[i].1, z.seen u.next) := fun rec fs z h => load1_e u.next (0 + 0) _ _ rec fs z ((h u.next).trans wn) rfl
      have l4 : ∀ (rec : Rec) (fs : Frm) (z : St), (∀ y, z.getC y = w.getC y) → oLoad1 (.v (.pointer (some ⟨u.next, 0 + 1, none⟩))) rec fs z = some (.int .i64 l[i].2, z.seen u.next) := fun rec fs z h => load1_e u.next (0 + 1) _ _ rec fs z ((h u.next).trans wn) rfl
      have hai : int2 addO (.int .i64 (i : Int)) (.int .i64 1) = some (.int .i64 ((i + 1 : Nat) : Int)) := by rw [add_e _ _ (by omega) (by omega)]; rfl
      have hdrop := List.drop_eq_getElem_cons hlt
      have rest : ∀ (b : Int) (fs' : Frm) (z : St), (∀ y, z.getC y = w.getC y) → z.next = w.next → b = a + gain l[i].1 (nxt (l.drop (i + 1))) l[i].2 f t → fs'.get t0 = some (.pointer (some ⟨tb, 0, none⟩)) → fs'.get t1 = some (.int .i64 f) → fs'.get t2 = some (.int .i64 t) → fs'.get t7 = some (.int .i64 b) → fs'.get t21 = some (.slice (some ⟨sb, 0, none⟩) l.length c) → fs'.get t22 = some (.int .i64 (l.length : Int)) → fs'.get t23 = some (.int .i64 ((i + 1 : Nat) : Int)) →
          ∃ fs'' u', loopF (c16_l0 rec N) fuel fs' z = some (.exit 0, fs'', u') ∧ Grew 256 s u' ∧ fs''.get t7 = some (.int .i64 (a + sumP f t (l.drop i))) := by
        intro b fs' z hz hzn hb k0 k1 k2 k7 k21 k22 k23
        have gb := gainB (d := l[i].1) (e := nxt (l.drop (i + 1))) (r := l[i].2) hf ht ok.2
        obtain ⟨fs'', u', r1, r2, r3⟩ := ih (i + 1) b fs' z (hgw z hz hzn) k0 k1 k2 k7 k21 k22 k23 (by omega) (by omega) (by omega) (by omega)
        refine ⟨fs'', u', r1, r2, ?_⟩
        rw [r3, hdrop, hb]
        show _ = some (Value.int .i64 (a + (gain _ _ _ f t + sumP f t (l.drop (i + 1)))))
        rw [Int.add_assoc]
      have mv : ∀ x : Int, 0 < x → x ≤ 109573 → int2 mulO (.int .i64 x) (.int .i64 l[i].2) = some (.int .i64 (x * l[i].2)) := fun x hx hx' => by
        have := mulB (Int.le_of_lt hx) hx' ok.2.1 ok.2.2
        exact mul_e _ _ (by omega) (by omega)
      have av : ∀ x : Int, 0 < x → x ≤ 109573 → int2 addO (.int .i64 a) (.int .i64 (x * l[i].2)) = some (.int .i64 (a + x * l[i].2)) := fun x hx hx' => by
        have := mulB (Int.le_of_lt hx) hx' ok.2.1 ok.2.2
        exact add_e _ _ (by omega) (by omega)
      by_cases hlast : i + 1 < l.length
      · have e11 : decide ((i : Int) < (l.length : Int) - 1) = true := decide_eq_true (by omega)
        have l2 : ∀ (rec : Rec) (fs : Frm) (z : St), (∀ y, z.getC y = w.getC y) → oLoad1 (.v (.pointer (some ⟨sb, 0 + (i + 1) * 2 + 0, none⟩))) rec fs z = some (.int .i64 l[i + 1].1, z.seen sb) := fun rec fs z h => load1_e sb _ _ _ rec fs z ((h sb).trans ws) (by rw [Nat.zero_add, Nat.add_zero, flat_day l (i + 1) hlast])
        have hnx := drop_nxt l (i + 1) hlast
        have ok2 := ho.2 l[i + 1] (List.getElem_mem hlast)
        have sv : int2 subO (.int .i64 (min l[i + 1].1 t)) (.int .i64 (max l[i].1 f)) = some (.int .i64 (min l[i + 1].1 t - max l[i].1 f)) := sub_e _ _ (by omega) (by omega)
        by_cases hp : 0 < min l[i + 1].1 t - max l[i].1 f
        · have e24 : decide (0 < min l[i + 1].1 t - max l[i].1 f) = true := decide_eq_true hp
          simp (disch := first | omega | (intro y; simp only [seen_getC])) only [op2_s', op_s', op2_op, op2_op2, op2_cond, ev_v', call_r', map_c', map_n', bin_e', pick_e', not_e, ext_e', nth_z', nth_1', nth_2', nth_3', gval_e, gval_u', cmp_e, orUndef_t', orUndef_f', condV_t', condV_f', cond_true, cond_false, eqI_eq, neI_eq, ltI_eq, leI_eq, gtI_eq', geI_eq, Bool.not_true, Bool.not_false, beq_self_eq_true, tf_beq, ft_beq, eq_self, decide_true, decide_false, oneOf1, orU_some, h0, h1, h2, h7, h21, h22, h23, e1, idxL_e, ld2, nw, sto, nilCheck_e, fieldAddr_e, l1, lenL_e, sub_e, e11, hai, l2, min_e, max_e, l3, sv, e24, l4, mv _ hp (by omega), av _ hp (by omega), thenX_n']
          exact rest _ _ _ (fun y => by simp only [seen_getC]) (by simp only [St.seen_next]) (by unfold gain; rw [hnx, if_pos hp]) ((by kernel_rfl : _ = fs.get t0).trans h0) ((by kernel_rfl : _ = fs.get t1).trans h1) ((by kernel_rfl : _ = fs.get t2).trans h2) (by kernel_rfl) ((by kernel_rfl : _ = fs.get t21).trans h21) ((by kernel_rfl : _ = fs.get t22).trans h22) (by kernel_rfl)
        · have e24 : decide (0 < min l[i + 1].1 t - max l[i].1 f) = false := decide_eq_false hp
          simp (disch := first | omega | (intro y; simp only [seen_getC])) only [op2_s', op_s', op2_op, op2_op2, op2_cond, ev_v', call_r', map_c', map_n', bin_e', pick_e', not_e, ext_e', nth_z', nth_1', nth_2', nth_3', gval_e, gval_u', cmp_e, orUndef_t', orUndef_f', condV_t', condV_f', cond_true, cond_false, eqI_eq, neI_eq, ltI_eq, leI_eq, gtI_eq', geI_eq, Bool.not_true, Bool.not_false, beq_self_eq_true, tf_beq, ft_beq, eq_self, decide_true, decide_false, oneOf1, orU_some, h0, h1, h2, h7, h21, h22, h23, e1, idxL_e, ld2, nw, sto, nilCheck_e, fieldAddr_e, l1, lenL_e, sub_e, e11, hai, l2, min_e, max_e, l3, sv, e24, thenX_n']
          exact rest a _ _ (fun y => by simp only [seen_getC]) (by simp only [St.seen_next]) (by unfold gain; rw [hnx, if_neg hp, Int.add_zero]) ((by kernel_rfl : _ = fs.get t0).trans h0) ((by kernel_rfl : _ = fs.get t1).trans h1) ((by kernel_rfl : _ = fs.get t2).trans h2) ((by kernel_rfl : _ = fs.get t7).trans h7) ((by kernel_rfl : _ = fs.get t21).trans h21) ((by kernel_rfl : _ = fs.get t22).trans h22) (by kernel_rfl)
      · have e11 : decide ((i : Int) < (l.length : Int) - 1) = false := decide_eq_false (by omega)
        have hnx : nxt (l.drop (i + 1)) = 109573 := by rw [List.drop_eq_nil_of_le (by omega)]; rfl
        have sv : int2 subO (.int .i64 (min 109573 t)) (.int .i64 (max l[i].1 f)) = some (.int .i64 (min 109573 t - max l[i].1 f)) := sub_e _ _ (by omega) (by omega)
        by_cases hp : 0 < min 109573 t - max l[i].1 f
        · have e24 : decide (0 < min 109573 t - max l[i].1 f) = true := decide_eq_true hp
          simp (disch := first | omega | (intro y; simp only [seen_getC])) only [op2_s', op_s', op2_op, op2_op2, op2_cond, ev_v', call_r', map_c', map_n', bin_e', pick_e', not_e, ext_e', nth_z', nth_1', nth_2', nth_3', gval_e, gval_u', cmp_e, orUndef_t', orUndef_f', condV_t', condV_f', cond_true, cond_false, eqI_eq, neI_eq, ltI_eq, leI_eq, gtI_eq', geI_eq, Bool.not_true, Bool.not_false, beq_self_eq_true, tf_beq, ft_beq, eq_self, decide_true, decide_false, oneOf1, orU_some, h0, h1, h2, h7, h21, h22, h23, e1, idxL_e, ld2, nw, sto, nilCheck_e, fieldAddr_e, l1, lenL_e, sub_e, e11, hai, min_e, max_e, l3, sv, e24, l4, mv _ hp (by omega), av _ hp (by omega), thenX_n']
          exact rest _ _ _ (fun y => by simp only [seen_getC]) (by simp only [St.seen_next]) (by unfold gain; rw [hnx, if_pos hp]) ((by kernel_rfl : _ = fs.get t0).trans h0) ((by kernel_rfl : _ = fs.get t1).trans h1) ((by kernel_rfl : _ = fs.get t2).trans h2) (by kernel_rfl) ((by kernel_rfl : _ = fs.get t21).trans h21) ((by kernel_rfl : _ = fs.get t22).trans h22) (by kernel_rfl)
        · have e24 : decide (0 < min 109573 t - max l[i].1 f) = false := decide_eq_false hp
          simp (disch := first | omega | (intro y; simp only [seen_getC])) only [op2_s', op_s', op2_op, op2_op2, op2_cond, ev_v', call_r', map_c', map_n', bin_e', pick_e', not_e, ext_e', nth_z', nth_1', nth_2', nth_3', gval_e, gval_u', cmp_e, orUndef_t', orUndef_f', condV_t', condV_f', cond_true, cond_false, eqI_eq, neI_eq, ltI_eq, leI_eq, gtI_eq', geI_eq, Bool.not_true, Bool.not_false, beq_self_eq_true, tf_beq, ft_beq, eq_self, decide_true, decide_false, oneOf1, orU_some, h0, h1, h2, h7, h21, h22, h23, e1, idxL_e, ld2, nw, sto, nilCheck_e, fieldAddr_e, l1, lenL_e, sub_e, e11, hai, min_e, max_e, l3, sv, e24, thenX_n']
          exact rest a _ _ (fun y => by simp only [seen_getC]) (by simp only [St.seen_next]) (by unfold gain; rw [hnx, if_neg hp, Int.add_zero]) ((by kernel_rfl : _ = fs.get t0).trans h0) ((by kernel_rfl : _ = fs.get t1).trans h1) ((by kernel_rfl : _ = fs.get t2).trans h2) ((by kernel_rfl : _ = fs.get t7).trans h7) ((by kernel_rfl : _ = fs.get t21).trans h21) ((by kernel_rfl : _ = fs.get t22).trans h22) (by kernel_rfl)
    · have e1 : decide ((i : Int) < (l.length : Int)) = false := decide_eq_false (by omega)
      simp only [op2_s', op_s', op2_op, op2_op2, op2_cond, ev_v', call_r', map_c', map_n', bin_e', pick_e', not_e, ext_e', nth_z', nth_1', nth_2', nth_3', gval_e, gval_u', cmp_e, orUndef_t', orUndef_f', condV_t', condV_f', cond_true, cond_false, eqI_eq, neI_eq, ltI_eq, leI_eq, gtI_eq', geI_eq, Bool.not_true, Bool.not_false, beq_self_eq_true, tf_beq, ft_beq, eq_self, decide_true, decide_false, oneOf1, orU_some, h22, h23, e1, thenX_e']
      refine ⟨_, _, rfl, ⟨hu.1, by have := hu.2.1; omega, hu.2.2⟩, ?_⟩
      rw [List.drop_eq_nil_of_le (by omega)]
      show _ = some (Value.int .i64 (a + 0))
      rw [Int.add_zero]
      exact (by kernel_rfl : _ = fs.get t7).trans h7
end Go.Proofs.Ythjhammjankekaa.AbsRatO
namespace Go.Proofs.Ythjhammjankekaa.AbsRatO
open Go Go.Abs Go.Proofs
set_option maxRecDepth 100000
set_option linter.unusedVariables false
set_option linter.unusedSimpArgs false
/-! Sum, whole -/
def clamp (x : Int) : Int := min (max x 0) 109573
theorem k16 (M : Nat) (a b c : Value) (s : St) : callN E (M + 1) 16 [a, b, c] s = callF (callN E M) M c16 [a, b, c] s := by kernel_rfl
theorem sum (M : Nat) (hM : 2000 ≤ M) (s : St) (tb : Nat) (v : Value) (l : List (Int × Int)) (f t : Int) (hl : l.length ≤ 256) (ho : Okl l) (htab : Tab s tb v l) (h8 : 8 ≤ s.next) (hn : s.next + 300 ≤ lim) :
    ∃ u', callN E (M + 1) 16 [.pointer (some ⟨tb, 0, none⟩), .int .i64 f, .int .i64 t] s = some (.int .i64 (sumP (clamp f) (clamp t) l), u') ∧ Grew 256 s u' := by
  have hcf : 0 ≤ clamp f ∧ clamp f ≤ 109573 := by unfold clamp; omega
  have hct : 0 ≤ clamp t ∧ clamp t ≤ 109573 := by unfold clamp; omega
  have l1 : oLoad1 (.v (.pointer (some ⟨tb, 0 + 0, none⟩))) (callN E M) PT.nil s = some (v, s.seen tb) := load1_e tb (0 + 0) _ _ _ PT.nil s htab.cell rfl
  have main : ∃ fs' u', loopF (c16_l0 (callN E M) M) M (PT.put (.int .i64 0) t23 (PT.put (.int .i64 (l.length : Int)) t22 (PT.put v t21 (PT.put (.pointer (some ⟨tb, 0 + 0, none⟩)) t20 (PT.put (.pointer (some ⟨tb, 0, none⟩)) t19 (PT.put (.pointer (some ⟨tb, 0, none⟩)) t18 (PT.put (.int .i64 0) t7 (PT.put (.int .i64 (clamp t)) t2 (PT.put (.int .i64 (clamp f)) t1 (PT.put (.int .i64 (clamp t)) t17 (PT.put (.int .i64 (max t 0)) t16 (PT.put (.int .i64 t) t15 (PT.put (.int .i64 (clamp f)) t14 (PT.put (.int .i64 (max f 0)) t13 (PT.put (.int .i64 f) t12 (PT.put (.int .i64 0) t6 (PT.put (.int .i64 t) t2 (PT.put (.int .i64 f) t1 (PT.put (.pointer (some ⟨tb, 0, none⟩)) t0 PT.nil))))))))))))))))))) (s.seen tb) = some (.exit 0, fs', u') ∧ Grew 256 s u' ∧ fs'.get t7 = some (.int .i64 (sumP (clamp f) (clamp t) l)) := by
    rcases htab.sl with ⟨rfl, rfl⟩ | ⟨sb, rfl, hsb, hc, hne⟩
    · obtain ⟨M, rfl⟩ : ∃ m, M = m + 1 := ⟨M - 1, by omega⟩
      rw [loop_s, d16_l0]
      unfold D16_l0
      have g23 : ∀ x : Frm, (PT.put (.int .i64 0) t23 x).get t23 = some (.int .i64 0) := fun x => by kernel_rfl
      have g22 : ∀ (x : Frm) (y : Value), (PT.put y t23 (PT.put (.int .i64 (([] : List (Int × Int)).length : Int)) t22 x)).get t22 = some (.int .i64 0) := fun x y => by kernel_rfl
      have e1 : decide ((0 : Int) < 0) = false := rfl
      simp only [g23, g22, op2_s', op_s', op2_op, op2_op2, op2_cond, ev_v', call_r', map_c', map_n', bin_e', pick_e', not_e, ext_e', nth_z', nth_1', nth_2', nth_3', gval_e, gval_u', cmp_e, orUndef_t', orUndef_f', condV_t', condV_f', cond_true, cond_false, eqI_eq, neI_eq, ltI_eq, leI_eq, gtI_eq', geI_eq, Bool.not_true, Bool.not_false, beq_self_eq_true, tf_beq, ft_beq, eq_self, decide_true, decide_false, oneOf1, orU_some, e1, thenX_e']
      exact ⟨_, _, rfl, ⟨by rw [St.seen_next]; omega, by rw [St.seen_next]; omega, fun y _ => seen_getC _ _ _⟩, by kernel_rfl⟩
    · obtain ⟨fs', u', r1, r2, r3⟩ := sumL (callN E M) M s tb sb (UNK + 2) l (clamp f) (clamp t) hl ho hcf hct h8 htab.lt htab.cell hsb hc hn M 0 0 (PT.put (.int .i64 0) t23 (PT.put (.int .i64 (l.length : Int)) t22 (PT.put (.slice (some ⟨sb, 0, none⟩) l.length (UNK + 2)) t21 (PT.put (.pointer (some ⟨tb, 0 + 0, none⟩)) t20 (PT.put (.pointer (some ⟨tb, 0, none⟩)) t19 (PT.put (.pointer (some ⟨tb, 0, none⟩)) t18 (PT.put (.int .i64 0) t7 (PT.put (.int .i64 (clamp t)) t2 (PT.put (.int .i64 (clamp f)) t1 (PT.put (.int .i64 (clamp t)) t17 (PT.put (.int .i64 (max t 0)) t16 (PT.put (.int .i64 t) t15 (PT.put (.int .i64 (clamp f)) t14 (PT.put (.int .i64 (max f 0)) t13 (PT.put (.int .i64 f) t12 (PT.put (.int .i64 0) t6 (PT.put (.int .i64 t) t2 (PT.put (.int .i64 f) t1 (PT.put (.pointer (some ⟨tb, 0, none⟩)) t0 PT.nil))))))))))))))))))) (s.seen tb)
        ⟨by rw [St.seen_next]; omega, by rw [St.seen_next]; omega, fun y _ => seen_getC _ _ _⟩ (by kernel_rfl) (by kernel_rfl) (by kernel_rfl) (by kernel_rfl) (by kernel_rfl) (by kernel_rfl) (by kernel_rfl) (by omega) (by omega) (by omega) (by omega)
      rw [List.drop_zero, Int.zero_add] at r3
      exact ⟨fs', u', r1, r2, r3⟩
  obtain ⟨fs', u', r1, r2, r3⟩ := main
  refine ⟨u', ?_, r2⟩
  have hlen : ∀ w, oLenL (.v v) (callN E M) PT.nil w = some (.int .i64 (l.length : Int), w) := fun w => by
    rcases htab.sl with ⟨rfl, rfl⟩ | ⟨sb, rfl, h2, h3, h4⟩ <;> exact lenL_e _ _ _ _ PT.nil w
  rw [k16, d16]
  unfold D16
  have c1 : min (max f 0) 109573 = clamp f := rfl
  have c2 : min (max t 0) 109573 = clamp t := rfl
  simp only [op2_s', op_s', op2_op, op2_op2, op2_cond, ev_v', call_r', map_c', map_n', bin_e', pick_e', not_e, ext_e', nth_z', nth_1', nth_2', nth_3', gval_e, gval_u', cmp_e, orUndef_t', orUndef_f', condV_t', condV_f', cond_true, cond_false, eqI_eq, neI_eq, ltI_eq, leI_eq, gtI_eq', geI_eq, Bool.not_true, Bool.not_false, beq_self_eq_true, tf_beq, ft_beq, eq_self, decide_true, decide_false, oneOf1, orU_some, max_e, min_e, c1, c2, nilCheck_e, fieldAddr_e, l1, hlen]
  rw [r1]
  simp only [op2_s', blkX_e, Nat.beq_refl, cond_true, thenX_n', d16_r0, D16_r0, r3, orU_some, finX_r']
  first | rfl | (show _ = _; kernel_rfl)
end Go.Proofs.Ythjhammjankekaa.AbsRatO
namespace Go.Proofs.Ythjhammjankekaa.AbsRatO
open Go Go.Abs Go.Proofs
set_option maxRecDepth 100000
set_option linter.unusedVariables false
set_option linter.unusedSimpArgs false
/-! append of steps -/
/-- a slice that reads as steps -/
def Rd (s : St) (v : Value) (m : List (Int × Int)) : Prop :=
  (m = [] ∧ v = .slice none 0 0) ∨ ∃ b o c, v = .slice (some ⟨b, o, none⟩) m.length c ∧ (m ≠ [] → ∃ cells, s.getC b = some cells ∧ o + m.length * 2 ≤ cells.length ∧ (cells.drop o).take (m.length * 2) = flatV m)
/-- a slice that grows -/
def Acc (s : St) (v : Value) (a : List (Int × Int)) : Prop :=
  ∃ b, (a = [] ∧ v = .slice (some ⟨b, 0, none⟩) 0 0) ∨ (a ≠ [] ∧ v = .slice (some ⟨b, 0, none⟩) a.length (UNK + 2) ∧ b < s.next ∧ s.getC b = some (flatV a))
theorem src_e (s : St) (x : Value) (m : List (Int × Int)) (h : Rd s x m) : ∃ s2, srcCells s 2 x = some (m.length, flatV m, s2) ∧ Alike s s2 := by
  rcases h with ⟨rfl, rfl⟩ | ⟨b, o, c, rfl, h⟩
  · exact ⟨s, rfl, Alike.refl s⟩
  · cases m with
    | nil => exact ⟨s, rfl, Alike.refl s⟩
    | cons p m =>
      obtain ⟨cells, h1, h2, h3⟩ := h (by simp)
      refine ⟨s.seen b, ?_, ⟨St.seen_next s b, fun y => seen_getC _ _ _⟩⟩
      show (bif Nat.beq (p :: m).length 0 then some (0, [], s) else opt2 (s.read b o ((p :: m).length * 2)) fun c s => some ((p :: m).length, c, s)) = _
      have z : Nat.beq (p :: m).length 0 = false := rfl
      rw [z, cond_false, read_e s b o _ cells h1 h2, h3, op2_s']
theorem append_e (rec : Rec) (s : St) (v x : Value) (a m : List (Int × Int)) (hl : a.length + m.length ≤ 1000) (hn : s.next ≤ lim) (ha : Acc s v a) (hx : Rd s x m) :
    ∃ v' s', oAppend 2 16 (.v v) (.v x) rec PT.nil s = some (v', s') ∧ Acc s' v' (a ++ m) ∧ s.next ≤ s'.next ∧ s'.next ≤ s.next + 1 ∧ (∀ y, y < s.next → blkOf v ≠ some y → s'.getC y = s.getC y) ∧ ∀ b, blkOf v' = some b → blkOf v = some b ∨ s.next ≤ b := by
  have hlim : lim = 1000000000 := rfl
  obtain ⟨s2, e1, al⟩ := src_e s x m hx
  have c0 : Nat.blt 0 UNK = true := by
    have : UNK = 18446744073709551616 := rfl
    rw [this]; rfl
  have cu : Nat.blt (UNK + 2) UNK = false := by
    have : UNK = 18446744073709551616 := rfl
    rw [this]; rfl
  have hq : Nat.beq (UNK + 2) (UNK + 2) = true := Nat.beq_refl _
  have z2 : Nat.beq 2 0 = false := rfl
  have z3 : Nat.beq 0 0 = true := rfl
  by_cases hm : m = []
  · subst hm
    obtain ⟨b, ha⟩ := ha
    have key : ∀ n c, appendTo s2 2 16 (some ⟨b, 0, none⟩) n c ([] : List (Int × Int)).length (flatV []) = some (.slice (some ⟨b, 0, none⟩) n c, s2) := fun n c => rfl
    have run : ∀ n c, oAppend 2 16 (.v (.slice (some ⟨b, 0, none⟩) n c)) (.v x) rec PT.nil s = some (.slice (some ⟨b, 0, none⟩) n c, s2) := fun n c => by
      show opt (srcCells s 2 x) (fun r => appendTo r.2.2 2 16 (some ⟨b, 0, none⟩) n c r.1 r.2.1) = _
      rw [e1, op_s']
      exact key n c
    rw [List.append_nil]
    rcases ha with ⟨rfl, rfl⟩ | ⟨h1, rfl, h2, h3⟩
    · exact ⟨_, s2, run 0 0, ⟨b, .inl ⟨rfl, rfl⟩⟩, by rw [al.1]; omega, by rw [al.1]; omega, fun y _ _ => al.2 y, fun b hb => .inl hb⟩
    · exact ⟨_, s2, run _ _, ⟨b, .inr ⟨h1, rfl, by rw [al.1]; exact h2, (al.2 b).trans h3⟩⟩, by rw [al.1]; omega, by rw [al.1]; omega, fun y _ _ => al.2 y, fun b hb => .inl hb⟩
  · have hpos : 0 < m.length := List.length_pos_iff.2 hm
    have z1 : Nat.beq m.length 0 = false := by rw [beq_eq']; exact decide_eq_false (by omega)
    obtain ⟨b, ⟨rfl, rfl⟩ | ⟨h1, rfl, h2, h3⟩⟩ := ha
    · obtain ⟨s', r1, r2, r3, r4⟩ := alloc_e s2 (flatV m) (by rw [al.1]; exact hn) (flat_map m hm)
      refine ⟨.slice (some ⟨s2.next, 0, none⟩) m.length (UNK + 2), s', ?_, ⟨s2.next, .inr ⟨hm, rfl, by omega, r3⟩⟩, by rw [r2, al.1]; omega, by rw [r2, al.1]; omega, fun y hy _ => (r4 y (by rw [al.1]; omega)).trans (al.2 y), fun b hb => .inr (by have : s2.next = b := Option.some.inj hb; rw [← this, al.1]; omega)⟩
      show opt (srcCells s 2 x) (fun r => appendTo r.2.2 2 16 (some ⟨b, 0, none⟩) 0 0 r.1 r.2.1) = _
      rw [e1, op_s']
      have hf : fits (0 + m.length) 16 = true := by
        unfold fits
        rw [ble_eq', ble_eq', decide_eq_true (by omega), decide_eq_true (by omega)]
        rfl
      have c1 : Nat.ble (0 + m.length) 0 = false := by rw [ble_eq']; exact decide_eq_false (by omega)
      show appendTo s2 2 16 (some ⟨b, 0, none⟩) 0 0 m.length (flatV m) = _
      simp only [appendTo, z1, z2, z3, hf, c0, c1, cond_true, cond_false, Bool.not_true]
      unfold newSlice
      rw [r1]
      rfl
    · obtain ⟨s', r1, r2, r3, r4⟩ := alloc_e (s2.set b none) (flatV (a ++ m)) (by rw [St.set_next, al.1]; exact hn) (flat_map _ (by simp [h1]))
      rw [St.set_next] at r1 r2 r3 r4
      have hoth : ∀ y, y ≠ b → (s2.set b none).getC y = s.getC y := by
        intro y hy
        rw [← al.2 y]
        unfold St.getC
        rw [St.get_set _ _ _ _ (by have : (2:Nat) ^ 40 = 1099511627776 := rfl; omega), if_neg hy]
      refine ⟨.slice (some ⟨s2.next, 0, none⟩) (a.length + m.length) (UNK + 2), s', ?_, ⟨s2.next, .inr ⟨by simp [h1], by rw [List.length_append], by omega, r3⟩⟩, by rw [r2, al.1]; omega, by rw [r2, al.1]; omega, fun y hy hy' => (r4 y (by rw [al.1]; omega)).trans (hoth y fun e => hy' (congrArg some e.symm)), fun b hb => .inr (by have : s2.next = b := Option.some.inj hb; rw [← this, al.1]; omega)⟩
      show opt (srcCells s 2 x) (fun r => appendTo r.2.2 2 16 (some ⟨b, 0, none⟩) a.length (UNK + 2) r.1 r.2.1) = _
      rw [e1, op_s']
      have hf : fits (a.length + m.length) 16 = true := by
        unfold fits
        rw [ble_eq', ble_eq', decide_eq_true (by omega), decide_eq_true (by omega)]
        rfl
      have c1 : Nat.ble (0 + a.length * 2 + lenN (flatV m)) (lenN (flatV a)) = false := by
        rw [ble_eq', lenN_eq, lenN_eq, flat_len, flat_len]
        exact decide_eq_false (by omega)
      have c2 : Nat.ble (0 + a.length * 2) (lenN (flatV a)) = true := by
        rw [ble_eq', lenN_eq, flat_len]
        exact decide_eq_true (by omega)
      have c3 : app (takeN (a.length * 2) (dropN 0 (flatV a))) (flatV m) = flatV (a ++ m) := by
        rw [app_eq, takeN_eq, dropN_eq, List.drop_zero, List.take_of_length_le (by rw [flat_len]; omega), flat_app]
      show appendTo s2 2 16 (some ⟨b, 0, none⟩) a.length (UNK + 2) m.length (flatV m) = _
      simp only [appendTo, z1, z2, hf, cu, hq, cond_true, cond_false, Bool.not_true]
      rw [al.2 b, h3, op_s', c1, c2, c3, cond_false, cond_true]
      unfold newSlice
      rw [r1]
      rfl
/-- an empty one -/
theorem empty_e (rec : Rec) (s : St) (hn : s.next ≤ lim) : ∃ s', oBuildSlice 0 [] [] rec PT.nil s = some (.slice (some ⟨s.next, 0, none⟩) 0 0, s') ∧ s'.next = s.next + 1 ∧ ∀ y, y ≠ s.next → s'.getC y = s.getC y := by
  obtain ⟨s', r1, r2, r3, r4⟩ := alloc_e s [] hn rfl
  refine ⟨s', ?_, r2, r4⟩
  unfold oBuildSlice
  show opt2 (s.alloc []) (fun b s => some (Value.slice (some ⟨b, 0, none⟩) 0 0, s)) = _
  rw [r1]
  rfl
theorem SlcU.rd {s : St} {v : Value} {l : List (Int × Int)} (h : SlcU s v l) : Rd s v l := by
  rcases h with h | ⟨sb, rfl, h1, h2, h3⟩
  · exact .inl h
  · exact .inr ⟨sb, 0, _, rfl, fun _ => ⟨_, h2, by rw [flat_len]; omega, by rw [List.drop_zero, List.take_of_length_le (by rw [flat_len]; omega)]⟩⟩
/-- the steps ahead of a place, and those from it on -/
theorem slice_e (rec : Rec) (s : St) (v : Value) (l : List (Int × Int)) (k : Nat) (hk : k ≤ l.length) (h : SlcU s v l) :
    (∃ x, oSliceL 2 (.v v) none (some (.v (.int .i64 (k : Int)))) none rec PT.nil s = some (x, s) ∧ (∀ w, (∀ y, blkOf v = some y → w.getC y = s.getC y) → Rd w x (l.take k))) ∧
    (∃ x, oSliceL 2 (.v v) (some (.v (.int .i64 (k : Int)))) none none rec PT.nil s = some (x, s) ∧ (∀ w, (∀ y, blkOf v = some y → w.getC y = s.getC y) → Rd w x (l.drop k))) := by
  rcases h with ⟨rfl, rfl⟩ | ⟨sb, rfl, h1, h2, h3⟩
  · have : k = 0 := by simpa using hk
    subst this
    exact ⟨⟨.slice none 0 0, by kernel_rfl, fun w _ => .inl ⟨rfl, rfl⟩⟩, ⟨.slice none 0 0, by kernel_rfl, fun w _ => .inl ⟨rfl, rfl⟩⟩⟩
  · have hb : Nat.blt (UNK + 2) UNK = false := by
      have : UNK = 18446744073709551616 := rfl
      rw [this]; rfl
    have hq : Nat.beq (UNK + 2) (UNK + 2) = true := Nat.beq_refl _
    have z : Nat.beq 2 0 = false := rfl
    have bd : ∀ d, boundD PT.nil (some (.v (.int .i64 (k : Int)))) l.length d = some k := fun d => by
      show (bif Nat.ble k l.length then force k some else none) = _
      rw [ble_eq', decide_eq_true hk, cond_true, force_eq]
    have b1 : boundD PT.nil none k 0 = some 0 := rfl
    have b0 : boundD PT.nil none l.length l.length = some l.length := rfl
    refine ⟨⟨.slice (some ⟨sb, 0 + 0 * 2, none⟩) (k - 0) (UNK + 2), ?_, fun w hw => ?_⟩, ⟨.slice (some ⟨sb, 0 + k * 2, none⟩) (l.length - k) (UNK + 2), ?_, fun w hw => ?_⟩⟩
    · simp only [oSliceL, ev_v', hb, hq, z, cond_false, cond_true, Bool.not_true, b0, bd, b1, op_s', force_eq]
      try rfl
    · have hlen : (l.take k).length = k := by simp; omega
      refine .inr ⟨sb, 0 + 0 * 2, UNK + 2, by rw [hlen, Nat.sub_zero], fun _ => ⟨_, (hw sb rfl).trans h2, by rw [hlen, flat_len]; omega, ?_⟩⟩
      rw [hlen]
      show ((flatV l).drop 0).take _ = _
      rw [List.drop_zero, flat_take]
    · have ad : addA ⟨sb, 0, none⟩ (k * 2) = ⟨sb, 0 + k * 2, none⟩ := by unfold addA; rw [force_eq]
      simp only [oSliceL, ev_v', hb, hq, z, cond_false, cond_true, Bool.not_true, b0, bd, op_s', force_eq, ad]
      try rfl
    · have hlen : (l.drop k).length = l.length - k := List.length_drop ..
      refine .inr ⟨sb, 0 + k * 2, UNK + 2, by rw [hlen], fun _ => ⟨_, (hw sb rfl).trans h2, by rw [hlen, flat_len]; omega, ?_⟩⟩
      rw [hlen, Nat.zero_add, flat_drop, List.take_of_length_le (by rw [flat_len, hlen]; omega)]
end Go.Proofs.Ythjhammjankekaa.AbsRatO
namespace Go.Proofs.Ythjhammjankekaa.AbsRatO
open Go Go.Abs Go.Proofs
set_option maxRecDepth 100000
set_option linter.unusedVariables false
set_option linter.unusedSimpArgs false
/-! the document's PutRate: its parts -/
theorem k45 (M : Nat) (a : Value) (s : St) : callN E (M + 1) 45 [a] s = callF (callN E M) M c45 [a] s := by kernel_rfl
theorem day45 (M : Nat) (d : Int) (s : St) : callN E (M + 1) 45 [.int .i64 d] s = some (.bool (decide (0 ≤ d ∧ d ≤ 109572)), s) := by
  rw [k45, d45]
  unfold D45
  by_cases h1 : 0 ≤ d
  · by_cases h2 : d ≤ 109572
    · have e1 : decide (0 ≤ d) = true := decide_eq_true h1
      have e2 : decide (d ≤ 109572) = true := decide_eq_true h2
      have e3 : decide (0 ≤ d ∧ d ≤ 109572) = true := decide_eq_true ⟨h1, h2⟩
      rw [e3]
      simp only [op2_s', op_s', op2_op, op2_op2, op2_cond, ev_v', call_r', map_c', map_n', bin_e', pick_e', not_e, ext_e', nth_z', nth_1', nth_2', nth_3', gval_e, gval_u', cmp_e, orUndef_t', orUndef_f', condV_t', condV_f', cond_true, cond_false, eqI_eq, neI_eq, ltI_eq, leI_eq, gtI_eq', geI_eq, Bool.not_true, Bool.not_false, beq_self_eq_true, tf_beq, ft_beq, eq_self, decide_true, decide_false, oneOf1, orU_some, e1, e2]
    · have e1 : decide (0 ≤ d) = true := decide_eq_true h1
      have e2 : decide (d ≤ 109572) = false := decide_eq_false h2
      have e3 : decide (0 ≤ d ∧ d ≤ 109572) = false := decide_eq_false (by omega)
      rw [e3]
      simp only [op2_s', op_s', op2_op, op2_op2, op2_cond, ev_v', call_r', map_c', map_n', bin_e', pick_e', not_e, ext_e', nth_z', nth_1', nth_2', nth_3', gval_e, gval_u', cmp_e, orUndef_t', orUndef_f', condV_t', condV_f', cond_true, cond_false, eqI_eq, neI_eq, ltI_eq, leI_eq, gtI_eq', geI_eq, Bool.not_true, Bool.not_false, beq_self_eq_true, tf_beq, ft_beq, eq_self, decide_true, decide_false, oneOf1, orU_some, e1, e2]
  · have e1 : decide (0 ≤ d) = false := decide_eq_false h1
    have e3 : decide (0 ≤ d ∧ d ≤ 109572) = false := decide_eq_false (by omega)
    rw [e3]
    simp only [op2_s', op_s', op2_op, op2_op2, op2_cond, ev_v', call_r', map_c', map_n', bin_e', pick_e', not_e, ext_e', nth_z', nth_1', nth_2', nth_3', gval_e, gval_u', cmp_e, orUndef_t', orUndef_f', condV_t', condV_f', cond_true, cond_false, eqI_eq, neI_eq, ltI_eq, leI_eq, gtI_eq', geI_eq, Bool.not_true, Bool.not_false, beq_self_eq_true, tf_beq, ft_beq, eq_self, decide_true, decide_false, oneOf1, orU_some, e1]
theorem SlcU.len {s : St} {v : Value} {l : List (Int × Int)} (h : SlcU s v l) (rec : Rec) (w : St) : oLenL (.v v) rec PT.nil w = some (.int .i64 (l.length : Int), w) := by
  rcases h with ⟨rfl, rfl⟩ | ⟨sb, rfl, h2, h3, h4⟩ <;> exact lenL_e _ _ _ rec PT.nil w
/-- the place: its loop -/
theorem loop17 (rec : Rec) (N : Nat) (s : St) (v : Value) (l : List (Int × Int)) (d r : Int) (hl : l.length ≤ 1000) (hv : SlcU s v l) :
    ∀ (fuel i : Nat) (fs : Frm) (u : St), Alike s u → fs.get t0 = some v → fs.get t1 = some (.int .i64 d) → fs.get t2 = some (.int .i64 r) → fs.get t8 = some (.int .i64 (i : Int)) → i ≤ l.length → l.length - i < fuel →
    ∃ k fs' u', loopF (c17_l0 rec N) fuel fs u = some (.exit 0, fs', u') ∧ Alike s u' ∧ i ≤ k ∧ k ≤ l.length ∧ (∀ x (h : x < l.length), i ≤ x → x < k → l[x].1 < d) ∧ (∀ h : k < l.length, d ≤ l[k].1) ∧ fs'.get t0 = some v ∧ fs'.get t1 = some (.int .i64 d) ∧ fs'.get t2 = some (.int .i64 r) ∧ fs'.get t8 = some (.int .i64 (k : Int)) := by
  intro fuel
  induction fuel with
  | zero => intro i fs u _ _ _ _ _ _ h; omega
  | succ fuel ih =>
    intro i fs u hu h0 h1 h2 h8 hi hf
    rw [loop_s, d17_l0]
    unfold D17_l0
    have hlen := hv.len
    by_cases hlt : i < l.length
    · have e1 : decide ((i : Int) < (l.length : Int)) = true := decide_eq_true (by omega)
      rcases hv with ⟨rfl, rfl⟩ | ⟨sb, rfl, hsb, hc, hne⟩
      · exact absurd hlt (by simp)
      have la : oLoad1 (.v (.pointer (some ⟨sb, 0 + i * 2 + 0, none⟩))) rec PT.nil u = some (.int .i64 l[i].1, u.seen sb) := load1_e sb _ _ _ rec PT.nil u ((hu.2 sb).trans hc) (by rw [Nat.zero_add, Nat.add_zero, flat_day l i hlt])
      by_cases hd : l[i].1 < d
      · have e2 : decide (l[i].1 < d) = true := decide_eq_true hd
        simp (disch := omega) only [op2_s', op_s', op2_op, op2_op2, op2_cond, ev_v', call_r', map_c', map_n', bin_e', pick_e', not_e, ext_e', nth_z', nth_1', nth_2', nth_3', gval_e, gval_u', cmp_e, orUndef_t', orUndef_f', condV_t', condV_f', cond_true, cond_false, eqI_eq, neI_eq, ltI_eq, leI_eq, gtI_eq', geI_eq, Bool.not_true, Bool.not_false, beq_self_eq_true, tf_beq, ft_beq, eq_self, decide_true, decide_false, oneOf1, orU_some, h0, h1, h2, h8, hlen, e1, idxL_e, fieldAddr_e, la, e2, add_e, thenX_n']
        obtain ⟨k, fs', u', r1, r2, r3, r4, r5, r6⟩ := ih (i + 1) _ (u.seen sb) (hu.trans ⟨by simp only [St.seen_next], fun y => by simp only [seen_getC]⟩) ((by kernel_rfl : _ = fs.get t0).trans h0) ((by kernel_rfl : _ = fs.get t1).trans h1) ((by kernel_rfl : _ = fs.get t2).trans h2) (by kernel_rfl) (by omega) (by omega)
        refine ⟨k, fs', u', r1, r2, by omega, r4, fun x h a b => ?_, r6⟩
        rcases Nat.lt_or_eq_of_le a with a' | rfl
        · exact r5 x h (by omega) b
        · exact hd
      · have e2 : decide (l[i].1 < d) = false := decide_eq_false hd
        simp (disch := omega) only [op2_s', op_s', op2_op, op2_op2, op2_cond, ev_v', call_r', map_c', map_n', bin_e', pick_e', not_e, ext_e', nth_z', nth_1', nth_2', nth_3', gval_e, gval_u', cmp_e, orUndef_t', orUndef_f', condV_t', condV_f', cond_true, cond_false, eqI_eq, neI_eq, ltI_eq, leI_eq, gtI_eq', geI_eq, Bool.not_true, Bool.not_false, beq_self_eq_true, tf_beq, ft_beq, eq_self, decide_true, decide_false, oneOf1, orU_some, h0, h1, h2, h8, hlen, e1, idxL_e, fieldAddr_e, la, e2, thenX_e']
        exact ⟨i, _, _, rfl, hu.trans ⟨by simp only [St.seen_next], fun y => by simp only [seen_getC]⟩, by omega, by omega, fun x h a b => absurd b (by omega), fun h => by omega, (by kernel_rfl : _ = fs.get t0).trans h0, (by kernel_rfl : _ = fs.get t1).trans h1, (by kernel_rfl : _ = fs.get t2).trans h2, (by kernel_rfl : _ = fs.get t8).trans h8⟩
    · have e1 : decide ((i : Int) < (l.length : Int)) = false := decide_eq_false (by omega)
      simp only [op2_s', op_s', op2_op, op2_op2, op2_cond, ev_v', call_r', map_c', map_n', bin_e', pick_e', not_e, ext_e', nth_z', nth_1', nth_2', nth_3', gval_e, gval_u', cmp_e, orUndef_t', orUndef_f', condV_t', condV_f', cond_true, cond_false, eqI_eq, neI_eq, ltI_eq, leI_eq, gtI_eq', geI_eq, Bool.not_true, Bool.not_false, beq_self_eq_true, tf_beq, ft_beq, eq_self, decide_true, decide_false, oneOf1, orU_some, h0, h1, h2, h8, hlen, e1, thenX_e']
      exact ⟨i, _, _, rfl, hu, by omega, by omega, fun x h a b => absurd b (by omega), fun h => absurd h hlt, (by kernel_rfl : _ = fs.get t0).trans h0, (by kernel_rfl : _ = fs.get t1).trans h1, (by kernel_rfl : _ = fs.get t2).trans h2, (by kernel_rfl : _ = fs.get t8).trans h8⟩
theorem Acc.slc {s : St} {v : Value} {a : List (Int × Int)} (h : Acc s v a) (ha : a ≠ []) : SlcU s v a := by
  obtain ⟨b, ⟨h1, _⟩ | ⟨h1, h2, h3, h4⟩⟩ := h
  · exact absurd h1 ha
  · exact .inr ⟨b, h2, h3, h4, h1⟩
/-- a step put in: the operations one by one -/
theorem insW (rec : Rec) (z : St) (v : Value) (l : List (Int × Int)) (d r : Int) (k : Nat) (hl : l.length ≤ 900) (hk : k ≤ l.length) (hv : SlcU z v l) (hn : z.next + 8 ≤ lim) :
    ∃ x25 z1 x26 x27 z2 z3 x30 z4 x31 x32 z5, oBuildSlice 0 [] [] rec PT.nil z = some (x25, z1) ∧ oSliceL 2 (.v v) none (some (.v (.int .i64 (k : Int)))) none rec PT.nil z1 = some (x26, z1) ∧ oAppend 2 16 (.v x25) (.v x26) rec PT.nil z1 = some (x27, z2) ∧
      z2.alloc [.int .i64 d, .int .i64 r] = some (z2.next, z3) ∧ oAppend 2 16 (.v x27) (.v (.slice (some ⟨z2.next, 0, none⟩) 1 1)) rec PT.nil z3 = some (x30, z4) ∧ oSliceL 2 (.v v) (some (.v (.int .i64 (k : Int)))) none none rec PT.nil z4 = some (x31, z4) ∧ oAppend 2 16 (.v x30) (.v x31) rec PT.nil z4 = some (x32, z5) ∧
      SlcU z5 x32 (insS l k (d, r)) ∧ z.next ≤ z5.next ∧ z5.next ≤ z.next + 5 ∧ (∀ y, y < z.next → z5.getC y = z.getC y) ∧ ∀ b, blkOf x32 = some b → z.next ≤ b := by
  have hb : ∀ y, blkOf v = some y → y < z.next := by
    intro y hy
    rcases hv with ⟨_, rfl⟩ | ⟨sb, rfl, h2, _⟩
    · cases hy
    · cases hy; exact h2
  obtain ⟨z1, a1, a2, a3⟩ := empty_e rec z (by omega)
  have keep1 : ∀ y, y < z.next → z1.getC y = z.getC y := fun y hy => a3 y (by omega)
  have hv1 : SlcU z1 v l := by
    rcases hv with h | ⟨sb, rfl, h2, h3, h4⟩
    · exact .inl h
    · exact .inr ⟨sb, rfl, by omega, (keep1 sb h2).trans h3, h4⟩
  obtain ⟨x26, b1, b2⟩ := (slice_e rec z1 v l k hk hv1).1
  obtain ⟨x27, z2, c1, c2, c3, c4, c5, c6⟩ := append_e rec z1 (.slice (some ⟨z.next, 0, none⟩) 0 0) x26 [] (l.take k) (by simp; omega) (by omega) ⟨z.next, .inl ⟨rfl, rfl⟩⟩ (b2 z1 fun _ _ => rfl)
  rw [List.nil_append] at c2
  have keep2 : ∀ y, y < z.next → z2.getC y = z.getC y := fun y hy => (c5 y (by omega) fun e => by have : z.next = y := Option.some.inj e; omega).trans (keep1 y hy)
  have own2 : ∀ b, blkOf x27 = some b → z.next ≤ b := fun b hb => by
    rcases c6 b hb with e | e
    · have : z.next = b := Option.some.inj e
      omega
    · omega
  obtain ⟨z3, d1, d2, d3, d4⟩ := alloc_e z2 [.int .i64 d, .int .i64 r] (by omega) rfl
  have acc3 : Acc z3 x27 (l.take k) := by
    obtain ⟨b, h | ⟨h1, h2, h3, h4⟩⟩ := c2
    · exact ⟨b, .inl h⟩
    · exact ⟨b, .inr ⟨h1, h2, by omega, (d4 b (by omega)).trans h4⟩⟩
  have rd3 : Rd z3 (.slice (some ⟨z2.next, 0, none⟩) 1 1) [(d, r)] := .inr ⟨z2.next, 0, 1, rfl, fun _ => ⟨_, d3, by simp, rfl⟩⟩
  obtain ⟨x30, z4, e1, e2, e3, e4, e5, e6⟩ := append_e rec z3 x27 _ (l.take k) [(d, r)] (by simp; omega) (by omega) acc3 rd3
  have keep4 : ∀ y, y < z.next → z4.getC y = z.getC y := fun y hy => (e5 y (by omega) fun e => by have := own2 y e; omega).trans ((d4 y (by omega)).trans (keep2 y hy))
  have own4 : ∀ b, blkOf x30 = some b → z.next ≤ b := fun b hb => by
    rcases e6 b hb with e | e
    · exact own2 b e
    · omega
  have hv4 : SlcU z4 v l := by
    rcases hv with h | ⟨sb, rfl, h2, h3, h4⟩
    · exact .inl h
    · exact .inr ⟨sb, rfl, by omega, (keep4 sb h2).trans h3, h4⟩
  obtain ⟨x31, f1, f2⟩ := (slice_e rec z4 v l k hk hv4).2
  obtain ⟨x32, z5, g1, g2, g3, g4, g5, g6⟩ := append_e rec z4 x30 x31 (l.take k ++ [(d, r)]) (l.drop k) (by simp; omega) (by omega) e2 (f2 z4 fun _ _ => rfl)
  rw [List.append_assoc] at g2
  refine ⟨_, z1, x26, x27, z2, z3, x30, z4, x31, x32, z5, a1, b1, c1, d1, e1, f1, g1, g2.slc (by simp), by omega, by omega, fun y hy => (g5 y (by omega) fun e => by have := own4 y e; omega).trans (keep4 y hy), fun b hb => ?_⟩
  rcases g6 b hb with e | e
  · exact own4 b e
  · omega
end Go.Proofs.Ythjhammjankekaa.AbsRatO
namespace Go.Proofs.Ythjhammjankekaa.AbsRatO
open Go Go.Abs Go.Proofs
set_option maxRecDepth 100000
set_option linter.unusedVariables false
set_option linter.unusedSimpArgs false
/-! the document's PutRate, whole -/
theorem k17 (M : Nat) (a b c : Value) (s : St) : callN E (M + 1) 17 [a, b, c] s = callF (callN E M) M c17 [a, b, c] s := by kernel_rfl
theorem geI_eq' (a b : Int) : geI a b = decide (b ≤ a) := leI_eq b a
theorem putW (M : Nat) (hM : 2000 ≤ M) (s : St) (v : Value) (l : List (Int × Int)) (d r : Int) (hl : l.length < 256) (ho : Okl l) (hv : SlcU s v l) (h8 : 8 ≤ s.next) (hn : s.next + 8 ≤ lim) :
    ∃ v' u', callN E (M + 2) 17 [v, .int .i64 d, .int .i64 r] s = some (tupOf [v', .int .i64 (putE d r)], u') ∧ SlcU u' v' (putV l d r) ∧ s.next ≤ u'.next ∧ u'.next ≤ s.next + 5 ∧ (∀ y, y < s.next → u'.getC y = s.getC y) ∧ ∀ b, blkOf v' = some b → blkOf v = some b ∨ s.next ≤ b := by
  have hlim : lim = 1000000000 := rfl
  have h40 : (2:Nat) ^ 40 = 1099511627776 := rfl
  rw [k17, d17]
  unfold D17
  have hlen := hv.len
  by_cases hd : d < 0 ∨ 109572 < d
  · have e : putE d r = 12 := if_pos hd
    have e' : putV l d r = l := if_neg (by rw [e]; decide)
    rw [e, e']
    have e1 : decide (0 ≤ d ∧ d ≤ 109572) = false := decide_eq_false (by omega)
    refine ⟨v, s, ?_, hv, by omega, by omega, fun _ _ => rfl, fun b hb => .inl hb⟩
    simp only [op2_s', op_s', op2_op, op2_op2, op2_cond, ev_v', call_r', map_c', map_n', bin_e', pick_e', not_e, ext_e', nth_z', nth_1', nth_2', nth_3', gval_e, gval_u', cmp_e, orUndef_t', orUndef_f', condV_t', condV_f', cond_true, cond_false, eqI_eq, neI_eq, ltI_eq, leI_eq, gtI_eq', geI_eq, Bool.not_true, Bool.not_false, beq_self_eq_true, tf_beq, ft_beq, eq_self, decide_true, decide_false, oneOf1, orU_some, day45, e1]
    rfl
  have e1 : decide (0 ≤ d ∧ d ≤ 109572) = true := decide_eq_true (by omega)
  by_cases hr : r < 0 ∨ 1000000000 < r
  · have e : putE d r = 1 := by unfold putE; rw [if_neg hd, if_pos hr]
    have e' : putV l d r = l := if_neg (by rw [e]; decide)
    rw [e, e']
    refine ⟨v, s, ?_, hv, by omega, by omega, fun _ _ => rfl, fun b hb => .inl hb⟩
    by_cases h1 : r < 0
    · have e3 : decide (r < 0) = true := decide_eq_true h1
      simp only [op2_s', op_s', op2_op, op2_op2, op2_cond, ev_v', call_r', map_c', map_n', bin_e', pick_e', not_e, ext_e', nth_z', nth_1', nth_2', nth_3', gval_e, gval_u', cmp_e, orUndef_t', orUndef_f', condV_t', condV_f', cond_true, cond_false, eqI_eq, neI_eq, ltI_eq, leI_eq, gtI_eq', geI_eq, Bool.not_true, Bool.not_false, beq_self_eq_true, tf_beq, ft_beq, eq_self, decide_true, decide_false, oneOf1, orU_some, day45, e1, e3]
      rfl
    · have e3 : decide (r < 0) = false := decide_eq_false h1
      have e4 : decide (1000000000 < r) = true := decide_eq_true (by omega)
      simp only [op2_s', op_s', op2_op, op2_op2, op2_cond, ev_v', call_r', map_c', map_n', bin_e', pick_e', not_e, ext_e', nth_z', nth_1', nth_2', nth_3', gval_e, gval_u', cmp_e, orUndef_t', orUndef_f', condV_t', condV_f', cond_true, cond_false, eqI_eq, neI_eq, ltI_eq, leI_eq, gtI_eq', geI_eq, Bool.not_true, Bool.not_false, beq_self_eq_true, tf_beq, ft_beq, eq_self, decide_true, decide_false, oneOf1, orU_some, day45, e1, e3, e4]
      rfl
  have e : putE d r = 0 := by unfold putE; rw [if_neg hd, if_neg hr]
  have e' : putV l d r = insP l d r := if_pos e
  rw [e, e']
  have e3 : decide (r < 0) = false := decide_eq_false (by omega)
  have e4 : decide (1000000000 < r) = false := decide_eq_false (by omega)
  have gr := List.pairwise_iff_getElem.1 ho.1
  obtain ⟨k, fs', u, r1, r2, _, r4, r5, r6, g0, g1, g2, g8⟩ := loop17 (callN E (M + 1)) (M + 1) s v l d r (by omega) hv (M + 1) 0 (PT.put (.int .i64 0) t8 (PT.put (.bool false) t20 (PT.put (.bool false) t19 (PT.put (.int .i64 r) t18 (PT.put (.bool false) t17 (PT.put (.bool false) t16 (PT.put (.int .i64 r) t15 (PT.put (.bool false) t13 (PT.put (.bool true) t12 (PT.put (.int .i64 d) t11 (PT.put (.int .i64 0) t7 (PT.put (.slice none 0 0) t6 (PT.put (.int .i64 r) t2 (PT.put (.int .i64 d) t1 (PT.put v t0 PT.nil))))))))))))))) s (Alike.refl s) (by kernel_rfl) (by kernel_rfl) (by kernel_rfl) (by kernel_rfl) (by omega) (by omega)
  simp only [op2_s', op_s', op2_op, op2_op2, op2_cond, ev_v', call_r', map_c', map_n', bin_e', pick_e', not_e, ext_e', nth_z', nth_1', nth_2', nth_3', gval_e, gval_u', cmp_e, orUndef_t', orUndef_f', condV_t', condV_f', cond_true, cond_false, eqI_eq, neI_eq, ltI_eq, leI_eq, gtI_eq', geI_eq, Bool.not_true, Bool.not_false, beq_self_eq_true, tf_beq, ft_beq, eq_self, decide_true, decide_false, oneOf1, orU_some, day45, e1, e3, e4]
  rw [r1]
  have hvu : ∀ z, Alike s z → SlcU z v l := fun z hz => hv.alike hz
  have e8 : decide ((256 : Int) ≤ (l.length : Int)) = false := decide_eq_false (by omega)
  by_cases hkd : ∃ h : k < l.length, l[k].1 = d
  · obtain ⟨hk, hkd⟩ := hkd
    have hpe := insP_same d r l k hk hkd fun x h hx => r5 x h (by omega) hx
    have ek : decide ((k : Int) < (l.length : Int)) = true := decide_eq_true (by omega)
    have ed : decide (d = d) = true := decide_eq_true rfl
    have hne : l ≠ [] := fun h0 => by subst h0; exact absurd hk (by simp)
    rcases hv with ⟨h0, _⟩ | ⟨sb, rfl, hsb, hc, _⟩
    · exact absurd h0 hne
    have la : oLoad1 (.v (.pointer (some ⟨sb, 0 + k * 2 + 0, none⟩))) (callN E (M + 1)) PT.nil u = some (.int .i64 d, u.seen sb) := load1_e sb _ _ _ _ PT.nil u ((r2.2 sb).trans hc) (by rw [Nat.zero_add, Nat.add_zero, flat_day l k hk, hkd])
    have al : Alike s (u.seen sb) := r2.trans ⟨by simp only [St.seen_next], fun y => by simp only [seen_getC]⟩
    obtain ⟨z1, a1, a2, a3⟩ := empty_e (callN E (M + 1)) (u.seen sb) (by rw [al.1]; omega)
    have hv1 : SlcU z1 (.slice (some ⟨sb, 0, none⟩) l.length (UNK + 2)) l := .inr ⟨sb, rfl, by rw [a2, al.1]; omega, (a3 sb (by rw [al.1]; omega)).trans ((al.2 sb).trans hc), hne⟩
    obtain ⟨x19, z2, c1, c2, c3, c4, c5, c6⟩ := append_e (callN E (M + 1)) z1 (.slice (some ⟨(u.seen sb).next, 0, none⟩) 0 0) _ [] l (by simp; omega) (by rw [a2, al.1]; omega) ⟨_, .inl ⟨rfl, rfl⟩⟩ hv1.rd
    rw [List.nil_append] at c2
    obtain ⟨b, ⟨h0, _⟩ | ⟨_, rfl, hb1, hb2⟩⟩ := c2
    · exact absurd h0 hne
    have hbs : s.next ≤ b := by
      rcases c6 b rfl with q | q
      · have : (u.seen sb).next = b := Option.some.inj q
        rw [← this, al.1]; omega
      · rw [a2, al.1] at q; omega
    have st := store1_e b (0 + k * 2 + 1) (flatV l) (.int .i64 r) (callN E (M + 1)) PT.nil z2 rfl hb2 (by rw [flat_len]; omega)
    rw [Nat.zero_add, flat_set l k hk r, hkd, hpe, ← Nat.zero_add (k * 2)] at st
    have hm : isMapB (flatV (insP l d r)) = false := flat_map _ (by rw [← hpe]; simp [hne])
    have hlen2 : (insP l d r).length = l.length := by rw [← hpe, List.length_set]
    have hz1 : z1.next = s.next + 1 := by rw [a2, al.1]
    refine ⟨.slice (some ⟨b, 0, none⟩) l.length (UNK + 2), z2.set b (some (flatV (insP l d r))), ?_, .inr ⟨b, by rw [hlen2], by rw [St.set_next]; exact hb1, by rw [set_getC _ _ _ _ (by omega) (by omega) hm, if_pos rfl], by rw [← hpe]; simp [hne]⟩, by rw [St.set_next]; omega, by rw [St.set_next]; omega, fun y hy => ?_, fun c hc => .inr (by cases hc; exact hbs)⟩
    · simp (disch := omega) only [op2_s', blkX_e, Nat.beq_refl, thenX_n', d17_r0, D17_r0, g0, g1, g2, g8, op2_s', op_s', op2_op, op2_op2, op2_cond, ev_v', call_r', map_c', map_n', bin_e', pick_e', not_e, ext_e', nth_z', nth_1', nth_2', nth_3', gval_e, gval_u', cmp_e, orUndef_t', orUndef_f', condV_t', condV_f', cond_true, cond_false, eqI_eq, neI_eq, ltI_eq, leI_eq, gtI_eq', geI_eq, Bool.not_true, Bool.not_false, beq_self_eq_true, tf_beq, ft_beq, eq_self, decide_true, decide_false, oneOf1, orU_some, hlen, ek, idxL_e, fieldAddr_e, la, ed, a1, c1, st, finX_r']
      first | rfl | (show _ = _; kernel_rfl)
    · rw [set_getC _ _ _ _ (by omega) (by omega) hm, if_neg (by omega)]
      exact (c5 y (by omega) fun q => by have : (u.seen sb).next = y := Option.some.inj q; rw [al.1] at this; omega).trans ((a3 y (by rw [al.1]; omega)).trans (al.2 y))
  · have hno : ∀ x (h : x < l.length), l[x].1 ≠ d := fun x h q => by
      rcases Nat.lt_trichotomy x k with hx | rfl | hx
      · have := r5 x h (by omega) hx; omega
      · exact hkd ⟨h, q⟩
      · have hk : k < l.length := by omega
        have := gr k x hk h hx
        have := r6 hk
        omega
    have hpe := insP_new d r l k r4 (fun x h hx => Int.le_of_lt (r5 x h (by omega) hx)) (fun x h hx => by
      have hk : k < l.length := by omega
      have a := r6 hk
      rcases Nat.lt_or_eq_of_le hx with hx | rfl
      · have := gr k x hk h hx; omega
      · have := hno k h; omega) hno
    by_cases hk : k < l.length
    · have ek : decide ((k : Int) < (l.length : Int)) = true := decide_eq_true (by omega)
      have ed : decide (l[k].1 = d) = false := decide_eq_false (hno k hk)
      rcases hv with ⟨h0, _⟩ | ⟨sb, rfl, hsb, hc, hne⟩
      · subst h0; exact absurd hk (by simp)
      have la : oLoad1 (.v (.pointer (some ⟨sb, 0 + k * 2 + 0, none⟩))) (callN E (M + 1)) PT.nil u = some (.int .i64 l[k].1, u.seen sb) := load1_e sb _ _ _ _ PT.nil u ((r2.2 sb).trans hc) (by rw [Nat.zero_add, Nat.add_zero, flat_day l k hk])
      have al : Alike s (u.seen sb) := r2.trans ⟨by simp only [St.seen_next], fun y => by simp only [seen_getC]⟩
      obtain ⟨x25, z1, x26, x27, z2, z3, x30, z4, x31, x32, z5, o1, o2, o3, o4, o5, o6, o7, p1, p2, p3, p4, p5⟩ := insW (callN E (M + 1)) (u.seen sb) _ l d r k (by omega) r4 (hvu _ al) (by rw [al.1]; omega)
      rw [hpe] at p1
      refine ⟨x32, z5, ?_, p1, by rw [al.1] at p2; exact p2, by rw [al.1] at p3; exact p3, fun y hy => (p4 y (by rw [al.1]; exact hy)).trans (al.2 y), fun b hb => .inr (by have := p5 b hb; rw [al.1] at this; exact this)⟩
      simp (disch := omega) only [op2_s', blkX_e, Nat.beq_refl, thenX_n', d17_r0, D17_r0, g0, g1, g2, g8, op2_s', op_s', op2_op, op2_op2, op2_cond, ev_v', call_r', map_c', map_n', bin_e', pick_e', not_e, ext_e', nth_z', nth_1', nth_2', nth_3', gval_e, gval_u', cmp_e, orUndef_t', orUndef_f', condV_t', condV_f', cond_true, cond_false, eqI_eq, neI_eq, ltI_eq, leI_eq, gtI_eq', geI_eq, Bool.not_true, Bool.not_false, beq_self_eq_true, tf_beq, ft_beq, eq_self, decide_true, decide_false, oneOf1, orU_some, hlen, ek, idxL_e, fieldAddr_e, la, ed, geI_eq', e8, o1, o2, o3, build2, buildS, o4, o5, o6, o7, finX_r']
      first | rfl | (show _ = _; kernel_rfl)
    · have ek : decide ((k : Int) < (l.length : Int)) = false := decide_eq_false (by omega)
      obtain ⟨x25, z1, x26, x27, z2, z3, x30, z4, x31, x32, z5, o1, o2, o3, o4, o5, o6, o7, p1, p2, p3, p4, p5⟩ := insW (callN E (M + 1)) u v l d r k (by omega) r4 (hvu _ r2) (by rw [r2.1]; omega)
      rw [hpe] at p1
      refine ⟨x32, z5, ?_, p1, by rw [r2.1] at p2; exact p2, by rw [r2.1] at p3; exact p3, fun y hy => (p4 y (by rw [r2.1]; exact hy)).trans (r2.2 y), fun b hb => .inr (by have := p5 b hb; rw [r2.1] at this; exact this)⟩
      simp (disch := omega) only [op2_s', blkX_e, Nat.beq_refl, thenX_n', d17_r0, D17_r0, g0, g1, g2, g8, op2_s', op_s', op2_op, op2_op2, op2_cond, ev_v', call_r', map_c', map_n', bin_e', pick_e', not_e, ext_e', nth_z', nth_1', nth_2', nth_3', gval_e, gval_u', cmp_e, orUndef_t', orUndef_f', condV_t', condV_f', cond_true, cond_false, eqI_eq, neI_eq, ltI_eq, leI_eq, gtI_eq', geI_eq, Bool.not_true, Bool.not_false, beq_self_eq_true, tf_beq, ft_beq, eq_self, decide_true, decide_false, oneOf1, orU_some, hlen, ek, geI_eq', e8, o1, o2, o3, build2, buildS, o4, o5, o6, o7, finX_r']
      first | rfl | (show _ = _; kernel_rfl)
end Go.Proofs.Ythjhammjankekaa.AbsRatO
namespace Go.Proofs.Ythjhammjankekaa.AbsRatO
open Go Go.Abs Go.Proofs
/-! simp goes by the head first -/
theorem opt2_cg {α β γ : Type} {A A' : Option (α × β)} {k : α → β → Option γ} (h : A = A') : opt2 A k = opt2 A' k := by rw [h]
theorem opt_cg {α β : Type} {A A' : Option α} {k : α → Option β} (h : A = A') : opt A k = opt A' k := by rw [h]
theorem condV_cg {α : Type} {v v' : Value} {A B : Option α} (h : v = v') : condV v A B = condV v' A B := by rw [h]
theorem cond_cg {α : Type} {c c' : Bool} {a b : α} (h : c = c') : cond c a b = cond c' a b := by rw [h]
end Go.Proofs.Ythjhammjankekaa.AbsRatO
namespace Go.Proofs.Ythjhammjankekaa.AbsRatO
open Go Go.Abs Go.Proofs
set_option maxRecDepth 100000
set_option linter.unusedVariables false
set_option linter.unusedSimpArgs false
attribute [local congr] opt2_cg opt_cg condV_cg cond_cg
/-! the document's RateSum -/
theorem k20 (M : Nat) (a b c : Value) (s : St) : callN E (M + 1) 20 [a, b, c] s = callF (callN E M) M c20 [a, b, c] s := by kernel_rfl
theorem gainD {d e r f t : Int} (hd : 0 ≤ d ∧ d ≤ 109572) (he : 0 ≤ e ∧ e ≤ 109573) (f' t' : Int) (hf : f' = max f 0) (ht : t' = min t 109573) :
    (0 < min e (clamp t) - max d (clamp f) ↔ max d f' < min e t') ∧ (max d f' < min e t' → min e (clamp t) - max d (clamp f) = min e t' - max d f') := by
  unfold clamp
  omega
theorem nxtB {l : List (Int × Int)} (ho : ∀ p ∈ l, (0 ≤ p.1 ∧ p.1 ≤ 109572) ∧ (0 ≤ p.2 ∧ p.2 ≤ 1000000000)) : 0 ≤ nxt l ∧ nxt l ≤ 109573 := by
  cases l with
  | nil => exact ⟨by decide, by decide⟩
  | cons p l =>
    have := (ho p (List.mem_cons_self ..)).1
    exact ⟨this.1, by show p.1 ≤ _; omega⟩
set_option maxHeartbeats 4000000 in
theorem sumWL (rec : Rec) (N : Nat) (s : St) (v : Value) (l : List (Int × Int)) (f t f' t' : Int) (hl : l.length ≤ 256) (ho : Okl l) (hf : f' = max f 0) (ht : t' = min t 109573) (hv : SlcU s v l) :
    ∀ (fuel i : Nat) (a : Int) (fs : Frm) (u : St), Alike s u → fs.get t0 = some v → fs.get t1 = some (.int .i64 f') → fs.get t2 = some (.int .i64 t') → fs.get t7 = some (.int .i64 a) → fs.get t8 = some (.int .i64 (i : Int)) → i ≤ l.length → 0 ≤ a → a ≤ (i : Int) * 109573000000000 → l.length - i < fuel →
    ∃ fs' u', loopF (c20_l0 rec N) fuel fs u = some (.exit 0, fs', u') ∧ Alike s u' ∧ fs'.get t7 = some (.int .i64 (a + sumP (clamp f) (clamp t) (l.drop i))) := by
  intro fuel
  induction fuel with
  | zero => intro i a fs u _ _ _ _ _ _ _ _ _ h; omega
  | succ fuel ih =>
    intro i a fs u hu h0 h1 h2 h7 h8 hi ha0 ha1 hfu
    have hlen := hv.len
    rw [loop_s, d20_l0]
    unfold D20_l0
    by_cases hlt : i < l.length
    · have e1 : decide ((i : Int) < (l.length : Int)) = true := decide_eq_true (by omega)
      rcases hv with ⟨rfl, rfl⟩ | ⟨sb, rfl, hsb, hc, hne⟩
      · exact absurd hlt (by simp)
      have ok := ho.2 l[i] (List.getElem_mem hlt)
      have uc : u.getC sb = some (flatV l) := (hu.2 sb).trans hc
      have un := hu.1
      have ug := hu.2
      clear hu
      have l1 : ∀ (z : St), (∀ y, z.getC y = u.getC y) → oLoad1 (.v (.pointer (some ⟨sb, 0 + i * 2 + 0, none⟩))) rec PT.nil z = some (.int .i64 l[i].1, z.seen sb) := fun z h => load1_e sb _ _ _ rec PT.nil z ((h sb).trans uc) (by rw [Nat.zero_add, Nat.add_zero, flat_day l i hlt])
      have l2 : ∀ (z : St), (∀ y, z.getC y = u.getC y) → oLoad1 (.v (.pointer (some ⟨sb, 0 + i * 2 + 1, none⟩))) rec PT.nil z = some (.int .i64 l[i].2, z.seen sb) := fun z h => load1_e sb _ _ _ rec PT.nil z ((h sb).trans uc) (by rw [Nat.zero_add, flat_rate l i hlt])
      have hai : int2 addO (.int .i64 (i : Int)) (.int .i64 1) = some (.int .i64 ((i + 1 : Nat) : Int)) := by rw [add_e _ _ (by omega) (by omega)]; rfl
      have hdrop := List.drop_eq_getElem_cons hlt
      have nb := nxtB (l := l.drop (i + 1)) (fun p hp => ho.2 p (List.mem_of_mem_drop hp))
      have gd := gainD (d := l[i].1) (e := nxt (l.drop (i + 1))) (r := l[i].2) (f := f) (t := t) ok.1 nb f' t' hf ht
      have cB : (0 ≤ clamp f ∧ clamp f ≤ 109573) ∧ (0 ≤ clamp t ∧ clamp t ≤ 109573) := by unfold clamp; omega
      have rest : ∀ (b : Int) (fs' : Frm) (z : St), (∀ y, z.getC y = u.getC y) → z.next = u.next → b = a + gain l[i].1 (nxt (l.drop (i + 1))) l[i].2 (clamp f) (clamp t) → fs'.get t0 = some (.slice (some ⟨sb, 0, none⟩) l.length (UNK + 2)) → fs'.get t1 = some (.int .i64 f') → fs'.get t2 = some (.int .i64 t') → fs'.get t7 = some (.int .i64 b) → fs'.get t8 = some (.int .i64 ((i + 1 : Nat) : Int)) →
          ∃ fs'' u', loopF (c20_l0 rec N) fuel fs' z = some (.exit 0, fs'', u') ∧ Alike s u' ∧ fs''.get t7 = some (.int .i64 (a + sumP (clamp f) (clamp t) (l.drop i))) := by
        intro b fs' z hz hzn hb k0 k1 k2 k7 k8
        have gb := gainB (d := l[i].1) (e := nxt (l.drop (i + 1))) (r := l[i].2) cB.1 cB.2 ok.2
        obtain ⟨fs'', u', r1, r2, r3⟩ := ih (i + 1) b fs' z ⟨hzn.trans un, fun y => (hz y).trans (ug y)⟩ k0 k1 k2 k7 k8 (by omega) (by omega) (by omega) (by omega)
        refine ⟨fs'', u', r1, r2, ?_⟩
        rw [r3, hdrop, hb]
        show _ = some (Value.int .i64 (a + (gain _ _ _ (clamp f) (clamp t) + sumP (clamp f) (clamp t) (l.drop (i + 1)))))
        rw [Int.add_assoc]
      have gain1 : ∀ x : Int, max l[i].1 f' < min (nxt (l.drop (i + 1))) t' → x = min (nxt (l.drop (i + 1))) t' - max l[i].1 f' → gain l[i].1 (nxt (l.drop (i + 1))) l[i].2 (clamp f) (clamp t) = x * l[i].2 := fun x h hx => by
        unfold gain
        rw [if_pos (gd.1.2 h), gd.2 h, hx]
      have gain0 : ¬ max l[i].1 f' < min (nxt (l.drop (i + 1))) t' → gain l[i].1 (nxt (l.drop (i + 1))) l[i].2 (clamp f) (clamp t) = 0 := fun h => by
        unfold gain
        rw [if_neg fun h' => h (gd.1.1 h')]
      have mv : ∀ x : Int, 0 < x → x ≤ 109573 → int2 mulO (.int .i64 x) (.int .i64 l[i].2) = some (.int .i64 (x * l[i].2)) := fun x hx hx' => by
        have := mulB (Int.le_of_lt hx) hx' ok.2.1 ok.2.2
        exact mul_e _ _ (by omega) (by omega)
      have av : ∀ x : Int, 0 < x → x ≤ 109573 → int2 addO (.int .i64 a) (.int .i64 (x * l[i].2)) = some (.int .i64 (a + x * l[i].2)) := fun x hx hx' => by
        have := mulB (Int.le_of_lt hx) hx' ok.2.1 ok.2.2
        exact add_e _ _ (by omega) (by omega)
      by_cases hlast : i + 1 < l.length
      · have e8 : decide (((i + 1 : Nat) : Int) < (l.length : Int)) = true := decide_eq_true (by omega)
        have l3 : ∀ (z : St), (∀ y, z.getC y = u.getC y) → oLoad1 (.v (.pointer (some ⟨sb, 0 + (i + 1) * 2 + 0, none⟩))) rec PT.nil z = some (.int .i64 l[i + 1].1, z.seen sb) := fun z h => load1_e sb _ _ _ rec PT.nil z ((h sb).trans uc) (by rw [Nat.zero_add, Nat.add_zero, flat_day l (i + 1) hlast])
        have hnx := drop_nxt l (i + 1) hlast
        have ok2 := ho.2 l[i + 1] (List.getElem_mem hlast)
        rw [hnx] at gain1 gain0
        by_cases hA : l[i].1 < f'
        · have eA : decide (l[i].1 < f') = true := decide_eq_true hA
          by_cases hB : t' < l[i + 1].1
          · have eB : decide (t' < l[i + 1].1) = true := decide_eq_true hB
            by_cases hC : f' < t'
            · have eC : decide (f' < t') = true := decide_eq_true hC
              have sv : int2 subO (.int .i64 t') (.int .i64 f') = some (.int .i64 (t' - f')) := sub_e _ _ (by omega) (by omega)
              simp (disch := first | omega | (intro y; simp only [seen_getC])) only [op2_s', op_s', op2_op, op2_op2, op2_cond, ev_v', call_r', map_c', map_n', bin_e', pick_e', not_e, ext_e', nth_z', nth_1', nth_2', nth_3', gval_e, gval_u', cmp_e, orUndef_t', orUndef_f', condV_t', condV_f', cond_true, cond_false, eqI_eq, neI_eq, ltI_eq, leI_eq, gtI_eq', geI_eq, Bool.not_true, Bool.not_false, beq_self_eq_true, tf_beq, ft_beq, eq_self, decide_true, decide_false, oneOf1, orU_some, h0, h1, h2, h7, h8, hlen, lenL_e, e1, idxL_e, fieldAddr_e, l1, hai, e8, l3, eA, eB, eC, sv, l2, mv (t' - f') (by omega) (by omega), av (t' - f') (by omega) (by omega), thenX_n']
              exact rest _ _ _ (fun y => by simp only [seen_getC]) (by simp only [St.seen_next]) (by rw [hnx, gain1 (t' - f') (by omega) (by omega)]) ((by kernel_rfl : _ = fs.get t0).trans h0) ((by kernel_rfl : _ = fs.get t1).trans h1) ((by kernel_rfl : _ = fs.get t2).trans h2) (by kernel_rfl) (by kernel_rfl)
            · have eC : decide (f' < t') = false := decide_eq_false hC
              simp (disch := first | omega | (intro y; simp only [seen_getC])) only [op2_s', op_s', op2_op, op2_op2, op2_cond, ev_v', call_r', map_c', map_n', bin_e', pick_e', not_e, ext_e', nth_z', nth_1', nth_2', nth_3', gval_e, gval_u', cmp_e, orUndef_t', orUndef_f', condV_t', condV_f', cond_true, cond_false, eqI_eq, neI_eq, ltI_eq, leI_eq, gtI_eq', geI_eq, Bool.not_true, Bool.not_false, beq_self_eq_true, tf_beq, ft_beq, eq_self, decide_true, decide_false, oneOf1, orU_some, h0, h1, h2, h7, h8, hlen, lenL_e, e1, idxL_e, fieldAddr_e, l1, hai, e8, l3, eA, eB, eC, thenX_n']
              exact rest a _ _ (fun y => by simp only [seen_getC]) (by simp only [St.seen_next]) (by rw [hnx, gain0 (by omega), Int.add_zero]) ((by kernel_rfl : _ = fs.get t0).trans h0) ((by kernel_rfl : _ = fs.get t1).trans h1) ((by kernel_rfl : _ = fs.get t2).trans h2) ((by kernel_rfl : _ = fs.get t7).trans h7) (by kernel_rfl)
          · have eB : decide (t' < l[i + 1].1) = false := decide_eq_false hB
            by_cases hC : f' < l[i + 1].1
            · have eC : decide (f' < l[i + 1].1) = true := decide_eq_true hC
              have sv : int2 subO (.int .i64 l[i + 1].1) (.int .i64 f') = some (.int .i64 (l[i + 1].1 - f')) := sub_e _ _ (by omega) (by omega)
              simp (disch := first | omega | (intro y; simp only [seen_getC])) only [op2_s', op_s', op2_op, op2_op2, op2_cond, ev_v', call_r', map_c', map_n', bin_e', pick_e', not_e, ext_e', nth_z', nth_1', nth_2', nth_3', gval_e, gval_u', cmp_e, orUndef_t', orUndef_f', condV_t', condV_f', cond_true, cond_false, eqI_eq, neI_eq, ltI_eq, leI_eq, gtI_eq', geI_eq, Bool.not_true, Bool.not_false, beq_self_eq_true, tf_beq, ft_beq, eq_self, decide_true, decide_false, oneOf1, orU_some, h0, h1, h2, h7, h8, hlen, lenL_e, e1, idxL_e, fieldAddr_e, l1, hai, e8, l3, eA, eB, eC, sv, l2, mv (l[i + 1].1 - f') (by omega) (by omega), av (l[i + 1].1 - f') (by omega) (by omega), thenX_n']
              exact rest _ _ _ (fun y => by simp only [seen_getC]) (by simp only [St.seen_next]) (by rw [hnx, gain1 (l[i + 1].1 - f') (by omega) (by omega)]) ((by kernel_rfl : _ = fs.get t0).trans h0) ((by kernel_rfl : _ = fs.get t1).trans h1) ((by kernel_rfl : _ = fs.get t2).trans h2) (by kernel_rfl) (by kernel_rfl)
            · have eC : decide (f' < l[i + 1].1) = false := decide_eq_false hC
              simp (disch := first | omega | (intro y; simp only [seen_getC])) only [op2_s', op_s', op2_op, op2_op2, op2_cond, ev_v', call_r', map_c', map_n', bin_e', pick_e', not_e, ext_e', nth_z', nth_1', nth_2', nth_3', gval_e, gval_u', cmp_e, orUndef_t', orUndef_f', condV_t', condV_f', cond_true, cond_false, eqI_eq, neI_eq, ltI_eq, leI_eq, gtI_eq', geI_eq, Bool.not_true, Bool.not_false, beq_self_eq_true, tf_beq, ft_beq, eq_self, decide_true, decide_false, oneOf1, orU_some, h0, h1, h2, h7, h8, hlen, lenL_e, e1, idxL_e, fieldAddr_e, l1, hai, e8, l3, eA, eB, eC, thenX_n']
              exact rest a _ _ (fun y => by simp only [seen_getC]) (by simp only [St.seen_next]) (by rw [hnx, gain0 (by omega), Int.add_zero]) ((by kernel_rfl : _ = fs.get t0).trans h0) ((by kernel_rfl : _ = fs.get t1).trans h1) ((by kernel_rfl : _ = fs.get t2).trans h2) ((by kernel_rfl : _ = fs.get t7).trans h7) (by kernel_rfl)
        · have eA : decide (l[i].1 < f') = false := decide_eq_false hA
          by_cases hB : t' < l[i + 1].1
          · have eB : decide (t' < l[i + 1].1) = true := decide_eq_true hB
            by_cases hC : l[i].1 < t'
            · have eC : decide (l[i].1 < t') = true := decide_eq_true hC
              have sv : int2 subO (.int .i64 t') (.int .i64 l[i].1) = some (.int .i64 (t' - l[i].1)) := sub_e _ _ (by omega) (by omega)
              simp (disch := first | omega | (intro y; simp only [seen_getC])) only [op2_s', op_s', op2_op, op2_op2, op2_cond, ev_v', call_r', map_c', map_n', bin_e', pick_e', not_e, ext_e', nth_z', nth_1', nth_2', nth_3', gval_e, gval_u', cmp_e, orUndef_t', orUndef_f', condV_t', condV_f', cond_true, cond_false, eqI_eq, neI_eq, ltI_eq, leI_eq, gtI_eq', geI_eq, Bool.not_true, Bool.not_false, beq_self_eq_true, tf_beq, ft_beq, eq_self, decide_true, decide_false, oneOf1, orU_some, h0, h1, h2, h7, h8, hlen, lenL_e, e1, idxL_e, fieldAddr_e, l1, hai, e8, l3, eA, eB, eC, sv, l2, mv (t' - l[i].1) (by omega) (by omega), av (t' - l[i].1) (by omega) (by omega), thenX_n']
              exact rest _ _ _ (fun y => by simp only [seen_getC]) (by simp only [St.seen_next]) (by rw [hnx, gain1 (t' - l[i].1) (by omega) (by omega)]) ((by kernel_rfl : _ = fs.get t0).trans h0) ((by kernel_rfl : _ = fs.get t1).trans h1) ((by kernel_rfl : _ = fs.get t2).trans h2) (by kernel_rfl) (by kernel_rfl)
            · have eC : decide (l[i].1 < t') = false := decide_eq_false hC
              simp (disch := first | omega | (intro y; simp only [seen_getC])) only [op2_s', op_s', op2_op, op2_op2, op2_cond, ev_v', call_r', map_c', map_n', bin_e', pick_e', not_e, ext_e', nth_z', nth_1', nth_2', nth_3', gval_e, gval_u', cmp_e, orUndef_t', orUndef_f', condV_t', condV_f', cond_true, cond_false, eqI_eq, neI_eq, ltI_eq, leI_eq, gtI_eq', geI_eq, Bool.not_true, Bool.not_false, beq_self_eq_true, tf_beq, ft_beq, eq_self, decide_true, decide_false, oneOf1, orU_some, h0, h1, h2, h7, h8, hlen, lenL_e, e1, idxL_e, fieldAddr_e, l1, hai, e8, l3, eA, eB, eC, thenX_n']
              exact rest a _ _ (fun y => by simp only [seen_getC]) (by simp only [St.seen_next]) (by rw [hnx, gain0 (by omega), Int.add_zero]) ((by kernel_rfl : _ = fs.get t0).trans h0) ((by kernel_rfl : _ = fs.get t1).trans h1) ((by kernel_rfl : _ = fs.get t2).trans h2) ((by kernel_rfl : _ = fs.get t7).trans h7) (by kernel_rfl)
          · have eB : decide (t' < l[i + 1].1) = false := decide_eq_false hB
            by_cases hC : l[i].1 < l[i + 1].1
            · have eC : decide (l[i].1 < l[i + 1].1) = true := decide_eq_true hC
              have sv : int2 subO (.int .i64 l[i + 1].1) (.int .i64 l[i].1) = some (.int .i64 (l[i + 1].1 - l[i].1)) := sub_e _ _ (by omega) (by omega)
              simp (disch := first | omega | (intro y; simp only [seen_getC])) only [op2_s', op_s', op2_op, op2_op2, op2_cond, ev_v', call_r', map_c', map_n', bin_e', pick_e', not_e, ext_e', nth_z', nth_1', nth_2', nth_3', gval_e, gval_u', cmp_e, orUndef_t', orUndef_f', condV_t', condV_f', cond_true, cond_false, eqI_eq, neI_eq, ltI_eq, leI_eq, gtI_eq', geI_eq, Bool.not_true, Bool.not_false, beq_self_eq_true, tf_beq, ft_beq, eq_self, decide_true, decide_false, oneOf1, orU_some, h0, h1, h2, h7, h8, hlen, lenL_e, e1, idxL_e, fieldAddr_e, l1, hai, e8, l3, eA, eB, eC, sv, l2, mv (l[i + 1].1 - l[i].1) (by omega) (by omega), av (l[i + 1].1 - l[i].1) (by omega) (by omega), thenX_n']
              exact rest _ _ _ (fun y => by simp only [seen_getC]) (by simp only [St.seen_next]) (by rw [hnx, gain1 (l[i + 1].1 - l[i].1) (by omega) (by omega)]) ((by kernel_rfl : _ = fs.get t0).trans h0) ((by kernel_rfl : _ = fs.get t1).trans h1) ((by kernel_rfl : _ = fs.get t2).trans h2) (by kernel_rfl) (by kernel_rfl)
            · have eC : decide (l[i].1 < l[i + 1].1) = false := decide_eq_false hC
              simp (disch := first | omega | (intro y; simp only [seen_getC])) only [op2_s', op_s', op2_op, op2_op2, op2_cond, ev_v', call_r', map_c', map_n', bin_e', pick_e', not_e, ext_e', nth_z', nth_1', nth_2', nth_3', gval_e, gval_u', cmp_e, orUndef_t', orUndef_f', condV_t', condV_f', cond_true, cond_false, eqI_eq, neI_eq, ltI_eq, leI_eq, gtI_eq', geI_eq, Bool.not_true, Bool.not_false, beq_self_eq_true, tf_beq, ft_beq, eq_self, decide_true, decide_false, oneOf1, orU_some, h0, h1, h2, h7, h8, hlen, lenL_e, e1, idxL_e, fieldAddr_e, l1, hai, e8, l3, eA, eB, eC, thenX_n']
              exact rest a _ _ (fun y => by simp only [seen_getC]) (by simp only [St.seen_next]) (by rw [hnx, gain0 (by omega), Int.add_zero]) ((by kernel_rfl : _ = fs.get t0).trans h0) ((by kernel_rfl : _ = fs.get t1).trans h1) ((by kernel_rfl : _ = fs.get t2).trans h2) ((by kernel_rfl : _ = fs.get t7).trans h7) (by kernel_rfl)
      · have e8 : decide (((i + 1 : Nat) : Int) < (l.length : Int)) = false := decide_eq_false (by omega)
        have hnx : nxt (l.drop (i + 1)) = 109573 := by rw [List.drop_eq_nil_of_le (by omega)]; rfl
        rw [hnx] at gain1 gain0
        by_cases hA : l[i].1 < f'
        · have eA : decide (l[i].1 < f') = true := decide_eq_true hA
          by_cases hB : t' < 109573
          · have eB : decide (t' < 109573) = true := decide_eq_true hB
            by_cases hC : f' < t'
            · have eC : decide (f' < t') = true := decide_eq_true hC
              have sv : int2 subO (.int .i64 t') (.int .i64 f') = some (.int .i64 (t' - f')) := sub_e _ _ (by omega) (by omega)
              simp (disch := first | omega | (intro y; simp only [seen_getC])) only [op2_s', op_s', op2_op, op2_op2, op2_cond, ev_v', call_r', map_c', map_n', bin_e', pick_e', not_e, ext_e', nth_z', nth_1', nth_2', nth_3', gval_e, gval_u', cmp_e, orUndef_t', orUndef_f', condV_t', condV_f', cond_true, cond_false, eqI_eq, neI_eq, ltI_eq, leI_eq, gtI_eq', geI_eq, Bool.not_true, Bool.not_false, beq_self_eq_true, tf_beq, ft_beq, eq_self, decide_true, decide_false, oneOf1, orU_some, h0, h1, h2, h7, h8, hlen, lenL_e, e1, idxL_e, fieldAddr_e, l1, hai, e8, eA, eB, eC, sv, l2, mv (t' - f') (by omega) (by omega), av (t' - f') (by omega) (by omega), thenX_n']
              exact rest _ _ _ (fun y => by simp only [seen_getC]) (by simp only [St.seen_next]) (by rw [hnx, gain1 (t' - f') (by omega) (by omega)]) ((by kernel_rfl : _ = fs.get t0).trans h0) ((by kernel_rfl : _ = fs.get t1).trans h1) ((by kernel_rfl : _ = fs.get t2).trans h2) (by kernel_rfl) (by kernel_rfl)
            · have eC : decide (f' < t') = false := decide_eq_false hC
              simp (disch := first | omega | (intro y; simp only [seen_getC])) only [op2_s', op_s', op2_op, op2_op2, op2_cond, ev_v', call_r', map_c', map_n', bin_e', pick_e', not_e, ext_e', nth_z', nth_1', nth_2', nth_3', gval_e, gval_u', cmp_e, orUndef_t', orUndef_f', condV_t', condV_f', cond_true, cond_false, eqI_eq, neI_eq, ltI_eq, leI_eq, gtI_eq', geI_eq, Bool.not_true, Bool.not_false, beq_self_eq_true, tf_beq, ft_beq, eq_self, decide_true, decide_false, oneOf1, orU_some, h0, h1, h2, h7, h8, hlen, lenL_e, e1, idxL_e, fieldAddr_e, l1, hai, e8, eA, eB, eC, thenX_n']
              exact rest a _ _ (fun y => by simp only [seen_getC]) (by simp only [St.seen_next]) (by rw [hnx, gain0 (by omega), Int.add_zero]) ((by kernel_rfl : _ = fs.get t0).trans h0) ((by kernel_rfl : _ = fs.get t1).trans h1) ((by kernel_rfl : _ = fs.get t2).trans h2) ((by kernel_rfl : _ = fs.get t7).trans h7) (by kernel_rfl)
          · have eB : decide (t' < 109573) = false := decide_eq_false hB
            by_cases hC : f' < 109573
            · have eC : decide (f' < 109573) = true := decide_eq_true hC
              have sv : int2 subO (.int .i64 109573) (.int .i64 f') = some (.int .i64 (109573 - f')) := sub_e _ _ (by omega) (by omega)
              simp (disch := first | omega | (intro y; simp only [seen_getC])) only [op2_s', op_s', op2_op, op2_op2, op2_cond, ev_v', call_r', map_c', map_n', bin_e', pick_e', not_e, ext_e', nth_z', nth_1', nth_2', nth_3', gval_e, gval_u', cmp_e, orUndef_t', orUndef_f', condV_t', condV_f', cond_true, cond_false, eqI_eq, neI_eq, ltI_eq, leI_eq, gtI_eq', geI_eq, Bool.not_true, Bool.not_false, beq_self_eq_true, tf_beq, ft_beq, eq_self, decide_true, decide_false, oneOf1, orU_some, h0, h1, h2, h7, h8, hlen, lenL_e, e1, idxL_e, fieldAddr_e, l1, hai, e8, eA, eB, eC, sv, l2, mv (109573 - f') (by omega) (by omega), av (109573 - f') (by omega) (by omega), thenX_n']
              exact rest _ _ _ (fun y => by simp only [seen_getC]) (by simp only [St.seen_next]) (by rw [hnx, gain1 (109573 - f') (by omega) (by omega)]) ((by kernel_rfl : _ = fs.get t0).trans h0) ((by kernel_rfl : _ = fs.get t1).trans h1) ((by kernel_rfl : _ = fs.get t2).trans h2) (by kernel_rfl) (by kernel_rfl)
            · have eC : decide (f' < 109573) = false := decide_eq_false hC
              simp (disch := first | omega | (intro y; simp only [seen_getC])) only [op2_s', op_s', op2_op, op2_op2, op2_cond, ev_v', call_r', map_c', map_n', bin_e', pick_e', not_e, ext_e', nth_z', nth_1', nth_2', nth_3', gval_e, gval_u', cmp_e, orUndef_t', orUndef_f', condV_t', condV_f', cond_true, cond_false, eqI_eq, neI_eq, ltI_eq, leI_eq, gtI_eq', geI_eq, Bool.not_true, Bool.not_false, beq_self_eq_true, tf_beq, ft_beq, eq_self, decide_true, decide_false, oneOf1, orU_some, h0, h1, h2, h7, h8, hlen, lenL_e, e1, idxL_e, fieldAddr_e, l1, hai, e8, eA, eB, eC, thenX_n']
              exact rest a _ _ (fun y => by simp only [seen_getC]) (by simp only [St.seen_next]) (by rw [hnx, gain0 (by omega), Int.add_zero]) ((by kernel_rfl : _ = fs.get t0).trans h0) ((by kernel_rfl : _ = fs.get t1).trans h1) ((by kernel_rfl : _ = fs.get t2).trans h2) ((by kernel_rfl : _ = fs.get t7).trans h7) (by kernel_rfl)
        · have eA : decide (l[i].1 < f') = false := decide_eq_false hA
          by_cases hB : t' < 109573
          · have eB : decide (t' < 109573) = true := decide_eq_true hB
            by_cases hC : l[i].1 < t'
            · have eC : decide (l[i].1 < t') = true := decide_eq_true hC
              have sv : int2 subO (.int .i64 t') (.int .i64 l[i].1) = some (.int .i64 (t' - l[i].1)) := sub_e _ _ (by omega) (by omega)
              simp (disch := first | omega | (intro y; simp only [seen_getC])) only [op2_s', op_s', op2_op, op2_op2, op2_cond, ev_v', call_r', map_c', map_n', bin_e', pick_e', not_e, ext_e', nth_z', nth_1', nth_2', nth_3', gval_e, gval_u', cmp_e, orUndef_t', orUndef_f', condV_t', condV_f', cond_true, cond_false, eqI_eq, neI_eq, ltI_eq, leI_eq, gtI_eq', geI_eq, Bool.not_true, Bool.not_false, beq_self_eq_true, tf_beq, ft_beq, eq_self, decide_true, decide_false, oneOf1, orU_some, h0, h1, h2, h7, h8, hlen, lenL_e, e1, idxL_e, fieldAddr_e, l1, hai, e8, eA, eB, eC, sv, l2, mv (t' - l[i].1) (by omega) (by omega), av (t' - l[i].1) (by omega) (by omega), thenX_n']
              exact rest _ _ _ (fun y => by simp only [seen_getC]) (by simp only [St.seen_next]) (by rw [hnx, gain1 (t' - l[i].1) (by omega) (by omega)]) ((by kernel_rfl : _ = fs.get t0).trans h0) ((by kernel_rfl : _ = fs.get t1).trans h1) ((by kernel_rfl : _ = fs.get t2).trans h2) (by kernel_rfl) (by kernel_rfl)
            · have eC : decide (l[i].1 < t') = false := decide_eq_false hC
              simp (disch := first | omega | (intro y; simp only [seen_getC])) only [op2_s', op_s', op2_op, op2_op2, op2_cond, ev_v', call_r', map_c', map_n', bin_e', pick_e', not_e, ext_e', nth_z', nth_1', nth_2', nth_3', gval_e, gval_u', cmp_e, orUndef_t', orUndef_f', condV_t', condV_f', cond_true, cond_false, eqI_eq, neI_eq, ltI_eq, leI_eq, gtI_eq', geI_eq, Bool.not_true, Bool.not_false, beq_self_eq_true, tf_beq, ft_beq, eq_self, decide_true, decide_false, oneOf1, orU_some, h0, h1, h2, h7, h8, hlen, lenL_e, e1, idxL_e, fieldAddr_e, l1, hai, e8, eA, eB, eC, thenX_n']
              exact rest a _ _ (fun y => by simp only [seen_getC]) (by simp only [St.seen_next]) (by rw [hnx, gain0 (by omega), Int.add_zero]) ((by kernel_rfl : _ = fs.get t0).trans h0) ((by kernel_rfl : _ = fs.get t1).trans h1) ((by kernel_rfl : _ = fs.get t2).trans h2) ((by kernel_rfl : _ = fs.get t7).trans h7) (by kernel_rfl)
          · have eB : decide (t' < 109573) = false := decide_eq_false hB
            by_cases hC : l[i].1 < 109573
            · have eC : decide (l[i].1 < 109573) = true := decide_eq_true hC
              have sv : int2 subO (.int .i64 109573) (.int .i64 l[i].1) = some (.int .i64 (109573 - l[i].1)) := sub_e _ _ (by omega) (by omega)
              simp (disch := first | omega | (intro y; simp only [seen_getC])) only [op2_s', op_s', op2_op, op2_op2, op2_cond, ev_v', call_r', map_c', map_n', bin_e', pick_e', not_e, ext_e', nth_z', nth_1', nth_2', nth_3', gval_e, gval_u', cmp_e, orUndef_t', orUndef_f', condV_t', condV_f', cond_true, cond_false, eqI_eq, neI_eq, ltI_eq, leI_eq, gtI_eq', geI_eq, Bool.not_true, Bool.not_false, beq_self_eq_true, tf_beq, ft_beq, eq_self, decide_true, decide_false, oneOf1, orU_some, h0, h1, h2, h7, h8, hlen, lenL_e, e1, idxL_e, fieldAddr_e, l1, hai, e8, eA, eB, eC, sv, l2, mv (109573 - l[i].1) (by omega) (by omega), av (109573 - l[i].1) (by omega) (by omega), thenX_n']
              exact rest _ _ _ (fun y => by simp only [seen_getC]) (by simp only [St.seen_next]) (by rw [hnx, gain1 (109573 - l[i].1) (by omega) (by omega)]) ((by kernel_rfl : _ = fs.get t0).trans h0) ((by kernel_rfl : _ = fs.get t1).trans h1) ((by kernel_rfl : _ = fs.get t2).trans h2) (by kernel_rfl) (by kernel_rfl)
            · have eC : decide (l[i].1 < 109573) = false := decide_eq_false hC
              simp (disch := first | omega | (intro y; simp only [seen_getC])) only [op2_s', op_s', op2_op, op2_op2, op2_cond, ev_v', call_r', map_c', map_n', bin_e', pick_e', not_e, ext_e', nth_z', nth_1', nth_2', nth_3', gval_e, gval_u', cmp_e, orUndef_t', orUndef_f', condV_t', condV_f', cond_true, cond_false, eqI_eq, neI_eq, ltI_eq, leI_eq, gtI_eq', geI_eq, Bool.not_true, Bool.not_false, beq_self_eq_true, tf_beq, ft_beq, eq_self, decide_true, decide_false, oneOf1, orU_some, h0, h1, h2, h7, h8, hlen, lenL_e, e1, idxL_e, fieldAddr_e, l1, hai, e8, eA, eB, eC, thenX_n']
              exact rest a _ _ (fun y => by simp only [seen_getC]) (by simp only [St.seen_next]) (by rw [hnx, gain0 (by omega), Int.add_zero]) ((by kernel_rfl : _ = fs.get t0).trans h0) ((by kernel_rfl : _ = fs.get t1).trans h1) ((by kernel_rfl : _ = fs.get t2).trans h2) ((by kernel_rfl : _ = fs.get t7).trans h7) (by kernel_rfl)
    · have e1 : decide ((i : Int) < (l.length : Int)) = false := decide_eq_false (by omega)
      simp only [op2_s', op_s', op2_op, op2_op2, op2_cond, ev_v', call_r', map_c', map_n', bin_e', pick_e', not_e, ext_e', nth_z', nth_1', nth_2', nth_3', gval_e, gval_u', cmp_e, orUndef_t', orUndef_f', condV_t', condV_f', cond_true, cond_false, eqI_eq, neI_eq, ltI_eq, leI_eq, gtI_eq', geI_eq, Bool.not_true, Bool.not_false, beq_self_eq_true, tf_beq, ft_beq, eq_self, decide_true, decide_false, oneOf1, orU_some, h0, h8, hlen, e1, thenX_e']
      refine ⟨_, _, rfl, hu, ?_⟩
      rw [List.drop_eq_nil_of_le (by omega)]
      show _ = some (Value.int .i64 (a + 0))
      rw [Int.add_zero]
      exact (by kernel_rfl : _ = fs.get t7).trans h7
end Go.Proofs.Ythjhammjankekaa.AbsRatO
