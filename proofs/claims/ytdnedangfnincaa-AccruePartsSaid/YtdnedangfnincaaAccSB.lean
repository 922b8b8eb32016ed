import Derived.Test.YtdnedangfnincaaAccSA
namespace Go.Proofs.Ytdnedangfnincaa.AbsAccO.R
open Go Go.Abs Go.Proofs
set_option maxRecDepth 100000
set_option linter.unusedVariables false
set_option linter.unusedSimpArgs false
/-- the days grow -/
def Grows (l : List (Int × Int)) : Prop := l.Pairwise fun a b => a.1 < b.1
theorem Grows.sorted {l : List (Int × Int)} (h : Grows l) : Sorted l := by
  intro i j hi hj hij
  rcases Nat.lt_or_eq_of_le hij with hlt | rfl
  · exact Int.le_of_lt (List.pairwise_iff_getElem.mp h i j hi hj hlt)
  · exact Int.le_refl _
theorem Grows.ins {l : List (Int × Int)} (h : Grows l) {day rate : Int} {k : Nat} (hB : Behind l day k) (hno : ∀ x (h : x < l.length), l[x].1 ≠ day) : Grows (insS l k (day, rate)) := by
  obtain ⟨b1, b2, b3⟩ := hB
  have ht : ∀ a ∈ l.take k, a.1 < day := fun a ha => by
    obtain ⟨i, hi, rfl⟩ := List.mem_iff_getElem.mp ha
    rw [List.length_take] at hi
    rw [List.getElem_take]
    have x1 := b2 i (by omega) (by omega)
    have x2 := hno i (by omega)
    omega
  have hd : ∀ a ∈ l.drop k, day < a.1 := fun a ha => by
    obtain ⟨i, hi, rfl⟩ := List.mem_iff_getElem.mp ha
    rw [List.length_drop] at hi
    rw [List.getElem_drop]
    exact b3 (k + i) (by omega) (by omega)
  unfold Grows insS
  rw [List.pairwise_append]
  refine ⟨List.Pairwise.sublist (List.take_sublist k l) h, ?_, fun a ha b hb => ?_⟩
  · show List.Pairwise _ ((day, rate) :: l.drop k)
    exact List.pairwise_cons.mpr ⟨fun a ha => hd a ha, List.Pairwise.sublist (List.drop_sublist k l) h⟩
  · have hb' : b = (day, rate) ∨ b ∈ l.drop k := by simpa using hb
    rcases hb' with rfl | hb'
    · exact ht a ha
    · have := ht a ha
      have := hd b hb'
      omega
theorem insS_len (l : List (Int × Int)) (k : Nat) (p : Int × Int) (hk : k ≤ l.length) : (insS l k p).length = l.length + 1 := by
  unfold insS
  simp only [List.length_append, List.length_take, List.length_drop, List.length_cons, List.length_nil]
  omega
/-- a new table -/
theorem k10 (M : Nat) (s : St) : callN E (M + 1) 10 [] s = callF (callN E M) M c10 [] s := by kernel_rfl
theorem new_tab (M : Nat) (s : St) (hn : s.next ≤ lim) : ∃ u', callN E (M + 1) 10 [] s = some (.pointer (some ⟨s.next, 0, none⟩), u') ∧ u'.next = s.next + 1 ∧ u'.getC s.next = some [.slice none 0 0] ∧ ∀ y, y ≠ s.next → u'.getC y = s.getC y := by
  obtain ⟨s', r1, r2, r3, r4⟩ := alloc_e s [.slice none 0 0] hn rfl
  refine ⟨s', ?_, r2, r3, r4⟩
  have b0 : ∀ rec, oBuild [(.slice none 0 0)] [] rec PT.nil s = some (aggOf [.slice none 0 0], s) := fun rec => by kernel_rfl
  have b1 : ∀ rec, oBox (.v (aggOf [.slice none 0 0])) rec PT.nil s = some (.pointer (some ⟨s.next, 0, none⟩), s') := fun rec => by
    exact box1_e (.slice none 0 0) rec PT.nil s s' rfl r1
  rw [k10, d10]
  unfold D10
  simp only [op2_s', op_s', op2_op, op2_op2, op2_cond, ev_v', call_r', map_c', map_n', bin_e', pick_e', not_e, ext_e', nth_z', nth_1', nth_2', nth_3', gval_e, gval_u', cmp_e, orUndef_t', orUndef_f', condV_t', condV_f', cond_true, cond_false, eqI_eq, neI_eq, ltI_eq, leI_eq, gtI_eq', geI_eq, Bool.not_true, Bool.not_false, beq_self_eq_true, tf_beq, ft_beq, eq_self, decide_true, decide_false, oneOf1, orU_some, b0, b1]
  try rfl
/-- two cells read -/
theorem load2_e (b o : Nat) (c : Blk) (u v : Value) (rec : Rec) (fs : Frm) (s : St) (h : s.getC b = some c) (hn : o + 2 ≤ c.length) (hv : (c.drop o).take 2 = [u, v]) : oLoadN 2 (.v (.pointer (some ⟨b, o, none⟩))) rec fs s = some (aggOf [u, v], s.seen b) := by
  show opt2 (s.read b o 2) (fun c s => some (aggOf c, s)) = _
  rw [read_e s b o 2 c h hn, hv, op2_s']
/-- two new cells -/
theorem new2_e (u v : Value) (rec : Rec) (fs : Frm) (s s' : St) (h : s.alloc [u, v] = some (s.next, s')) : oNew [u, v] rec fs s = some (.pointer (some ⟨s.next, 0, none⟩), s') := by
  show opt2 (s.alloc [u, v]) (fun b s => some (Value.pointer (some ⟨b, 0, none⟩), s)) = _
  rw [h, op2_s']
/-- two cells written over two -/
theorem store2_e (b : Nat) (x y u v : Value) (rec : Rec) (fs : Frm) (s : St) (h : s.getC b = some [x, y]) : oStore 2 (.v (.pointer (some ⟨b, 0, none⟩))) (.v (aggOf [u, v])) rec fs s = some (UV, s.set b (some [u, v])) := by
  show opt (s.write b 0 [u, v]) (fun s => some (UV, s)) = _
  unfold St.write
  rw [h, op_s']
  rfl
theorem flat_two : ∀ (l : List (Int × Int)) (i : Nat) (h : i < l.length), ((flatV l).drop (i * 2)).take 2 = [.int .i64 l[i].1, .int .i64 l[i].2]
  | p :: l, 0, _ => rfl
  | p :: l, i + 1, h => by
    have := flat_two l i (by simpa using h)
    rw [show (i + 1) * 2 = i * 2 + 1 + 1 by omega]
    exact this
/-! Put, whole: over a model of the table -/
def insP : List (Int × Int) → Int → Int → List (Int × Int)
  | [], d, r => [(d, r)]
  | p :: l, d, r => if d < p.1 then (d, r) :: p :: l else if d = p.1 then (d, r) :: l else p :: insP l d r
def Okl (l : List (Int × Int)) : Prop := Grows l ∧ ∀ p ∈ l, (0 ≤ p.1 ∧ p.1 ≤ 109572) ∧ (0 ≤ p.2 ∧ p.2 ≤ 1000000000)
def putE (d r : Int) : Int := if d < 0 ∨ 109572 < d then 12 else if r < 0 ∨ 1000000000 < r then 1 else 0
def putV (l : List (Int × Int)) (d r : Int) : List (Int × Int) := if putE d r = 0 then insP l d r else l
theorem insP_new (d r : Int) : ∀ (l : List (Int × Int)) (k : Nat), k ≤ l.length → (∀ x (h : x < l.length), x < k → l[x].1 ≤ d) → (∀ x (h : x < l.length), k ≤ x → d < l[x].1) → (∀ x (h : x < l.length), l[x].1 ≠ d) → insS l k (d, r) = insP l d r
  | [], k, hk, _, _, _ => by
    have : k = 0 := by simpa using hk
    subst this; rfl
  | p :: l, 0, hk, h1, h2, h3 => by
    have := h2 0 (by simp) (Nat.le_refl _)
    unfold insP insS
    rw [if_pos (by simpa using this)]
    rfl
  | p :: l, k + 1, hk, h1, h2, h3 => by
    have a1 : p.1 ≤ d := h1 0 (by simp) (by omega)
    have a2 : p.1 ≠ d := h3 0 (by simp)
    unfold insP
    rw [if_neg (by omega), if_neg (by omega)]
    have ih := insP_new d r l k (by simpa using hk) (fun x h hx => h1 (x + 1) (by simpa using h) (by omega)) (fun x h hx => h2 (x + 1) (by simpa using h) (by omega)) (fun x h => h3 (x + 1) (by simpa using h))
    rw [← ih]
    rfl
theorem insP_same (d r : Int) : ∀ (l : List (Int × Int)) (k : Nat) (hk : k < l.length), l[k].1 = d → (∀ x (h : x < l.length), x < k → l[x].1 < d) → l.set k (d, r) = insP l d r
  | [], k, hk, _, _ => absurd hk (by simp)
  | p :: l, 0, hk, h1, h2 => by
    have : p.1 = d := h1
    unfold insP
    rw [if_neg (by omega), if_pos this.symm]
    rfl
  | p :: l, k + 1, hk, h1, h2 => by
    have a1 : p.1 < d := h2 0 (by simp) (by omega)
    unfold insP
    rw [if_neg (by omega), if_neg (by omega), ← insP_same d r l k (by simpa using hk) (by simpa using h1) (fun x h hx => h2 (x + 1) (by simpa using h) (by omega))]
    rfl
theorem mem_insP {d r : Int} {q : Int × Int} : ∀ {l : List (Int × Int)}, q ∈ insP l d r → q = (d, r) ∨ q ∈ l
  | [], h => by
    have : q = (d, r) := by simpa [insP] using h
    exact .inl this
  | p :: l, h => by
    unfold insP at h
    split at h
    · rcases List.mem_cons.1 h with h | h
      · exact .inl h
      · exact .inr h
    · split at h
      · rcases List.mem_cons.1 h with h | h
        · exact .inl h
        · exact .inr (List.mem_cons_of_mem _ h)
      · rcases List.mem_cons.1 h with h | h
        · exact .inr (by rw [h]; exact List.mem_cons_self ..)
        · rcases mem_insP h with h | h
          · exact .inl h
          · exact .inr (List.mem_cons_of_mem _ h)
theorem insP_grows (d r : Int) : ∀ {l : List (Int × Int)}, Grows l → Grows (insP l d r)
  | [], _ => List.pairwise_singleton _ _
  | p :: l, h => by
    have h' := List.pairwise_cons.1 h
    unfold insP
    split
    · rename_i hd
      refine List.pairwise_cons.2 ⟨fun q hq => ?_, h⟩
      rcases List.mem_cons.1 hq with e | e
      · rw [e]; exact hd
      · have := h'.1 q e
        show d < q.1
        omega
    · split
      · rename_i hd
        refine List.pairwise_cons.2 ⟨fun q hq => ?_, h'.2⟩
        have := h'.1 q hq
        show d < q.1
        omega
      · refine List.pairwise_cons.2 ⟨fun q hq => ?_, insP_grows d r h'.2⟩
        rcases mem_insP hq with e | e
        · rw [e]; show p.1 < d; omega
        · exact h'.1 q e
theorem insP_len (d r : Int) : ∀ l : List (Int × Int), (insP l d r).length ≤ l.length + 1
  | [] => by simp [insP]
  | p :: l => by
    unfold insP
    have := insP_len d r l
    split
    · simp
    · split <;> simp
      omega
theorem Okl.ins {l : List (Int × Int)} (h : Okl l) {d r : Int} (hd : 0 ≤ d ∧ d ≤ 109572) (hr : 0 ≤ r ∧ r ≤ 1000000000) : Okl (insP l d r) :=
  ⟨insP_grows d r h.1, fun p hp => by
    rcases mem_insP hp with e | e
    · rw [e]; exact ⟨hd, hr⟩
    · exact h.2 p e⟩
theorem putE_zero {d r : Int} (h : putE d r = 0) : (0 ≤ d ∧ d ≤ 109572) ∧ (0 ≤ r ∧ r ≤ 1000000000) := by
  unfold putE at h
  split at h
  · omega
  · split at h
    · omega
    · omega
theorem Okl.put {l : List (Int × Int)} (h : Okl l) (d r : Int) : Okl (putV l d r) := by
  unfold putV
  split
  · rename_i he
    exact h.ins (putE_zero he).1 (putE_zero he).2
  · exact h
theorem putV_len (l : List (Int × Int)) (d r : Int) : (putV l d r).length ≤ l.length + 1 := by
  unfold putV
  split
  · exact insP_len d r l
  · omega
structure Tab (s : St) (tb : Nat) (v : Value) (l : List (Int × Int)) : Prop where
  lo : 8 ≤ tb
  lt : tb < s.next
  cell : s.getC tb = some [v]
  sl : SlcU s v l
  blo : ∀ b, blkOf v = some b → 8 ≤ b
theorem Tab.apart {s : St} {tb : Nat} {v : Value} {l : List (Int × Int)} (h : Tab s tb v l) : blkOf v ≠ some tb := by
  rcases h.sl with ⟨_, rfl⟩ | ⟨sb, rfl, h2, h3, h4⟩
  · intro e; cases e
  · intro e
    have e' : sb = tb := Option.some.inj e
    subst e'
    rw [h.cell] at h3
    cases l with
    | nil => exact h4 rfl
    | cons p l => exact absurd (congrArg List.length (Option.some.inj h3)) (by simp [flatV])
theorem Tab.blt {s : St} {tb : Nat} {v : Value} {l : List (Int × Int)} (h : Tab s tb v l) : ∀ b, blkOf v = some b → b < s.next := by
  intro b hb
  rcases h.sl with ⟨_, rfl⟩ | ⟨sb, rfl, h2, h3, h4⟩
  · cases hb
  · cases hb; exact h2
/-- what leaves a table's blocks as they are leaves the table -/
theorem Tab.keep {s u : St} {tb : Nat} {v : Value} {l : List (Int × Int)} (h : Tab s tb v l) (hn : s.next ≤ u.next) (h1 : u.getC tb = s.getC tb) (h2 : ∀ b, blkOf v = some b → u.getC b = s.getC b) : Tab u tb v l := by
  refine ⟨h.lo, Nat.lt_of_lt_of_le h.lt hn, h1.trans h.cell, ?_, h.blo⟩
  rcases h.sl with h0 | ⟨sb, rfl, a, b, c⟩
  · exact .inl h0
  · exact .inr ⟨sb, rfl, Nat.lt_of_lt_of_le a hn, (h2 sb rfl).trans b, c⟩
theorem Tab.grew {k : Nat} {s u : St} {tb : Nat} {v : Value} {l : List (Int × Int)} (h : Tab s tb v l) (g : Grew k s u) : Tab u tb v l :=
  h.keep g.1 (g.2.2 tb h.lt) fun b hb => g.2.2 b (h.blt b hb)
theorem Tab.at {s : St} {tb : Nat} {v : Value} {l : List (Int × Int)} (h : Tab s tb v l) : TabAt s tb l :=
  ⟨h.lt, v, h.cell, by
    rcases h.sl with h | ⟨sb, h1, h2, h3, _⟩
    · exact Or.inl h
    · exact Or.inr ⟨sb, _, h1, h2, h3⟩⟩
theorem put (M : Nat) (hM : 2000 ≤ M) (s : St) (tb : Nat) (v : Value) (l : List (Int × Int)) (d r : Int) (hl : l.length < 256) (ho : Okl l) (ht : Tab s tb v l) (hn : s.next + 3 ≤ lim) :
    ∃ v' u', callN E (M + 4) 27 [.pointer (some ⟨tb, 0, none⟩), .int .i64 d, .int .i64 r] s = some (.int .i64 (putE d r), u') ∧ Tab u' tb v' (putV l d r) ∧ s.next ≤ u'.next ∧ u'.next ≤ s.next + 4 ∧ (∀ y, y < s.next → y ≠ tb → blkOf v ≠ some y → u'.getC y = s.getC y) ∧ ∀ b, blkOf v' = some b → blkOf v = some b ∨ s.next ≤ b := by
  by_cases hd : d < 0 ∨ 109572 < d
  · have e : putE d r = 12 := if_pos hd
    have e' : putV l d r = l := if_neg (by rw [e]; decide)
    rw [e, e']
    exact ⟨v, s, put_day (M + 3) _ d r s hd, ht, by omega, by omega, fun _ _ _ _ => rfl, fun b hb => .inl hb⟩
  by_cases hr : r < 0 ∨ 1000000000 < r
  · have e : putE d r = 1 := by unfold putE; rw [if_neg hd, if_pos hr]
    have e' : putV l d r = l := if_neg (by rw [e]; decide)
    rw [e, e']
    exact ⟨v, s, put_rate (M + 3) _ d r s (by omega) hr, ht, by omega, by omega, fun _ _ _ _ => rfl, fun b hb => .inl hb⟩
  have e : putE d r = 0 := by unfold putE; rw [if_neg hd, if_neg hr]
  have e' : putV l d r = insP l d r := if_pos e
  have hs := ho.1.sorted
  have hlo := ht.lo
  have hlt := ht.lt
  rw [e, e']
  by_cases hx : ∃ k, ∃ hk : k < l.length, l[k].1 = d
  · obtain ⟨k, hk, hkd⟩ := hx
    rcases ht.sl with ⟨h0, _⟩ | ⟨sb, hv, hsb, hc, hne⟩
    · subst h0; exact absurd hk (by simp)
    subst hv
    have gr := List.pairwise_iff_getElem.1 ho.1
    obtain ⟨u', r1, r2, r3, r4, r5⟩ := put_same M hM s tb sb (UNK + 2) l d r (by omega) hs ht.lt ht.cell hsb hc (by omega) (by omega) (by omega) k
      ⟨hk, fun x h hx => by rw [← hkd]; exact hs x k h hk (by omega), fun x h hx => by rw [← hkd]; exact gr k x hk h (by omega)⟩ hk hkd (ht.blo sb rfl)
    have hpe := insP_same d r l k hk hkd fun x h hx => by rw [← hkd]; exact gr x k h hk hx
    rw [hpe] at r4
    have hlen : (insP l d r).length = l.length := by rw [← hpe, List.length_set]
    refine ⟨_, u', r1, ⟨ht.lo, by omega, (r5 tb ht.lt fun e => ht.apart (congrArg some e.symm)).trans ht.cell, .inr ⟨sb, by rw [hlen], by omega, r4, fun h0 => ?_⟩, ht.blo⟩, r2, by omega, fun y h1 h2 h3 => r5 y h1 fun e => h3 (congrArg some e.symm), fun b hb => .inl hb⟩
    rw [h0] at hlen
    have : l.length = 0 := hlen.symm
    omega
  · have hno : ∀ x (h : x < l.length), l[x].1 ≠ d := fun x h e => hx ⟨x, h, e⟩
    obtain ⟨k, u', sb', r1, r2, r3, r4, r5, r6, r7, r8, r9⟩ := put_new M hM s tb v l d r hl hs ht.lt ht.cell ht.sl hn (by omega) ht.lo (by omega) (by omega) hno
    have hpe := insP_new d r l k r2.1 r2.2.1 r2.2.2 hno
    have hlen : (insP l d r).length = l.length + 1 := by rw [← hpe]; exact insS_len l k _ r2.1
    rw [hpe] at r8
    refine ⟨_, u', r1, ⟨ht.lo, by omega, r7, .inr ⟨sb', by rw [hlen], r6, r8, fun h0 => ?_⟩, fun b hb => ?_⟩, r3, r4, r9, fun b hb => .inr ?_⟩
    · rw [h0] at hlen; simp at hlen
    · cases hb; show 8 ≤ sb'; omega
    · cases hb; exact r5
end Go.Proofs.Ytdnedangfnincaa.AbsAccO.R
namespace Go.Proofs.Ytdnedangfnincaa.AbsAccO.R
open Go Go.Abs Go.Proofs
set_option maxRecDepth 100000
set_option linter.unusedVariables false
set_option linter.unusedSimpArgs false
/-! Sum: its loop -/
def nxt : List (Int × Int) → Int
  | [] => 109573
  | q :: _ => q.1
def gain (d e r f t : Int) : Int := if 0 < min e t - max d f then (min e t - max d f) * r else 0
def sumP (f t : Int) : List (Int × Int) → Int
  | [] => 0
  | p :: l => gain p.1 (nxt l) p.2 f t + sumP f t l
theorem mulB {a b : Int} (ha : 0 ≤ a) (ha' : a ≤ 109573) (hb : 0 ≤ b) (hb' : b ≤ 1000000000) : 0 ≤ a * b ∧ a * b ≤ 109573000000000 :=
  ⟨Int.mul_nonneg ha hb, Int.le_trans (Int.mul_le_mul ha' hb' hb (by omega)) (by omega)⟩
theorem gainB {d e r f t : Int} (hf : 0 ≤ f ∧ f ≤ 109573) (ht : 0 ≤ t ∧ t ≤ 109573) (hr : 0 ≤ r ∧ r ≤ 1000000000) : 0 ≤ gain d e r f t ∧ gain d e r f t ≤ 109573000000000 := by
  unfold gain
  split
  · exact mulB (by omega) (by omega) hr.1 hr.2
  · omega
theorem drop_nxt (l : List (Int × Int)) (i : Nat) (h : i < l.length) : nxt (l.drop i) = l[i].1 := by
  rw [List.drop_eq_getElem_cons h]; rfl
theorem Grew.trans {j k : Nat} {a b c : St} (h : Grew j a b) (g : Grew k b c) : Grew (j + k) a c :=
  ⟨Nat.le_trans h.1 g.1, by have := h.2.1; have := g.2.1; omega, fun y hy => (g.2.2 y (Nat.lt_of_lt_of_le hy h.1)).trans (h.2.2 y hy)⟩
theorem Own.sns {s u w : St} (h : Own s u) (hn : w.next = u.next + 1) (hw : ∀ y, w.wr.testBit y = true → u.wr.testBit y = true ∨ y = u.next) (hr : ∀ y, w.rd.testBit y = true → u.rd.testBit y = true ∨ y < u.next) : Own s w := by
  have := h.1
  refine ⟨by omega, fun y hy => ?_, fun y hy => ?_⟩
  · rcases hw y hy with k | k
    · rcases h.2.1 y k with k | k
      · exact .inl k
      · exact .inr ⟨k.1, by omega⟩
    · exact .inr ⟨by omega, by omega⟩
  · rcases hr y hy with k | k
    · rcases h.2.2 y k with k | k
      · exact .inl k
      · exact .inr (by omega)
    · exact .inr (by omega)
theorem sumL (rec : Rec) (N : Nat) (s : St) (tb sb c : Nat) (l : List (Int × Int)) (f t : Int) (hl : l.length ≤ 256) (ho : Okl l) (hf : 0 ≤ f ∧ f ≤ 109573) (ht : 0 ≤ t ∧ t ≤ 109573) (h8 : 8 ≤ s.next) (htb : tb < s.next) (hv : s.getC tb = some [.slice (some ⟨sb, 0, none⟩) l.length c]) (hsb : sb < s.next) (hc : s.getC sb = some (flatV l)) (hn : s.next + 300 ≤ lim) :
    ∀ (fuel i : Nat) (a : Int) (fs : Frm) (u : St), Grew i s u → Own s u → fs.get t0 = some (.pointer (some ⟨tb, 0, none⟩)) → fs.get t1 = some (.int .i64 f) → fs.get t2 = some (.int .i64 t) → fs.get t7 = some (.int .i64 a) → fs.get t21 = some (.slice (some ⟨sb, 0, none⟩) l.length c) → fs.get t22 = some (.int .i64 (l.length : Int)) → fs.get t23 = some (.int .i64 (i : Int)) → i ≤ l.length → 0 ≤ a → a ≤ (i : Int) * 109573000000000 → l.length - i < fuel →
    ∃ fs' u', loopF (c63_l0 rec N) fuel fs u = some (.exit 0, fs', u') ∧ Grew 256 s u' ∧ Own s u' ∧ fs'.get t7 = some (.int .i64 (a + sumP f t (l.drop i))) := by
  intro fuel
  induction fuel with
  | zero => intro i a fs u _ _ _ _ _ _ _ _ _ _ _ _ h; omega
  | succ fuel ih =>
    intro i a fs u hu hk h0 h1 h2 h7 h21 h22 h23 hi ha0 ha1 hfu
    have hlim : lim = 1000000000 := rfl
    have h40 : (2:Nat) ^ 40 = 1099511627776 := rfl
    rw [loop_s, d63_l0]
    unfold D63_l0
    by_cases hlt : i < l.length
    · have e1 : decide ((i : Int) < (l.length : Int)) = true := decide_eq_true (by omega)
      have q1 := hu.1
      have q2 := hu.2.1
      have ok := ho.2 l[i] (List.getElem_mem hlt)
      have uc : u.getC sb = some (flatV l) := (hu.2.2 sb hsb).trans hc
      have ld2 : oLoadN 2 (.v (.pointer (some ⟨sb, 0 + i * 2, none⟩))) rec PT.nil u = some (aggOf [.int .i64 l[i].1, .int .i64 l[i].2], u.seen sb) := load2_e sb (0 + i * 2) _ _ _ rec PT.nil u uc (by rw [flat_len]; omega) (by rw [Nat.zero_add]; exact flat_two l i hlt)
      obtain ⟨ua, a1, a2, a3, a4⟩ := alloc_e (u.seen sb) [.int .i64 0, .int .i64 0] (by rw [St.seen_next]; omega) rfl
      have nw := new2_e (.int .i64 0) (.int .i64 0) rec PT.nil (u.seen sb) ua a1
      have sto := store2_e (u.seen sb).next (.int .i64 0) (.int .i64 0) (.int .i64 l[i].1) (.int .i64 l[i].2) rec PT.nil ua a3
      rw [St.seen_next] at a2 a3 a4 nw sto
      obtain ⟨w, hw⟩ : ∃ w, w = ua.set u.next (some [.int .i64 l[i].1, .int .i64 l[i].2]) := ⟨_, rfl⟩
      rw [← hw] at sto
      have wget : ∀ y, w.getC y = if y = u.next then some [.int .i64 l[i].1, .int .i64 l[i].2] else u.getC y := by
        intro y
        rw [hw, set_getC _ _ _ _ (by omega) (by omega) rfl]
        by_cases e : y = u.next
        · rw [if_pos e, if_pos e]
        · rw [if_neg e, if_neg e, a4 y e, seen_getC]
      have wnext : w.next = u.next + 1 := by rw [hw, St.set_next, a2]
      have wn : w.getC u.next = some [.int .i64 l[i].1, .int .i64 l[i].2] := by rw [wget, if_pos rfl]
      have wt : w.getC tb = some [.slice (some ⟨sb, 0, none⟩) l.length c] := by rw [wget, if_neg (by omega), hu.2.2 tb htb, hv]
      have ws : w.getC sb = some (flatV l) := by rw [wget, if_neg (by omega), uc]
      have hgw : ∀ z, (∀ y, z.getC y = w.getC y) → z.next = w.next → Grew (i + 1) s z := fun z hz hzn => ⟨by omega, by omega, fun y hy => by rw [hz, wget, if_neg (by omega), hu.2.2 y hy]⟩
      have hkw : Own s w := by
        refine Own.sns hk wnext (fun y hy => ?_) (fun y hy => ?_)
        · have aw := (St.alloc_some a1).2.2.2.2.1
          rw [hw, St.set_wr, testBit_lor, testBit_bit, aw, testBit_lor, testBit_bit, sn_wr, St.seen_next] at hy
          rw [Bool.or_eq_true, Bool.or_eq_true, decide_eq_true_eq] at hy
          rcases hy with (h | h) | h
          · exact .inl h
          · exact .inr (by omega)
          · exact .inr (by omega)
        · have ar := (St.alloc_some a1).2.2.2.1
          rw [hw, set_rd, ar, St.seen_rd, testBit_lor, testBit_bit, Bool.or_eq_true, decide_eq_true_eq] at hy
          rcases hy with h | h
          · exact .inl h
          · exact .inr (by omega)
      have l1 : ∀ (rec : Rec) (fs : Frm) (z : St), (∀ y, z.getC y = w.getC y) → oLoad1 (.v (.pointer (some ⟨tb, 0 + 0, none⟩))) rec fs z = some (.slice (some ⟨sb, 0, none⟩) l.length c, z.seen tb) := fun rec fs z h => load1_e tb (0 + 0) _ _ rec fs z ((h tb).trans wt) rfl
      have l3 : ∀ (rec : Rec) (fs : Frm) (z : St), (∀ y, z.getC y = w.getC y) → oLoad1 (.v (.pointer (some ⟨u.next, 0 + 0, none⟩))) rec fs z = some (.int .i64 l[i].1, z.seen u.next) := fun rec fs z h => load1_e u.next (0 + 0) _ _ rec fs z ((h u.next).trans wn) rfl
      have l4 : ∀ (rec : Rec) (fs : Frm) (z : St), (∀ y, z.getC y = w.getC y) → oLoad1 (.v (.pointer (some ⟨u.next, 0 + 1, none⟩))) rec fs z = some (.int .i64 l[i].2, z.seen u.next) := fun rec fs z h => load1_e u.next (0 + 1) _ _ rec fs z ((h u.next).trans wn) rfl
      have hai : int2 addO (.int .i64 (i : Int)) (.int .i64 1) = some (.int .i64 ((i + 1 : Nat) : Int)) := by rw [add_e _ _ (by omega) (by omega)]; rfl
      have hdrop := List.drop_eq_getElem_cons hlt
      have rest : ∀ (b : Int) (fs' : Frm) (z : St), (∀ y, z.getC y = w.getC y) → z.next = w.next → Own s z → b = a + gain l[i].1 (nxt (l.drop (i + 1))) l[i].2 f t → fs'.get t0 = some (.pointer (some ⟨tb, 0, none⟩)) → fs'.get t1 = some (.int .i64 f) → fs'.get t2 = some (.int .i64 t) → fs'.get t7 = some (.int .i64 b) → fs'.get t21 = some (.slice (some ⟨sb, 0, none⟩) l.length c) → fs'.get t22 = some (.int .i64 (l.length : Int)) → fs'.get t23 = some (.int .i64 ((i + 1 : Nat) : Int)) →
          ∃ fs'' u', loopF (c63_l0 rec N) fuel fs' z = some (.exit 0, fs'', u') ∧ Grew 256 s u' ∧ Own s u' ∧ fs''.get t7 = some (.int .i64 (a + sumP f t (l.drop i))) := by
        intro b fs' z hz hzn hzw hb k0 k1 k2 k7 k21 k22 k23
        have gb := gainB (d := l[i].1) (e := nxt (l.drop (i + 1))) (r := l[i].2) hf ht ok.2
        obtain ⟨fs'', u', r1, r2, rk, r3⟩ := ih (i + 1) b fs' z (hgw z hz hzn) hzw k0 k1 k2 k7 k21 k22 k23 (by omega) (by omega) (by omega) (by omega)
        refine ⟨fs'', u', r1, r2, rk, ?_⟩
        rw [r3, hdrop, hb]
        show _ = some (Value.int .i64 (a + (gain _ _ _ f t + sumP f t (l.drop (i + 1)))))
        rw [Int.add_assoc]
      have mv : ∀ x : Int, 0 < x → x ≤ 109573 → int2 mulO (.int .i64 x) (.int .i64 l[i].2) = some (.int .i64 (x * l[i].2)) := fun x hx hx' => by
        have := mulB (Int.le_of_lt hx) hx' ok.2.1 ok.2.2
        exact mul_e _ _ (by omega) (by omega)
      have av : ∀ x : Int, 0 < x → x ≤ 109573 → int2 addO (.int .i64 a) (.int .i64 (x * l[i].2)) = some (.int .i64 (a + x * l[i].2)) := fun x hx hx' => by
        have := mulB (Int.le_of_lt hx) hx' ok.2.1 ok.2.2
        exact add_e _ _ (by omega) (by omega)
      by_cases hlast : i + 1 < l.length
      · have e11 : decide ((i : Int) < (l.length : Int) - 1) = true := decide_eq_true (by omega)
        have l2 : ∀ (rec : Rec) (fs : Frm) (z : St), (∀ y, z.getC y = w.getC y) → oLoad1 (.v (.pointer (some ⟨sb, 0 + (i + 1) * 2 + 0, none⟩))) rec fs z = some (.int .i64 l[i + 1].1, z.seen sb) := fun rec fs z h => load1_e sb _ _ _ rec fs z ((h sb).trans ws) (by rw [Nat.zero_add, Nat.add_zero, flat_day l (i + 1) hlast])
        have hnx := drop_nxt l (i + 1) hlast
        have ok2 := ho.2 l[i + 1] (List.getElem_mem hlast)
        have sv : int2 subO (.int .i64 (min l[i + 1].1 t)) (.int .i64 (max l[i].1 f)) = some (.int .i64 (min l[i + 1].1 t - max l[i].1 f)) := sub_e _ _ (by omega) (by omega)
        by_cases hp : 0 < min l[i + 1].1 t - max l[i].1 f
        · have e24 : decide (0 < min l[i + 1].1 t - max l[i].1 f) = true := decide_eq_true hp
          simp (disch := first | omega | (intro y; simp only [seen_getC])) only [op2_s', op_s', op2_op, op2_op2, op2_cond, ev_v', call_r', map_c', map_n', bin_e', pick_e', not_e, ext_e', nth_z', nth_1', nth_2', nth_3', gval_e, gval_u', cmp_e, orUndef_t', orUndef_f', condV_t', condV_f', cond_true, cond_false, eqI_eq, neI_eq, ltI_eq, leI_eq, gtI_eq', geI_eq, Bool.not_true, Bool.not_false, beq_self_eq_true, tf_beq, ft_beq, eq_self, decide_true, decide_false, oneOf1, orU_some, h0, h1, h2, h7, h21, h22, h23, e1, idxL_e, ld2, nw, sto, nilCheck_e, fieldAddr_e, l1, lenL_e, sub_e, e11, hai, l2, min_e, max_e, l3, sv, e24, l4, mv _ hp (by omega), av _ hp (by omega), thenX_n']
          exact rest _ _ _ (fun y => by simp only [seen_getC]) (by simp only [St.seen_next]) (by repeat (first | exact hkw | refine Own.seen ?_ _ (by first | omega | (simp only [St.seen_next]; omega)))) (by unfold gain; rw [hnx, if_pos hp]) ((by kernel_rfl : _ = fs.get t0).trans h0) ((by kernel_rfl : _ = fs.get t1).trans h1) ((by kernel_rfl : _ = fs.get t2).trans h2) (by kernel_rfl) ((by kernel_rfl : _ = fs.get t21).trans h21) ((by kernel_rfl : _ = fs.get t22).trans h22) (by kernel_rfl)
        · have e24 : decide (0 < min l[i + 1].1 t - max l[i].1 f) = false := decide_eq_false hp
          simp (disch := first | omega | (intro y; simp only [seen_getC])) only [op2_s', op_s', op2_op, op2_op2, op2_cond, ev_v', call_r', map_c', map_n', bin_e', pick_e', not_e, ext_e', nth_z', nth_1', nth_2', nth_3', gval_e, gval_u', cmp_e, orUndef_t', orUndef_f', condV_t', condV_f', cond_true, cond_false, eqI_eq, neI_eq, ltI_eq, leI_eq, gtI_eq', geI_eq, Bool.not_true, Bool.not_false, beq_self_eq_true, tf_beq, ft_beq, eq_self, decide_true, decide_false, oneOf1, orU_some, h0, h1, h2, h7, h21, h22, h23, e1, idxL_e, ld2, nw, sto, nilCheck_e, fieldAddr_e, l1, lenL_e, sub_e, e11, hai, l2, min_e, max_e, l3, sv, e24, thenX_n']
          exact rest a _ _ (fun y => by simp only [seen_getC]) (by simp only [St.seen_next]) (by repeat (first | exact hkw | refine Own.seen ?_ _ (by first | omega | (simp only [St.seen_next]; omega)))) (by unfold gain; rw [hnx, if_neg hp, Int.add_zero]) ((by kernel_rfl : _ = fs.get t0).trans h0) ((by kernel_rfl : _ = fs.get t1).trans h1) ((by kernel_rfl : _ = fs.get t2).trans h2) ((by kernel_rfl : _ = fs.get t7).trans h7) ((by kernel_rfl : _ = fs.get t21).trans h21) ((by kernel_rfl : _ = fs.get t22).trans h22) (by kernel_rfl)
      · have e11 : decide ((i : Int) < (l.length : Int) - 1) = false := decide_eq_false (by omega)
        have hnx : nxt (l.drop (i + 1)) = 109573 := by rw [List.drop_eq_nil_of_le (by omega)]; rfl
        have sv : int2 subO (.int .i64 (min 109573 t)) (.int .i64 (max l[i].1 f)) = some (.int .i64 (min 109573 t - max l[i].1 f)) := sub_e _ _ (by omega) (by omega)
        by_cases hp : 0 < min 109573 t - max l[i].1 f
        · have e24 : decide (0 < min 109573 t - max l[i].1 f) = true := decide_eq_true hp
          simp (disch := first | omega | (intro y; simp only [seen_getC])) only [op2_s', op_s', op2_op, op2_op2, op2_cond, ev_v', call_r', map_c', map_n', bin_e', pick_e', not_e, ext_e', nth_z', nth_1', nth_2', nth_3', gval_e, gval_u', cmp_e, orUndef_t', orUndef_f', condV_t', condV_f', cond_true, cond_false, eqI_eq, neI_eq, ltI_eq, leI_eq, gtI_eq', geI_eq, Bool.not_true, Bool.not_false, beq_self_eq_true, tf_beq, ft_beq, eq_self, decide_true, decide_false, oneOf1, orU_some, h0, h1, h2, h7, h21, h22, h23, e1, idxL_e, ld2, nw, sto, nilCheck_e, fieldAddr_e, l1, lenL_e, sub_e, e11, hai, min_e, max_e, l3, sv, e24, l4, mv _ hp (by omega), av _ hp (by omega), thenX_n']
          exact rest _ _ _ (fun y => by simp only [seen_getC]) (by simp only [St.seen_next]) (by repeat (first | exact hkw | refine Own.seen ?_ _ (by first | omega | (simp only [St.seen_next]; omega)))) (by unfold gain; rw [hnx, if_pos hp]) ((by kernel_rfl : _ = fs.get t0).trans h0) ((by kernel_rfl : _ = fs.get t1).trans h1) ((by kernel_rfl : _ = fs.get t2).trans h2) (by kernel_rfl) ((by kernel_rfl : _ = fs.get t21).trans h21) ((by kernel_rfl : _ = fs.get t22).trans h22) (by kernel_rfl)
        · have e24 : decide (0 < min 109573 t - max l[i].1 f) = false := decide_eq_false hp
          simp (disch := first | omega | (intro y; simp only [seen_getC])) only [op2_s', op_s', op2_op, op2_op2, op2_cond, ev_v', call_r', map_c', map_n', bin_e', pick_e', not_e, ext_e', nth_z', nth_1', nth_2', nth_3', gval_e, gval_u', cmp_e, orUndef_t', orUndef_f', condV_t', condV_f', cond_true, cond_false, eqI_eq, neI_eq, ltI_eq, leI_eq, gtI_eq', geI_eq, Bool.not_true, Bool.not_false, beq_self_eq_true, tf_beq, ft_beq, eq_self, decide_true, decide_false, oneOf1, orU_some, h0, h1, h2, h7, h21, h22, h23, e1, idxL_e, ld2, nw, sto, nilCheck_e, fieldAddr_e, l1, lenL_e, sub_e, e11, hai, min_e, max_e, l3, sv, e24, thenX_n']
          exact rest a _ _ (fun y => by simp only [seen_getC]) (by simp only [St.seen_next]) (by repeat (first | exact hkw | refine Own.seen ?_ _ (by first | omega | (simp only [St.seen_next]; omega)))) (by unfold gain; rw [hnx, if_neg hp, Int.add_zero]) ((by kernel_rfl : _ = fs.get t0).trans h0) ((by kernel_rfl : _ = fs.get t1).trans h1) ((by kernel_rfl : _ = fs.get t2).trans h2) ((by kernel_rfl : _ = fs.get t7).trans h7) ((by kernel_rfl : _ = fs.get t21).trans h21) ((by kernel_rfl : _ = fs.get t22).trans h22) (by kernel_rfl)
    · have e1 : decide ((i : Int) < (l.length : Int)) = false := decide_eq_false (by omega)
      simp only [op2_s', op_s', op2_op, op2_op2, op2_cond, ev_v', call_r', map_c', map_n', bin_e', pick_e', not_e, ext_e', nth_z', nth_1', nth_2', nth_3', gval_e, gval_u', cmp_e, orUndef_t', orUndef_f', condV_t', condV_f', cond_true, cond_false, eqI_eq, neI_eq, ltI_eq, leI_eq, gtI_eq', geI_eq, Bool.not_true, Bool.not_false, beq_self_eq_true, tf_beq, ft_beq, eq_self, decide_true, decide_false, oneOf1, orU_some, h22, h23, e1, thenX_e']
      refine ⟨_, _, rfl, ⟨hu.1, by have := hu.2.1; omega, hu.2.2⟩, hk, ?_⟩
      rw [List.drop_eq_nil_of_le (by omega)]
      show _ = some (Value.int .i64 (a + 0))
      rw [Int.add_zero]
      exact (by kernel_rfl : _ = fs.get t7).trans h7
/-! Sum, whole -/
def clamp (x : Int) : Int := min (max x 0) 109573
theorem k63 (M : Nat) (a b c : Value) (s : St) : callN E (M + 1) 63 [a, b, c] s = callF (callN E M) M c63 [a, b, c] s := by kernel_rfl
theorem sum (M : Nat) (hM : 2000 ≤ M) (s : St) (tb : Nat) (v : Value) (l : List (Int × Int)) (f t : Int) (hl : l.length ≤ 256) (ho : Okl l) (htab : Tab s tb v l) (h8 : 8 ≤ s.next) (hn : s.next + 300 ≤ lim) :
    ∃ u', callN E (M + 1) 63 [.pointer (some ⟨tb, 0, none⟩), .int .i64 f, .int .i64 t] s = some (.int .i64 (sumP (clamp f) (clamp t) l), u') ∧ Grew 256 s u' ∧ Own s u' := by
  have hcf : 0 ≤ clamp f ∧ clamp f ≤ 109573 := by unfold clamp; omega
  have hct : 0 ≤ clamp t ∧ clamp t ≤ 109573 := by unfold clamp; omega
  have l1 : oLoad1 (.v (.pointer (some ⟨tb, 0 + 0, none⟩))) (callN E M) PT.nil s = some (v, s.seen tb) := load1_e tb (0 + 0) _ _ _ PT.nil s htab.cell rfl
  have main : ∃ fs' u', loopF (c63_l0 (callN E M) M) M (PT.put (.int .i64 0) t23 (PT.put (.int .i64 (l.length : Int)) t22 (PT.put v t21 (PT.put (.pointer (some ⟨tb, 0 + 0, none⟩)) t20 (PT.put (.pointer (some ⟨tb, 0, none⟩)) t19 (PT.put (.pointer (some ⟨tb, 0, none⟩)) t18 (PT.put (.int .i64 0) t7 (PT.put (.int .i64 (clamp t)) t2 (PT.put (.int .i64 (clamp f)) t1 (PT.put (.int .i64 (clamp t)) t17 (PT.put (.int .i64 (max t 0)) t16 (PT.put (.int .i64 t) t15 (PT.put (.int .i64 (clamp f)) t14 (PT.put (.int .i64 (max f 0)) t13 (PT.put (.int .i64 f) t12 (PT.put (.int .i64 0) t6 (PT.put (.int .i64 t) t2 (PT.put (.int .i64 f) t1 (PT.put (.pointer (some ⟨tb, 0, none⟩)) t0 PT.nil))))))))))))))))))) (s.seen tb) = some (.exit 0, fs', u') ∧ Grew 256 s u' ∧ Own s u' ∧ fs'.get t7 = some (.int .i64 (sumP (clamp f) (clamp t) l)) := by
    rcases htab.sl with ⟨rfl, rfl⟩ | ⟨sb, rfl, hsb, hc, hne⟩
    · obtain ⟨M, rfl⟩ : ∃ m, M = m + 1 := ⟨M - 1, by omega⟩
      rw [loop_s, d63_l0]
      unfold D63_l0
      have g23 : ∀ x : Frm, (PT.put (.int .i64 0) t23 x).get t23 = some (.int .i64 0) := fun x => by kernel_rfl
      have g22 : ∀ (x : Frm) (y : Value), (PT.put y t23 (PT.put (.int .i64 (([] : List (Int × Int)).length : Int)) t22 x)).get t22 = some (.int .i64 0) := fun x y => by kernel_rfl
      have e1 : decide ((0 : Int) < 0) = false := rfl
      simp only [g23, g22, op2_s', op_s', op2_op, op2_op2, op2_cond, ev_v', call_r', map_c', map_n', bin_e', pick_e', not_e, ext_e', nth_z', nth_1', nth_2', nth_3', gval_e, gval_u', cmp_e, orUndef_t', orUndef_f', condV_t', condV_f', cond_true, cond_false, eqI_eq, neI_eq, ltI_eq, leI_eq, gtI_eq', geI_eq, Bool.not_true, Bool.not_false, beq_self_eq_true, tf_beq, ft_beq, eq_self, decide_true, decide_false, oneOf1, orU_some, e1, thenX_e']
      exact ⟨_, _, rfl, ⟨by rw [St.seen_next]; omega, by rw [St.seen_next]; omega, fun y _ => seen_getC _ _ _⟩, (Own.refl _).seen _ htab.lt, by kernel_rfl⟩
    · obtain ⟨fs', u', r1, r2, rk, r3⟩ := sumL (callN E M) M s tb sb (UNK + 2) l (clamp f) (clamp t) hl ho hcf hct h8 htab.lt htab.cell hsb hc hn M 0 0 (PT.put (.int .i64 0) t23 (PT.put (.int .i64 (l.length : Int)) t22 (PT.put (.slice (some ⟨sb, 0, none⟩) l.length (UNK + 2)) t21 (PT.put (.pointer (some ⟨tb, 0 + 0, none⟩)) t20 (PT.put (.pointer (some ⟨tb, 0, none⟩)) t19 (PT.put (.pointer (some ⟨tb, 0, none⟩)) t18 (PT.put (.int .i64 0) t7 (PT.put (.int .i64 (clamp t)) t2 (PT.put (.int .i64 (clamp f)) t1 (PT.put (.int .i64 (clamp t)) t17 (PT.put (.int .i64 (max t 0)) t16 (PT.put (.int .i64 t) t15 (PT.put (.int .i64 (clamp f)) t14 (PT.put (.int .i64 (max f 0)) t13 (PT.put (.int .i64 f) t12 (PT.put (.int .i64 0) t6 (PT.put (.int .i64 t) t2 (PT.put (.int .i64 f) t1 (PT.put (.pointer (some ⟨tb, 0, none⟩)) t0 PT.nil))))))))))))))))))) (s.seen tb)
        ⟨by rw [St.seen_next]; omega, by rw [St.seen_next]; omega, fun y _ => seen_getC _ _ _⟩ ((Own.refl _).seen _ htab.lt) (by kernel_rfl) (by kernel_rfl) (by kernel_rfl) (by kernel_rfl) (by kernel_rfl) (by kernel_rfl) (by kernel_rfl) (by omega) (by omega) (by omega) (by omega)
      rw [List.drop_zero, Int.zero_add] at r3
      exact ⟨fs', u', r1, r2, rk, r3⟩
  obtain ⟨fs', u', r1, r2, rk, r3⟩ := main
  refine ⟨u', ?_, r2, rk⟩
  have hlen : ∀ w, oLenL (.v v) (callN E M) PT.nil w = some (.int .i64 (l.length : Int), w) := fun w => by
    rcases htab.sl with ⟨rfl, rfl⟩ | ⟨sb, rfl, h2, h3, h4⟩ <;> exact lenL_e _ _ _ _ PT.nil w
  rw [k63, d63]
  unfold D63
  have c1 : min (max f 0) 109573 = clamp f := rfl
  have c2 : min (max t 0) 109573 = clamp t := rfl
  simp only [op2_s', op_s', op2_op, op2_op2, op2_cond, ev_v', call_r', map_c', map_n', bin_e', pick_e', not_e, ext_e', nth_z', nth_1', nth_2', nth_3', gval_e, gval_u', cmp_e, orUndef_t', orUndef_f', condV_t', condV_f', cond_true, cond_false, eqI_eq, neI_eq, ltI_eq, leI_eq, gtI_eq', geI_eq, Bool.not_true, Bool.not_false, beq_self_eq_true, tf_beq, ft_beq, eq_self, decide_true, decide_false, oneOf1, orU_some, max_e, min_e, c1, c2, nilCheck_e, fieldAddr_e, l1, hlen]
  rw [r1]
  simp only [op2_s', blkX_e, Nat.beq_refl, cond_true, thenX_n', d63_r0, D63_r0, r3, orU_some, finX_r']
  first | rfl | (show _ = _; kernel_rfl)
end Go.Proofs.Ytdnedangfnincaa.AbsAccO.R
