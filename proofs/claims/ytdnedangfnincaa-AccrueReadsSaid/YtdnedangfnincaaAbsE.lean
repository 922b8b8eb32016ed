import Derived.Test.YtdnedangfnincaaAbsD
namespace Go.Abs
set_option linter.unusedVariables false
set_option linter.unusedSimpArgs false

/-- a map's entries -/
def ERel (ρ : Ren) (v : Value) (e : MapEntry) : Prop := ∃ x, v = entryV e.key x e.born ∧ okVal x = true ∧ VRel ρ x e.val
def MapRel (ρ : Ren) (b : Blk) (l : Loc) (w : World) : Prop :=
  l.room < l.base ∧ ∃ (es : Array MapEntry) (clock : Nat) (vs : List Value), w.heap[l.blk]? = some (.map es clock) ∧ b = mapB clock vs ∧ vs.length = es.size ∧ ∀ (i : Nat) (v : Value) (e : MapEntry), vs[i]? = some v → es[i]? = some e → ERel ρ v e
/-- a block of the machine's, and the one that it stands for -/
def CellRel (T : Prop) (ρ : Ren) (b : Blk) (l : Loc) (w : World) : Prop :=
  ∃ (cells : Array Value) (elem : TypeId) (fr : Nat × Nat), w.heap[l.blk]? = some (.cells cells elem fr) ∧ cells.size = l.room ∧ l.base + b.length ≤ l.room ∧
    (T → ∀ i, i ≤ l.room → ¬ (fr.1 ≤ i ∧ i < fr.2)) ∧ CR ρ b ((cells.toList.drop l.base).take b.length)
def BRel (T : Prop) (ρ : Ren) (b : Blk) (l : Loc) (w : World) : Prop := CellRel T ρ b l w ∨ MapRel ρ b l w
theorem BRel.heap {T : Prop} {ρ : Ren} {b : Blk} {l : Loc} {w : World} (h : BRel T ρ b l w) : ∃ o, w.heap[l.blk]? = some o := by
  rcases h with ⟨_, _, _, h, _⟩ | ⟨_, _, _, _, h, _⟩
  · exact ⟨_, h⟩
  · exact ⟨_, h⟩
structure HRel (ρ : Ren) (Y : Nat → Prop) (s : St) (w : World) : Prop where
  blk : ∀ x b, Y x → s.get x = some b → ∃ l, ρ x = some l ∧ BRel (8 ≤ x) ρ b l w
  inj : ∀ x y l m, Y x → Y y → (s.get x).isSome = true → (s.get y).isSome = true → ρ x = some l → ρ y = some m → l.blk = m.blk → (8 ≤ x ∨ 8 ≤ y) → x = y

structure Good (ρ ρ' : Ren) (Y : Nat → Prop) (s s' : St) (w w' : World) : Prop where
  ext : ∀ x, (x < s.next ∨ s'.next ≤ x) → ρ' x = ρ x
  dom : ∀ x, s.next ≤ x → x < s'.next → (ρ' x).isSome = true
  rel : HRel ρ' (fun x => Y x ∨ (s.next ≤ x ∧ x < s'.next)) s' w'
  size : w.heap.size ≤ w'.heap.size
  old : ∀ k, k < w.heap.size → (∀ x l, Y x → ρ x = some l → l.blk = k → s'.wr.testBit x = true → (s.get x).isSome = true → False) → w'.heap[k]? = w.heap[k]?
  fresh : ∀ x l, s.next ≤ x → x < s'.next → ρ' x = some l → w.heap.size ≤ l.blk ∨ ∃ y m, Y y ∧ s'.wr.testBit y = true ∧ (s.get y).isSome = true ∧ ρ y = some m ∧ m.blk = l.blk
  bound : ∀ x l, s.next ≤ x → x < s'.next → ρ' x = some l → l.blk < w'.heap.size
  os : w'.os = w.os
  tape : w'.tape = w.tape
  output : w'.output = w.output

/-- what is asked of the two states ahead of a step that ends in s' -/
structure Ctx (gl : Nat → Bool) (ρ : Ren) (Y : Nat → Prop) (s s' : St) (w : World) : Prop where
  top : s.next ≤ lim + 1
  yok : ∀ x, Y x → x < s.next
  foot : ∀ x, x < s.next → (s'.rd.testBit x = true ∨ s'.wr.testBit x = true) → Y x
  fresh : ∀ x, s.next ≤ x → x < s'.next → ρ x = none
  glob : ∀ g, gl g = true → g < s.next ∧ ∃ r, ρ g = some ⟨g, 0, r⟩
  dead : ∀ x, s.next ≤ x → s.get x = none
  rel : HRel ρ Y s w
  wlow : ∀ x, x < 8 → s'.wr.testBit x = false
  groom : ∀ g, gl g = true → ρ g = some ⟨g, 0, 20⟩

theorem Ctx.high {gl : Nat → Bool} {ρ : Ren} {Y : Nat → Prop} {s s' : St} {w : World} (c : Ctx gl ρ Y s s' w) {x : Nat} (h : s'.wr.testBit x = true) : 8 ≤ x := by
  rcases Nat.lt_or_ge x 8 with h1 | h1
  · rw [c.wlow x h1] at h; cases h
  · exact h1
theorem Good.up {ρ ρ' : Ren} {Y : Nat → Prop} {s s' : St} {w w' : World} (h : Good ρ ρ' Y s s' w w') (hf : ∀ x, s.next ≤ x → x < s'.next → ρ x = none) :
    ∀ x l, ρ x = some l → ρ' x = some l := by
  intro x l hx
  by_cases hn : s.next ≤ x ∧ x < s'.next
  · rw [hf x hn.1 hn.2] at hx; cases hx
  · rw [h.ext x (by omega)]; exact hx
theorem Ctx.up {gl : Nat → Bool} {ρ ρ' : Ren} {Y : Nat → Prop} {s s' : St} {w w' : World} (c : Ctx gl ρ Y s s' w) (h : Good ρ ρ' Y s s' w w') : ∀ x l, ρ x = some l → ρ' x = some l := h.up c.fresh

theorem HRel.lt {ρ : Ren} {Y : Nat → Prop} {s : St} {w : World} (h : HRel ρ Y s w) {x : Nat} {b : Blk} {l : Loc} (hx : Y x) (hb : s.get x = some b) (hl : ρ x = some l) : l.blk < w.heap.size := by
  obtain ⟨m, hm, hbr⟩ := h.blk x b hx hb
  rw [hl] at hm; cases hm
  obtain ⟨o, hw⟩ := hbr.heap
  exact (Array.getElem?_eq_some_iff.1 hw).1

theorem BRel.mono {ρ ρ' : Ren} (hρ : ∀ x l, ρ x = some l → ρ' x = some l) {T : Prop} {b : Blk} {l : Loc} {w w' : World} (h : BRel T ρ b l w) (hw : w'.heap[l.blk]? = w.heap[l.blk]?) : BRel T ρ' b l w' := by
  rcases h with ⟨cells, e, fr, hc, hs, hb, hf, hr⟩ | ⟨hm, es, clock, vs, hc, hb, hl, he⟩
  · exact .inl ⟨cells, e, fr, by rw [hw]; exact hc, hs, hb, hf, hr.mono hρ⟩
  · refine .inr ⟨hm, es, clock, vs, by rw [hw]; exact hc, hb, hl, fun i v e h1 h2 => ?_⟩
    obtain ⟨x, h3, h4, h6⟩ := he i v e h1 h2
    exact ⟨x, h3, h4, h6.mono hρ⟩
theorem isMapB_mapB (c : Nat) (vs : List Value) : isMapB (mapB c vs) = true := rfl
theorem St.getC_some {s : St} {x : Nat} {b : Blk} (h : s.getC x = some b) : s.get x = some b ∧ isMapB b = false := by
  unfold St.getC at h
  cases hg : s.get x with
  | none => rw [hg] at h; cases h
  | some c =>
    rw [hg] at h
    change (bif isMapB c then none else some c) = some b at h
    cases hc : isMapB c with
    | true => rw [hc] at h; cases h
    | false => rw [hc] at h; cases h; exact ⟨rfl, hc⟩
theorem St.getC_get {s : St} {x : Nat} {b : Blk} (h : s.getC x = some b) : s.get x = some b := (St.getC_some h).1
theorem BRel.cells {T : Prop} {ρ : Ren} {b : Blk} {l : Loc} {w : World} (h : BRel T ρ b l w) (hb : isMapB b = false) : CellRel T ρ b l w := by
  rcases h with h | ⟨_, _, _, _, _, rfl, _⟩
  · exact h
  · rw [isMapB_mapB] at hb; cases hb
theorem BRel.map {T : Prop} {ρ : Ren} {b : Blk} {l : Loc} {w : World} (h : BRel T ρ b l w) (hb : l.room < l.base) : MapRel ρ b l w := by
  rcases h with ⟨_, _, _, _, _, h, _⟩ | h
  · omega
  · exact h

/-- the first step's context, and the second's behind it -/
theorem Ctx.first {gl : Nat → Bool} {ρ : Ren} {Y : Nat → Prop} {s a s' : St} {w : World} (c : Ctx gl ρ Y s s' w) (h2 : AStep a s') : Ctx gl ρ Y s a w :=
  ⟨c.top, c.yok, fun x hx hb => c.foot x hx (hb.imp (h2.rd x) (h2.wr x)), fun x h1 h3 => c.fresh x h1 (Nat.lt_of_lt_of_le h3 h2.next), c.glob, c.dead, c.rel, fun x hx => by
    cases h : a.wr.testBit x with
    | false => rfl
    | true => rw [← c.wlow x hx]; exact (h2.wr x h).symm, c.groom⟩
theorem Ctx.then {gl : Nat → Bool} {ρ ρ' : Ren} {Y : Nat → Prop} {s a s' : St} {w w' : World} (c : Ctx gl ρ Y s s' w) (h1 : AStep s a) (g : Good ρ ρ' Y s a w w') :
    Ctx gl ρ' (fun x => Y x ∨ (s.next ≤ x ∧ x < a.next)) a s' w' where
  top := h1.top c.top
  yok := fun x hx => by rcases hx with hx | hx; exact Nat.lt_of_lt_of_le (c.yok x hx) h1.next; exact hx.2
  foot := fun x hx hb => by
    by_cases h : x < s.next
    · exact .inl (c.foot x h hb)
    · exact .inr ⟨by omega, hx⟩
  fresh := fun x h h' => by rw [g.ext x (.inr h)]; exact c.fresh x (Nat.le_trans h1.next h) h'
  glob := fun x hx => by
    obtain ⟨h, r, hr⟩ := c.glob x hx
    exact ⟨Nat.lt_of_lt_of_le h h1.next, r, by rw [g.ext x (.inl h)]; exact hr⟩
  dead := h1.out c.dead c.top
  rel := g.rel
  wlow := c.wlow
  groom := fun x hx => by rw [g.ext x (.inl (c.glob x hx).1)]; exact c.groom x hx
theorem Good.trans {gl : Nat → Bool} {ρ ρ1 ρ2 : Ren} {Y : Nat → Prop} {s a s' : St} {w w1 w2 : World} (c : Ctx gl ρ Y s s' w) (h1 : AStep s a) (h2 : AStep a s')
    (g : Good ρ ρ1 Y s a w w1) (k : Good ρ1 ρ2 (fun x => Y x ∨ (s.next ≤ x ∧ x < a.next)) a s' w1 w2) : Good ρ ρ2 Y s s' w w2 where
  ext := fun x hx => by
    have hn1 := h1.next
    have hn2 := h2.next
    rw [k.ext x (by omega), g.ext x (by omega)]
  dom := fun x h h' => by
    by_cases hx : x < a.next
    · rw [k.ext x (.inl hx)]; exact g.dom x h hx
    · exact k.dom x (by omega) h'
  rel := by
    have hn1 := h1.next
    have hn2 := h2.next
    refine ⟨fun x b hx hb => k.rel.blk x b ?_ hb, fun x y l m hx hy => k.rel.inj x y l m ?_ ?_⟩
    · rcases hx with hx | hx
      · exact .inl (.inl hx)
      · by_cases h : x < a.next
        · exact .inl (.inr ⟨hx.1, h⟩)
        · exact .inr ⟨by omega, hx.2⟩
    · rcases hx with hx | hx
      · exact .inl (.inl hx)
      · by_cases h : x < a.next
        · exact .inl (.inr ⟨hx.1, h⟩)
        · exact .inr ⟨by omega, hx.2⟩
    · rcases hy with hx | hx
      · exact .inl (.inl hx)
      · by_cases h : y < a.next
        · exact .inl (.inr ⟨hx.1, h⟩)
        · exact .inr ⟨by omega, hx.2⟩
  size := Nat.le_trans g.size k.size
  old := fun q hq hno => by
    rw [k.old q (Nat.lt_of_lt_of_le hq g.size) ?_, g.old q hq ?_]
    · intro x l hx hl hb hw hs
      exact hno x l hx hl hb (h2.wr x hw) hs
    · intro x l hx hl hb hw hs
      rcases hx with hx | hx
      · have hlt := c.yok x hx
        rw [g.ext x (.inl hlt)] at hl
        exact hno x l hx hl hb hw (h1.live c.top x hlt hs)
      · rcases g.fresh x l hx.1 hx.2 hl with h | ⟨y, m, hy, hyw, hys, hym, he⟩
        · omega
        · exact hno y m hy hym (he.trans hb) (h2.wr y hyw) hys
  fresh := fun x l h h' hl => by
    have hsz := g.size
    by_cases hx : x < a.next
    · rw [k.ext x (.inl hx)] at hl
      rcases g.fresh x l h hx hl with hh | ⟨y, m, hy, hyw, rest⟩
      · exact .inl hh
      · exact .inr ⟨y, m, hy, h2.wr y hyw, rest⟩
    · rcases k.fresh x l (by omega) h' hl with hh | ⟨y, m, hy, hyw, hys, hym, he⟩
      · exact .inl (by omega)
      · rcases hy with hy | hy
        · have hlt := c.yok y hy
          rw [g.ext y (.inl hlt)] at hym
          exact .inr ⟨y, m, hy, hyw, h1.live c.top y hlt hys, hym, he⟩
        · rcases g.fresh y m hy.1 hy.2 hym with hh | ⟨z, n, hz, hzw, hzs, hzn, he2⟩
          · exact .inl (by omega)
          · exact .inr ⟨z, n, hz, h2.wr z hzw, hzs, hzn, he2.trans he⟩
  bound := fun x l h h' hl => by
    by_cases hx : x < a.next
    · rw [k.ext x (.inl hx)] at hl; exact Nat.lt_of_lt_of_le (g.bound x l h hx hl) k.size
    · exact k.bound x l (by omega) h' hl
  os := k.os.trans g.os
  tape := k.tape.trans g.tape
  output := k.output.trans g.output

/-- nothing has changed but the marks -/
theorem Good.still {ρ : Ren} {Y : Nat → Prop} {s s' : St} {w w' : World} (h : HRel ρ Y s w) (hh : s'.heap = s.heap) (hn : s'.next = s.next) (hw : w'.heap = w.heap) (ho : w'.os = w.os) (ht : w'.tape = w.tape) (hp : w'.output = w.output) :
    Good ρ ρ Y s s' w w' where
  ext := fun _ _ => rfl
  dom := fun x h h' => by omega
  rel := by
    have hg : ∀ x, s'.get x = s.get x := fun x => by show s'.heap.get x = s.heap.get x; rw [hh]
    refine ⟨fun x b hx hb => ?_, fun x y l m hx hy hsx hsy => ?_⟩
    · rcases hx with hx | hx
      · rw [hg] at hb
        obtain ⟨l, hl, hbr⟩ := h.blk x b hx hb
        exact ⟨l, hl, hbr.mono (fun _ _ k => k) (by rw [hw])⟩
      · omega
    · rw [hg] at hsx hsy
      rcases hx with hx | hx
      · rcases hy with hy | hy
        · exact h.inj x y l m hx hy hsx hsy
        · omega
      · omega
  size := by rw [hw]; exact Nat.le_refl _
  old := fun k _ _ => by rw [hw]
  fresh := fun x l h h' _ => by omega
  bound := fun x l h h' _ => by omega
  os := ho
  tape := ht
  output := hp
theorem Good.refl {ρ : Ren} {Y : Nat → Prop} {s : St} {w : World} (h : HRel ρ Y s w) : Good ρ ρ Y s s w w := .still h rfl rfl rfl rfl rfl rfl
theorem Good.seen {ρ : Ren} {Y : Nat → Prop} {s : St} {w : World} (h : HRel ρ Y s w) (x : Nat) : Good ρ ρ Y s (s.seen x) w w :=
  .still h (by unfold St.seen; rw [force_eq]) (St.seen_next s x) rfl rfl rfl rfl

def Ren.upd (ρ : Ren) (x : Nat) (l : Loc) : Ren := fun y => if y = x then some l else ρ y
theorem Ren.upd_le {ρ : Ren} {x : Nat} {l : Loc} (h : ρ x = none) : ∀ y m, ρ y = some m → (ρ.upd x l) y = some m := by
  intro y m hy
  unfold Ren.upd
  by_cases e : y = x
  · subst e; rw [h] at hy; cases hy
  · simp [e, hy]

/-- a new block -/
theorem Good.allocB {ρ : Ren} {Y : Nat → Prop} {s s' : St} {w w' : World} {n : Nat} {b : Blk} {p q : Nat}
    (yok : ∀ x, Y x → x < s.next) (hρ : ρ s.next = none) (h : HRel ρ Y s w) (ha : s.alloc b = some (n, s'))
    (hw : ∀ k, k < w.heap.size → w'.heap[k]? = w.heap[k]?) (hbr : BRel (8 ≤ s.next) (ρ.upd s.next ⟨w.heap.size, p, q⟩) b ⟨w.heap.size, p, q⟩ w') (hz : w'.heap.size = w.heap.size + 1)
    (ho : w'.os = w.os) (ht : w'.tape = w.tape) (hp : w'.output = w.output) :
    Good ρ (ρ.upd s.next ⟨w.heap.size, p, q⟩) Y s s' w w' := by
  obtain ⟨rfl, hlim, hnx, hrd, hwr, hh⟩ := St.alloc_some ha
  have hup := Ren.upd_le (l := (⟨w.heap.size, p, q⟩ : Loc)) hρ
  have hself : (ρ.upd s.next ⟨w.heap.size, p, q⟩) s.next = some ⟨w.heap.size, p, q⟩ := by simp [Ren.upd]
  have hold : ∀ x, x < s.next → (ρ.upd s.next ⟨w.heap.size, p, q⟩) x = ρ x := fun x hx => by simp [Ren.upd, show ¬ x = s.next by omega]
  refine ⟨fun x hx => ?_, fun x h1 h2 => ?_, ⟨fun x c hx hc => ?_, fun x y l m hx hy hsx hsy hlx hly he => ?_⟩, by omega, fun k hk _ => hw k hk, fun x l h1 h2 hx => ?_, fun x l h1 h2 hx => ?_, ho, ht, hp⟩
  · simp [Ren.upd, show ¬ x = s.next by omega]
  · have : x = s.next := by omega
    subst this; rw [hself]; rfl
  · rw [St.alloc_get ha] at hc
    by_cases e : x = s.next
    · subst e
      simp only [if_true, Option.some.injEq] at hc
      subst hc
      exact ⟨_, hself, hbr⟩
    · simp only [e, if_false] at hc
      have hx' : Y x := hx.resolve_right (by omega)
      obtain ⟨l, hl', hb⟩ := h.blk x c hx' hc
      exact ⟨l, hup x l hl', hb.mono hup (hw _ (h.lt hx' hc hl'))⟩
  · rw [St.alloc_get ha] at hsx hsy
    by_cases ex : x = s.next
    · by_cases ey : y = s.next
      · omega
      · exfalso
        subst ex
        simp only [ey, if_false] at hsy
        have hy' : Y y := hy.resolve_right (by omega)
        obtain ⟨c, hc⟩ := Option.isSome_iff_exists.1 hsy
        rw [hold y (yok y hy')] at hly
        rw [hself] at hlx; cases hlx
        have := h.lt hy' hc hly
        simp only at he; omega
    · simp only [ex, if_false] at hsx
      have hx' : Y x := hx.resolve_right (by omega)
      rw [hold x (yok x hx')] at hlx
      by_cases ey : y = s.next
      · exfalso
        subst ey
        obtain ⟨c, hc⟩ := Option.isSome_iff_exists.1 hsx
        rw [hself] at hly; cases hly
        have := h.lt hx' hc hlx
        simp only at he; omega
      · simp only [ey, if_false] at hsy
        have hy' : Y y := hy.resolve_right (by omega)
        rw [hold y (yok y hy')] at hly
        exact h.inj x y l m hx' hy' hsx hsy hlx hly he
  · have : x = s.next := by omega
    subst this; rw [hself] at hx; cases hx; exact .inl (Nat.le_refl _)
  · have : x = s.next := by omega
    subst this; rw [hself] at hx; cases hx; show w.heap.size < _; omega

theorem Good.alloc {ρ : Ren} {Y : Nat → Prop} {s s' : St} {w w' : World} {n : Nat} {b : Blk} {cells : Array Value} {elem : TypeId} {fr : Nat × Nat}
    (yok : ∀ x, Y x → x < s.next) (hρ : ρ s.next = none) (h : HRel ρ Y s w) (ha : s.alloc b = some (n, s'))
    (hw : ∀ k, k < w.heap.size → w'.heap[k]? = w.heap[k]?) (hn : w'.heap[w.heap.size]? = some (.cells cells elem fr)) (hz : w'.heap.size = w.heap.size + 1)
    (hfr : ∀ i, i ≤ cells.size → ¬ (fr.1 ≤ i ∧ i < fr.2)) (hl : b.length ≤ cells.size) (hr : CR ρ b (cells.toList.take b.length))
    (ho : w'.os = w.os) (ht : w'.tape = w.tape) (hp : w'.output = w.output) :
    Good ρ (ρ.upd s.next ⟨w.heap.size, 0, cells.size⟩) Y s s' w w' :=
  Good.allocB yok hρ h ha hw (.inl ⟨cells, elem, fr, hn, rfl, by simpa using hl, fun _ => hfr, by simpa using hr.mono (Ren.upd_le hρ)⟩) hz ho ht hp

/-- a block's cells written -/
theorem Good.writeB {ρ : Ren} {Y : Nat → Prop} {s : St} {w w' : World} {x : Nat} {b b' : Blk} {l : Loc}
    (top : s.next ≤ lim + 1) (yok : ∀ x, Y x → x < s.next) (h : HRel ρ Y s w) (h8 : 8 ≤ x) (hx : Y x) (hb : s.get x = some b) (hl : ρ x = some l)
    (hbr : BRel (8 ≤ x) ρ b' l w')
    (hw : ∀ k, k ≠ l.blk → w'.heap[k]? = w.heap[k]?) (hz : w'.heap.size = w.heap.size) (ho : w'.os = w.os) (ht : w'.tape = w.tape) (hp : w'.output = w.output) :
    Good ρ ρ Y s (s.set x (some b')) w w' := by
  have hx40 : x + 1 < 2 ^ 40 := by have := yok x hx; unfold lim at top; omega
  have hnx := St.set_next s x (some b')
  refine ⟨fun _ _ => rfl, fun y h1 h2 => by omega, ⟨fun y c hy hc2 => ?_, fun y z l1 l2 hy hz2 hsy hsz h1 h2 he => ?_⟩, by omega, fun k hk hno => ?_, fun y l h1 h2 => by omega, fun y l h1 h2 => by omega, ho, ht, hp⟩
  · have hy' : Y y := hy.resolve_right (by omega)
    rw [St.get_set s x y _ hx40] at hc2
    by_cases e : y = x
    · subst e
      simp only [if_true, h8, Option.some.injEq] at hc2
      subst hc2
      exact ⟨l, hl, hbr⟩
    · simp only [e, if_false] at hc2
      obtain ⟨m, hm, hbm⟩ := h.blk y c hy' hc2
      refine ⟨m, hm, hbm.mono (fun _ _ k => k) (hw _ fun e2 => e ?_)⟩
      exact h.inj y x m l hy' hx (by rw [hc2]; rfl) (by rw [hb]; rfl) hm hl e2 (.inr h8)
  · have hy' : Y y := hy.resolve_right (by omega)
    have hz' : Y z := hz2.resolve_right (by omega)
    have live : ∀ q, ((s.set x (some b')).get q).isSome = true → (s.get q).isSome = true := by
      intro q hq
      rw [St.get_set s x q _ hx40] at hq
      by_cases e : q = x
      · subst e; rw [hb]; rfl
      · simpa [e] using hq
    exact h.inj y z l1 l2 hy' hz' (live y hsy) (live z hsz) h1 h2 he
  · by_cases e : k = l.blk
    · exact (hno x l hx hl e.symm (by rw [St.set_wr, testBit_lor, testBit_bit]; simp) (by rw [hb]; rfl)).elim
    · exact hw k e

theorem Good.write {ρ : Ren} {Y : Nat → Prop} {s : St} {w w' : World} {x : Nat} {b b' : Blk} {l : Loc} {cells cells' : Array Value} {elem : TypeId} {fr : Nat × Nat}
    (top : s.next ≤ lim + 1) (yok : ∀ x, Y x → x < s.next) (h : HRel ρ Y s w) (h8 : 8 ≤ x) (hx : Y x) (hb : s.get x = some b) (hl : ρ x = some l)
    (hc : w.heap[l.blk]? = some (.cells cells elem fr)) (hfr : ∀ i, i ≤ l.room → ¬ (fr.1 ≤ i ∧ i < fr.2))
    (hc' : w'.heap[l.blk]? = some (.cells cells' elem fr)) (hs : cells'.size = l.room) (hbl : l.base + b'.length ≤ l.room)
    (hr : CR ρ b' ((cells'.toList.drop l.base).take b'.length))
    (hw : ∀ k, k ≠ l.blk → w'.heap[k]? = w.heap[k]?) (hz : w'.heap.size = w.heap.size) (ho : w'.os = w.os) (ht : w'.tape = w.tape) (hp : w'.output = w.output) :
    Good ρ ρ Y s (s.set x (some b')) w w' :=
  Good.writeB top yok h h8 hx hb hl (.inl ⟨cells', elem, fr, hc', hs, hbl, fun _ => hfr, hr⟩) hw hz ho ht hp

/-- a block forgotten, and a new one made that may lie in its place -/
theorem Good.move {ρ : Ren} {Y : Nat → Prop} {s s' : St} {w w' : World} {x n : Nat} {b b' : Blk} {l l' : Loc} {cells : Array Value} {elem : TypeId} {fr : Nat × Nat}
    (top : s.next ≤ lim + 1) (yok : ∀ x, Y x → x < s.next) (hρ : ρ s.next = none) (h : HRel ρ Y s w) (h8 : 8 ≤ x) (hx : Y x) (hb : s.get x = some b) (hl : ρ x = some l)
    (ha : (s.set x none).alloc b' = some (n, s'))
    (hc' : w'.heap[l'.blk]? = some (.cells cells elem fr)) (hs : cells.size = l'.room) (hbl : l'.base + b'.length ≤ l'.room) (hfr : ∀ i, i ≤ l'.room → ¬ (fr.1 ≤ i ∧ i < fr.2))
    (hr : CR ρ b' ((cells.toList.drop l'.base).take b'.length))
    (hw : ∀ k, k < w.heap.size → k ≠ l.blk → w'.heap[k]? = w.heap[k]?) (hz : w.heap.size ≤ w'.heap.size) (hpl : l'.blk = l.blk ∨ (l'.blk = w.heap.size ∧ w'.heap[l.blk]? = w.heap[l.blk]?))
    (ho : w'.os = w.os) (ht : w'.tape = w.tape) (hp : w'.output = w.output) :
    Good ρ (ρ.upd s.next l') Y s s' w w' := by
  have hx40 : x + 1 < 2 ^ 40 := by have := yok x hx; unfold lim at top; omega
  obtain ⟨rfl, hlim, hnx, hrd, hwr, hh⟩ := St.alloc_some ha
  rw [St.set_next] at hnx hlim
  have hsn : (s.set x none).next = s.next := St.set_next s x none
  have hup := Ren.upd_le (l := l') hρ
  have hself : (ρ.upd s.next l') s.next = some l' := by simp [Ren.upd]
  have hold : ∀ y, y < s.next → (ρ.upd s.next l') y = ρ y := fun y hy => by simp [Ren.upd, show ¬ y = s.next by omega]
  have hget : ∀ y, s'.get y = if y = s.next then some b' else if y = x then none else s.get y := by
    intro y
    rw [St.alloc_get ha, hsn]
    by_cases e : y = s.next
    · simp [e]
    · simp only [e, if_false]; rw [St.get_set s x y none hx40, ite_self]
  have hlx := h.lt hx hb hl
  have hlt' : l'.blk < w'.heap.size := (Array.getElem?_eq_some_iff.1 hc').1
  -- an elder block that lives is not where the new one lies
  have apart : ∀ y c m, Y y → y ≠ x → s.get y = some c → ρ y = some m → m.blk ≠ l.blk ∧ m.blk ≠ l'.blk := by
    intro y c m hy hne hc hm
    have h1 : m.blk ≠ l.blk := fun e => hne (h.inj y x m l hy hx (by rw [hc]; rfl) (by rw [hb]; rfl) hm hl e (.inr h8))
    refine ⟨h1, fun e => ?_⟩
    rcases hpl with h2 | h2
    · exact h1 (e.trans h2)
    · have := h.lt hy hc hm; omega
  refine ⟨fun y hy => ?_, fun y h1 h2 => ?_, ⟨fun y c hy hc => ?_, fun y z l1 l2 hy hz2 hsy hsz h1 h2 he => ?_⟩, hz, fun k hk hno => ?_, fun y m h1 h2 hy => ?_, fun y m h1 h2 hy => ?_, ho, ht, hp⟩
  · simp [Ren.upd, show ¬ y = s.next by omega]
  · have : y = s.next := by omega
    subst this; rw [hself]; rfl
  · rw [hget] at hc
    by_cases e : y = s.next
    · subst e
      simp only [if_true, Option.some.injEq] at hc
      subst hc
      exact ⟨l', hself, .inl ⟨cells, elem, fr, hc', hs, hbl, fun _ => hfr, hr.mono hup⟩⟩
    · have hy' : Y y := hy.resolve_right (by omega)
      by_cases ex : y = x
      · simp [e, ex] at hc; omega
      · simp only [e, ex, if_false] at hc
        obtain ⟨m, hm, hbm⟩ := h.blk y c hy' hc
        exact ⟨m, hup y m hm, hbm.mono hup (hw _ (h.lt hy' hc hm) (apart y c m hy' ex hc hm).1)⟩
  · rw [hget] at hsy hsz
    by_cases ey : y = s.next
    · by_cases ez : z = s.next
      · omega
      · exfalso
        subst ey
        have hz' : Y z := hz2.resolve_right (by omega)
        by_cases ex : z = x
        · simp [ez, ex] at hsz; omega
        · simp only [ez, ex, if_false] at hsz
          obtain ⟨c, hc⟩ := Option.isSome_iff_exists.1 hsz
          rw [hold z (yok z hz')] at h2
          rw [hself] at h1; cases h1
          exact (apart z c l2 hz' ex hc h2).2 he.symm
    · have hy' : Y y := hy.resolve_right (by omega)
      by_cases ex : y = x
      · simp [ey, ex] at hsy; omega
      · simp only [ey, ex, if_false] at hsy
        rw [hold y (yok y hy')] at h1
        by_cases ez : z = s.next
        · exfalso
          subst ez
          obtain ⟨c, hc⟩ := Option.isSome_iff_exists.1 hsy
          rw [hself] at h2; cases h2
          exact (apart y c l1 hy' ex hc h1).2 he
        · have hz' : Y z := hz2.resolve_right (by omega)
          by_cases ezx : z = x
          · simp [ez, ezx] at hsz; omega
          · simp only [ez, ezx, if_false] at hsz
            rw [hold z (yok z hz')] at h2
            exact h.inj y z l1 l2 hy' hz' hsy hsz h1 h2 he
  · by_cases e : k = l.blk
    · refine (hno x l hx hl e.symm ?_ (by rw [hb]; rfl)).elim
      rw [hwr, testBit_lor, St.set_wr, testBit_lor, testBit_bit]; simp
    · exact hw k hk e
  · have : y = s.next := by omega
    subst this; rw [hself] at hy; cases hy
    rcases hpl with h2 | h2
    · exact .inr ⟨x, l, hx, by rw [hwr, testBit_lor, St.set_wr, testBit_lor, testBit_bit]; simp, by rw [hb]; rfl, hl, h2.symm⟩
    · exact .inl (by omega)
  · have : y = s.next := by omega
    subst this; rw [hself] at hy; cases hy; exact hlt'
end Go.Abs
