import Derived.Test.YtdnedangfnincaaAbsB
import Derived.Laws.CopyRow
import Derived.Laws.Cells
import Derived.Laws.Rows
import Derived.Laws.Append
import Derived.Laws.Entries
import Derived.Lib.AppendStr
import GoSem.ClaimData
namespace Go.Abs
set_option linter.unusedVariables false
set_option linter.unusedSimpArgs false

/-! marks -/
theorem testBit_bit (x y : Nat) : (bit x).testBit y = decide (x = y) := by
  show (1 <<< x).testBit y = _
  rw [Nat.one_shiftLeft, Nat.testBit_two_pow]
theorem testBit_lor (a b y : Nat) : (Nat.lor a b).testBit y = (a.testBit y || b.testBit y) := Nat.testBit_or a b y

/-! the state's parts -/
theorem St.get_set (s : St) (x y : Nat) (b : Option Blk) (hx : x + 1 < 2 ^ 40) : (s.set x b).get y = if y = x then (if 8 ≤ x then b else none) else s.get y := by
  have hc : (bif Nat.ble 8 x then b else none) = if 8 ≤ x then b else none := by
    rw [ble_eq']
    by_cases h : 8 ≤ x <;> simp [h]
  unfold St.set; rw [force_eq, hc]; show (s.heap.put 40 x (if 8 ≤ x then b else none)).get y = _
  by_cases h : y = x
  · subst h; simp only [if_true]; exact T.get_put_same 40 _ _ _ hx
  · simp only [h, if_false]; exact T.get_put_ne 40 _ _ _ _ h
theorem St.set_next (s : St) (x : Nat) (b : Option Blk) : (s.set x b).next = s.next := by unfold St.set; rw [force_eq]
theorem St.set_rd (s : St) (x : Nat) (b : Option Blk) : (s.set x b).rd = s.rd := by unfold St.set; rw [force_eq]
theorem St.set_wr (s : St) (x : Nat) (b : Option Blk) : (s.set x b).wr = Nat.lor s.wr (bit x) := by unfold St.set; rw [force_eq]
theorem St.seen_get (s : St) (x y : Nat) : (s.seen x).get y = s.get y := by unfold St.seen; rw [force_eq]; rfl
theorem St.seen_next (s : St) (x : Nat) : (s.seen x).next = s.next := by unfold St.seen; rw [force_eq]
theorem St.seen_rd (s : St) (x : Nat) : (s.seen x).rd = Nat.lor s.rd (bit x) := by unfold St.seen; rw [force_eq]
theorem St.seen_wr (s : St) (x : Nat) : (s.seen x).wr = s.wr := by unfold St.seen; rw [force_eq]
theorem St.alloc_some {s s' : St} {b : Blk} {n : Nat} (h : s.alloc b = some (n, s')) :
    n = s.next ∧ s.next ≤ lim ∧ s'.next = s.next + 1 ∧ s'.rd = s.rd ∧ s'.wr = Nat.lor s.wr (bit s.next) ∧ s'.heap = s.heap.put 40 s.next (some b) := by
  unfold St.alloc at h
  rw [forceL_eq, cond_some] at h
  obtain ⟨hl, h⟩ := h
  rw [force_eq] at h
  simp only [force_eq, Option.some.injEq, Prod.mk.injEq] at h
  obtain ⟨rfl, rfl⟩ := h
  rw [ble_eq'] at hl
  exact ⟨rfl, of_decide_eq_true hl, rfl, rfl, rfl, rfl⟩
theorem St.alloc_get {s s' : St} {b : Blk} {n : Nat} (h : s.alloc b = some (n, s')) (y : Nat) : s'.get y = if y = s.next then some b else s.get y := by
  obtain ⟨rfl, hl, _, _, _, hh⟩ := St.alloc_some h
  show s'.heap.get y = _
  rw [hh]
  by_cases hy : y = s.next
  · subst hy; simp only [if_true]; exact T.get_put_same 40 _ _ _ (by unfold lim at hl; omega)
  · simp only [hy, if_false]; exact T.get_put_ne 40 _ _ _ _ hy

/-! what a step of the machine leaves -/
structure AStep (s s' : St) : Prop where
  next : s.next ≤ s'.next
  top : s.next ≤ lim + 1 → s'.next ≤ lim + 1
  rd : ∀ x, s.rd.testBit x = true → s'.rd.testBit x = true
  wr : ∀ x, s.wr.testBit x = true → s'.wr.testBit x = true
  same : s.next ≤ lim + 1 → ∀ x, x < s.next → s'.wr.testBit x = false → s'.get x = s.get x
  live : s.next ≤ lim + 1 → ∀ x, x < s.next → (s'.get x).isSome = true → (s.get x).isSome = true
  new : ∀ x, s.next ≤ x → x < s'.next → s'.wr.testBit x = true
  out : (∀ x, s.next ≤ x → s.get x = none) → s.next ≤ lim + 1 → ∀ x, s'.next ≤ x → s'.get x = none
  low : s.next ≤ lim + 1 → ∀ x, x < 8 → x < s.next → s'.wr.testBit x = true → s.wr.testBit x = true ∨ ((s.get x).isSome = true ∧ s'.get x = none)
theorem AStep.refl (s : St) : AStep s s := ⟨Nat.le_refl _, id, fun _ => id, fun _ => id, fun _ _ _ _ => rfl, fun _ _ _ => id, fun x h h' => absurd h (by omega), fun h _ => h, fun _ _ _ _ h => .inl h⟩
theorem AStep.trans {a b c : St} (h : AStep a b) (k : AStep b c) : AStep a c where
  next := Nat.le_trans h.next k.next
  top := fun t => k.top (h.top t)
  rd := fun x hx => k.rd x (h.rd x hx)
  wr := fun x hx => k.wr x (h.wr x hx)
  same := fun t x hx hw => by
    have hb : b.wr.testBit x = false := by
      cases hb : b.wr.testBit x with
      | false => rfl
      | true => rw [k.wr x hb] at hw; cases hw
    rw [k.same (h.top t) x (Nat.lt_of_lt_of_le hx h.next) hw, h.same t x hx hb]
  live := fun t x hx hl => h.live t x hx (k.live (h.top t) x (Nat.lt_of_lt_of_le hx h.next) hl)
  new := fun x h1 h2 => by
    by_cases hx : x < b.next
    · exact k.wr x (h.new x h1 hx)
    · exact k.new x (by omega) h2
  out := fun h0 t => k.out (h.out h0 t) (h.top t)
  low := fun t x hx hn hw => by
    rcases k.low (h.top t) x hx (Nat.lt_of_lt_of_le hn h.next) hw with h1 | ⟨h1, h2⟩
    · rcases h.low t x hx hn h1 with h3 | ⟨h3, h4⟩
      · exact .inl h3
      · refine .inr ⟨h3, ?_⟩
        cases hc : c.get x with
        | none => rfl
        | some v =>
          have := k.live (h.top t) x (Nat.lt_of_lt_of_le hn h.next) (by rw [hc]; rfl)
          rw [h4] at this; cases this
    · exact .inr ⟨h.live t x hn h1, h2⟩
theorem AStep.seen (s : St) (x : Nat) : AStep s (s.seen x) where
  next := by rw [St.seen_next]; exact Nat.le_refl _
  top := by rw [St.seen_next]; exact id
  rd := fun y h => by rw [St.seen_rd, testBit_lor, h]; rfl
  wr := fun y h => by rw [St.seen_wr]; exact h
  same := fun _ y _ _ => St.seen_get s x y
  live := fun _ y _ h => by rw [St.seen_get] at h; exact h
  new := fun y h h' => by rw [St.seen_next] at h'; omega
  out := fun h _ y hy => by rw [St.seen_get]; rw [St.seen_next] at hy; exact h y hy
  low := fun _ y _ _ h => .inl (by rw [St.seen_wr] at h; exact h)
theorem AStep.set (s : St) (x : Nat) (b : Option Blk) (hx : x + 1 < 2 ^ 40) (hl : (s.get x).isSome = true) : AStep s (s.set x b) where
  next := by rw [St.set_next]; exact Nat.le_refl _
  top := by rw [St.set_next]; exact id
  rd := fun y h => by rw [St.set_rd]; exact h
  wr := fun y h => by rw [St.set_wr, testBit_lor, h]; rfl
  same := fun _ y _ h => by
    rw [St.get_set s x y b hx]
    rw [St.set_wr, testBit_lor, testBit_bit] at h
    have : ¬ y = x := by intro e; subst e; simp at h
    simp [this]
  live := fun _ y _ h => by
    rw [St.get_set s x y b hx] at h
    by_cases e : y = x
    · subst e; exact hl
    · simpa [e] using h
  new := fun y h h' => by rw [St.set_next] at h'; omega
  out := fun h _ y hy => by
    rw [St.set_next] at hy
    rw [St.get_set s x y b hx]
    have : ¬ y = x := by intro e; subst e; rw [h y hy] at hl; cases hl
    simp [this, h y hy]
  low := fun _ y hy _ h => by
    rw [St.set_wr, testBit_lor, testBit_bit, Bool.or_eq_true] at h
    rcases h with h | h
    · exact .inl h
    · have e : y = x := by simpa [eq_comm] using h
      subst e
      refine .inr ⟨hl, ?_⟩
      rw [St.get_set s y y b hx, if_pos rfl, if_neg (by omega)]
theorem AStep.alloc {s s' : St} {b : Blk} {n : Nat} (h : s.alloc b = some (n, s')) : AStep s s' := by
  obtain ⟨rfl, hl, hn, hr, hw, _⟩ := St.alloc_some h
  refine ⟨by omega, fun _ => by omega, fun y k => by rw [hr]; exact k, fun y k => by rw [hw, testBit_lor, k]; rfl, fun _ y hy _ => ?_, fun _ y hy k => ?_, fun y h1 h2 => ?_, fun h0 _ y hy => ?_, fun _ y _ hy k => ?_⟩
  · rw [St.alloc_get h]; simp [show ¬ y = s.next by omega]
  · rw [St.alloc_get h] at k; simpa [show ¬ y = s.next by omega] using k
  · have : s.next = y := by omega
    rw [hw, testBit_lor, testBit_bit]; simp [this]
  · rw [St.alloc_get h]; simp [show ¬ y = s.next by omega, h0 y (by omega)]
  · rw [hw, testBit_lor, testBit_bit] at k
    left
    simpa [show ¬ s.next = y by omega] using k

/-! values -/
structure Loc where
  blk : Nat
  base : Nat
  room : Nat
abbrev Ren := Nat → Option Loc
def one : Value → Bool
  | .agg _ | .tuple _ | .chan (some _) => false
  | _ => true

inductive VRel (ρ : Ren) : Value → Value → Prop
  | any (v : Value) : VRel ρ UV v
  | bool (b : Bool) : VRel ρ (.bool b) (.bool b)
  | int (k : IntKind) (n : Int) : VRel ρ (.int k n) (.int k n)
  | string (s : ByteArray) : VRel ρ (.string s) (.string s)
  | ptrNil : VRel ρ (.pointer none) (.pointer none)
  | ptr {b o : Nat} {l : Loc} (h : ρ b = some l) : VRel ρ (.pointer (some ⟨b, o, none⟩)) (.pointer (some ⟨l.blk, l.base + o, none⟩))
  | sliceNil : VRel ρ (.slice none 0 0) (.slice none 0 0)
  | slice {b o n c c' : Nat} {l : Loc} (h : ρ b = some l) (hn : n ≤ c') (hm : c' ≤ maxLen) (hc : c = c' ∨ ∃ es, 0 < es ∧ c = UNK + es ∧ l.base + o + c' * es = l.room) :
      VRel ρ (.slice (some ⟨b, o, none⟩) n c) (.slice (some ⟨l.blk, l.base + o, none⟩) n c')
  | slice0 {b o o' c : Nat} {l : Loc} (h : ρ b = some l) (hc : c = 0 ∨ ∃ es, 0 < es ∧ c = UNK + es ∧ l.base + o = l.room) :
      VRel ρ (.slice (some ⟨b, o, none⟩) 0 c) (.slice (some ⟨l.blk, o', none⟩) 0 0)
  | mapNil : VRel ρ (.map none) (.map none)
  | map {b : Nat} {l : Loc} (h : ρ b = some l) (hm : l.room < l.base) : VRel ρ (.map (some b)) (.map (some l.blk))
  | chanNil : VRel ρ (.chan none) (.chan none)
  | nilFunc : VRel ρ .nilFunc .nilFunc
  | nilIface : VRel ρ .nilIface .nilIface
  | func (fn : Fn) {a a' b b' : Array Value} (ha : a.size = a'.size) (hb : b.size = b'.size)
      (h : ∀ (i : Nat) (x y : Value), a[i]? = some x → a'[i]? = some y → VRel ρ x y) (k : ∀ (i : Nat) (x y : Value), b[i]? = some x → b'[i]? = some y → VRel ρ x y) :
      VRel ρ (.func fn a b) (.func fn a' b')
  | iface (t : TypeId) {v v' : Value} (h : VRel ρ v v') : VRel ρ (.iface t v) (.iface t v')
  | agg {a a' : Array Value} (ha : a.size = a'.size) (h1 : ∀ (i : Nat) (x : Value), a[i]? = some x → one x = true)
      (h : ∀ (i : Nat) (x y : Value), a[i]? = some x → a'[i]? = some y → VRel ρ x y) : VRel ρ (.agg a) (.agg a')
  | tuple {a a' : Array Value} (ha : a.size = a'.size) (h : ∀ (i : Nat) (x y : Value), a[i]? = some x → a'[i]? = some y → VRel ρ x y) : VRel ρ (.tuple a) (.tuple a')

theorem VRel.mono {ρ ρ' : Ren} (hρ : ∀ x l, ρ x = some l → ρ' x = some l) {v v' : Value} (h : VRel ρ v v') : VRel ρ' v v' := by
  induction h with
  | any v => exact .any v
  | bool b => exact .bool b
  | int k n => exact .int k n
  | string s => exact .string s
  | ptrNil => exact .ptrNil
  | ptr h => exact .ptr (hρ _ _ h)
  | sliceNil => exact .sliceNil
  | slice h hn hm hc => exact .slice (hρ _ _ h) hn hm hc
  | slice0 h hc => exact .slice0 (hρ _ _ h) hc
  | mapNil => exact .mapNil
  | map h hm => exact .map (hρ _ _ h) hm
  | chanNil => exact .chanNil
  | nilFunc => exact .nilFunc
  | nilIface => exact .nilIface
  | func fn ha hb _ _ ih ik => exact .func fn ha hb ih ik
  | iface t _ ih => exact .iface t ih
  | agg ha h1 _ ih => exact .agg ha h1 ih
  | tuple ha _ ih => exact .tuple ha ih

/-- lists, value by value -/
def LR (ρ : Ren) (l l' : List Value) : Prop := l.length = l'.length ∧ ∀ (i : Nat) (x y : Value), l[i]? = some x → l'[i]? = some y → VRel ρ x y
/-- cells -/
def CR (ρ : Ren) (l l' : List Value) : Prop := LR ρ l l' ∧ ∀ x ∈ l, one x = true
theorem LR.nil (ρ : Ren) : LR ρ [] [] := ⟨rfl, fun i x y h => by simp at h⟩
theorem LR.cons {ρ : Ren} {x y : Value} {l l' : List Value} (h : VRel ρ x y) (k : LR ρ l l') : LR ρ (x :: l) (y :: l') := by
  refine ⟨by simp [k.1], fun i a b ha hb => ?_⟩
  cases i with
  | zero => simp at ha hb; subst ha; subst hb; exact h
  | succ i => exact k.2 i a b (by simpa using ha) (by simpa using hb)
theorem LR.cons_inv {ρ : Ren} {x : Value} {l m : List Value} (h : LR ρ (x :: l) m) : ∃ y l', m = y :: l' ∧ VRel ρ x y ∧ LR ρ l l' := by
  cases m with
  | nil => simp [LR] at h
  | cons y l' => exact ⟨y, l', rfl, h.2 0 x y rfl rfl, by simpa using h.1, fun i a b ha hb => h.2 (i + 1) a b (by simpa using ha) (by simpa using hb)⟩
theorem LR.nil_inv {ρ : Ren} {m : List Value} (h : LR ρ [] m) : m = [] := by
  cases m with
  | nil => rfl
  | cons y l => simp [LR] at h
theorem LR.append {ρ : Ren} {a a' b b' : List Value} (h : LR ρ a a') (k : LR ρ b b') : LR ρ (a ++ b) (a' ++ b') := by
  induction a generalizing a' with
  | nil => rw [h.nil_inv]; exact k
  | cons x a ih => obtain ⟨y, l', rfl, hx, hl⟩ := h.cons_inv; exact (ih hl).cons hx |> fun z => by simpa using LR.cons hx (ih hl)
theorem LR.take {ρ : Ren} {a a' : List Value} (h : LR ρ a a') (n : Nat) : LR ρ (a.take n) (a'.take n) := by
  refine ⟨by simp [h.1], fun i x y hx hy => ?_⟩
  rw [List.getElem?_take] at hx hy
  split at hx
  · rename_i hi; simp only [hi, if_true] at hy; exact h.2 i x y hx hy
  · cases hx
theorem LR.drop {ρ : Ren} {a a' : List Value} (h : LR ρ a a') (n : Nat) : LR ρ (a.drop n) (a'.drop n) := by
  refine ⟨by simp [h.1], fun i x y hx hy => ?_⟩
  rw [List.getElem?_drop] at hx hy
  exact h.2 _ x y hx hy
theorem LR.mono {ρ ρ' : Ren} (hρ : ∀ x l, ρ x = some l → ρ' x = some l) {a a' : List Value} (h : LR ρ a a') : LR ρ' a a' :=
  ⟨h.1, fun i x y hx hy => (h.2 i x y hx hy).mono hρ⟩
theorem LR.of_map {α : Type} {ρ : Ren} (f g : α → Value) (l : List α) (h : ∀ x ∈ l, VRel ρ (f x) (g x)) : LR ρ (l.map f) (l.map g) := by
  induction l with
  | nil => exact LR.nil ρ
  | cons x l ih => exact LR.cons (h x (by simp)) (ih fun y hy => h y (by simp [hy]))
theorem LR.get {ρ : Ren} {a a' : List Value} (h : LR ρ a a') {i : Nat} {x : Value} (hx : a[i]? = some x) : ∃ y, a'[i]? = some y ∧ VRel ρ x y := by
  have hi : i < a.length := (List.getElem?_eq_some_iff.1 hx).1
  have hi' : i < a'.length := by rw [← h.1]; exact hi
  exact ⟨a'[i], List.getElem?_eq_getElem hi', h.2 i x _ hx (List.getElem?_eq_getElem hi')⟩
theorem CR.mono {ρ ρ' : Ren} (hρ : ∀ x l, ρ x = some l → ρ' x = some l) {a a' : List Value} (h : CR ρ a a') : CR ρ' a a' := ⟨h.1.mono hρ, h.2⟩
theorem CR.nil (ρ : Ren) : CR ρ [] [] := ⟨LR.nil ρ, fun x h => by simp at h⟩
theorem CR.append {ρ : Ren} {a a' b b' : List Value} (h : CR ρ a a') (k : CR ρ b b') : CR ρ (a ++ b) (a' ++ b') :=
  ⟨h.1.append k.1, fun x hx => by rcases List.mem_append.1 hx with hx | hx; exact h.2 x hx; exact k.2 x hx⟩
theorem CR.take {ρ : Ren} {a a' : List Value} (h : CR ρ a a') (n : Nat) : CR ρ (a.take n) (a'.take n) := ⟨h.1.take n, fun x hx => h.2 x (List.mem_of_mem_take hx)⟩
theorem CR.drop {ρ : Ren} {a a' : List Value} (h : CR ρ a a') (n : Nat) : CR ρ (a.drop n) (a'.drop n) := ⟨h.1.drop n, fun x hx => h.2 x (List.mem_of_mem_drop hx)⟩
theorem VRel.one' {ρ : Ren} {x y : Value} (h : VRel ρ x y) (h1 : one x = true) : y.oneCell' = true := by
  cases h <;> first | rfl | (simp [one, UV] at h1; done)
theorem CR.one' {ρ : Ren} {a a' : List Value} (h : CR ρ a a') : ∀ y ∈ a', y.oneCell' = true := by
  intro y hy
  obtain ⟨i, hi, rfl⟩ := List.mem_iff_getElem.1 hy
  have hi' : i < a.length := by rw [h.1.1]; exact hi
  exact (h.1.2 i a[i] a'[i] (List.getElem?_eq_getElem hi') (List.getElem?_eq_getElem hi)).one' (h.2 _ (List.getElem_mem hi'))
theorem VRel.agg_of {ρ : Ren} {a a' : List Value} (h : CR ρ a a') : VRel ρ (aggOf a) (.agg a'.toArray) :=
  .agg (by simpa using h.1.1) (fun i x hx => h.2 x (by simpa using List.mem_of_getElem? (by simpa using hx)))
    (fun i x y hx hy => h.1.2 i x y (by simpa using hx) (by simpa using hy))
theorem VRel.agg_inv {ρ : Ren} {a : Array Value} {v : Value} (h : VRel ρ (.agg a) v) : ∃ a', v = .agg a' ∧ CR ρ a.toList a'.toList := by
  cases h with
  | agg ha h1 h => exact ⟨_, rfl, ⟨by simpa using ha, fun i x y hx hy => h i x y (by simpa using hx) (by simpa using hy)⟩, fun x hx => by
      obtain ⟨i, hi, rfl⟩ := List.mem_iff_getElem.1 hx
      exact h1 i _ (by simp)⟩
theorem VRel.tuple_of {ρ : Ren} {a a' : List Value} (h : LR ρ a a') : VRel ρ (tupOf a) (.tuple a'.toArray) :=
  .tuple (by simpa using h.1) (fun i x y hx hy => h.2 i x y (by simpa using hx) (by simpa using hy))
theorem VRel.tuple_inv {ρ : Ren} {a : Array Value} {v : Value} (h : VRel ρ (.tuple a) v) : ∃ a', v = .tuple a' ∧ LR ρ a.toList a'.toList := by
  cases h with
  | tuple ha h => exact ⟨_, rfl, by simpa using ha, fun i x y hx hy => h i x y (by simpa using hx) (by simpa using hy)⟩
theorem VRel.cells {ρ : Ren} {v v' : Value} (h : VRel ρ v v') (hne : cellsOf v ≠ []) : CR ρ (cellsOf v) v'.cells.toList := by
  cases h with
  | agg ha h1 h => obtain ⟨a', e, hc⟩ := VRel.agg_inv (VRel.agg ha h1 h); cases e; exact hc
  | any v => exact absurd rfl hne
  | tuple ha h => exact absurd rfl hne
  | bool => exact ⟨LR.cons (.bool _) (LR.nil ρ), by simp [cellsOf, one]⟩
  | int => exact ⟨LR.cons (.int _ _) (LR.nil ρ), by simp [cellsOf, one]⟩
  | string => exact ⟨LR.cons (.string _) (LR.nil ρ), by simp [cellsOf, one]⟩
  | ptrNil => exact ⟨LR.cons .ptrNil (LR.nil ρ), by simp [cellsOf, one]⟩
  | ptr h => exact ⟨LR.cons (.ptr h) (LR.nil ρ), by simp [cellsOf, one]⟩
  | sliceNil => exact ⟨LR.cons .sliceNil (LR.nil ρ), by simp [cellsOf, one]⟩
  | slice h hn hm hc => exact ⟨LR.cons (.slice h hn hm hc) (LR.nil ρ), by simp [cellsOf, one]⟩
  | slice0 h hc => exact ⟨LR.cons (.slice0 h hc) (LR.nil ρ), by simp [cellsOf, one]⟩
  | mapNil => exact ⟨LR.cons .mapNil (LR.nil ρ), by simp [cellsOf, one]⟩
  | map h hm => exact ⟨LR.cons (.map h hm) (LR.nil ρ), by simp [cellsOf, one]⟩
  | chanNil => exact ⟨LR.cons .chanNil (LR.nil ρ), by simp [cellsOf, one]⟩
  | nilFunc => exact ⟨LR.cons .nilFunc (LR.nil ρ), by simp [cellsOf, one]⟩
  | nilIface => exact ⟨LR.cons .nilIface (LR.nil ρ), by simp [cellsOf, one]⟩
  | func fn ha hb h k => exact ⟨LR.cons (.func fn ha hb h k) (LR.nil ρ), by simp [cellsOf, one]⟩
  | iface t h => exact ⟨LR.cons (.iface t h) (LR.nil ρ), by simp [cellsOf, one]⟩
end Go.Abs
