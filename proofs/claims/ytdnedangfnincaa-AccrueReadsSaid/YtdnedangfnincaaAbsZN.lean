import Derived.Test.YtdnedangfnincaaAbsZM
namespace Go.Abs
set_option linter.unusedVariables false
set_option linter.unusedSimpArgs false
/-! marks of a run; regions whose operations touch ranges of fresh blocks of their own -/
theorem al_rd (s : St) (c : Blk) (h : s.next ≤ lim) : (al s c).rd = s.rd := (St.alloc_some (al_e s c h)).2.2.2.1
theorem al_wr (s : St) (c : Blk) (h : s.next ≤ lim) : (al s c).wr = Nat.lor s.wr (bit s.next) := (St.alloc_some (al_e s c h)).2.2.2.2.1
theorem sn_wr (s : St) (x : Nat) : (s.seen x).wr = s.wr := by unfold St.seen; rw [force_eq]
theorem set_rd (s : St) (x : Nat) (c : Option Blk) : (s.set x c).rd = s.rd := by unfold St.set; rw [force_eq]
theorem set_wr (s : St) (x : Nat) (c : Option Blk) : (s.set x c).wr = Nat.lor s.wr (bit x) := by unfold St.set; rw [force_eq]
/-- what is written is fresh; what is read is there -/
def Own (s s' : St) : Prop := s.next ≤ s'.next ∧ (∀ y, s'.wr.testBit y = true → s.wr.testBit y = true ∨ (s.next ≤ y ∧ y < s'.next)) ∧ ∀ y, s'.rd.testBit y = true → s.rd.testBit y = true ∨ y < s'.next
/-- what is touched is fresh -/
def Mine (s s' : St) : Prop := s.next ≤ s'.next ∧ (∀ y, s'.wr.testBit y = true → s.wr.testBit y = true ∨ (s.next ≤ y ∧ y < s'.next)) ∧ ∀ y, s'.rd.testBit y = true → s.rd.testBit y = true ∨ (s.next ≤ y ∧ y < s'.next)
theorem Own.refl (s : St) : Own s s := ⟨Nat.le_refl _, fun y h => .inl h, fun y h => .inl h⟩
theorem Own.trans {a b c : St} (h : Own a b) (g : Own b c) : Own a c := by
  have h1 := h.1; have g1 := g.1
  refine ⟨Nat.le_trans h1 g1, fun y hy => ?_, fun y hy => ?_⟩
  · rcases g.2.1 y hy with k | k
    · rcases h.2.1 y k with k | k
      · exact .inl k
      · exact .inr ⟨k.1, by omega⟩
    · exact .inr ⟨by omega, k.2⟩
  · rcases g.2.2 y hy with k | k
    · rcases h.2.2 y k with k | k
      · exact .inl k
      · exact .inr (by omega)
    · exact .inr k
theorem Own.seen {s0 s : St} (h : Own s0 s) (x : Nat) (hx : x < s.next) : Own s0 (s.seen x) := by
  refine ⟨by rw [St.seen_next]; exact h.1, fun y hy => ?_, fun y hy => ?_⟩
  · rw [sn_wr] at hy; rw [St.seen_next]; exact h.2.1 y hy
  · rw [St.seen_rd, testBit_lor, testBit_bit, Bool.or_eq_true, decide_eq_true_eq] at hy
    rw [St.seen_next]
    rcases hy with k | k
    · exact h.2.2 y k
    · exact .inr (by omega)
theorem Own.al {s0 s : St} (h : Own s0 s) (c : Blk) (hl : s.next ≤ lim) : Own s0 (al s c) := by
  have h1 := h.1
  refine ⟨by rw [al_next _ _ hl]; omega, fun y hy => ?_, fun y hy => ?_⟩
  · rw [al_wr _ _ hl, testBit_lor, testBit_bit, Bool.or_eq_true, decide_eq_true_eq] at hy
    rw [al_next _ _ hl]
    rcases hy with k | k
    · rcases h.2.1 y k with k | k
      · exact .inl k
      · exact .inr ⟨k.1, by omega⟩
    · exact .inr ⟨by omega, by omega⟩
  · rw [al_rd _ _ hl] at hy
    rw [al_next _ _ hl]
    rcases h.2.2 y hy with k | k
    · exact .inl k
    · exact .inr (by omega)
theorem Own.set {s0 s : St} (h : Own s0 s) (x : Nat) (c : Option Blk) (h1 : s0.next ≤ x) (h2 : x < s.next) : Own s0 (s.set x c) := by
  refine ⟨by rw [set_next]; exact h.1, fun y hy => ?_, fun y hy => ?_⟩
  · rw [set_wr, testBit_lor, testBit_bit, Bool.or_eq_true, decide_eq_true_eq] at hy
    rw [set_next]
    rcases hy with k | k
    · exact h.2.1 y k
    · exact .inr ⟨by omega, by omega⟩
  · rw [set_rd] at hy; rw [set_next]; exact h.2.2 y hy
theorem Mine.own {s s' : St} (h : Mine s s') : Own s s' := ⟨h.1, h.2.1, fun y hy => (h.2.2 y hy).imp id fun k => k.2⟩
theorem Mine.refl (s : St) : Mine s s := ⟨Nat.le_refl _, fun y h => .inl h, fun y h => .inl h⟩
theorem Mine.trans {a b c : St} (h : Mine a b) (g : Mine b c) : Mine a c := by
  have h1 := h.1; have g1 := g.1
  refine ⟨Nat.le_trans h1 g1, fun y hy => ?_, fun y hy => ?_⟩
  · rcases g.2.1 y hy with k | k
    · rcases h.2.1 y k with k | k
      · exact .inl k
      · exact .inr ⟨k.1, by omega⟩
    · exact .inr ⟨by omega, k.2⟩
  · rcases g.2.2 y hy with k | k
    · rcases h.2.2 y k with k | k
      · exact .inl k
      · exact .inr ⟨k.1, by omega⟩
    · exact .inr ⟨by omega, k.2⟩
theorem Mine.seen {s0 s : St} (h : Mine s0 s) (x : Nat) (h1 : s0.next ≤ x) (hx : x < s.next) : Mine s0 (s.seen x) := by
  refine ⟨by rw [St.seen_next]; exact h.1, fun y hy => ?_, fun y hy => ?_⟩
  · rw [sn_wr] at hy; rw [St.seen_next]; exact h.2.1 y hy
  · rw [St.seen_rd, testBit_lor, testBit_bit, Bool.or_eq_true, decide_eq_true_eq] at hy
    rw [St.seen_next]
    rcases hy with k | k
    · exact h.2.2 y k
    · exact .inr ⟨by omega, by omega⟩
theorem Mine.al {s0 s : St} (h : Mine s0 s) (c : Blk) (hl : s.next ≤ lim) : Mine s0 (al s c) := by
  have h1 := h.1
  have o := h.own.al c hl
  refine ⟨o.1, o.2.1, fun y hy => ?_⟩
  rw [al_rd _ _ hl] at hy
  rw [al_next _ _ hl]
  rcases h.2.2 y hy with k | k
  · exact .inl k
  · exact .inr ⟨k.1, by omega⟩
theorem Mine.set {s0 s : St} (h : Mine s0 s) (x : Nat) (c : Option Blk) (h1 : s0.next ≤ x) (h2 : x < s.next) : Mine s0 (s.set x c) := by
  have o := h.own.set x c h1 h2
  refine ⟨o.1, o.2.1, fun y hy => ?_⟩
  rw [set_rd] at hy; rw [set_next]; exact h.2.2 y hy
theorem Own.jn {s s1 : St} (h : Own (z0 s) s1) : Own s (jn s s1) := by
  have e : ∀ y, Nat.testBit 0 y = false := fun y => Nat.zero_testBit y
  refine ⟨h.1, fun y hy => ?_, fun y hy => ?_⟩
  · have hy : (Nat.lor s.wr s1.wr).testBit y = true := hy
    rw [testBit_lor, Bool.or_eq_true] at hy
    rcases hy with k | k
    · exact .inl k
    · rcases h.2.1 y k with k | k
      · have k : Nat.testBit 0 y = true := k
        rw [e] at k; cases k
      · exact .inr k
  · have hy : (Nat.lor s.rd s1.rd).testBit y = true := hy
    rw [testBit_lor, Bool.or_eq_true] at hy
    rcases hy with k | k
    · exact .inl k
    · rcases h.2.2 y k with k | k
      · have k : Nat.testBit 0 y = true := k
        rw [e] at k; cases k
      · exact .inr k
theorem Mine.jn {s s1 : St} (h : Mine (z0 s) s1) : Mine s (jn s s1) := by
  have e : ∀ y, Nat.testBit 0 y = false := fun y => Nat.zero_testBit y
  have o := h.own.jn
  refine ⟨o.1, o.2.1, fun y hy => ?_⟩
  have hy : (Nat.lor s.rd s1.rd).testBit y = true := hy
  rw [testBit_lor, Bool.or_eq_true] at hy
  rcases hy with k | k
  · exact .inl k
  · rcases h.2.2 y k with k | k
    · have k : Nat.testBit 0 y = true := k
      rw [e] at k; cases k
    · exact .inr k
theorem rU_c (v : Value) (fs : Frm) (s s1 : St) : rU (some (v, s1)) fs s none = some (v, (⟨(s1.rd, s1.wr), s, s1, none⟩, jn s s1)) := by
  unfold rU
  rw [op2_s]
  rfl
theorem rU_z (v : Value) (fs : Frm) (s : St) : rU (some (v, z0 s)) fs s none = some (v, (⟨(0, 0), s, z0 s, none⟩, s)) := by
  rw [rU_c, jn_z]
  rfl
theorem rU_ld (v : Value) (b o : Nat) (fs : Frm) (s s1 : St) : rU (some (v, s1)) fs s (some (.v (.pointer (some ⟨b, o, none⟩)))) = some (v, (⟨(0, 0), s, s1, some (b, o)⟩, jn s s1)) := by
  unfold rU
  rw [op2_s]
  rfl
theorem z0_e (s : St) : (⟨s.heap, s.next, 0, 0⟩ : St) = z0 s := nrfl rfl
/-- what an operation of a region touches: k = 0: only older blocks, and these are read only; k + 1: the blocks from c (k + 1) on, ahead of c (k + 1 + 1) -/
def KI (n0 : Nat) (c : Nat → Nat) (m : Mk) (k : Nat) : Prop :=
  (∀ y, m.m.2.testBit y = true → k ≠ 0 ∧ c k ≤ y ∧ y < c (k + 1)) ∧ (∀ y, m.m.1.testBit y = true → y < n0 ∨ (k ≠ 0 ∧ c k ≤ y ∧ y < c (k + 1))) ∧ ∀ p, m.ld = some p → p.1 < n0
theorem KI.pure (n0 : Nat) (c : Nat → Nat) (a b : St) (k : Nat) : KI n0 c ⟨(0, 0), a, b, none⟩ k :=
  ⟨fun y h => absurd ((Nat.zero_testBit y).symm.trans h) Bool.false_ne_true, fun y h => absurd ((Nat.zero_testBit y).symm.trans h) Bool.false_ne_true, fun p h => by cases h⟩
theorem KI.ld (n0 : Nat) (c : Nat → Nat) (a b : St) (k : Nat) (x o : Nat) (hx : x < n0) : KI n0 c ⟨(0, 0), a, b, some (x, o)⟩ k :=
  ⟨fun y h => absurd ((Nat.zero_testBit y).symm.trans h) Bool.false_ne_true, fun y h => absurd ((Nat.zero_testBit y).symm.trans h) Bool.false_ne_true, fun p h => by cases h; exact hx⟩
theorem KI.rd (n0 : Nat) (c : Nat → Nat) (s b : St) (k : Nat) (x : Nat) (hx : x < n0) : KI n0 c ⟨(((z0 s).seen x).rd, ((z0 s).seen x).wr), s, b, none⟩ k := by
  refine ⟨fun y h => ?_, fun y h => ?_, fun p h => by cases h⟩
  · have h : ((z0 s).seen x).wr.testBit y = true := h
    rw [sn_wr] at h
    exact absurd ((Nat.zero_testBit y).symm.trans h) Bool.false_ne_true
  · have h : ((z0 s).seen x).rd.testBit y = true := h
    rw [St.seen_rd, testBit_lor, testBit_bit, Bool.or_eq_true, decide_eq_true_eq] at h
    rcases h with h | h
    · exact absurd ((Nat.zero_testBit y).symm.trans h) Bool.false_ne_true
    · exact .inl (by omega)
theorem KI.own (n0 : Nat) (c : Nat → Nat) (s s1 b : St) (k : Nat) (h : Own (z0 s) s1) (h1 : s.next = c (k + 1)) (h2 : s1.next ≤ c (k + 1 + 1)) (h3 : c (k + 1) = n0) : KI n0 c ⟨(s1.rd, s1.wr), s, b, none⟩ (k + 1) := by
  have e : ∀ y, Nat.testBit 0 y = false := fun y => Nat.zero_testBit y
  refine ⟨fun y hy => ?_, fun y hy => ?_, fun p hp => by cases hp⟩
  · rcases h.2.1 y hy with k' | k'
    · have k' : Nat.testBit 0 y = true := k'
      rw [e] at k'; cases k'
    · have : s.next ≤ y := k'.1
      exact ⟨by omega, by omega, by have := k'.2; omega⟩
  · rcases h.2.2 y hy with k' | k'
    · have k' : Nat.testBit 0 y = true := k'
      rw [e] at k'; cases k'
    · by_cases hy : y < n0
      · exact .inl hy
      · exact .inr ⟨by omega, by omega, by omega⟩
theorem KI.mine (n0 : Nat) (c : Nat → Nat) (s s1 b : St) (k : Nat) (h : Mine (z0 s) s1) (h1 : c (k + 1) ≤ s.next) (h2 : s1.next ≤ c (k + 1 + 1)) : KI n0 c ⟨(s1.rd, s1.wr), s, b, none⟩ (k + 1) := by
  have e : ∀ y, Nat.testBit 0 y = false := fun y => Nat.zero_testBit y
  refine ⟨fun y hy => ?_, fun y hy => ?_, fun p hp => by cases hp⟩
  · rcases h.2.1 y hy with k' | k'
    · have k' : Nat.testBit 0 y = true := k'
      rw [e] at k'; cases k'
    · have : s.next ≤ y := k'.1
      exact ⟨by omega, by omega, by have := k'.2; omega⟩
  · rcases h.2.2 y hy with k' | k'
    · have k' : Nat.testBit 0 y = true := k'
      rw [e] at k'; cases k'
    · have : s.next ≤ y := k'.1
      exact .inr ⟨by omega, by omega, by have := k'.2; omega⟩
/-- a block of its own that an operation writes -/
theorem KI.set (n0 : Nat) (c : Nat → Nat) (s b : St) (k : Nat) (x : Nat) (d : Option Blk) (h1 : c (k + 1) ≤ x) (h2 : x < c (k + 1 + 1)) : KI n0 c ⟨(((z0 s).set x d).rd, ((z0 s).set x d).wr), s, b, none⟩ (k + 1) := by
  have e : ∀ y, Nat.testBit 0 y = false := fun y => Nat.zero_testBit y
  refine ⟨fun y hy => ?_, fun y hy => ?_, fun p hp => by cases hp⟩
  · have hy : ((z0 s).set x d).wr.testBit y = true := hy
    rw [set_wr, testBit_lor, testBit_bit, Bool.or_eq_true, decide_eq_true_eq] at hy
    rcases hy with k' | k'
    · have k' : Nat.testBit 0 y = true := k'
      rw [e] at k'; cases k'
    · exact ⟨by omega, by omega, by omega⟩
  · have hy : ((z0 s).set x d).rd.testBit y = true := hy
    rw [set_rd] at hy
    have k' : Nat.testBit 0 y = true := hy
    rw [e] at k'; cases k'
/-- only fresh blocks are written; whatever is read -/
def KW (n0 : Nat) (m : Mk) : Prop := (∀ y, m.m.2.testBit y = true → n0 ≤ y) ∧ m.ld = none
theorem KW.own (n0 : Nat) (s s1 b : St) (h : Own (z0 s) s1) (h1 : n0 ≤ s.next) : KW n0 ⟨(s1.rd, s1.wr), s, b, none⟩ :=
  ⟨fun y hy => by
    rcases h.2.1 y hy with k | k
    · exact absurd ((Nat.zero_testBit y).symm.trans k) Bool.false_ne_true
    · have : s.next ≤ y := k.1
      omega, rfl⟩
def allI (n0 : Nat) (c : Nat → Nat) : List Mk → List Nat → Prop
  | [], [] => True
  | m :: ms, k :: ks => (k ≠ 99 → (k ≠ 50 → KI n0 c m k) ∧ (k = 50 → KW n0 m)) ∧ allI n0 c ms ks
  | _, _ => False
/-- 99: of what is not looked at -/
def okI2 (a b : Nat) : Bool := !Nat.beq a 99 && (!Nat.beq b 99 && (Nat.beq a 0 || (Nat.beq b 0 || (!Nat.beq a 50 && (!Nat.beq b 50 && !Nat.beq a b)))))
noncomputable def okI (ks : List Nat) (p : Nat × Nat) : Bool := Option.rec false (fun a => Option.rec false (fun b => okI2 a b) (nth ks p.2)) (nth ks p.1)
theorem allI_nth {n0 : Nat} {c : Nat → Nat} : ∀ {ms : List Mk} {ks : List Nat} (i : Nat) (k : Nat), allI n0 c ms ks → nth ks i = some k → ∃ m, nth ms i = some m ∧ (k ≠ 99 → (k ≠ 50 → KI n0 c m k) ∧ (k = 50 → KW n0 m))
  | [], [], i, k, _, h => by cases h
  | m :: ms, k' :: ks, 0, k, h, hk => by
    obtain rfl : k' = k := Option.some.inj hk
    exact ⟨m, rfl, h.1⟩
  | m :: ms, k' :: ks, i + 1, k, h, hk => allI_nth (ms := ms) (ks := ks) i k h.2 hk
  | [], _ :: _, _, _, h, _ => h.elim
  | _ :: _, [], _, _, h, _ => h.elim
theorem land_0 (a b : Nat) (h : ∀ y, a.testBit y = true → b.testBit y = true → False) : Nat.land a b = 0 := by
  apply Nat.eq_of_testBit_eq
  intro y
  rw [show (Nat.land a b).testBit y = (a.testBit y && b.testBit y) from Nat.testBit_and a b y, Nat.zero_testBit]
  cases h1 : a.testBit y
  · rfl
  · cases h2 : b.testBit y
    · rfl
    · exact (h y h1 h2).elim
theorem ldFree_w (l w : Mk) (h : ∀ p, l.ld = some p → w.m.2.testBit p.1 = false) : ldFree l w = true := by
  unfold ldFree
  cases e : l.ld with
  | none => rfl
  | some q =>
    show (bif hasBit w.m.2 q.1 then _ else true) = true
    rw [show hasBit w.m.2 q.1 = false by rw [hasBit_eq]; exact h q e]
    rfl
theorem apartI_ok {n0 : Nat} {c : Nat → Nat} (hc : ∀ i j, 0 < i → i < j → c (i + 1) ≤ c j) (h0 : ∀ i, 0 < i → n0 ≤ c i) {a b : Mk} {i j : Nat} (ha : KI n0 c a i) (hb : KI n0 c b j) (h : okI2 i j = true) : apartK a b = true := by
  have hij : i = 0 ∨ j = 0 ∨ i ≠ j := by
    unfold okI2 at h
    simp only [beq_eq', Bool.and_eq_true] at h
    have h := h.2.2
    simp only [Bool.or_eq_true, Bool.and_eq_true, decide_eq_true_eq, Bool.not_eq_true', decide_eq_false_iff_not] at h
    omega
  have dis : ∀ y, (i ≠ 0 ∧ c i ≤ y ∧ y < c (i + 1)) → (j ≠ 0 ∧ c j ≤ y ∧ y < c (j + 1)) → False := fun y h1 h2 => by
    rcases Nat.lt_trichotomy i j with g | g | g
    · have := hc i j (by omega) g; omega
    · omega
    · have := hc j i (by omega) g; omega
  have old : ∀ y k, y < n0 → (k ≠ 0 ∧ c k ≤ y ∧ y < c (k + 1)) → False := fun y k h1 h2 => by
    have := h0 k (by omega); omega
  have l1 : ldFree a b = true := ldFree_w a b fun p hp => by
    cases e : b.m.2.testBit p.1 with
    | false => rfl
    | true => exact (old _ _ (ha.2.2 p hp) (hb.1 _ e)).elim
  have l2 : ldFree b a = true := ldFree_w b a fun p hp => by
    cases e : a.m.2.testBit p.1 with
    | false => rfl
    | true => exact (old _ _ (hb.2.2 p hp) (ha.1 _ e)).elim
  have m1 : apartM a.m b.m = true := by
    unfold apartM
    rw [land_0 a.m.2 (Nat.lor b.m.1 b.m.2) (fun y h1 h2 => by
      rw [testBit_lor, Bool.or_eq_true] at h2
      have k1 := ha.1 y h1
      rcases h2 with h2 | h2
      · rcases hb.2.1 y h2 with h2 | h2
        · exact old _ _ h2 k1
        · exact dis y k1 h2
      · exact dis y k1 (hb.1 y h2)), land_0 a.m.1 b.m.2 (fun y h1 h2 => by
      have k2 := hb.1 y h2
      rcases ha.2.1 y h1 with h1 | h1
      · exact old _ _ h1 k2
      · exact dis y h1 k2)]
    rfl
  unfold apartK
  rw [m1, l1, l2]
  rfl
/-- reads only, beside writes of fresh blocks -/
theorem apartW_ok {n0 : Nat} {c : Nat → Nat} {a b : Mk} (ha : KI n0 c a 0) (hb : KW n0 b) : apartK a b = true ∧ apartK b a = true := by
  have w0 : ∀ y, a.m.2.testBit y = true → False := fun y h => (ha.1 y h).1 rfl
  have r0 : ∀ y, a.m.1.testBit y = true → y < n0 := fun y h => by
    rcases ha.2.1 y h with h | h
    · exact h
    · exact absurd rfl h.1
  have l1 : ldFree a b = true := ldFree_w a b fun p hp => by
    cases e : b.m.2.testBit p.1 with
    | false => rfl
    | true => have := hb.1 _ e; have := ha.2.2 p hp; omega
  have l2 : ldFree b a = true := ldFree_n _ _ hb.2
  have m1 : apartM a.m b.m = true := by
    unfold apartM
    rw [land_0 a.m.2 (Nat.lor b.m.1 b.m.2) (fun y h1 _ => w0 y h1), land_0 a.m.1 b.m.2 (fun y h1 h2 => by have := r0 y h1; have := hb.1 y h2; omega)]
    rfl
  have m2 : apartM b.m a.m = true := by
    unfold apartM
    rw [land_0 b.m.2 (Nat.lor a.m.1 a.m.2) (fun y h1 h2 => by
      rw [testBit_lor, Bool.or_eq_true] at h2
      rcases h2 with h2 | h2
      · have := r0 y h2; have := hb.1 y h1; omega
      · exact w0 y h2), land_0 b.m.1 a.m.2 (fun y _ h2 => w0 y h2)]
    rfl
  unfold apartK
  rw [m1, m2, l1, l2]
  exact ⟨rfl, rfl⟩
theorem apartIs {n0 : Nat} (c : Nat → Nat) (ks : List Nat) {ms : List Mk} (hc : ∀ i j, 0 < i → i < j → c (i + 1) ≤ c j) (h0 : ∀ i, 0 < i → n0 ≤ c i) (h : allI n0 c ms ks) : ∀ (un : List (Nat × Nat)), un.all (okI ks) = true → apartAll ms un = true
  | [], _ => rfl
  | p :: un, hu => by
    rw [List.all_cons, Bool.and_eq_true] at hu
    have ih := apartIs c ks hc h0 h un hu.2
    have h1 := hu.1
    unfold okI at h1
    cases e1 : nth ks p.1 with
    | none => rw [e1] at h1; cases h1
    | some i =>
      cases e2 : nth ks p.2 with
      | none => rw [e1, e2] at h1; cases h1
      | some j =>
        rw [e1, e2] at h1
        obtain ⟨a, a1, a2⟩ := allI_nth _ _ h e1
        obtain ⟨b, b1, b2⟩ := allI_nth _ _ h e2
        have hp : apartP ms p = true := by
          unfold apartP
          rw [a1, b1]
          have h99 : i ≠ 99 ∧ j ≠ 99 := by
            unfold okI2 at h1
            simp only [beq_eq', Bool.and_eq_true] at h1
            exact ⟨by simpa using h1.1, by simpa using h1.2.1⟩
          have a3 := a2 h99.1
          have b3 := b2 h99.2
          by_cases ea : i = 50
          · have eb : j = 0 := by
              unfold okI2 at h1
              simp only [beq_eq', Bool.and_eq_true, Bool.or_eq_true, decide_eq_true_eq, Bool.not_eq_true', decide_eq_false_iff_not] at h1
              omega
            subst eb
            exact (apartW_ok (b3.1 (by omega)) (a3.2 ea)).2
          · by_cases eb : j = 50
            · have ea : i = 0 := by
                unfold okI2 at h1
                simp only [beq_eq', Bool.and_eq_true, Bool.or_eq_true, decide_eq_true_eq, Bool.not_eq_true', decide_eq_false_iff_not] at h1
                omega
              subst ea
              exact (apartW_ok (a3.1 (by omega)) (b3.2 eb)).1
            · exact apartI_ok hc h0 (a3.1 ea) (b3.1 eb) h1
        show (bif apartP ms p then apartAll ms un else false) = true
        rw [hp]; exact ih
theorem kI {n0 : Nat} {c : Nat → Nat} {m : Mk} {k : Nat} (h : KI n0 c m k) (hk : k ≠ 50) : k ≠ 99 → (k ≠ 50 → KI n0 c m k) ∧ (k = 50 → KW n0 m) := fun _ => ⟨fun _ => h, fun e => absurd e hk⟩
theorem kW {n0 : Nat} {c : Nat → Nat} {m : Mk} (h : KW n0 m) : 50 ≠ 99 → (50 ≠ 50 → KI n0 c m 50) ∧ (50 = 50 → KW n0 m) := fun _ => ⟨fun e => absurd rfl e, fun _ => h⟩
/-- cuts: the n-th is told by a list; from there on the last one -/
def cutsOf (l : List Nat) (d : Nat) (k : Nat) : Nat := l.getD k d
end Go.Abs
