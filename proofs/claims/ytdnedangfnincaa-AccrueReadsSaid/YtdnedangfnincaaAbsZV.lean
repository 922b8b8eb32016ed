import Derived.Test.YtdnedangfnincaaAbsZO
namespace Go.Abs
set_option linter.unusedVariables false
set_option linter.unusedSimpArgs false
/-! regions with several calls: what each touches -/
/-- writes its own range; reads what is below its end -/
def KO (c : Nat → Nat) (m : Mk) (k : Nat) : Prop :=
  (∀ y, m.m.2.testBit y = true → c k ≤ y ∧ y < c (k + 1)) ∧ (∀ y, m.m.1.testBit y = true → y < c (k + 1)) ∧ m.ld = none
theorem KO.own (c : Nat → Nat) (s s1 b : St) (k : Nat) (h : Own (z0 s) s1) (h1 : c k ≤ s.next) (h2 : s1.next ≤ c (k + 1)) : KO c ⟨(s1.rd, s1.wr), s, b, none⟩ k := by
  refine ⟨fun y hy => ?_, fun y hy => ?_, rfl⟩
  · rcases h.2.1 y hy with k' | k'
    · exact absurd ((Nat.zero_testBit y).symm.trans k') Bool.false_ne_true
    · have : s.next ≤ y := k'.1
      exact ⟨by omega, by have := k'.2; omega⟩
  · rcases h.2.2 y hy with k' | k'
    · exact absurd ((Nat.zero_testBit y).symm.trans k') Bool.false_ne_true
    · omega
/-- kinds: (0, _) reads only what is older; (1, k) touches its own range k only; (2, k) writes its range k, reads below its end; (3, _) not looked at -/
def KJ (n0 : Nat) (c : Nat → Nat) (m : Mk) (q : Nat × Nat) : Prop := match q.1 with
  | 0 => KI n0 c m 0
  | 1 => KI n0 c m (q.2 + 1)
  | 2 => KO c m (q.2 + 1)
  | _ => True
def allJ (n0 : Nat) (c : Nat → Nat) : List Mk → List (Nat × Nat) → Prop
  | [], [] => True
  | m :: ms, k :: ks => KJ n0 c m k ∧ allJ n0 c ms ks
  | _, _ => False
/-- of two kinds: may they go in either order? -/
def okJ2 (a b : Nat × Nat) : Bool :=
  (Nat.beq a.1 0 && Nat.ble b.1 2) || ((Nat.beq b.1 0 && Nat.ble a.1 2) || ((Nat.beq a.1 1 && (Nat.beq b.1 1 && !Nat.beq a.2 b.2)) || ((Nat.beq a.1 2 && (Nat.beq b.1 1 && Nat.blt a.2 b.2)) || (Nat.beq a.1 1 && (Nat.beq b.1 2 && Nat.blt b.2 a.2)))))
noncomputable def okJ (ks : List (Nat × Nat)) (p : Nat × Nat) : Bool := Option.rec false (fun a => Option.rec false (fun b => okJ2 a b) (nth ks p.2)) (nth ks p.1)
theorem allJ_nth {n0 : Nat} {c : Nat → Nat} : ∀ {ms : List Mk} {ks : List (Nat × Nat)} (i : Nat) (k : Nat × Nat), allJ n0 c ms ks → nth ks i = some k → ∃ m, nth ms i = some m ∧ KJ n0 c m k
  | [], [], i, k, _, h => by cases h
  | m :: ms, k' :: ks, 0, k, h, hk => by
    obtain rfl : k' = k := Option.some.inj hk
    exact ⟨m, rfl, h.1⟩
  | m :: ms, k' :: ks, i + 1, k, h, hk => allJ_nth (ms := ms) (ks := ks) i k h.2 hk
  | [], _ :: _, _, _, h, _ => h.elim
  | _ :: _, [], _, _, h, _ => h.elim
theorem apartK_symm {a b : Mk} (h : apartK a b = true) : apartK b a = true := by
  unfold apartK at h ⊢
  have h1 : apartM a.m b.m = true := by cases e : apartM a.m b.m <;> rw [e] at h <;> first | rfl | cases h
  rw [h1] at h
  have h2 : ldFree a b = true := by cases e : ldFree a b <;> rw [e] at h <;> first | rfl | cases h
  rw [h2] at h
  have h3 : ldFree b a = true := h
  have h4 : apartM b.m a.m = true := by
    unfold apartM at h1 ⊢
    rw [Bool.and_eq_true, beq_eq', beq_eq', decide_eq_true_eq, decide_eq_true_eq] at h1
    have t1 : ∀ y, a.m.2.testBit y = true → (b.m.1.testBit y = true ∨ b.m.2.testBit y = true) → False := fun y k1 k2 => by
      have := congrArg (fun n => n.testBit y) h1.1
      simp only [show (Nat.land a.m.2 (Nat.lor b.m.1 b.m.2)).testBit y = (a.m.2.testBit y && (Nat.lor b.m.1 b.m.2).testBit y) from Nat.testBit_and _ _ y, testBit_lor, Nat.zero_testBit, k1, Bool.true_and] at this
      rcases k2 with k2 | k2 <;> simp [k2] at this
    have t2 : ∀ y, a.m.1.testBit y = true → b.m.2.testBit y = true → False := fun y k1 k2 => by
      have := congrArg (fun n => n.testBit y) h1.2
      simp only [show (Nat.land a.m.1 b.m.2).testBit y = (a.m.1.testBit y && b.m.2.testBit y) from Nat.testBit_and _ _ y, Nat.zero_testBit, k1, k2] at this
      cases this
    rw [land_0 b.m.2 (Nat.lor a.m.1 a.m.2) (fun y k1 k2 => by
      rw [testBit_lor, Bool.or_eq_true] at k2
      rcases k2 with k2 | k2
      · exact t2 y k2 k1
      · exact t1 y k2 (.inr k1)), land_0 b.m.1 a.m.2 (fun y k1 k2 => t1 y k2 (.inl k1))]
    rfl
  rw [h4, h3, h2]
  rfl
theorem apartO_r {n0 : Nat} {c : Nat → Nat} (h0 : ∀ i, 0 < i → n0 ≤ c i) {a b : Mk} {k : Nat} (ha : KI n0 c a 0) (hb : KO c b (k + 1)) : apartK a b = true :=
  (apartW_ok ha ⟨fun y hy => by have := h0 (k + 1) (by omega); have := (hb.1 y hy).1; omega, hb.2.2⟩).1
theorem apartO_n {n0 : Nat} {c : Nat → Nat} (hc : ∀ i j, 0 < i → i < j → c (i + 1) ≤ c j) (h0 : ∀ i, 0 < i → n0 ≤ c i) {a b : Mk} {k j : Nat} (ha : KO c a (k + 1)) (hb : KI n0 c b (j + 1)) (h : k < j) : apartK a b = true := by
  have hcc := hc (k + 1) (j + 1) (by omega) (by omega)
  have hk := h0 (k + 1) (by omega)
  have l1 : ldFree a b = true := ldFree_n _ _ ha.2.2
  have l2 : ldFree b a = true := ldFree_w b a fun p hp => by
    cases e : a.m.2.testBit p.1 with
    | false => rfl
    | true => have := hb.2.2 p hp; have := (ha.1 _ e).1; omega
  have m1 : apartM a.m b.m = true := by
    unfold apartM
    rw [land_0 a.m.2 (Nat.lor b.m.1 b.m.2) (fun y h1 h2 => by
      rw [testBit_lor, Bool.or_eq_true] at h2
      have k1 := ha.1 y h1
      rcases h2 with h2 | h2
      · rcases hb.2.1 y h2 with h2 | h2
        · omega
        · omega
      · have := hb.1 y h2; omega), land_0 a.m.1 b.m.2 (fun y h1 h2 => by have := ha.2.1 y h1; have := hb.1 y h2; omega)]
    rfl
  unfold apartK
  rw [m1, l1, l2]
  rfl
theorem apartJ_ok {n0 : Nat} {c : Nat → Nat} (hc : ∀ i j, 0 < i → i < j → c (i + 1) ≤ c j) (h0 : ∀ i, 0 < i → n0 ≤ c i) {a b : Mk} {p q : Nat × Nat} (ha : KJ n0 c a p) (hb : KJ n0 c b q) (h : okJ2 p q = true) : apartK a b = true := by
  obtain ⟨p1, p2⟩ := p
  obtain ⟨q1, q2⟩ := q
  unfold okJ2 at h
  simp only [beq_eq', ble_eq', blt_eq', Bool.or_eq_true, Bool.and_eq_true, decide_eq_true_eq, Bool.not_eq_true', decide_eq_false_iff_not] at h
  rcases h with ⟨h, h'⟩ | ⟨h, h'⟩ | ⟨h, h', h''⟩ | ⟨h, h', h''⟩ | ⟨h, h', h''⟩
  · subst h
    have ha : KI n0 c a 0 := ha
    match q1, h', hb with
    | 0, _, hb => exact apartI_ok hc h0 ha hb rfl
    | 1, _, hb =>
      have hb : KI n0 c b (q2 + 1) := hb
      have hij : ∀ y, (q2 + 1 ≠ 0 ∧ c (q2 + 1) ≤ y ∧ y < c (q2 + 1 + 1)) → n0 ≤ y := fun y k => by have := h0 (q2 + 1) (by omega); omega
      have l1 : ldFree a b = true := ldFree_w a b fun p hp => by
        cases e : b.m.2.testBit p.1 with
        | false => rfl
        | true => have := hij _ (hb.1 _ e); have := ha.2.2 p hp; omega
      have l2 : ldFree b a = true := ldFree_w b a fun p hp => by
        cases e : a.m.2.testBit p.1 with
        | false => rfl
        | true => exact absurd rfl (ha.1 _ e).1
      have m1 : apartM a.m b.m = true := by
        unfold apartM
        rw [land_0 a.m.2 (Nat.lor b.m.1 b.m.2) (fun y k1 _ => (ha.1 y k1).1 rfl), land_0 a.m.1 b.m.2 (fun y k1 k2 => by
          have := hij y (hb.1 y k2)
          rcases ha.2.1 y k1 with k | k
          · omega
          · exact k.1 rfl)]
        rfl
      unfold apartK
      rw [m1, l1, l2]
      rfl
    | 2, _, hb => exact apartO_r h0 ha hb
  · subst h
    have hb : KI n0 c b 0 := hb
    match p1, h', ha with
    | 0, _, ha => exact apartI_ok hc h0 ha hb rfl
    | 1, _, ha =>
      have ha : KI n0 c a (p2 + 1) := ha
      apply apartK_symm
      have hij : ∀ y, (p2 + 1 ≠ 0 ∧ c (p2 + 1) ≤ y ∧ y < c (p2 + 1 + 1)) → n0 ≤ y := fun y k => by have := h0 (p2 + 1) (by omega); omega
      have l1 : ldFree b a = true := ldFree_w b a fun p hp => by
        cases e : a.m.2.testBit p.1 with
        | false => rfl
        | true => have := hij _ (ha.1 _ e); have := hb.2.2 p hp; omega
      have l2 : ldFree a b = true := ldFree_w a b fun p hp => by
        cases e : b.m.2.testBit p.1 with
        | false => rfl
        | true => exact absurd rfl (hb.1 _ e).1
      have m1 : apartM b.m a.m = true := by
        unfold apartM
        rw [land_0 b.m.2 (Nat.lor a.m.1 a.m.2) (fun y k1 _ => (hb.1 y k1).1 rfl), land_0 b.m.1 a.m.2 (fun y k1 k2 => by
          have := hij y (ha.1 y k2)
          rcases hb.2.1 y k1 with k | k
          · omega
          · exact k.1 rfl)]
        rfl
      unfold apartK
      rw [m1, l1, l2]
      rfl
    | 2, _, ha => exact apartK_symm (apartO_r h0 hb ha)
  · subst h h'
    have ha : KI n0 c a (p2 + 1) := ha
    have hb : KI n0 c b (q2 + 1) := hb
    have dis : ∀ y, (p2 + 1 ≠ 0 ∧ c (p2 + 1) ≤ y ∧ y < c (p2 + 1 + 1)) → (q2 + 1 ≠ 0 ∧ c (q2 + 1) ≤ y ∧ y < c (q2 + 1 + 1)) → False := fun y k1 k2 => by
      rcases Nat.lt_trichotomy p2 q2 with g | g | g
      · have := hc (p2 + 1) (q2 + 1) (by omega) (by omega); omega
      · omega
      · have := hc (q2 + 1) (p2 + 1) (by omega) (by omega); omega
    have old : ∀ y k, y < n0 → (k + 1 ≠ 0 ∧ c (k + 1) ≤ y ∧ y < c (k + 1 + 1)) → False := fun y k k1 k2 => by have := h0 (k + 1) (by omega); omega
    have l1 : ldFree a b = true := ldFree_w a b fun p hp => by
      cases e : b.m.2.testBit p.1 with
      | false => rfl
      | true => exact (old _ _ (ha.2.2 p hp) (hb.1 _ e)).elim
    have l2 : ldFree b a = true := ldFree_w b a fun p hp => by
      cases e : a.m.2.testBit p.1 with
      | false => rfl
      | true => exact (old _ _ (hb.2.2 p hp) (ha.1 _ e)).elim
    have m1 : apartM a.m b.m = true := by
      unfold apartM
      rw [land_0 a.m.2 (Nat.lor b.m.1 b.m.2) (fun y k1 k2 => by
        rw [testBit_lor, Bool.or_eq_true] at k2
        have j1 := ha.1 y k1
        rcases k2 with k2 | k2
        · rcases hb.2.1 y k2 with k2 | k2
          · exact old _ _ k2 j1
          · exact dis y j1 k2
        · exact dis y j1 (hb.1 y k2)), land_0 a.m.1 b.m.2 (fun y k1 k2 => by
        have j2 := hb.1 y k2
        rcases ha.2.1 y k1 with k1 | k1
        · exact old _ _ k1 j2
        · exact dis y k1 j2)]
      rfl
    unfold apartK
    rw [m1, l1, l2]
    rfl
  · subst h h'
    exact apartO_n hc h0 ha hb h''
  · subst h h'
    exact apartK_symm (apartO_n hc h0 hb ha h'')
theorem apartJs {n0 : Nat} (c : Nat → Nat) (ks : List (Nat × Nat)) {ms : List Mk} (hc : ∀ i j, 0 < i → i < j → c (i + 1) ≤ c j) (h0 : ∀ i, 0 < i → n0 ≤ c i) (h : allJ n0 c ms ks) : ∀ (un : List (Nat × Nat)), un.all (okJ ks) = true → apartAll ms un = true
  | [], _ => rfl
  | p :: un, hu => by
    rw [List.all_cons, Bool.and_eq_true] at hu
    have ih := apartJs c ks hc h0 h un hu.2
    have h1 := hu.1
    unfold okJ at h1
    cases e1 : nth ks p.1 with
    | none => rw [e1] at h1; cases h1
    | some i =>
      cases e2 : nth ks p.2 with
      | none => rw [e1, e2] at h1; cases h1
      | some j =>
        rw [e1, e2] at h1
        obtain ⟨a, a1, a2⟩ := allJ_nth _ _ h e1
        obtain ⟨b, b1, b2⟩ := allJ_nth _ _ h e2
        have hp : apartP ms p = true := by
          unfold apartP
          rw [a1, b1]
          exact apartJ_ok hc h0 a2 b2 h1
        show (bif apartP ms p then apartAll ms un else false) = true
        rw [hp]; exact ih
end Go.Abs
