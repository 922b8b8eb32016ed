import Derived.Test.YtdnedangfnincaaAbsO
namespace Go.Abs
set_option linter.unusedVariables false
set_option linter.unusedSimpArgs false

/-! a region's run in the order of the machine -/
structure Canon (rec : Rec) (n : Nat) (A : Nat → AOper) (F : Nat → Frm) (S : Nat → St) (M : Nat → Nat × Nat) (L : Nat → Option (Nat × Nat)) : Prop where
  step : ∀ k, k < n → (wanted (F k) (A k).guard = some true ∧ ∃ v s1, (A k).op rec (F k) (S k) = some (v, s1) ∧ F (k + 1) = putT (F k) (A k).dst v ∧ S (k + 1) = ⟨s1.heap, s1.next, 0, 0⟩ ∧ M k = (s1.rd, s1.wr)) ∨
    (wanted (F k) (A k).guard = some false ∧ F (k + 1) = putT (F k) (A k).dst undef ∧ S (k + 1) = S k ∧ M k = (0, 0)) ∨
    (wanted (F k) (A k).guard = some true ∧ ∃ arg p c v, (A k).ld = some arg ∧ ev (F k) arg = .pointer (some p) ∧ (S k).get p.block = some c ∧ (c[p.off]? = some v ∧ isMapB c = false) ∧ F (k + 1) = putT (F k) (A k).dst v ∧ S (k + 1) = S k ∧ M k = (0, 0) ∧ L k = some (p.block, p.off))
def noOper : AOper := ⟨none, oBad, none, none⟩
theorem runReg_cons (rec : Rec) (o : AOper) (l : List AOper) (fs : Frm) (s : St) : runReg rec (o :: l) fs s = reg1 rec o (runReg rec l) fs s := rfl
theorem consM_some {m : Mk} {r : OutM} {ms : List Mk} {q : Frm × St} (h : consM m r = some (ms, q)) : ∃ ms', r = some (ms', q) ∧ ms = m :: ms' := by
  unfold consM at h
  obtain ⟨a, b, h1, h2⟩ := opt2_k h
  cases h2
  exact ⟨a, h1, rfl⟩
def mkM (ms : List Mk) (k : Nat) : Nat × Nat := ((ms[k]?).map (·.m)).getD (0, 0)
def mkL (ms : List Mk) (k : Nat) : Option (Nat × Nat) := (ms[k]?).bind (·.ld)
theorem oLoad1_some {arg : Arg} {rec : Rec} {fs : Frm} {s s1 : St} {v : Value} (h : oLoad1 arg rec fs s = some (v, s1)) : ∃ p c, ev fs arg = .pointer (some p) ∧ s.get p.block = some c ∧ (c[p.off]? = some v ∧ isMapB c = false) ∧ s1 = s.seen p.block := by
  unfold oLoad1 at h
  split at h
  · rename_i p hb
    obtain ⟨c, hc, h⟩ := opt_k h
    obtain ⟨r, hr, h⟩ := opt_k h
    cases h
    exact ⟨p, c, hb, St.getC_get hc, ⟨by rw [nth_eq] at hr; exact hr, (St.getC_some hc).2⟩, rfl⟩
  · cases h
theorem canon_of (rec : Rec) : ∀ (al : List AOper) (fs fs' : Frm) (s s' : St) (ms : List Mk), (∀ ao ∈ al, ∀ x, ao.ld = some x → ao.op = oLoad1 x) → runReg rec al fs s = some (ms, fs', s') →
    ∃ F S, F 0 = fs ∧ S 0 = ⟨s.heap, s.next, 0, 0⟩ ∧ Canon rec al.length (fun k => (al[k]?).getD noOper) F S (mkM ms) (mkL ms) ∧ F al.length = fs' ∧ (S al.length).heap = s'.heap ∧ (S al.length).next = s'.next ∧ ms.length = al.length ∧
      (∀ x, s.rd.testBit x = true → s'.rd.testBit x = true) ∧ (∀ x, s.wr.testBit x = true → s'.wr.testBit x = true) ∧
      (∀ k, k < al.length → ∀ x, ((mkM ms k).1.testBit x = true → s'.rd.testBit x = true) ∧ ((mkM ms k).2.testBit x = true → s'.wr.testBit x = true)) ∧
      (∀ k, k < al.length → ∀ x o, mkL ms k = some (x, o) → s'.rd.testBit x = true) ∧
      ∀ k, k < al.length → ∃ mk, ms[k]? = some mk ∧ (∀ x, mk.a.get x = (S k).get x) ∧ (∀ x, mk.b.get x = (S (k + 1)).get x)
  | [], fs, fs', s, s', ms, _, h => by
    cases h
    exact ⟨fun _ => fs, fun _ => ⟨s.heap, s.next, 0, 0⟩, rfl, rfl, ⟨fun k hk => absurd hk (Nat.not_lt_zero _)⟩, rfl, rfl, rfl, rfl, fun _ => id, fun _ => id, fun k hk => absurd hk (Nat.not_lt_zero _), fun k hk => absurd hk (Nat.not_lt_zero _), fun k hk => absurd hk (Nat.not_lt_zero _)⟩
  | o :: al, fs, fs', s, s', ms, hal, h => by
    rw [runReg_cons] at h
    unfold reg1 at h
    obtain ⟨b, hb, h⟩ := opt_k h
    have hal' : ∀ ao ∈ al, ∀ x, ao.ld = some x → ao.op = oLoad1 x := fun ao hao => hal ao (List.mem_cons_of_mem _ hao)
    cases b with
    | false =>
      obtain ⟨ms', hk, rfl⟩ := consM_some h
      obtain ⟨F, S, f0, s0, cn, fn, sh, sn, ml, mr, mw, mm, mo, mk⟩ := canon_of rec al _ _ _ _ _ hal' hk
      refine ⟨fun k => match k with | 0 => fs | k + 1 => F k, fun k => match k with | 0 => ⟨s.heap, s.next, 0, 0⟩ | k + 1 => S k, rfl, rfl, ⟨fun k hk => ?_⟩, fn, sh, sn, by simp [ml], mr, mw, fun k hk x => ?_, fun k hk x q hq => ?_, fun k hk => ?_⟩
      · cases k with
        | zero => right; left; exact ⟨by simpa using hb, by simpa using f0, by simpa using s0, rfl⟩
        | succ k => exact cn.step k (by simpa using hk)
      · cases k with
        | zero => simp [mkM]
        | succ k => simpa [mkM] using mm k (by simpa using hk) x
      · cases k with
        | zero => simp [mkL] at hq
        | succ k => exact mo k (by simpa using hk) x q (by simpa [mkL] using hq)
      · cases k with
        | zero => exact ⟨_, rfl, fun x => rfl, fun x => by simp only [s0]; rfl⟩
        | succ k => simpa using mk k (by simpa using hk)
    | true =>
      obtain ⟨v, s1, hop, h⟩ := opt2_k h
      obtain ⟨ms', hk, rfl⟩ := consM_some h
      obtain ⟨F, S, f0, s0, cn, fn, sh, sn, ml, mr, mw, mm, mo, mk⟩ := canon_of rec al _ _ _ _ _ hal' hk
      refine ⟨fun k => match k with | 0 => fs | k + 1 => F k, fun k => match k with | 0 => ⟨s.heap, s.next, 0, 0⟩ | k + 1 => S k, rfl, rfl, ⟨fun k hk => ?_⟩, fn, sh, sn, by simp [ml], fun x hx => mr x (by simp only [testBit_lor, hx, Bool.true_or]), fun x hx => mw x (by simp only [testBit_lor, hx, Bool.true_or]), fun k hk x => ?_, fun k hk x q hq => ?_, fun k hk => ?_⟩
      · cases k with
        | zero =>
          cases hld : o.ld with
          | none => left; exact ⟨by simpa using hb, v, s1, by simpa using hop, by simpa using f0, by simpa using s0, by simp [mkM, mkOf, hld]⟩
          | some arg =>
            right; right
            rw [hal o List.mem_cons_self arg hld] at hop
            obtain ⟨p, c, h1, h2, h3, h4⟩ := oLoad1_some hop
            refine ⟨by simpa using hb, arg, p, c, v, by simpa using hld, by simpa using h1, by simpa using h2, h3, by simpa using f0, ?_, by simp [mkM, mkOf, hld], by simp [mkL, mkOf, hld, ldPlace, h1]⟩
            have e1 : s1.heap = s.heap := by rw [h4]; unfold St.seen; rw [force_eq]
            have e2 : s1.next = s.next := by rw [h4, St.seen_next]
            show S 0 = _
            rw [s0, e1, e2]
        | succ k => exact cn.step k (by simpa using hk)
      · cases k with
        | zero =>
          cases hld : o.ld with
          | none => exact ⟨fun hx => mr x (by simp only [testBit_lor]; simp [mkM, mkOf, hld] at hx; simp [hx]), fun hx => mw x (by simp only [testBit_lor]; simp [mkM, mkOf, hld] at hx; simp [hx])⟩
          | some arg => simp [mkM, mkOf, hld]
        | succ k => simpa [mkM] using mm k (by simpa using hk) x
      · cases k with
        | zero =>
          cases hld : o.ld with
          | none => simp [mkL, mkOf, hld] at hq
          | some arg =>
            rw [hal o List.mem_cons_self arg hld] at hop
            obtain ⟨p, c, h1, h2, h3, h4⟩ := oLoad1_some hop
            have : x = p.block := by simp [mkL, mkOf, hld, ldPlace, h1] at hq; exact hq.1.symm
            refine mr x ?_
            simp only [testBit_lor]
            rw [h4, St.seen_rd, testBit_lor, testBit_bit]
            simp [this]
        | succ k => exact mo k (by simpa using hk) x q (by simpa [mkL] using hq)
      · cases k with
        | zero =>
          refine ⟨_, rfl, fun x => ?_, fun x => ?_⟩
          · cases hld : o.ld <;> rfl
          · simp only [s0]; cases hld : o.ld <;> rfl
        | succ k => simpa using mk k (by simpa using hk)

/-- what the run says of the machine's state -/
structure AFacts (n : Nat) (S : Nat → St) (M : Nat → Nat × Nat) : Prop where
  sok : ∀ k, k ≤ n → SOk (S k)
  next : ∀ k, k < n → (S k).next ≤ (S (k + 1)).next
  same : ∀ k, k < n → ∀ x, (M k).2.testBit x = false → (S (k + 1)).get x = (S k).get x
  live : ∀ k, k < n → ∀ x, x < (S k).next → ((S (k + 1)).get x).isSome = true → ((S k).get x).isSome = true
  new : ∀ k, k < n → ∀ x, (S k).next ≤ x → x < (S (k + 1)).next → (M k).2.testBit x = true
section
variable {P : Program} {gl : Nat → Bool}
/-- one step's, of an operation that ran -/
theorem step_facts {s s1 : St} (hso : SOk s) (h : AStep s s1) : SOk (⟨s1.heap, s1.next, 0, 0⟩ : St) ∧ ∀ x, s1.wr.testBit x = false → s1.get x = s.get x := by
  have h1 := hso.step h
  refine ⟨⟨h1.top, h1.dead⟩, fun x hx => ?_⟩
  by_cases a : x < s.next
  · exact h.same hso.top x a hx
  · by_cases b : x < s1.next
    · rw [h.new x (by omega) b] at hx; cases hx
    · rw [hso.dead x (by omega), h1.dead x (by omega)]
theorem facts_of {rec : Rec} (hrec : RecOk P gl rec) {n N : Nat} {ops : Array Oper} {O : Nat → Oper} {A : Nat → AOper} {F : Nat → Frm} {S : Nat → St} {M : Nat → Nat × Nat} {L : Nat → Option (Nat × Nat)} (h : Canon rec n A F S M L) (h0 : SOk (S 0)) (hok : ∀ k, k < n → OperOk P gl N ops (O k) (A k)) : AFacts n S M := by
  have key : ∀ k, k < n → SOk (S k) → (∃ s1, AStep (S k) s1 ∧ S (k + 1) = ⟨s1.heap, s1.next, 0, 0⟩ ∧ M k = (s1.rd, s1.wr)) ∨ (S (k + 1) = S k ∧ M k = (0, 0)) := by
    intro k hk hso
    rcases h.step k hk with ⟨_, v, s1, hop, _, hs, hm⟩ | ⟨_, _, hs, hm⟩ | ⟨_, _, _, _, _, _, _, _, _, _, hs, hm, _⟩
    · rcases (hok k hk).op with ⟨hopk, _⟩ | hbad
      · exact .inl ⟨s1, (hopk rec hrec _ _ _ _ hop hso).1, hs, hm⟩
      · rw [hbad] at hop; cases hop
    · exact .inr ⟨hs, hm⟩
    · exact .inr ⟨hs, hm⟩
  have sok : ∀ k, k ≤ n → SOk (S k) := by
    intro k
    induction k with
    | zero => exact fun _ => h0
    | succ k ih =>
      intro hk
      have hso := ih (by omega)
      rcases key k (by omega) hso with ⟨s1, hst, hs, _⟩ | ⟨hs, _⟩
      · rw [hs]; exact (step_facts hso hst).1
      · rw [hs]; exact hso
  refine ⟨sok, fun k hk => ?_, fun k hk x hx => ?_, fun k hk x hx hl => ?_, fun k hk x h1 h2 => ?_⟩
  · rcases key k hk (sok k (by omega)) with ⟨s1, hst, hs, _⟩ | ⟨hs, _⟩
    · rw [hs]; exact hst.next
    · rw [hs]; exact Nat.le_refl _
  · rcases key k hk (sok k (by omega)) with ⟨s1, hst, hs, hm⟩ | ⟨hs, _⟩
    · rw [hs]; rw [hm] at hx
      exact (step_facts (sok k (by omega)) hst).2 x hx
    · rw [hs]
  · rcases key k hk (sok k (by omega)) with ⟨s1, hst, hs, hm⟩ | ⟨hs, _⟩
    · rw [hs] at hl
      exact hst.live (sok k (by omega)).top x hx hl
    · rw [hs] at hl; exact hl
  · rcases key k hk (sok k (by omega)) with ⟨s1, hst, hs, hm⟩ | ⟨hs, _⟩
    · rw [hs] at h2; rw [hm]
      exact hst.new x h1 h2
    · rw [hs] at h2; omega
theorem AFacts.mono {n : Nat} {S : Nat → St} {M : Nat → Nat × Nat} (h : AFacts n S M) : ∀ {j k : Nat}, j ≤ k → k ≤ n → (S j).next ≤ (S k).next := by
  intro j k hjk hk
  induction k with
  | zero => have : j = 0 := by omega
            subst this; exact Nat.le_refl _
  | succ k ih =>
    by_cases e : j = k + 1
    · subst e; exact Nat.le_refl _
    · exact Nat.le_trans (ih (by omega) (by omega)) (h.next k (by omega))
/-- each new block is some operation's -/
theorem AFacts.find {n : Nat} {S : Nat → St} {M : Nat → Nat × Nat} (h : AFacts n S M) : ∀ {j : Nat}, j ≤ n → ∀ x, (S 0).next ≤ x → x < (S j).next → ∃ k, k < j ∧ (S k).next ≤ x ∧ x < (S (k + 1)).next := by
  intro j
  induction j with
  | zero => intro _ x h1 h2; omega
  | succ j ih =>
    intro hj x h1 h2
    by_cases hx : x < (S j).next
    · obtain ⟨k, hk, h3⟩ := ih (by omega) x h1 hx
      exact ⟨k, by omega, h3⟩
    · exact ⟨j, by omega, by omega, h2⟩

/-! what is known behind some of the operations -/
noncomputable def hv (S : Nat → St) (M : Nat → Nat × Nat) (done : Nat → Bool) (x : Nat) : Nat → Option Blk
  | 0 => (S 0).get x
  | j + 1 => if done j = true ∧ (M j).2.testBit x = true then (S (j + 1)).get x else hv S M done x j
noncomputable def fv (F : Nat → Frm) (O : Nat → Oper) (done : Nat → Bool) (t : Nat) : Nat → Option Value
  | 0 => (F 0).get (path t)
  | j + 1 => if done j = true ∧ (O j).dst = some t then (F (j + 1)).get (path t) else fv F O done t j
section
variable {n : Nat} {S : Nat → St} {M : Nat → Nat × Nat} {F : Nat → Frm} {O : Nat → Oper} {done : Nat → Bool}
theorem hv_prefix (h : AFacts n S M) (x : Nat) : ∀ j, j ≤ n → (∀ k, k < j → (M k).2.testBit x = true → done k = true) → hv S M done x j = (S j).get x
  | 0, _, _ => rfl
  | j + 1, hj, hd => by
    unfold hv
    split
    · rfl
    · rename_i hno
      rw [hv_prefix h x j (by omega) (fun k hk => hd k (by omega))]
      cases hb : (M j).2.testBit x with
      | true => exact absurd ⟨hd j (by omega) hb, hb⟩ hno
      | false => exact (h.same j (by omega) x hb).symm
theorem hv_suffix (x i : Nat) : ∀ j, i ≤ j → (∀ k, i ≤ k → k < j → done k = true → (M k).2.testBit x = false) → hv S M done x j = hv S M done x i
  | 0, hi, _ => by have : i = 0 := by omega
                   subst this; rfl
  | j + 1, hi, hd => by
    by_cases e : i = j + 1
    · subst e; rfl
    · rw [hv, if_neg]
      · exact hv_suffix x i j (by omega) (fun k h1 h2 => hd k h1 (by omega))
      · rintro ⟨h1, h2⟩
        rw [hd j (by omega) (by omega) h1] at h2; cases h2
theorem hv_other (x i : Nat) (hb : (M i).2.testBit x = false) : ∀ j, hv S M (fun k => done k || k == i) x j = hv S M done x j
  | 0 => rfl
  | j + 1 => by
    unfold hv
    rw [hv_other x i hb j]
    by_cases e : j = i
    · subst e; simp [hb]
    · simp [e]
theorem fv_prefix (hs : ∀ k, k < n → ∀ t, t < 4000 → (O k).dst ≠ some t → (F (k + 1)).get (path t) = (F k).get (path t)) (t : Nat) (ht : t < 4000) : ∀ j, j ≤ n → (∀ k, k < j → (O k).dst = some t → done k = true) → fv F O done t j = (F j).get (path t)
  | 0, _, _ => rfl
  | j + 1, hj, hd => by
    unfold fv
    split
    · rfl
    · rename_i hno
      rw [fv_prefix hs t ht j (by omega) (fun k hk => hd k (by omega))]
      by_cases hb : (O j).dst = some t
      · exact absurd ⟨hd j (by omega) hb, hb⟩ hno
      · exact (hs j (by omega) t ht hb).symm
theorem fv_suffix (t i : Nat) : ∀ j, i ≤ j → (∀ k, i ≤ k → k < j → done k = true → (O k).dst ≠ some t) → fv F O done t j = fv F O done t i
  | 0, hi, _ => by have : i = 0 := by omega
                   subst this; rfl
  | j + 1, hi, hd => by
    by_cases e : i = j + 1
    · subst e; rfl
    · rw [fv, if_neg]
      · exact fv_suffix t i j (by omega) (fun k h1 h2 => hd k h1 (by omega))
      · rintro ⟨h1, h2⟩
        exact hd j (by omega) (by omega) h1 h2
theorem fv_other (t i : Nat) (hb : (O i).dst ≠ some t) : ∀ j, fv F O (fun k => done k || k == i) t j = fv F O done t j
  | 0 => rfl
  | j + 1 => by
    unfold fv
    rw [fv_other t i hb j]
    by_cases e : j = i
    · subst e; simp [hb]
    · simp [e]
end

/-- what the edges say: which pairs are in order; the others don't meet -/
structure Edges (n : Nat) (ops : Array Oper) (O : Nat → Oper) (M : Nat → Nat × Nat) (B : Nat → Nat) : Prop where
  mem : ∀ i j, i < j → j < n → (B j).testBit i = true ∨ ((O i).apart ops (O j) = true ∧ ∀ x, ¬ ((M i).2.testBit x = true ∧ ((M j).1.testBit x = true ∨ (M j).2.testBit x = true)) ∧ ¬ ((M i).1.testBit x = true ∧ (M j).2.testBit x = true))
/-- an operation whose turn may come: it has not run, all that stand before it have; and so has all that stands before one that has run -/
structure Turn (n : Nat) (B : Nat → Nat) (done : Nat → Bool) (i : Nat) : Prop where
  lt : i < n
  not : done i = false
  pre : ∀ k, k < n → (B i).testBit k = true → done k = true
  closed : ∀ j, j < n → done j = true → ∀ k, k < n → (B j).testBit k = true → done k = true
section
variable {n : Nat} {ops : Array Oper} {S : Nat → St} {M : Nat → Nat × Nat} {F : Nat → Frm} {O : Nat → Oper} {B : Nat → Nat} {done : Nat → Bool} {i : Nat}
theorem Turn.after (h : Turn n B done i) (k : Nat) (hk : k < n) (hd : done k = true) (ho : (B k).testBit i = true) : False := by
  have := h.closed k hk hd i h.lt ho
  rw [h.not] at this; cases this
theorem Turn.hv_at (he : Edges n ops O M B) (hf : AFacts n S M) (h : Turn n B done i) (x : Nat) (hx : (M i).1.testBit x = true ∨ (M i).2.testBit x = true) : hv S M done x n = (S i).get x := by
  rw [hv_suffix (done := done) x i n (Nat.le_of_lt h.lt) (fun k h1 h2 hd => ?_)]
  · refine hv_prefix hf x i (Nat.le_of_lt h.lt) (fun k hk hb => ?_)
    rcases he.mem k i hk h.lt with ho | ⟨_, ha⟩
    · exact h.pre k (Nat.lt_trans hk h.lt) ho
    · exact ((ha x).1 ⟨hb, hx⟩).elim
  · cases hb : (M k).2.testBit x with
    | false => rfl
    | true =>
      exfalso
      have hik : i ≠ k := by intro e; subst e; rw [h.not] at hd; cases hd
      rcases he.mem i k (by omega) h2 with ho | ⟨_, ha⟩
      · exact h.after k h2 hd ho
      · rcases hx with hx | hx
        · exact (ha x).2 ⟨hx, hb⟩
        · exact (ha x).1 ⟨hx, .inr hb⟩
theorem Turn.hv_own (he : Edges n ops O M B) (h : Turn n B done i) (x : Nat) (hx : (M i).2.testBit x = true) : hv S M (fun k => done k || k == i) x n = (S (i + 1)).get x := by
  rw [hv_suffix x (i + 1) n h.lt (fun k h1 h2 hd => ?_)]
  · rw [hv, if_pos ⟨by simp, hx⟩]
  · cases hb : (M k).2.testBit x with
    | false => rfl
    | true =>
      exfalso
      have hd' : done k = true := by simpa [show ¬ k = i by omega] using hd
      rcases he.mem i k (by omega) h2 with ho | ⟨_, ha⟩
      · exact h.after k h2 hd' ho
      · exact (ha x).1 ⟨hx, .inr hb⟩
theorem Turn.fv_at (he : Edges n ops O M B) (hs : ∀ k, k < n → ∀ t, t < 4000 → (O k).dst ≠ some t → (F (k + 1)).get (path t) = (F k).get (path t)) (h : Turn n B done i) (t : Nat) (ht : t < 4000) (hx : t ∈ (O i).looksAt ops) : fv F O done t n = (F i).get (path t) := by
  rw [fv_suffix (done := done) t i n (Nat.le_of_lt h.lt) (fun k h1 h2 hd hb => ?_)]
  · refine fv_prefix hs t ht i (Nat.le_of_lt h.lt) (fun k hk hb => ?_)
    rcases he.mem k i hk h.lt with ho | ⟨ha, _⟩
    · exact h.pre k (Nat.lt_trans hk h.lt) ho
    · exact ((Oper.apart_spec ha).1 t hb hx).elim
  · have hik : i ≠ k := by intro e; subst e; rw [h.not] at hd; cases hd
    rcases he.mem i k (by omega) h2 with ho | ⟨ha, _⟩
    · exact h.after k h2 hd ho
    · exact (Oper.apart_spec ha).2.2 t hb hx
theorem Turn.fv_own (he : Edges n ops O M B) (h : Turn n B done i) (t : Nat) (hx : (O i).dst = some t) : fv F O (fun k => done k || k == i) t n = (F (i + 1)).get (path t) := by
  rw [fv_suffix t (i + 1) n h.lt (fun k h1 h2 hd hb => ?_)]
  · rw [fv, if_pos ⟨by simp, hx⟩]
  · have hd' : done k = true := by simpa [show ¬ k = i by omega] using hd
    rcases he.mem i k (by omega) h2 with ho | ⟨ha, _⟩
    · exact h.after k h2 hd' ho
    · exact (Oper.apart_spec ha).2.1 t hx hb
def cellH (b : Option Blk) (o : Nat) : Option Value := b.bind fun c => c[o]?
/-- what the others' writes must leave as it is -/
def LdFree (n : Nat) (S : Nat → St) (M : Nat → Nat × Nat) (L : Nat → Option (Nat × Nat)) (B : Nat → Nat) : Prop :=
  ∀ i, i < n → ∀ x o, L i = some (x, o) → ∀ j, j < n → j ≠ i → (M j).2.testBit x = true →
    (j < i ∧ (B i).testBit j = true) ∨ (i < j ∧ (B j).testBit i = true) ∨ (cellH ((S j).get x) o = cellH ((S i).get x) o ∧ cellH ((S (j + 1)).get x) o = cellH ((S i).get x) o ∧ (cellH ((S j).get x) o).isSome = true)
theorem Turn.ld_at {L : Nat → Option (Nat × Nat)} (hf : AFacts n S M) (h : Turn n B done i) (hMi : M i = (0, 0)) {x o : Nat} (hL : L i = some (x, o)) (hl : LdFree n S M L B) :
    ∀ j, j ≤ n → (j ≤ i → cellH (hv S M done x j) o = cellH ((S j).get x) o ∨ cellH (hv S M done x j) o = cellH ((S i).get x) o) ∧ (i < j → cellH (hv S M done x j) o = cellH ((S i).get x) o) := by
  intro j
  induction j with
  | zero => exact fun _ => ⟨fun _ => .inl rfl, fun h => absurd h (Nat.not_lt_zero _)⟩
  | succ j ih =>
    intro hj
    obtain ⟨ih1, ih2⟩ := ih (by omega)
    by_cases hw : done j = true ∧ (M j).2.testBit x = true
    · rw [hv, if_pos hw]
      refine ⟨fun _ => .inl rfl, fun hij => ?_⟩
      have hne : j ≠ i := by intro e; subst e; rw [h.not] at hw; cases hw.1
      rcases hl i h.lt x o hL j (by omega) hne hw.2 with h1 | h1 | h1
      · omega
      · exact (h.after j (by omega) hw.1 h1.2).elim
      · exact h1.2.1
    · rw [hv, if_neg hw]
      cases hb : (M j).2.testBit x with
      | false =>
        have hs := hf.same j (by omega) x hb
        refine ⟨fun hij => by rw [hs]; exact ih1 (by omega), fun hij => ?_⟩
        by_cases e : i < j
        · exact ih2 e
        · have : j = i := by omega
          subst this
          rcases ih1 (Nat.le_refl _) with h1 | h1 <;> exact h1
      | true =>
        have hd : done j = false := by cases hd : done j with | false => rfl | true => exact absurd ⟨hd, hb⟩ hw
        have hne : j ≠ i := by intro e; subst e; rw [hMi] at hb; simp at hb
        refine ⟨fun hij => ?_, fun hij => ih2 (by omega)⟩
        rcases hl i h.lt x o hL j (by omega) hne hb with h1 | h1 | h1
        · rw [h.pre j (by omega) h1.2] at hd; cases hd
        · omega
        · right
          rcases ih1 (by omega) with h2 | h2
          · rw [h2]; exact h1.1
          · exact h2
end
end
end Go.Abs
