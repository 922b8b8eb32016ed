import Derived.Test.YtdnedangfnincaaAbsQ
namespace Go.Abs
set_option linter.unusedVariables false
set_option linter.unusedSimpArgs false

theorem AStep.lift {s s1 : St} (h : AStep (⟨s.heap, s.next, 0, 0⟩ : St) s1) : AStep s ⟨s1.heap, s1.next, Nat.lor s.rd s1.rd, Nat.lor s.wr s1.wr⟩ where
  next := h.next
  top := h.top
  rd := fun x hx => by simp only [testBit_lor, hx, Bool.true_or]
  wr := fun x hx => by simp only [testBit_lor, hx, Bool.true_or]
  same := fun t x hx hw => by
    simp only [testBit_lor, Bool.or_eq_false_iff] at hw
    exact h.same t x hx hw.2
  live := fun t x hx hl => h.live t x hx hl
  new := fun x h1 h2 => by simp only [testBit_lor, h.new x h1 h2, Bool.or_true]
  out := fun h0 t => h.out h0 t
  low := fun t x hx hn hw => by
    simp only [testBit_lor, Bool.or_eq_true] at hw
    rcases hw with hw | hw
    · exact .inl hw
    · rcases h.low t x hx hn hw with h1 | h1
      · simp at h1
      · exact .inr h1

theorem mapM_get {α β : Type} {f : α → Option β} : ∀ {l : List α} {m : List β}, l.mapM f = some m → l.length = m.length ∧ ∀ (k : Nat) (x : α), l[k]? = some x → ∃ y, f x = some y ∧ m[k]? = some y
  | [], m, h => by
    simp only [List.mapM_nil, Option.pure_def, Option.some.injEq] at h
    subst h
    exact ⟨rfl, fun k x hx => by simp at hx⟩
  | a :: l, m, h => by
    simp only [List.mapM_cons, Option.bind_eq_bind, Option.pure_def] at h
    obtain ⟨y, hy, h⟩ := Option.bind_eq_some_iff.1 h
    obtain ⟨ys, hys, h⟩ := Option.bind_eq_some_iff.1 h
    cases h
    obtain ⟨hl, hg⟩ := mapM_get hys
    refine ⟨by simp [hl], fun k x hx => ?_⟩
    cases k with
    | zero => simp at hx; subst hx; exact ⟨y, hy, by simp⟩
    | succ k => simpa using hg k x (by simpa using hx)

/-! what the check of the order says -/
structure OrdF (ops : Array Oper) (ord : List Nat) : Prop where
  len : ord.length = ops.size
  all : ∀ i, i < ops.size → i ∈ ord
  pos : ∀ (k i : Nat), ord[k]? = some i → posOf ord i = k
  lt : ∀ (k i : Nat), ord[k]? = some i → i < ops.size
  edge : ∀ (k i : Nat) (o : Oper) (e : Edge), ord[k]? = some i → ops[i]? = some o → e ∈ o.after.toList → Region.binds .any e = true → posOf ord e.on < k ∧ e.on ∈ ord
theorem ordOk_spec {ops : Array Oper} {ord : List Nat} (h : ordOk ops ord = true) : OrdF ops ord := by
  unfold ordOk at h
  simp only [Bool.and_eq_true, beq_iff_eq, List.all_eq_true, List.mem_range, List.contains_eq_mem, decide_eq_true_eq] at h
  obtain ⟨⟨h1, h2⟩, h3⟩ := h
  have key : ∀ (k i : Nat), ord[k]? = some i → ((posOf ord i = k ∧ i < ops.size) ∧ (Option.map (fun o => o.after.toList.all fun e => !Region.binds .any e || (decide (posOf ord e.on < k) && decide (e.on ∈ ord))) ops[i]?).getD false = true) := by
    intro k i hk
    have hm : (i, k) ∈ ord.zipIdx := by
      rw [List.mem_zipIdx_iff_getElem?]; exact hk
    have := h3 (i, k) hm
    simpa using this
  refine ⟨h1, h2, fun k i hk => (key k i hk).1.1, fun k i hk => (key k i hk).1.2, fun k i o e hk ho he hb => ?_⟩
  have := (key k i hk).2
  rw [ho] at this
  simp only [Option.map_some, Option.getD_some, List.all_eq_true] at this
  have := this e he
  simpa [hb] using this

/-! what stands before -/
theorem befores_pre (ops : Array Oper) (ord : List Nat) : ∀ (l acc : List Nat), acc <+: befores ops ord l acc
  | [], acc => List.prefix_rfl
  | i :: is, acc => (List.prefix_append acc _).trans (befores_pre ops ord is _)
theorem befores_get (ops : Array Oper) (ord : List Nat) : ∀ (l acc : List Nat) (k i : Nat), l[k]? = some i →
    (befores ops ord l acc)[acc.length + k]? = some (bef1 ops ord ((befores ops ord l acc).take (acc.length + k)) i)
  | [], acc, k, i, h => by simp at h
  | j :: is, acc, k, i, h => by
    show (befores ops ord is (acc ++ [bef1 ops ord acc j]))[acc.length + k]? = some (bef1 ops ord ((befores ops ord is (acc ++ [bef1 ops ord acc j])).take (acc.length + k)) i)
    cases k with
    | zero =>
      simp at h
      subst h
      obtain ⟨t, ht⟩ := befores_pre ops ord is (acc ++ [bef1 ops ord acc j])
      rw [← ht]
      simp
    | succ k =>
      have := befores_get ops ord is (acc ++ [bef1 ops ord acc j]) k i (by simpa using h)
      rw [List.length_append, List.length_singleton] at this
      rw [show acc.length + (k + 1) = acc.length + 1 + k by omega]
      exact this
theorem bef_foldl (ord acc : List Nat) (j : Nat) : ∀ (l : List Edge) (s : Nat),
    (l.foldl (fun s e => if Region.binds .any e then Nat.lor s (Nat.lor (bit (posOf ord e.on)) ((nth acc (posOf ord e.on)).getD 0)) else s) s).testBit j = true →
    s.testBit j = true ∨ ∃ e ∈ l, Region.binds .any e = true ∧ (posOf ord e.on = j ∨ ((nth acc (posOf ord e.on)).getD 0).testBit j = true)
  | [], s, h => .inl h
  | e :: l, s, h => by
    rw [List.foldl_cons] at h
    rcases bef_foldl ord acc j l _ h with h1 | ⟨e', he, hb, h1⟩
    · split at h1
      · rename_i hb
        simp only [testBit_lor, testBit_bit, Bool.or_eq_true, decide_eq_true_eq] at h1
        rcases h1 with h1 | h1
        · exact .inl h1
        · exact .inr ⟨e, List.mem_cons_self, hb, h1⟩
      · exact .inl h1
    · exact .inr ⟨e', List.mem_cons_of_mem _ he, hb, h1⟩

noncomputable def ordAt (ops : Array Oper) (ord : List Nat) (k : Nat) : Oper := ((ord[k]?).bind fun i => ops[i]?).getD default
noncomputable def bitsAt (ops : Array Oper) (ord : List Nat) (k : Nat) : Nat := ((befores ops ord ord [])[k]?).getD 0
noncomputable def doneOf (ord : List Nat) (sz : Nat) (listed : Array Bool) (k : Nat) : Bool := listed.getD ((ord[k]?).getD sz) false
section
variable {ops : Array Oper} {ord : List Nat}
theorem OrdF.get (h : OrdF ops ord) {k : Nat} (hk : k < ord.length) : ∃ i o, ord[k]? = some i ∧ ops[i]? = some o ∧ ordAt ops ord k = o := by
  have h1 : ord[k]? = some ord[k] := List.getElem?_eq_getElem hk
  have h2 := h.lt k _ h1
  refine ⟨ord[k], ops[ord[k]], h1, Array.getElem?_eq_getElem h2, ?_⟩
  simp [ordAt, h1, h2]
theorem OrdF.edge' (h : OrdF ops ord) {k : Nat} (hk : k < ord.length) {e : Edge} (he : e ∈ (ordAt ops ord k).after.toList) (hb : Region.binds .any e = true) :
    posOf ord e.on < k ∧ ord[posOf ord e.on]? = some e.on := by
  obtain ⟨i, o, h1, h2, h3⟩ := h.get hk
  rw [h3] at he
  obtain ⟨h4, h5⟩ := h.edge k i o e h1 h2 he hb
  refine ⟨h4, ?_⟩
  have : posOf ord e.on < ord.length := Nat.lt_trans h4 hk
  unfold posOf at this ⊢
  rw [List.getElem?_eq_getElem this, List.getElem_idxOf]
theorem OrdF.bits (h : OrdF ops ord) {k : Nat} (hk : k < ord.length) {j : Nat} (hj : (bitsAt ops ord k).testBit j = true) :
    ∃ e ∈ (ordAt ops ord k).after.toList, Region.binds .any e = true ∧ (posOf ord e.on = j ∨ (bitsAt ops ord (posOf ord e.on)).testBit j = true) := by
  obtain ⟨i, o, h1, h2, h3⟩ := h.get hk
  have hb := befores_get ops ord ord [] k i h1
  simp only [List.length_nil, Nat.zero_add] at hb
  unfold bitsAt at hj
  rw [hb, Option.getD_some] at hj
  unfold bef1 at hj
  rw [h2] at hj
  rcases bef_foldl ord _ j _ _ hj with h4 | ⟨e, he, hbe, h4⟩
  · simp at h4
  · rw [h3]
    refine ⟨e, he, hbe, h4.imp id fun h5 => ?_⟩
    have hlt := (h.edge k i o e h1 h2 he hbe).1
    rw [nth_eq, List.getElem?_take, if_pos hlt] at h5
    exact h5
theorem OrdF.closed (h : OrdF ops ord) {done : Nat → Bool} (hc : ∀ k, k < ord.length → done k = true → ∀ e ∈ (ordAt ops ord k).after.toList, Region.binds .any e = true → done (posOf ord e.on) = true) :
    ∀ k, k < ord.length → (∀ e ∈ (ordAt ops ord k).after.toList, Region.binds .any e = true → done (posOf ord e.on) = true) → ∀ j, (bitsAt ops ord k).testBit j = true → done j = true := by
  intro k
  induction k using Nat.strongRecOn with
  | ind k ih =>
    intro hk hd j hj
    obtain ⟨e, he, hb, h1⟩ := h.bits hk hj
    have hlt := (h.edge' hk he hb).1
    rcases h1 with h1 | h1
    · rw [← h1]; exact hd e he hb
    · exact ih _ hlt (by omega) (hc _ (by omega) (hd e he hb)) j h1
end

/-! the machine's marks -/
theorem apartAll_spec : ∀ {ms : List Mk} {l : List (Nat × Nat)}, apartAll ms l = true → ∀ p ∈ l, apartP ms p = true
  | ms, [], _, p, hp => by cases hp
  | ms, q :: l, h, p, hp => by
    have h' : (bif apartP ms q then apartAll ms l else false) = true := h
    cases hq : apartP ms q with
    | false => rw [hq] at h'; cases h'
    | true =>
      rw [hq] at h'
      rcases List.mem_cons.1 hp with rfl | hp
      · exact hq
      · exact apartAll_spec h' p hp
theorem land_zero {a b : Nat} (h : Nat.beq (Nat.land a b) 0 = true) (x : Nat) : ¬ (a.testBit x = true ∧ b.testBit x = true) := by
  rintro ⟨h1, h2⟩
  rw [beq_eq'] at h
  have h0 : a &&& b = 0 := of_decide_eq_true h
  have := Nat.testBit_and a b x
  rw [h0, h1, h2] at this
  simp at this
theorem eqV_eq {x y : Value} (h : eqV x y = true) : x = y := by
  unfold eqV at h
  split at h
  · split at h
    · rw [Bool.and_eq_true, eqK_eq, eqI_eq, decide_eq_true_eq, decide_eq_true_eq] at h
      rw [h.1, h.2]
    · cases h
  · split at h
    · rename_i a _ b
      cases a <;> cases b <;> first | rfl | cases h
    · cases h
  · split at h
    · rename_i a _ _ _ b _ _
      simp only [Bool.and_eq_true, beq_eq', decide_eq_true_eq] at h
      obtain ⟨⟨⟨⟨⟨h1, h2⟩, h3⟩, h4⟩, h5⟩, h6⟩ := h
      obtain ⟨b1, o1, s1⟩ := a
      obtain ⟨b2, o2, s2⟩ := b
      simp only [Option.isNone_iff_eq_none] at h3 h4
      simp only at h1 h2 h3 h4
      subst h1 h2 h3 h4 h5 h6
      rfl
    · cases h
  · split at h
    · simp only [Bool.and_eq_true, beq_eq', decide_eq_true_eq] at h
      rw [h.1, h.2]
    · cases h
  · split at h
    · rename_i a _ b
      simp only [Bool.and_eq_true, beq_eq', decide_eq_true_eq] at h
      obtain ⟨⟨⟨h1, h2⟩, h3⟩, h4⟩ := h
      obtain ⟨b1, o1, s1⟩ := a
      obtain ⟨b2, o2, s2⟩ := b
      simp only [Option.isNone_iff_eq_none] at h3 h4
      simp only at h1 h2 h3 h4
      subst h1 h2 h3 h4
      rfl
    · cases h
  · split at h
    · rfl
    · cases h
  · split at h
    · rename_i a _ b
      rw [eqBytes_eq, decide_eq_true_eq] at h
      have : a.data = b.data := Array.ext' h
      cases a; cases b; simp only at this; rw [this]
    · cases h
  · cases h
theorem hasBit_eq (m x : Nat) : hasBit m x = m.testBit x := by
  unfold hasBit
  rw [beq_eq']
  show decide ((m >>> x) % 2 = 1) = _
  have : m.testBit x = (m >>> x).testBit 0 := by rw [Nat.testBit_shiftRight]; simp
  rw [this, Nat.testBit_zero]
theorem cellS_eq (s : St) (x o : Nat) : cellS s x o = cellH (s.get x) o := by
  unfold cellS cellH
  cases s.get x with
  | none => rfl
  | some c => show nth c o = c[o]?; exact nth_eq c o
theorem ldFree_spec {l w : Mk} (h : ldFree l w = true) {x o : Nat} (hl : l.ld = some (x, o)) (hw : w.m.2.testBit x = true) :
    cellH (w.a.get x) o = cellH (l.a.get x) o ∧ cellH (w.b.get x) o = cellH (l.a.get x) o ∧ (cellH (w.a.get x) o).isSome = true := by
  unfold ldFree at h
  rw [hl] at h
  have h : (bif hasBit w.m.2 x then Option.rec false (fun v => Option.rec false (fun v1 => Option.rec false (fun v2 => eqV v v1 && eqV v v2) (cellS w.b x o)) (cellS w.a x o)) (cellS l.a x o) else true) = true := h
  rw [hasBit_eq, hw, cond_true] at h
  simp only [cellS_eq] at h
  cases h1 : cellH (l.a.get x) o with
  | none => rw [h1] at h; cases h
  | some v =>
    cases h2 : cellH (w.a.get x) o with
    | none => rw [h1, h2] at h; cases h
    | some v1 =>
      cases h3 : cellH (w.b.get x) o with
      | none => rw [h1, h2, h3] at h; cases h
      | some v2 =>
        rw [h1, h2, h3] at h
        have h : (eqV v v1 && eqV v v2) = true := h
        rw [Bool.and_eq_true] at h
        rw [← eqV_eq h.1, ← eqV_eq h.2]
        exact ⟨rfl, rfl, rfl⟩
theorem apartP_spec {ms : List Mk} {p : Nat × Nat} (h : apartP ms p = true) : (∀ x,
    ¬ ((mkM ms p.1).2.testBit x = true ∧ ((mkM ms p.2).1.testBit x = true ∨ (mkM ms p.2).2.testBit x = true)) ∧
    ¬ ((mkM ms p.1).1.testBit x = true ∧ (mkM ms p.2).2.testBit x = true)) ∧ ∃ a b, ms[p.1]? = some a ∧ ms[p.2]? = some b ∧ ldFree a b = true ∧ ldFree b a = true := by
  unfold apartP at h
  rw [nth_eq, nth_eq] at h
  cases h1 : ms[p.1]? with
  | none => rw [h1] at h; cases h
  | some a =>
    cases h2 : ms[p.2]? with
    | none => rw [h1, h2] at h; cases h
    | some b =>
      rw [h1, h2] at h
      have h : (bif apartM a.m b.m then bif ldFree a b then ldFree b a else false else false) = true := h
      cases hm : apartM a.m b.m with
      | false => rw [hm] at h; cases h
      | true =>
        cases hl : ldFree a b with
        | false => rw [hm, hl] at h; cases h
        | true =>
          rw [hm, hl] at h
          refine ⟨fun x => ?_, a, b, rfl, rfl, hl, h⟩
          have hm : (Nat.beq (Nat.land a.m.2 (Nat.lor b.m.1 b.m.2)) 0 && Nat.beq (Nat.land a.m.1 b.m.2) 0) = true := hm
          rw [Bool.and_eq_true] at hm
          unfold mkM
          rw [h1, h2]
          simp only [Option.map_some, Option.getD_some]
          refine ⟨fun hx => land_zero hm.1 x ⟨hx.1, ?_⟩, land_zero hm.2 x⟩
          simp only [testBit_lor, Bool.or_eq_true]; exact hx.2

section
variable {P : Program} {gl : Nat → Bool}
theorem runReg_step {rec : Rec} (hrec : RecOk P gl rec) {N : Nat} {ops : Array Oper} : ∀ (al : List AOper) (fs fs' : Frm) (s s' : St) (ms : List Mk), (∀ ao ∈ al, ∃ o, OperOk P gl N ops o ao) → SOk s →
    runReg rec al fs s = some (ms, fs', s') → AStep s s'
  | [], fs, fs', s, s', ms, _, _, h => by cases h; exact AStep.refl _
  | ao :: al, fs, fs', s, s', ms, hok, hso, h => by
    rw [runReg_cons] at h
    unfold reg1 at h
    obtain ⟨b, hb, h⟩ := opt_k h
    have hok' : ∀ ao ∈ al, ∃ o, OperOk P gl N ops o ao := fun x hx => hok x (List.mem_cons_of_mem _ hx)
    obtain ⟨o, hoo⟩ := hok ao List.mem_cons_self
    cases b with
    | false =>
      obtain ⟨ms', hk, rfl⟩ := consM_some h
      exact runReg_step hrec al _ _ _ _ _ hok' hso hk
    | true =>
      obtain ⟨v, s1, hop, h⟩ := opt2_k h
      obtain ⟨ms', hk, rfl⟩ := consM_some h
      rcases hoo.op with ⟨hopk, _⟩ | hbad
      · have hst := (hopk rec hrec _ _ _ _ hop ⟨hso.top, hso.dead⟩).1.lift
        exact hst.trans (runReg_step hrec al _ _ _ _ _ hok' (hso.step hst) hk)
      · rw [hbad] at hop; cases hop

variable {N n : Nat} {ops : Array Oper} {ord : List Nat} {S : Nat → St} {M : Nat → Nat × Nat} {L : Nat → Option (Nat × Nat)} {F : Nat → Frm} {A : Nat → AOper} {s' : St} {ρ0 : Ren} {Y : Nat → Prop} {w0 : World} {rec : Rec}

/-- the region, whatever order is drawn -/
theorem wpAny_run (ho : OrdF ops ord) (hn : n = ord.length) (hrec : RecOk P gl rec) (hc : Canon rec n A F S M L) (hlf : LdFree n S M L (bitsAt ops ord)) (hrl : ∀ k, k < n → ∀ x o, L k = some (x, o) → s'.rd.testBit x = true) (hf : AFacts n S M) (hok : ∀ k, k < n → OperOk P gl N ops (ordAt ops ord k) (A k)) (he : Edges n ops (ordAt ops ord) M (bitsAt ops ord))
    (hs : ∀ k, k < n → ∀ t, t < 4000 → (ordAt ops ord k).dst ≠ some t → (F (k + 1)).get (path t) = (F k).get (path t))
    (hm : ∀ k, k < n → ∀ x, ((M k).1.testBit x = true → s'.rd.testBit x = true) ∧ ((M k).2.testBit x = true → s'.wr.testBit x = true))
    (yok : ∀ x, Y x → x < (S 0).next) (foot : ∀ x, x < (S 0).next → (s'.rd.testBit x = true ∨ s'.wr.testBit x = true) → Y x) (wlow : ∀ x, x < 8 → s'.wr.testBit x = false) (groom : ∀ g, gl g = true → ρ0 g = some ⟨g, 0, 20⟩)
    (glob : ∀ g, gl g = true → g < (S 0).next ∧ ∃ r, ρ0 g = some ⟨g, 0, r⟩) {Q : Exit → Act → World → Prop}
    (hQ : ∀ done ρ w a, (∀ k, k < n → done k = true) → Inv N n S M F (ordAt ops ord) s' ρ0 Y w0 done ρ w a → Q .normal a w) :
    ∀ (fuel : Nat) (listed : Array Bool) (l : List Nat) (ρ : Ren) (w : World) (a : Act), listed.size = ops.size → l.length ≤ fuel → (∀ k, k < n → doneOf ord ops.size listed k = false → k ∈ l) →
      (∀ k, k < n → doneOf ord ops.size listed k = true → ∀ e ∈ (ordAt ops ord k).after.toList, Region.binds .any e = true → doneOf ord ops.size listed (posOf ord e.on) = true) →
      Inv N n S M F (ordAt ops ord) s' ρ0 Y w0 (doneOf ord ops.size listed) ρ w a → wpAny P .any ops Q fuel listed a w := by
  -- nothing is ready once all is done
  have ended : ∀ listed : Array Bool, listed.size = ops.size → (∀ k, k < n → doneOf ord ops.size listed k = true) → Region.ready .any ops listed = [] := by
    intro listed hsz hd
    cases hr : Region.ready .any ops listed with
    | nil => rfl
    | cons j rest =>
      exfalso
      have hj : j ∈ Region.ready .any ops listed := by rw [hr]; exact List.mem_cons_self
      obtain ⟨h1, o, h2, _⟩ := mem_ready.1 hj
      have hlt : j < ops.size := (Array.getElem?_eq_some_iff.1 h2).1
      obtain ⟨k, hk, hkj⟩ := List.getElem_of_mem (ho.all j hlt)
      have := hd k (by omega)
      unfold doneOf at this
      rw [List.getElem?_eq_getElem hk, hkj, Option.getD_some] at this
      rw [← hsz] at hlt
      simp only [Array.getD_eq_getD_getElem?, Array.getElem?_eq_getElem hlt, Option.getD_some] at this h1
      rw [this] at h1; cases h1
  -- and all is done once nothing is ready
  have stuck : ∀ listed : Array Bool, listed.size = ops.size → Region.ready .any ops listed = [] → ∀ k, k < n → doneOf ord ops.size listed k = true := by
    intro listed hsz hr k
    induction k using Nat.strongRecOn with
    | ind k ih =>
      intro hk
      cases hd : doneOf ord ops.size listed k with
      | true => rfl
      | false =>
        exfalso
        obtain ⟨i, o, h1, h2, h3⟩ := ho.get (show k < ord.length by omega)
        have hi : i ∈ Region.ready .any ops listed := by
          refine mem_ready.2 ⟨?_, o, h2, fun e hee hb => ?_⟩
          · unfold doneOf at hd
            rw [h1, Option.getD_some] at hd
            have hlt : i < listed.size := by rw [hsz]; exact ho.lt k i h1
            simpa [hlt] using hd
          · have hee' : e ∈ (ordAt ops ord k).after.toList := by rw [h3]; simpa using hee
            obtain ⟨h4, h5⟩ := ho.edge' (by omega) hee' hb
            have := ih _ h4 (by omega)
            unfold doneOf at this
            rwa [h5, Option.getD_some] at this
        rw [hr] at hi; cases hi
  intro fuel
  induction fuel with
  | zero =>
    intro listed l ρ w a hsz hl hun hcl iv
    have hall : ∀ k, k < n → doneOf ord ops.size listed k = true := fun k hk => by
      cases hd : doneOf ord ops.size listed k with
      | true => rfl
      | false =>
        have := hun k hk hd
        rw [List.eq_nil_of_length_eq_zero (by omega : l.length = 0)] at this
        cases this
    exact ⟨ended listed hsz hall, hQ _ ρ w a hall iv⟩
  | succ fuel ih =>
    intro listed l ρ w a hsz hl hun hcl iv
    refine ⟨fun hr => hQ _ ρ w a (stuck listed hsz hr) iv, fun i hi => ?_⟩
    obtain ⟨h1, o, h2, h3⟩ := mem_ready.1 hi
    have hlt : i < ops.size := (Array.getElem?_eq_some_iff.1 h2).1
    obtain ⟨k, hk, hki⟩ := List.getElem_of_mem (ho.all i hlt)
    have hoi : ord[k]? = some i := by rw [List.getElem?_eq_getElem hk, hki]
    have hkn : k < n := by omega
    have hnot : doneOf ord ops.size listed k = false := by
      unfold doneOf
      rw [hoi, Option.getD_some]
      rw [← hsz] at hlt
      simpa [hlt] using h1
    have hO : ordAt ops ord k = o := by simp [ordAt, hoi, h2]
    have hpre : ∀ e ∈ (ordAt ops ord k).after.toList, Region.binds .any e = true → doneOf ord ops.size listed (posOf ord e.on) = true := by
      intro e hee hb
      obtain ⟨_, h5⟩ := ho.edge' hk hee hb
      unfold doneOf
      rw [h5, Option.getD_some]
      exact h3 e (by rw [hO] at hee; simpa using hee) hb
    have hcl' : ∀ k, k < ord.length → doneOf ord ops.size listed k = true → ∀ e ∈ (ordAt ops ord k).after.toList, Region.binds .any e = true → doneOf ord ops.size listed (posOf ord e.on) = true := fun k hk => hcl k (by omega)
    have ht : Turn n (bitsAt ops ord) (doneOf ord ops.size listed) k :=
      ⟨hkn, hnot, fun j _ hj => ho.closed hcl' k hk hpre j hj, fun j hj hd q _ hq => ho.closed hcl' j (by omega) (hcl j hj hd) q hq⟩
    have hdone : (fun q => doneOf ord ops.size listed q || q == k) = doneOf ord ops.size (listed.setIfInBounds i true) := by
      funext q
      unfold doneOf
      by_cases hq : q = k
      · subst hq
        rw [hoi, Option.getD_some]
        simp [hsz, hlt]
      · have hne : i ≠ (ord[q]?).getD ops.size := by
          intro e
          cases hoq : ord[q]? with
          | none => rw [hoq, Option.getD_none] at e; omega
          | some j =>
            rw [hoq, Option.getD_some] at e
            subst e
            exact hq ((ho.pos q i hoq).symm.trans (ho.pos k i hoi))
        rw [getD_set_ne false hne]
        simp [hq]
    refine Inv.run hrec hc hlf hrl hf hok he hs hm yok foot wlow groom glob ht iv (by rw [hO]; exact h2) fun ρ' w' a' iv' => ?_
    rw [hdone] at iv'
    refine ih (listed.setIfInBounds i true) (l.erase k) ρ' w' a' (by simpa using hsz) ?_ (fun q hq hd => ?_) (fun q hq hd e hee hb => ?_) iv'
    · have := List.length_erase_of_mem (hun k hkn hnot)
      omega
    · rw [← hdone] at hd
      simp only [Bool.or_eq_false_iff, beq_eq_false_iff_ne] at hd
      exact (List.mem_erase_of_ne hd.2).2 (hun q hq hd.1)
    · rw [← hdone] at hd ⊢
      simp only [Bool.or_eq_true, beq_iff_eq] at hd ⊢
      left
      rcases hd with hd | rfl
      · exact hcl q hq hd e hee hb
      · exact hpre e hee hb
end
end Go.Abs
