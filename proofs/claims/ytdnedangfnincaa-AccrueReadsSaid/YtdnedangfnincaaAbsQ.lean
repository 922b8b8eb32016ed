import Derived.Test.YtdnedangfnincaaAbsP
namespace Go.Abs
set_option linter.unusedVariables false
set_option linter.unusedSimpArgs false

/-- the blocks of which something is known -/
def YD (Y : Nat → Prop) (n : Nat) (S : Nat → St) (done : Nat → Bool) (x : Nat) : Prop := Y x ∨ ∃ k, k < n ∧ done k = true ∧ (S k).next ≤ x ∧ x < (S (k + 1)).next

structure Inv (N n : Nat) (S : Nat → St) (M : Nat → Nat × Nat) (F : Nat → Frm) (O : Nat → Oper) (s' : St) (ρ0 : Ren) (Y : Nat → Prop) (w0 : World) (done : Nat → Bool) (ρ : Ren) (w : World) (a : Act) : Prop where
  oth : ∀ x, (x < (S 0).next ∨ (S n).next ≤ x) → ρ x = ρ0 x
  notyet : ∀ k, k < n → done k = false → ∀ x, (S k).next ≤ x → x < (S (k + 1)).next → ρ x = none
  dom : ∀ k, k < n → done k = true → ∀ x, (S k).next ≤ x → x < (S (k + 1)).next → (ρ x).isSome = true
  blk : ∀ x b, YD Y n S done x → hv S M done x n = some b → ∃ l, ρ x = some l ∧ BRel (8 ≤ x) ρ b l w
  inj : ∀ x y l m, YD Y n S done x → YD Y n S done y → (hv S M done x n).isSome = true → (hv S M done y n).isSome = true → ρ x = some l → ρ y = some m → l.blk = m.blk → (8 ≤ x ∨ 8 ≤ y) → x = y
  fsize : N ≤ a.tmps.size
  frel : ∀ t, t < 4000 → VRel ρ (orU (fv F O done t n)) (a.tmps.getD t undef)
  fdef : a.defers = []
  size : w0.heap.size ≤ w.heap.size
  old : ∀ k, k < w0.heap.size → (∀ x l, Y x → ρ0 x = some l → l.blk = k → s'.wr.testBit x = true → ((S 0).get x).isSome = true → False) → w.heap[k]? = w0.heap[k]?
  fresh : ∀ k, k < n → done k = true → ∀ x l, (S k).next ≤ x → x < (S (k + 1)).next → ρ x = some l → w0.heap.size ≤ l.blk ∨ ∃ y m, Y y ∧ s'.wr.testBit y = true ∧ ((S 0).get y).isSome = true ∧ ρ0 y = some m ∧ m.blk = l.blk
  bound : ∀ k, k < n → done k = true → ∀ x l, (S k).next ≤ x → x < (S (k + 1)).next → ρ x = some l → l.blk < w.heap.size
  os : w.os = w0.os
  tape : w.tape = w0.tape
  output : w.output = w0.output

section
variable {P : Program} {gl : Nat → Bool} {N n : Nat} {ops : Array Oper} {S : Nat → St} {M : Nat → Nat × Nat} {L : Nat → Option (Nat × Nat)} {F : Nat → Frm} {O : Nat → Oper} {A : Nat → AOper} {B : Nat → Nat} {s' : St} {ρ0 ρ : Ren} {Y : Nat → Prop} {w0 w : World} {done : Nat → Bool} {a : Act} {i : Nat} {rec : Rec}

theorem YD.lt (hf : AFacts n S M) (yok : ∀ x, Y x → x < (S 0).next) {x : Nat} (h : YD Y n S done x) : x < (S n).next := by
  rcases h with h | ⟨k, hk, _, _, h2⟩
  · exact Nat.lt_of_lt_of_le (yok x h) (hf.mono (Nat.zero_le _) (Nat.le_refl _))
  · exact Nat.lt_of_lt_of_le h2 (hf.mono hk (Nat.le_refl _))
/-- where a number lies -/
theorem AFacts.uniq (hf : AFacts n S M) {j k x : Nat} (hj : j < n) (hk : k < n) (h1 : (S j).next ≤ x) (h2 : x < (S (j + 1)).next) (h3 : (S k).next ≤ x) (h4 : x < (S (k + 1)).next) : j = k := by
  rcases Nat.lt_trichotomy j k with h | h | h
  · have := hf.mono (show j + 1 ≤ k by omega) (by omega); omega
  · exact h
  · have := hf.mono (show k + 1 ≤ j by omega) (by omega); omega

theorem BRel.cell {T : Prop} {ρ : Ren} {b c : Blk} {l : Loc} {w : World} (h : BRel T ρ b l w) {o : Nat} {v : Value} (hv : b[o]? = some v) (hcv : c[o]? = some v) (hcm : isMapB c = false) : ∃ v', w.cell? ⟨l.blk, l.base + o, none⟩ = some v' ∧ VRel ρ v v' := by
  have hm : isMapB b = false := by
    rcases h with ⟨cells, e, fr, hc, hs, hbl, hf, hr⟩ | ⟨_, _, _, _, _, rfl, _⟩
    · cases b with
      | nil => rfl
      | cons x b => cases x <;> first | rfl | exact absurd (hr.2 _ List.mem_cons_self) (by simp [one])
    · cases o with
      | zero =>
        cases c with
        | nil => cases hcv
        | cons x c =>
          simp [mapB] at hv hcv
          subst hcv; subst hv
          cases hcm
      | succ o => simp [mapB] at hv
  obtain ⟨cells, e, fr, hc, hs, hbl, hf, hr⟩ := h.cells hm
  obtain ⟨y, hy, hrel⟩ := hr.1.get hv
  refine ⟨y, ?_, hrel⟩
  rw [cell_of_row w l.blk _ cells e fr hc]
  rw [List.getElem?_take] at hy
  split at hy
  · simpa using hy
  · cases hy
/-- the operands of an operation whose turn has come -/
theorem Inv.args (he : Edges n ops O M B)
    (hs : ∀ k, k < n → ∀ t, t < 4000 → (O k).dst ≠ some t → (F (k + 1)).get (path t) = (F k).get (path t))
    (glob : ∀ g, gl g = true → g < (S 0).next ∧ ∃ r, ρ0 g = some ⟨g, 0, r⟩)
    (ht : Turn n B done i) (iv : Inv N n S M F O s' ρ0 Y w0 done ρ w a) (hargs : ∀ x ∈ (O i).op.operands.toList, okArg gl x = true) : ArgsOk ρ (F i) a (O i).op.operands.toList := by
  intro x hx
  have hxo := hargs x hx
  cases x with
  | tmp t =>
    show VRel ρ (ev (F i) (bif Nat.blt t 4000 then .t (path t) else .v UV)) _
    rw [blt_eq']
    by_cases ht4 : t < 4000
    · simp only [ht4, decide_true, cond_true]
      have hlook : t ∈ (O i).looksAt ops := by
        unfold Oper.looksAt
        exact List.mem_append.2 (.inl (List.mem_filterMap.2 ⟨.tmp t, hx, rfl⟩))
      have := iv.frel t ht4
      rw [ht.fv_at he hs t ht4 hlook] at this
      exact this
    · simp only [ht4, decide_false, cond_false]; exact .any _
  | const v => exact gnd_rel hxo
  | global g =>
    obtain ⟨h1, r, h2⟩ := glob g hxo
    exact VRel.ptr (l := ⟨g, 0, r⟩) (by rw [iv.oth g (.inl h1)]; exact h2)
  | func f => exact .func _ rfl rfl (fun i x y hx _ => by simp at hx) (fun i x y hx _ => by simp at hx)
/-- an operation that leaves all but its slot as it is -/
theorem Inv.still (he : Edges n ops O M B) (hok : ∀ k, k < n → OperOk P gl N ops (O k) (A k)) (ht : Turn n B done i) (iv : Inv N n S M F O s' ρ0 Y w0 done ρ w a) (hM : M i = (0, 0)) (hS : S (i + 1) = S i)
    {v v' : Value} (hF : F (i + 1) = putT (F i) (A i).dst v) (hvr : VRel ρ v v') : Inv N n S M F O s' ρ0 Y w0 (fun k => done k || k == i) ρ w (a.put (O i).dst v') := by
  have hin := ht.lt
  have hoo := hok i hin
  have hM2 : ∀ x, (M i).2.testBit x = false := fun x => by rw [hM]; simp
  have hvo : ∀ x, hv S M (fun k => done k || k == i) x n = hv S M done x n := fun x => hv_other x i (hM2 x) n
  have hnone : ∀ x, ¬ ((S i).next ≤ x ∧ x < (S (i + 1)).next) := fun x h => by rw [hS] at h; omega
  have ydo : ∀ x, YD Y n S (fun k => done k || k == i) x → YD Y n S done x := by
    intro x hx
    rcases hx with hx | ⟨k, hk, hd, h1, h2⟩
    · exact .inl hx
    · refine .inr ⟨k, hk, ?_, h1, h2⟩
      by_cases e : k = i
      · subst e; exact absurd ⟨h1, h2⟩ (hnone x)
      · simpa [e] using hd
  have dn : ∀ k x, (S k).next ≤ x → x < (S (k + 1)).next → (done k || k == i) = true → done k = true := fun k x h1 h2 hd => by
    by_cases e : k = i
    · subst e; exact absurd ⟨h1, h2⟩ (hnone x)
    · simpa [e] using hd
  refine ⟨iv.oth, fun k hk hd x h1 h2 => iv.notyet k hk (by cases hq : done k with | false => rfl | true => simp [hq] at hd) x h1 h2, fun k hk hd x h1 h2 => iv.dom k hk (dn k x h1 h2 hd) x h1 h2, fun x b hx hb => iv.blk x b (ydo x hx) (by rw [← hvo]; exact hb),
    fun x y l m hx hy hsx hsy => iv.inj x y l m (ydo x hx) (ydo y hy) (by rw [← hvo]; exact hsx) (by rw [← hvo]; exact hsy), by cases hdd : (O i).dst <;> simpa [Act.put] using iv.fsize, fun t ht4 => ?_, ?_, iv.size, iv.old,
    fun k hk hd x l h1 h2 hl => iv.fresh k hk (dn k x h1 h2 hd) x l h1 h2 hl, fun k hk hd x l h1 h2 hl => iv.bound k hk (dn k x h1 h2 hd) x l h1 h2 hl, iv.os, iv.tape, iv.output⟩
  · by_cases hd : (O i).dst = some t
    · rw [ht.fv_own he t hd, hF]
      have hslot := slot_lt (hoo.slot t hd)
      have hlt : t < a.tmps.size := Nat.lt_of_lt_of_le hslot.1 iv.fsize
      rw [hoo.dst, hd]
      show VRel ρ (orU ((PT.put v (path t) (F i)).get (path t))) _
      rw [PT.get_put_same]
      simpa [Act.put, hlt, orU] using hvr
    · rw [fv_other t i hd n]
      have := iv.frel t ht4
      cases hdd : (O i).dst with
      | none => simpa [Act.put] using this
      | some d =>
        have hne : d ≠ t := fun e => hd (by rw [hdd, e])
        simpa [Act.put, Array.getElem?_setIfInBounds_ne hne] using this
  · have := iv.fdef
    cases hdd : (O i).dst <;> simpa [Act.put] using this
set_option maxHeartbeats 1000000 in
/-- one operation whose turn has come -/
theorem Inv.run (hrec : RecOk P gl rec) (hc : Canon rec n A F S M L) (hlf : LdFree n S M L B) (hrl : ∀ k, k < n → ∀ x o, L k = some (x, o) → s'.rd.testBit x = true) (hf : AFacts n S M) (hok : ∀ k, k < n → OperOk P gl N ops (O k) (A k)) (he : Edges n ops O M B)
    (hs : ∀ k, k < n → ∀ t, t < 4000 → (O k).dst ≠ some t → (F (k + 1)).get (path t) = (F k).get (path t))
    (hm : ∀ k, k < n → ∀ x, ((M k).1.testBit x = true → s'.rd.testBit x = true) ∧ ((M k).2.testBit x = true → s'.wr.testBit x = true))
    (yok : ∀ x, Y x → x < (S 0).next) (foot : ∀ x, x < (S 0).next → (s'.rd.testBit x = true ∨ s'.wr.testBit x = true) → Y x) (wlow : ∀ x, x < 8 → s'.wr.testBit x = false) (groom : ∀ g, gl g = true → ρ0 g = some ⟨g, 0, 20⟩)
    (glob : ∀ g, gl g = true → g < (S 0).next ∧ ∃ r, ρ0 g = some ⟨g, 0, r⟩)
    (ht : Turn n B done i) (iv : Inv N n S M F O s' ρ0 Y w0 done ρ w a) {j : Nat} {K : Act → World → Prop} {Q : Exit → Act → World → Prop} (hi : ops[j]? = some (O i))
    (hK : ∀ ρ' w' a', Inv N n S M F O s' ρ0 Y w0 (fun k => done k || k == i) ρ' w' a' → K a' w') : wpOp P ops Q j K a w := by
  have hin := ht.lt
  have hoo := hok i hin
  have hi0 : (S 0).next ≤ (S i).next := hf.mono (Nat.zero_le _) (Nat.le_of_lt hin)
  have hile : (S (i + 1)).next ≤ (S n).next := hf.mono hin (Nat.le_refl _)
  unfold wpOp
  rw [hi]
  simp only
  -- the guard
  have hgv : ∀ b, wanted (F i) (A i).guard = some b → Region.wanted (O i) (yielded ops a.tmps) = b := fun b hb => gval_rel hoo iv.fsize (fun j' wv d h1 h2 => by
    rcases hoo.guard with ⟨hn, _⟩ | ⟨j2, w2, d2, e1, e2, e3, _⟩
    · rw [hn] at h1; cases h1
    · rw [h1] at e1; cases e1
      rw [h2] at e2; cases e2
      have hd4 := (slot_lt e3).2
      have hlook : d ∈ (O i).looksAt ops := by
        unfold Oper.looksAt
        refine List.mem_append.2 (.inr ?_)
        rw [h1]; simp only; rw [h2]; simp
      rw [← ht.fv_at he hs d hd4 hlook]
      exact iv.frel d hd4) hb
  rcases hc.step i hin with ⟨hw, v, s1, hop, hF, hS, hM⟩ | ⟨hw, hF, hS, hM⟩ | ⟨hw, arg, p, c, v, hld, hev, hc1, hc2, hF, hS, hM, hL⟩
  · rw [hgv true hw]
    simp only [if_true]
    refine .inl ?_
    rcases hoo.op with ⟨hopk, hargs⟩ | hbad
    · obtain ⟨hst, hwp⟩ := hopk rec hrec _ _ _ _ hop (hf.sok i (Nat.le_of_lt hin))
      have hrd : ∀ x, s1.rd.testBit x = true ↔ (M i).1.testBit x = true := fun x => by rw [hM]
      have hwr : ∀ x, s1.wr.testBit x = true ↔ (M i).2.testBit x = true := fun x => by rw [hM]
      have hnx : s1.next = (S (i + 1)).next := by rw [hS]
      have hget : ∀ x, s1.get x = (S (i + 1)).get x := fun x => by rw [hS]; rfl
      -- the operation's own context
      have ywd : ∀ x, x < (S i).next → (s1.rd.testBit x = true ∨ s1.wr.testBit x = true) → ((S i).get x).isSome = true → YD Y n S done x := by
        intro x hx hb hl
        by_cases h0 : x < (S 0).next
        · refine .inl (foot x h0 ?_)
          rcases hb with hb | hb
          · exact .inl ((hm i hin x).1 ((hrd x).1 hb))
          · exact .inr ((hm i hin x).2 ((hwr x).1 hb))
        · obtain ⟨k, hk, h1, h2⟩ := hf.find (Nat.le_of_lt hin) x (by omega) hx
          refine .inr ⟨k, by omega, ?_, h1, h2⟩
          have hkw := hf.new k (by omega) x h1 h2
          rcases he.mem k i hk hin with ho | ⟨_, ha⟩
          · exact ht.pre k (by omega) ho
          · refine ((ha x).1 ⟨hkw, ?_⟩).elim
            exact hb.imp (hrd x).1 (hwr x).1
      have hvi : ∀ x, (s1.rd.testBit x = true ∨ s1.wr.testBit x = true) → hv S M done x n = (S i).get x := fun x hb => ht.hv_at he hf x (hb.imp (hrd x).1 (hwr x).1)
      have cx : Ctx gl ρ (fun x => x < (S i).next ∧ (s1.rd.testBit x = true ∨ s1.wr.testBit x = true)) (S i) s1 w := by
        refine ⟨(hf.sok i (Nat.le_of_lt hin)).top, fun x hx => hx.1, fun x hx hb => ⟨hx, hb⟩, fun x h1 h2 => iv.notyet i hin ht.not x h1 (by rw [← hnx]; exact h2), fun g hg => ?_, (hf.sok i (Nat.le_of_lt hin)).dead, ⟨fun x b hx hb => ?_, fun x y l m hx hy hsx hsy hl hm' hlm => ?_⟩, fun x hx => ?_, fun g hg => by rw [iv.oth g (.inl (glob g hg).1)]; exact groom g hg⟩
        · obtain ⟨h1, r, h2⟩ := glob g hg
          exact ⟨Nat.lt_of_lt_of_le h1 hi0, r, by rw [iv.oth g (.inl h1)]; exact h2⟩
        · exact iv.blk x b (ywd x hx.1 hx.2 (by rw [hb]; rfl)) (by rw [hvi x hx.2]; exact hb)
        · exact iv.inj x y l m (ywd x hx.1 hx.2 hsx) (ywd y hy.1 hy.2 hsy) (by rw [hvi x hx.2]; exact hsx) (by rw [hvi y hy.2]; exact hsy) hl hm' hlm
        · cases h : s1.wr.testBit x with
          | false => rfl
          | true => rw [← wlow x hx]; exact ((hm i hin x).2 ((hwr x).1 h)).symm
      -- its operands
      have har : ArgsOk ρ (F i) a (O i).op.operands.toList := Inv.args he hs glob ht iv hargs
      refine hwp ρ _ w a cx har K Q fun ρ' v' w' hvr good => hK ρ' w' _ ?_
      have hup : ∀ x l, ρ x = some l → ρ' x = some l := cx.up good
      have hext : ∀ x, (x < (S i).next ∨ (S (i + 1)).next ≤ x) → ρ' x = ρ x := fun x hx => good.ext x (by rw [hnx]; exact hx)
      -- the blocks, anew
      have hvw : ∀ x, s1.wr.testBit x = true → hv S M (fun k => done k || k == i) x n = s1.get x := fun x hb => by rw [ht.hv_own he x ((hwr x).1 hb), hget]
      have hvo : ∀ x, s1.wr.testBit x = false → hv S M (fun k => done k || k == i) x n = hv S M done x n := fun x hb => by
        refine hv_other x i ?_ n
        cases hq : (M i).2.testBit x with
        | false => rfl
        | true => rw [(hwr x).2 hq] at hb; cases hb
      have ydo : ∀ x, YD Y n S (fun k => done k || k == i) x → (YD Y n S done x ∧ ¬ ((S i).next ≤ x ∧ x < (S (i + 1)).next)) ∨ ((S i).next ≤ x ∧ x < (S (i + 1)).next) := by
        intro x hx
        by_cases hn : (S i).next ≤ x ∧ x < (S (i + 1)).next
        · exact .inr hn
        · refine .inl ⟨?_, hn⟩
          rcases hx with hx | ⟨k, hk, hd, h1, h2⟩
          · exact .inl hx
          · refine .inr ⟨k, hk, ?_, h1, h2⟩
            by_cases e : k = i
            · subst e; exact absurd ⟨h1, h2⟩ hn
            · simpa [e] using hd
      -- a block that the operation did not come near
      have far : ∀ x b l, YD Y n S done x → ¬ (s1.rd.testBit x = true ∨ s1.wr.testBit x = true) → hv S M done x n = some b → ρ x = some l → w'.heap[l.blk]? = w.heap[l.blk]? ∧ l.blk < w.heap.size := by
        intro x b l hx hno hb hl
        obtain ⟨m, hm', hbr⟩ := iv.blk x b hx hb
        rw [hl] at hm'; cases hm'
        obtain ⟨o, hcell⟩ := hbr.heap
        have hlt : l.blk < w.heap.size := (Array.getElem?_eq_some_iff.1 hcell).1
        refine ⟨good.old l.blk hlt fun y m hy hym hye hyw hys => ?_, hlt⟩
        have := iv.inj y x m l (ywd y hy.1 hy.2 hys) hx (by rw [hvi y hy.2]; exact hys) (by rw [hb]; rfl) hym hl hye (.inl (cx.high hyw))
        subst this
        exact hno hy.2
      have fplive : ∀ x, ¬ ((S i).next ≤ x ∧ x < (S (i + 1)).next) → (s1.rd.testBit x = true ∨ s1.wr.testBit x = true) → YD Y n S done x → (hv S M (fun k => done k || k == i) x n).isSome = true →
          x < (S i).next ∧ (s1.get x).isSome = true ∧ hv S M (fun k => done k || k == i) x n = s1.get x ∧ (hv S M done x n).isSome = true := by
        intro x hn hb hy hl
        have hgx : hv S M (fun k => done k || k == i) x n = s1.get x := by
          cases hq : s1.wr.testBit x with
          | true => exact hvw x hq
          | false =>
            rw [hvo x hq, hvi x hb, hget]
            exact (hf.same i hin x (by cases hz : (M i).2.testBit x with | false => rfl | true => rw [(hwr x).2 hz] at hq; cases hq)).symm
        rw [hgx] at hl
        have hlt : x < (S i).next := by
          rcases Nat.lt_or_ge x (S i).next with h | h
          · exact h
          · have h2 : (S (i + 1)).next ≤ x := by omega
            rw [hget, (hf.sok (i + 1) hin).dead x h2] at hl; cases hl
        exact ⟨hlt, hl, hgx, by rw [hvi x hb]; exact hf.live i hin x hlt (by rw [← hget]; exact hl)⟩
      refine ⟨fun x hx => ?_, fun k hk hd x h1 h2 => ?_, fun k hk hd x h1 h2 => ?_, fun x b hx hb => ?_, fun x y l m hx hy hsx hsy hl hm' hlm => ?_, by cases hdd : (O i).dst <;> simpa [Act.put] using iv.fsize, fun t ht4 => ?_, ?_, Nat.le_trans iv.size good.size, fun k hk hno => ?_, fun k hk hd x l h1 h2 hl => ?_, fun k hk hd x l h1 h2 hl => ?_, good.os.trans iv.os, good.tape.trans iv.tape, good.output.trans iv.output⟩
      · rw [hext x (by omega), iv.oth x hx]
      · have hki : ¬ k = i := by intro e; subst e; simp at hd
        have hd' : done k = false := by simpa [hki] using hd
        rw [hext x ?_]
        · exact iv.notyet k hk hd' x h1 h2
        · rcases Nat.lt_or_ge x (S i).next with h | h
          · exact .inl h
          · rcases Nat.lt_or_ge x (S (i + 1)).next with h3 | h3
            · exact absurd (hf.uniq hk hin h1 h2 h h3) hki
            · exact .inr h3
      · by_cases e : k = i
        · subst e; exact good.dom x h1 (by rw [hnx]; exact h2)
        · have hd' : done k = true := by simpa [e] using hd
          obtain ⟨l, hl⟩ := Option.isSome_iff_exists.1 (iv.dom k hk hd' x h1 h2)
          rw [hup x l hl]; rfl
      · rcases ydo x hx with ⟨hy, hn⟩ | hn
        · by_cases hb2 : s1.rd.testBit x = true ∨ s1.wr.testBit x = true
          · obtain ⟨hlt, hl, hgx, _⟩ := fplive x hn hb2 hy (by rw [hb]; rfl)
            exact good.rel.blk x b (.inl ⟨hlt, hb2⟩) (by rw [← hgx]; exact hb)
          · rw [hvo x (by cases hq : s1.wr.testBit x with | false => rfl | true => exact absurd (.inr hq) hb2)] at hb
            obtain ⟨l, hl, hbr⟩ := iv.blk x b hy hb
            exact ⟨l, hup x l hl, hbr.mono hup (far x b l hy hb2 hb hl).1⟩
        · have hwx : s1.wr.testBit x = true := (hwr x).2 (hf.new i hin x hn.1 hn.2)
          rw [hvw x hwx] at hb
          exact good.rel.blk x b (.inr ⟨hn.1, by rw [hnx]; exact hn.2⟩) hb
      · -- no two of them in one place
        have near : ∀ x, YD Y n S (fun k => done k || k == i) x → (hv S M (fun k => done k || k == i) x n).isSome = true → (((S i).next ≤ x ∧ x < (S (i + 1)).next) ∨ (s1.rd.testBit x = true ∨ s1.wr.testBit x = true)) →
            ((x < (S i).next ∧ (s1.rd.testBit x = true ∨ s1.wr.testBit x = true)) ∨ ((S i).next ≤ x ∧ x < s1.next)) ∧ (s1.get x).isSome = true := by
          intro x hx hl hor
          rcases ydo x hx with ⟨hy, hn⟩ | hn
          · have hb2 := hor.resolve_left hn
            obtain ⟨h1, h2, _, _⟩ := fplive x hn hb2 hy hl
            exact ⟨.inl ⟨h1, hb2⟩, h2⟩
          · have hwx : s1.wr.testBit x = true := (hwr x).2 (hf.new i hin x hn.1 hn.2)
            rw [hvw x hwx] at hl
            exact ⟨.inr ⟨hn.1, by rw [hnx]; exact hn.2⟩, hl⟩
        -- one near, the other far
        have mixed : ∀ x y l m, YD Y n S (fun k => done k || k == i) x → (hv S M (fun k => done k || k == i) x n).isSome = true → YD Y n S done y → (hv S M done y n).isSome = true → (((S i).next ≤ x ∧ x < (S (i + 1)).next) ∨ (s1.rd.testBit x = true ∨ s1.wr.testBit x = true)) →
            ¬ (s1.rd.testBit y = true ∨ s1.wr.testBit y = true) → ρ' x = some l → ρ y = some m → l.blk = m.blk → (8 ≤ x ∨ 8 ≤ y) → x = y := by
          intro x y l m hx hsx hy hsy hnx' hny hl hm2 hlm2 hor
          obtain ⟨c, hc2⟩ := Option.isSome_iff_exists.1 hsy
          have hmlt := (far y c m hy hny hc2 hm2).2
          rcases ydo x hx with ⟨hy2, hn⟩ | hn
          · have hb2 := hnx'.resolve_left hn
            obtain ⟨h1, _, _, h4⟩ := fplive x hn hb2 hy2 hsx
            rw [hext x (.inl h1)] at hl
            exact iv.inj x y l m hy2 hy h4 hsy hl hm2 hlm2 hor
          · rcases good.fresh x l hn.1 (by rw [hnx]; exact hn.2) hl with h | ⟨z, q, hz, hzw, hzs, hzq, hqe⟩
            · omega
            · have := iv.inj z y q m (ywd z hz.1 hz.2 hzs) hy (by rw [hvi z hz.2]; exact hzs) hsy hzq hm2 (hqe.trans hlm2) (.inl (cx.high hzw))
              subst this
              exact absurd hz.2 hny
        by_cases nx : ((S i).next ≤ x ∧ x < (S (i + 1)).next) ∨ (s1.rd.testBit x = true ∨ s1.wr.testBit x = true)
        · by_cases ny : ((S i).next ≤ y ∧ y < (S (i + 1)).next) ∨ (s1.rd.testBit y = true ∨ s1.wr.testBit y = true)
          · obtain ⟨a1, a2⟩ := near x hx hsx nx
            obtain ⟨b1, b2⟩ := near y hy hsy ny
            exact good.rel.inj x y l m a1 b1 a2 b2 hl hm' hlm
          · have hny : ¬ (s1.rd.testBit y = true ∨ s1.wr.testBit y = true) := fun h => ny (.inr h)
            have hyn := (ydo y hy).resolve_right (fun h => ny (.inl h))
            rw [hvo y (by cases hq : s1.wr.testBit y with | false => rfl | true => exact absurd (.inr hq) hny)] at hsy
            have hm2 : ρ y = some m := by rw [← hext y (by omega)]; exact hm'
            exact mixed x y l m hx hsx hyn.1 hsy nx hny hl hm2 hlm
        · have hnx2 : ¬ (s1.rd.testBit x = true ∨ s1.wr.testBit x = true) := fun h => nx (.inr h)
          have hxn := (ydo x hx).resolve_right (fun h => nx (.inl h))
          have hl2 : ρ x = some l := by rw [← hext x (by omega)]; exact hl
          have hsx2 := hsx
          rw [hvo x (by cases hq : s1.wr.testBit x with | false => rfl | true => exact absurd (.inr hq) hnx2)] at hsx2
          by_cases ny : ((S i).next ≤ y ∧ y < (S (i + 1)).next) ∨ (s1.rd.testBit y = true ∨ s1.wr.testBit y = true)
          · exact fun hor => (mixed y x m l hy hsy hxn.1 hsx2 ny hnx2 hm' hl2 hlm.symm hor.symm).symm
          · have hny : ¬ (s1.rd.testBit y = true ∨ s1.wr.testBit y = true) := fun h => ny (.inr h)
            have hyn := (ydo y hy).resolve_right (fun h => ny (.inl h))
            rw [hvo y (by cases hq : s1.wr.testBit y with | false => rfl | true => exact absurd (.inr hq) hny)] at hsy
            have hm2 : ρ y = some m := by rw [← hext y (by omega)]; exact hm'
            exact iv.inj x y l m hxn.1 hyn.1 hsx2 hsy hl2 hm2 hlm
      · -- the slots
        by_cases hd : (O i).dst = some t
        · rw [ht.fv_own he t hd, hF]
          have hslot := slot_lt (hoo.slot t hd)
          have hlt : t < a.tmps.size := Nat.lt_of_lt_of_le hslot.1 iv.fsize
          rw [hoo.dst, hd]
          show VRel ρ' (orU ((PT.put v (path t) (F i)).get (path t))) _
          rw [PT.get_put_same]
          simpa [Act.put, hlt, orU] using hvr
        · rw [fv_other t i hd n]
          have := (iv.frel t ht4).mono hup
          cases hdd : (O i).dst with
          | none => simpa [Act.put] using this
          | some d =>
            have hne : d ≠ t := fun e => hd (by rw [hdd, e])
            simpa [Act.put, Array.getElem?_setIfInBounds_ne hne] using this
      · have := iv.fdef
        cases hdd : (O i).dst <;> simpa [Act.put] using this
      · rw [good.old k (Nat.lt_of_lt_of_le hk iv.size) ?_, iv.old k hk hno]
        intro y m hy hym hye hyw hys
        have hswr : s'.wr.testBit y = true := (hm i hin y).2 ((hwr y).1 hyw)
        by_cases h0 : y < (S 0).next
        · have hYy : Y y := foot y h0 (.inr hswr)
          rw [iv.oth y (.inl h0)] at hym
          refine hno y m hYy hym hye hswr ?_
          -- it lived ahead of the region
          have : ∀ q, q ≤ n → ((S q).get y).isSome = true → ((S 0).get y).isSome = true := by
            intro q
            induction q with
            | zero => exact fun _ h => h
            | succ q ih => exact fun hq h => ih (by omega) (hf.live q (by omega) y (Nat.lt_of_lt_of_le h0 (hf.mono (Nat.zero_le _) (by omega))) h)
          exact this i (Nat.le_of_lt hin) hys
        · obtain ⟨q, hq, h1, h2⟩ := hf.find (Nat.le_of_lt hin) y (by omega) hy.1
          have hdq : done q = true := by
            rcases ywd y hy.1 hy.2 hys with h3 | ⟨q2, hq2, hd2, h3, h4⟩
            · exact absurd (yok y h3) h0
            · rw [hf.uniq (show q < n by omega) hq2 h1 h2 h3 h4]; exact hd2
          rcases iv.fresh q (by omega) hdq y m h1 h2 hym with h3 | ⟨z, p, hz, hzw, hzs, hzp, hpe⟩
          · omega
          · exact hno z p hz hzp (hpe.trans hye) hzw hzs
      · by_cases e : k = i
        · subst e
          rcases good.fresh x l h1 (by rw [hnx]; exact h2) hl with h3 | ⟨y, m, hy, hyw, hys, hym, hme⟩
          · exact .inl (Nat.le_trans iv.size h3)
          · have hswr : s'.wr.testBit y = true := (hm k hin y).2 ((hwr y).1 hyw)
            by_cases h0 : y < (S 0).next
            · refine .inr ⟨y, m, foot y h0 (.inr hswr), hswr, ?_, by rw [← iv.oth y (.inl h0)]; exact hym, hme⟩
              have : ∀ q, q ≤ n → ((S q).get y).isSome = true → ((S 0).get y).isSome = true := by
                intro q
                induction q with
                | zero => exact fun _ h => h
                | succ q ih => exact fun hq h => ih (by omega) (hf.live q (by omega) y (Nat.lt_of_lt_of_le h0 (hf.mono (Nat.zero_le _) (by omega))) h)
              exact this k (Nat.le_of_lt hin) hys
            · obtain ⟨q, hq, h5, h6⟩ := hf.find (Nat.le_of_lt hin) y (by omega) hy.1
              have hdq : done q = true := by
                rcases ywd y hy.1 hy.2 hys with h3 | ⟨q2, hq2, hd2, h3, h4⟩
                · exact absurd (yok y h3) h0
                · rw [hf.uniq (show q < n by omega) hq2 h5 h6 h3 h4]; exact hd2
              rw [← hme]
              exact iv.fresh q (by omega) hdq y m h5 h6 hym
        · have hd' : done k = true := by simpa [e] using hd
          have hl2 : ρ x = some l := by
            obtain ⟨l2, hl2⟩ := Option.isSome_iff_exists.1 (iv.dom k hk hd' x h1 h2)
            rw [hup x l2 hl2] at hl; cases hl; exact hl2
          exact iv.fresh k hk hd' x l h1 h2 hl2
      · by_cases e : k = i
        · subst e; exact good.bound x l h1 (by rw [hnx]; exact h2) hl
        · have hd' : done k = true := by simpa [e] using hd
          have hl2 : ρ x = some l := by
            obtain ⟨l2, hl2⟩ := Option.isSome_iff_exists.1 (iv.dom k hk hd' x h1 h2)
            rw [hup x l2 hl2] at hl; cases hl; exact hl2
          exact Nat.lt_of_lt_of_le (iv.bound k hk hd' x l h1 h2 hl2) good.size
    · rw [hbad] at hop; cases hop
  · -- it is left out
    rw [hgv false hw]
    simp only [Bool.false_eq_true, if_false]
    refine hK ρ w _ ?_
    exact Inv.still he hok ht iv hM hS hF undef_rel
  · -- a cell loaded
    rw [hgv true hw]
    simp only [if_true]
    refine .inl ?_
    obtain ⟨hop, t, y, ho, hay, hagg, hoky⟩ := hoo.ld arg hld
    have har : ArgsOk ρ (F i) a (O i).op.operands.toList := Inv.args he hs glob ht iv (fun x hx => by
      rw [ho] at hx
      have : x = y := by simpa [Op.operands] using hx
      rw [this]; exact hoky)
    have hx : VRel ρ (ev (F i) (cA y)) (a.eval y) := har y (by rw [ho]; simp [Op.operands])
    rw [← hay, hev] at hx
    obtain ⟨l, hsp, hl, hx⟩ := hx.ptr_inv
    have hv0 : cellH ((S i).get p.block) p.off = some v := by rw [hc1]; exact hc2.1
    have hcell := (Turn.ld_at hf ht hM hL hlf n (Nat.le_refl _)).2 hin
    rw [hv0] at hcell
    have hyd : YD Y n S done p.block := by
      have hxi : p.block < (S i).next := (hf.sok i (Nat.le_of_lt hin)).lt hc1
      by_cases h0 : p.block < (S 0).next
      · exact .inl (foot _ h0 (.inl (hrl i hin _ _ hL)))
      · obtain ⟨q, hq, h1, h2⟩ := hf.find (Nat.le_of_lt hin) p.block (by omega) hxi
        refine .inr ⟨q, by omega, ?_, h1, h2⟩
        rcases hlf i hin _ _ hL q (by omega) (by omega) (hf.new q (by omega) _ h1 h2) with h3 | h3 | h3
        · exact ht.pre q (by omega) h3.2
        · omega
        · have := h3.2.2
          rw [(hf.sok q (by omega)).dead _ h1] at this
          cases this
    cases hb : hv S M done p.block n with
    | none => rw [hb] at hcell; cases hcell
    | some b =>
      rw [hb] at hcell
      obtain ⟨l', hl', hbr⟩ := iv.blk _ b hyd hb
      rw [hl] at hl'; cases hl'
      obtain ⟨v', hv', hrel⟩ := hbr.cell hcell hc2.1 hc2.2
      refine wp_value (v' := v') (w' := w) ?_ (hK ρ w _ (Inv.still he hok ht iv hM hS hF hrel))
      unfold execOp; rw [ho]
      simp [Instr.loadAt, hx, Instr.sureAddr, loadVar, run_isAgg hagg, hv']
end
end Go.Abs
