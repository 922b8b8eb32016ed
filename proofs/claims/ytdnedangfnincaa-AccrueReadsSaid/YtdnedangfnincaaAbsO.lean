import Derived.Test.YtdnedangfnincaaAbsN
import Derived.Scope
namespace Go.Abs
set_option linter.unusedVariables false
set_option linter.unusedSimpArgs false
section
variable {P : Program} {gl : Nat → Bool} {ex : FuncId → Option (List Value → Option Value)}

/-- a frame, and Go's -/
structure FRel (ρ : Ren) (N : Nat) (fs : Frm) (a : Act) : Prop where
  size : N ≤ a.tmps.size
  rel : ∀ t, t < 4000 → VRel ρ (orU (fs.get (path t))) (a.tmps.getD t undef)
  defers : a.defers = []
theorem FRel.mono {ρ ρ' : Ren} (hρ : ∀ x l, ρ x = some l → ρ' x = some l) {N : Nat} {fs : Frm} {a : Act} (h : FRel ρ N fs a) : FRel ρ' N fs a :=
  ⟨h.size, fun t ht => (h.rel t ht).mono hρ, h.defers⟩
theorem slot_lt {N d : Nat} (h : slotOk N d = true) : d < N ∧ d < 4000 := by
  unfold slotOk at h
  rw [blt_eq', blt_eq'] at h
  simpa using h
theorem FRel.put {ρ : Ren} {N : Nat} {fs : Frm} {a : Act} {dst : Option Nat} {v v' : Value} (h : FRel ρ N fs a) (hd : ∀ d, dst = some d → slotOk N d = true) (hv : VRel ρ v v') : FRel ρ N (putT fs (dst.map path) v) (a.put dst v') := by
  cases dst with
  | none => exact h
  | some d =>
    obtain ⟨h1, h2⟩ := slot_lt (hd d rfl)
    refine ⟨by simpa [Act.put] using h.size, fun t ht => ?_, h.defers⟩
    show VRel ρ (orU ((PT.put v (path d) fs).get (path t))) _
    by_cases e : t = d
    · subst e
      rw [PT.get_put_same]
      have : t < a.tmps.size := Nat.lt_of_lt_of_le h1 h.size
      simpa [Act.put, this, orU] using hv
    · rw [PT.get_put_ne _ _ _ _ (fun e2 => e (path_inj ht h2 e2))]
      have := h.rel t ht
      simpa [Act.put, Array.getElem?_setIfInBounds_ne (Ne.symm e)] using this
theorem undef_rel {ρ : Ren} : VRel ρ undef undef := .tuple rfl (fun i x y hx _ => by simp [undef] at hx)
theorem ev_rel {ρ : Ren} {N : Nat} {fs : Frm} {a : Act} (h : FRel ρ N fs a) (hg : ∀ g, gl g = true → ∃ r, ρ g = some ⟨g, 0, r⟩) {x : Operand} (hx : okArg gl x = true) : VRel ρ (ev fs (cA x)) (a.eval x) := by
  cases x with
  | tmp t =>
    show VRel ρ (ev fs (bif Nat.blt t 4000 then .t (path t) else .v UV)) _
    rw [blt_eq']
    by_cases ht : t < 4000
    · simp only [ht, decide_true, cond_true]; exact h.rel t ht
    · simp only [ht, decide_false, cond_false]; exact .any _
  | const v => exact gnd_rel hx
  | global g =>
    obtain ⟨r, hr⟩ := hg g hx
    exact VRel.ptr (l := ⟨g, 0, r⟩) hr
  | func f => exact .func _ rfl rfl (fun i x y hx _ => by simp at hx) (fun i x y hx _ => by simp at hx)

/-- an operation, and the machine's -/
structure OperOk (P : Program) (gl : Nat → Bool) (N : Nat) (ops : Array Oper) (o : Oper) (ao : AOper) : Prop where
  op : (OpOk P gl o ao.op ∧ ∀ x ∈ o.op.operands.toList, okArg gl x = true) ∨ ao.op = oBad
  dst : ao.dst = o.dst.map path
  slot : ∀ d, o.dst = some d → slotOk N d = true
  ld : ∀ x, ao.ld = some x → ao.op = oLoad1 x ∧ ∃ t y, o.op = .load t y ∧ x = cA y ∧ isAggT P t = some false ∧ okArg gl y = true
  guard : (o.guard = none ∧ ao.guard = none) ∨ ∃ j b d, o.guard = some (j, b) ∧ (ops[j]?).bind (·.dst) = some d ∧ slotOk N d = true ∧ ao.guard = some (path d, b)
theorem cOper_ok (hex : ∀ f g, ex f = some g → ExtOk P f g) {N : Nat} {ops : Array Oper} {o : Oper} {ao : AOper} (h : cOper P gl ex N ops o = some ao) : OperOk P gl N ops o ao := by
  have hop : (OpOk P gl o ((cOp P gl ex o).getD oBad) ∧ ∀ x ∈ o.op.operands.toList, okArg gl x = true) ∨ (cOp P gl ex o).getD oBad = oBad := by
    cases hc : cOp P gl ex o with
    | none => exact .inr rfl
    | some F =>
      refine .inl ⟨cOp_ok hex hc, ?_⟩
      unfold cOp at hc
      split at hc
      · cases hc
      · rename_i hall
        have : o.op.operands.all (okArg gl) = true := by simpa using hall
        intro x hx
        rw [← Array.all_toList] at this
        exact List.all_eq_true.1 this x hx
  have hld : ∀ x, ldOpt P gl ex o = some x → (cOp P gl ex o).getD oBad = oLoad1 x ∧ ∃ t y, o.op = .load t y ∧ x = cA y ∧ isAggT P t = some false ∧ okArg gl y = true := by
    intro x hx
    unfold ldOpt at hx
    split at hx
    · rename_i F hF
      unfold ldOf at hx
      split at hx
      · rename_i t y ho
        split at hx
        · rename_i hagg
          cases hx
          have hF' := hF
          unfold cOp at hF
          split at hF
          · cases hF
          · rename_i hall
            have hall' : o.op.operands.all (okArg gl) = true := by simpa using hall
            have hy : okArg gl y = true := by
              rw [← Array.all_toList] at hall'
              exact List.all_eq_true.1 hall' y (by rw [ho]; simp [Op.operands])
            rw [ho] at hF
            simp only [hagg, Option.bind_eq_bind, Option.bind_some, Bool.false_eq_true, if_false, Option.some.injEq] at hF
            rw [hF']
            exact ⟨hF.symm, t, y, ho, rfl, hagg, hy⟩
        · cases hx
      · cases hx
    · cases hx
  unfold cOper at h
  split at h
  · rename_i hd
    have hslot : ∀ d, o.dst = some d → slotOk N d = true := by
      intro d hdd
      rw [hdd] at hd
      exact hd
    split at h
    · rename_i hg
      cases h
      exact ⟨hop, rfl, hslot, hld, .inl ⟨hg, rfl⟩⟩
    · rename_i j b hg
      split at h
      · rename_i d hj
        split at h
        · rename_i hs
          cases h
          exact ⟨hop, rfl, hslot, hld, .inr ⟨j, b, d, hg, hj, hs, rfl⟩⟩
        · cases h
      · cases h
  · cases h

/-- what the guards say -/
theorem gval_rel {ρ : Ren} {N : Nat} {ops : Array Oper} {o : Oper} {ao : AOper} {fs : Frm} {a : Act} {b : Bool} (ho : OperOk P gl N ops o ao) (hsz : N ≤ a.tmps.size)
    (hrel : ∀ j w d, o.guard = some (j, w) → (ops[j]?).bind (·.dst) = some d → VRel ρ (orU (fs.get (path d))) (a.tmps.getD d undef)) (h : wanted fs ao.guard = some b) : Region.wanted o (yielded ops a.tmps) = b := by
  rcases ho.guard with ⟨h1, h2⟩ | ⟨j, w, d, h1, h2, h3, h4⟩
  · rw [h2] at h
    cases h
    simp [Region.wanted, h1]
  · rw [h4] at h
    have hv := hrel j w d h1 h2
    have hlt : d < a.tmps.size := Nat.lt_of_lt_of_le (slot_lt h3).1 hsz
    have h' : gval w (orU (fs.get (path d))) = some b := h
    have hy : yielded ops a.tmps j = (match a.tmps.getD d undef with | .bool c => some c | _ => none) := by
      simp only [yielded, h2, Option.bind_some, Array.getElem?_eq_getElem hlt, Array.getD_eq_getD_getElem?, Option.getD_some]
      split <;> simp_all
    simp only [Region.wanted, h1, hy]
    unfold gval at h'
    split at h'
    · rename_i c hc
      rw [hc] at hv
      cases h'
      rw [hv.bool_inv]
      cases w <;> cases c <;> rfl
    · rename_i cs hc
      rw [hc] at hv
      cases h'
      obtain ⟨a', e, _⟩ := hv.tuple_inv
      rw [e]
      rfl
    · cases h'
theorem orU_put {ρ : Ren} : True := trivial

/-- the result of a run of code, in Go -/
def PostF (gl : Nat → Bool) (N : Nat) (ρ : Ren) (Y : Nat → Prop) (s s' : St) (w : World) (fs' : Frm) (R : Act → World → Prop) : Prop :=
  ∀ ρ' a' w', Good ρ ρ' Y s s' w w' → FRel ρ' N fs' a' → R a' w'
theorem Ctx.gl' {ρ : Ren} {Y : Nat → Prop} {s s' : St} {w : World} (c : Ctx gl ρ Y s s' w) : ∀ g, gl g = true → ∃ r, ρ g = some ⟨g, 0, r⟩ := fun g hg => (c.glob g hg).2
theorem Ctx.sok {ρ : Ren} {Y : Nat → Prop} {s s' : St} {w : World} (c : Ctx gl ρ Y s s' w) : SOk s := ⟨c.top, c.dead⟩

theorem runOps_nil (rec : Rec) (fs : Frm) (s : St) : runOps rec [] fs s = some (fs, s) := rfl
theorem runOps_cons (rec : Rec) (o : AOper) (l : List AOper) (fs : Frm) (s : St) : runOps rec (o :: l) fs s = op1 rec o (runOps rec l) fs s := rfl
theorem op1_some {rec : Rec} {o : AOper} {k : Frm → St → OutF} {fs fs' : Frm} {s s' : St} (h : op1 rec o k fs s = some (fs', s')) :
    (wanted fs o.guard = some true ∧ ∃ v s1, o.op rec fs s = some (v, s1) ∧ k (putT fs o.dst v) s1 = some (fs', s')) ∨ (wanted fs o.guard = some false ∧ k (putT fs o.dst undef) s = some (fs', s')) := by
  unfold op1 at h
  obtain ⟨b, hb, h⟩ := opt_k h
  cases b with
  | false => exact .inr ⟨hb, h⟩
  | true =>
    obtain ⟨v, s1, h1, h2⟩ := opt2_k h
    exact .inl ⟨hb, v, s1, h1, h2⟩
theorem runOps_step {rec : Rec} (hrec : RecOk P gl rec) {N : Nat} {ops : Array Oper} : ∀ (l : List Oper) (al : List AOper) (fs fs' : Frm) (s s' : St), (∀ (k : Nat) (o : Oper), l[k]? = some o → ∃ ao, al[k]? = some ao ∧ OperOk P gl N ops o ao) → l.length = al.length → SOk s →
    runOps rec al fs s = some (fs', s') → AStep s s'
  | [], al, fs, fs', s, s', _, hlen, _, h => by
    have : al = [] := List.eq_nil_of_length_eq_zero (by simpa using hlen.symm)
    subst this
    cases h
    exact AStep.refl _
  | o :: l, al, fs, fs', s, s', hok, hlen, hso, h => by
    cases al with
    | nil => simp at hlen
    | cons ao al =>
      obtain ⟨ao', hao, hoo⟩ := hok 0 o rfl
      simp at hao
      subst hao
      have hok' : ∀ (k : Nat) (o : Oper), l[k]? = some o → ∃ ao, al[k]? = some ao ∧ OperOk P gl N ops o ao := fun k o hk => by simpa using hok (k + 1) o (by simpa using hk)
      rw [runOps_cons] at h
      rcases op1_some h with ⟨_, v, s1, hop, hk⟩ | ⟨_, hk⟩
      · rcases hoo.op with ⟨hopk, _⟩ | hbad
        · obtain ⟨hst, _⟩ := hopk rec hrec _ _ _ _ hop hso
          exact hst.trans (runOps_step hrec l al _ _ _ _ hok' (by simpa using hlen) (hso.step hst) hk)
        · rw [hbad] at hop; cases hop
      · exact runOps_step hrec l al _ _ _ _ hok' (by simpa using hlen) hso hk
theorem runOps_ok {rec : Rec} (hrec : RecOk P gl rec) {N : Nat} {ops : Array Oper} {Q : Exit → Act → World → Prop} : ∀ (is : List Nat) (al : List AOper) (fs fs' : Frm) (s s' : St) (ρ : Ren) (Y : Nat → Prop) (w : World) (a : Act),
    (∀ (k i : Nat), is[k]? = some i → ∃ o ao, ops[i]? = some o ∧ al[k]? = some ao ∧ OperOk P gl N ops o ao) → is.length = al.length → runOps rec al fs s = some (fs', s') → Ctx gl ρ Y s s' w → FRel ρ N fs a →
    PostF gl N ρ Y s s' w fs' (Q .normal) → wpOps P ops Q is a w
  | [], al, fs, fs', s, s', ρ, Y, w, a, _, hlen, h, cx, hf, hQ => by
    have : al = [] := List.eq_nil_of_length_eq_zero (by simpa using hlen.symm)
    subst this
    cases h
    exact hQ ρ a w (Good.refl cx.rel) hf
  | i :: is, al, fs, fs', s, s', ρ, Y, w, a, hok, hlen, h, cx, hf, hQ => by
    cases al with
    | nil => simp at hlen
    | cons ao al =>
      obtain ⟨o, ao', hi, hao, hoo⟩ := hok 0 i rfl
      simp at hao
      subst hao
      have hok' : ∀ (k i : Nat), is[k]? = some i → ∃ o ao, ops[i]? = some o ∧ al[k]? = some ao ∧ OperOk P gl N ops o ao := fun k i hk => by simpa using hok (k + 1) i (by simpa using hk)
      have hlen' : is.length = al.length := by simpa using hlen
      rw [runOps_cons] at h
      simp only [wpOps, hi]
      have hgv : ∀ b, wanted fs ao.guard = some b → Region.wanted o (yielded ops a.tmps) = b := fun b hb => gval_rel hoo hf.size (fun j wv d h1 h2 => by
        rcases hoo.guard with ⟨hn, _⟩ | ⟨j', w', d', e1, e2, e3, _⟩
        · rw [hn] at h1; cases h1
        · rw [h1] at e1; cases e1
          rw [h2] at e2; cases e2
          exact hf.rel d (slot_lt e3).2) hb
      rcases op1_some h with ⟨hw, v, s1, hop, hk⟩ | ⟨hw, hk⟩
      · rw [hgv true hw]
        simp only [if_true]
        refine .inl ?_
        rcases hoo.op with ⟨hopk, hargs⟩ | hbad
        · obtain ⟨hst, hwp⟩ := hopk rec hrec _ _ _ _ hop cx.sok
          -- the steps behind
          have hst2 : AStep s1 s' := by
            refine runOps_step (P := P) (gl := gl) (N := N) (ops := ops) hrec (is.map fun i => (ops[i]?).getD o) al _ _ _ _ (fun k o' hk' => ?_) (by simpa using hlen') (cx.sok.step hst) hk
            rw [List.getElem?_map, Option.map_eq_some_iff] at hk'
            obtain ⟨i', hi', rfl⟩ := hk'
            obtain ⟨o2, ao2, h1, h2, h3⟩ := hok' k i' hi'
            exact ⟨ao2, h2, by rw [h1]; exact h3⟩
          have cx1 := cx.first hst2
          refine hwp ρ Y w a cx1 (fun x hx => ev_rel hf cx.gl' (hargs x hx)) _ _ fun ρ' v' w' hv good => ?_
          have cx2 := cx.then hst good
          have hf2 : FRel ρ' N (putT fs ao.dst v) (a.put o.dst v') := by
            rw [hoo.dst]
            exact (hf.mono (cx1.up good)).put hoo.slot hv
          exact runOps_ok hrec is al _ _ _ _ ρ' _ w' _ hok' hlen' hk cx2 hf2 (fun ρ2 a2 w2 g2 hf3 => hQ ρ2 a2 w2 (Good.trans cx hst hst2 good g2) hf3)
        · rw [hbad] at hop; cases hop
      · rw [hgv false hw]
        simp only [Bool.false_eq_true, if_false]
        have hf2 : FRel ρ N (putT fs ao.dst undef) (a.put o.dst undef) := by
          rw [hoo.dst]
          exact hf.put hoo.slot undef_rel
        exact runOps_ok hrec is al _ _ _ _ ρ Y w _ hok' hlen' hk cx hf2 hQ
end
end Go.Abs
