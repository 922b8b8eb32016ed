import Derived.Test.YtdnedangfnincaaAbsW
import Derived.Lib.LaidTab
namespace Go.Abs
set_option linter.unusedVariables false
set_option linter.unusedSimpArgs false
/-! a table that lies in the start's memory -/
def gl1 (g0 : Nat) : Nat → Bool := fun g => Nat.beq g g0
noncomputable def stg (g0 : Nat) (cells : List Value) : St := ⟨T.put 40 .nil g0 (some cells), Nat.succ g0, 0, 0⟩
noncomputable def isTrueG (g0 : Nat) (o : Option (Value × St)) : Bool := Option.rec false (fun p => Prod.rec (fun v s => match v with | .bool b => bif b then isEven (Nat.shiftRight s.wr g0) else false | _ => false) p) o
theorem isTrueG_spec {g0 : Nat} {o : Option (Value × St)} (h : isTrueG g0 o = true) : ∃ s', o = some (.bool true, s') ∧ s'.wr.testBit g0 = false := by
  cases o with
  | none => cases h
  | some p =>
    obtain ⟨v, s'⟩ := p
    cases v with
    | bool b =>
      have h1 : (bif b then isEven (Nat.shiftRight s'.wr g0) else false) = true := h
      cases b with
      | false => cases h1
      | true =>
        refine ⟨s', rfl, ?_⟩
        have h2 : isEven (s'.wr >>> g0) = true := h1
        rw [isEven_eq, decide_eq_true_eq] at h2
        have h3 : (s'.wr >>> g0).testBit 0 = false := by rw [Nat.testBit_zero]; simp [h2]
        rw [Nat.testBit_shiftRight] at h3
        simpa using h3
    | _ => cases h
theorem gnd1_one {v : Value} (h : gnd1 v = true) : one v = true := by
  cases v <;> first | rfl | (rename_i o; cases o <;> first | rfl | cases h) | cases h
theorem gnd1_gnd {v : Value} (h : gnd1 v = true) : gnd v = true := by
  cases v <;> first | exact h | cases h
/-! from a row's condition to the table's cells -/
theorem laid_at {P : Program} {w : World} : ∀ {l : List (String × DataW Unit)} {ps : List MemPlace}, DataW.LaidVars P w l ps → ∀ n d, (n, d) ∈ l →
    ∃ g t cs fuel p, P.globalNamed n = some g ∧ (P.globals[g]?).map (·.type) = some t ∧ w.var? P n = some cs ∧ DataW.trod (fun _ => ()) P w 0 (fun _ => true) false fuel t cs.toList = some (d, p) ∧ ∀ i, i < cs.size → MemPlace.cell g i ∈ ps
  | [], _, _, _, _, hm => by cases hm
  | (n', d') :: r, ps, h, n, d, hm => by
    obtain ⟨g, t, cs, fuel, p, q, h1, h2, h3, h4, h5, rfl⟩ := h
    rcases List.mem_cons.1 hm with e | e
    · cases e
      refine ⟨g, t, cs, fuel, p, h1, h2, h3, h4, fun i hi => ?_⟩
      refine List.mem_append.2 (.inl (List.mem_append.2 (.inl ?_)))
      unfold MemPlace.row
      exact List.mem_map.2 ⟨i, List.mem_range.2 hi, by simp⟩
    · obtain ⟨g, t, cs, fuel, p, a1, a2, a3, a4, a5⟩ := laid_at h5 n d e
      exact ⟨g, t, cs, fuel, p, a1, a2, a3, a4, fun i hi => List.mem_append.2 (.inr (a5 i hi))⟩
theorem laid_cells {P : Program} {w : World} {l : List (String × DataW Unit)} (h : laidMet P l w) {n : String} {k : IntKind} {zs : List Int} (hm : (n, Lib.tabData k zs) ∈ l) {g : Nat} {t e : TypeId} {m : Nat}
    (hg : P.globalNamed n = some g) (hty : (P.globals[g]?).map (·.type) = some t) (ht : P.underlying t = some (.array m e)) (he : P.underlying e = some (.int k)) (hce : P.cellsOf e = 1) (hct : P.cellsOf t = m) (hz : 0 < zs.length) :
    ∃ arr ty, w.heap[g]? = some (.cells arr ty (0, 0)) ∧ arr.toList = zs.map fun z => Value.int k z := by
  obtain ⟨ps, hl, _, hps⟩ := h
  obtain ⟨g', t', cs, fuel, p, h1, h2, h3, h4, h5⟩ := laid_at hl n _ hm
  obtain rfl := Option.some.inj (hg.symm.trans h1)
  obtain rfl := Option.some.inj (hty.symm.trans h2)
  have hcs := Lib.cells_of_tab ht he hce hct h4
  have hsz : 0 < cs.size := by
    have := congrArg List.length hcs
    simp at this; omega
  obtain ⟨⟨c, ty, hc⟩, _⟩ := hps g 0 (h5 0 hsz)
  refine ⟨c, ty, hc, ?_⟩
  unfold World.var? at h3
  rw [hg, Option.bind_some, hc] at h3
  cases h3
  exact hcs
end Go.Abs
