import Derived.Test.YtdnedangfnincaaAbsU
namespace Go.Abs
set_option linter.unusedSimpArgs false
set_option linter.unusedVariables false
/-- a trie's places -/
def toL {α : Type} : T α → List (Nat × α)
  | .nil => []
  | .node v l r => v.toList.map (fun c => (0, c)) ++ ((toL l).map (fun p => (2 * p.1 + 1, p.2)) ++ (toL r).map (fun p => (2 * p.1 + 2, p.2)))
theorem mem_toL {α : Type} : ∀ (t : T α) (f : Nat) (c : α), t.get f = some c → (f, c) ∈ toL t
  | .nil, f, c, h => by cases h
  | .node v l r, 0, c, h => by
    rw [T.get_zero] at h
    subst h
    simp [toL]
  | .node v l r, f + 1, c, h => by
    rw [T.get_succ] at h
    unfold toL
    split at h
    · have := mem_toL l _ c h
      refine List.mem_append.2 (.inr (List.mem_append.2 (.inl (List.mem_map.2 ⟨_, this, ?_⟩))))
      simp; omega
    · have := mem_toL r _ c h
      refine List.mem_append.2 (.inr (List.mem_append.2 (.inr (List.mem_map.2 ⟨_, this, ?_⟩))))
      simp; omega
def allQ {α : Type} (Q : α → Prop) : List α → Prop
  | [] => True
  | x :: l => Q x ∧ allQ Q l
theorem allQ_mem {α : Type} {Q : α → Prop} : ∀ {l : List α}, allQ Q l → ∀ x ∈ l, Q x
  | [], _, x, hx => by cases hx
  | y :: l, h, x, hx => by
    rcases List.mem_cons.1 hx with rfl | hx
    · exact h.1
    · exact allQ_mem h.2 x hx
theorem fns_ok {P : Program} {gl : Nat → Bool} {ex : FuncId → Option (List Value → Option Value)} {t : T AFunc} {l : List (Nat × AFunc)} (hl : toL t = l) (h : allQ (fun p => ∃ fn, P.funcs[p.1]? = some fn ∧ cFunc P gl ex fn = some p.2) l) :
    ∀ f c, t.get f = some c → ∃ fn, P.funcs[f]? = some fn ∧ cFunc P gl ex fn = some c := fun f c hc => allQ_mem h (f, c) (hl ▸ mem_toL t f c hc)
def noKnown : FuncId → List Value → St → Option (Value × St) := fun _ _ _ => none
theorem noKnown_ok {P : Program} {gl : Nat → Bool} : RecOk P gl noKnown := fun _ _ _ _ _ h => by cases h
noncomputable def isTrue (o : Option (Value × St)) : Bool := Option.rec false (fun p => Prod.rec (fun v _ => match v with | .bool b => b | _ => false) p) o
theorem isTrue_spec {o : Option (Value × St)} (h : isTrue o = true) : ∃ s', o = some (.bool true, s') := by
  cases o with
  | none => cases h
  | some p =>
    obtain ⟨v, s'⟩ := p
    cases v with
    | bool b =>
      have : b = true := h
      subst this
      exact ⟨s', rfl⟩
    | _ => cases h
theorem noEx_ok {P : Program} {ex : FuncId → Option (List Value → Option Value)} (h : ∀ f, ex f = none) : ∀ f g, ex f = some g → ExtOk P f g := fun f g hg => by rw [h] at hg; cases hg
end Go.Abs
