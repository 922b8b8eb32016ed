import Derived.Test.YthjhammjankekaaAbsX
namespace Go.Abs
set_option linter.unusedVariables false
set_option linter.unusedSimpArgs false
/-! a law that is given memory: its blocks are the lowest, and are read only -/
theorem ro_true {P : Program} {ex : FuncId → Option (List Value → Option Value)} (hm : P.follows .mixedOrders = true) (hex : ∀ f g, ex f = some g → ExtOk P f g) {E : Env} (hE : E.Ok P noGl ex) {n : Nat} {f : FuncId} {args args' : List Value} {s s' : St}
    (h : callN E n f args s = some (.bool true, s')) (hn : s.next = 8) (hwr : s.wr = 0) (hdead : ∀ x, 8 ≤ x → s.get x = none) (hkept : ∀ x, x < 8 → (s.get x).isSome = true → (s'.get x).isSome = true)
    {w : World} {ρ : Ren} (hrel : HRel ρ (fun x => x < 8) s w) (hρ : ∀ x, 8 ≤ x → ρ x = none) (hr : LR ρ args args') :
    Calls P f args'.toArray w fun e w' => e = .returned (.bool true) ∧ RowKit.Below w.heap.size w w' := by
  have htop : s.next ≤ lim + 1 := by rw [hn]; unfold lim; omega
  obtain ⟨_, st, k⟩ := callN_ok hm hex hE n f args s _ s' h ⟨htop, fun x hx => hdead x (by omega)⟩
  have hlow : ∀ x, x < 8 → s'.wr.testBit x = false := by
    intro x hx
    cases hb : s'.wr.testBit x with
    | false => rfl
    | true =>
      rcases st.low htop x hx (by omega) hb with h1 | ⟨h1, h2⟩
      · rw [hwr] at h1; simp at h1
      · have := hkept x hx h1
        rw [h2] at this; cases this
  have cx : Ctx noGl ρ (fun x => x < 8) s s' w :=
    ⟨htop, fun x hx => by rw [hn]; exact hx, fun x hx _ => by rw [hn] at hx; exact hx, fun x hx _ => hρ x (by omega), fun g hg => (by cases hg), fun x hx => hdead x (by omega), hrel, hlow⟩
  refine (k ρ _ w args' cx hr).mono fun e w' he => ?_
  obtain ⟨ρ', v', rfl, hv, g⟩ := he
  rw [hv.bool_inv]
  exact ⟨rfl, g.os, g.tape, g.output, g.size, fun k hk => g.old k hk fun x l hx _ _ hw _ => by rw [hlow x hx] at hw; cases hw⟩
/-- one block -/
noncomputable def st1 (c : Blk) : St := ⟨T.put 40 .nil 0 (some c), 8, 0, 0⟩
noncomputable def st8 : St := ⟨.nil, 8, 0, 0⟩
theorem st8_get (x : Nat) : st8.get x = none := T.get_nil x
theorem st1_get (c : Blk) (x : Nat) : (st1 c).get x = if x = 0 then some c else none := by
  show (T.put 40 .nil 0 (some c)).get x = _
  by_cases e : x = 0
  · subst e; simp only [if_true]; exact T.get_put_same 40 _ _ _ (by omega)
  · simp only [e, if_false]; rw [T.get_put_ne 40 _ _ _ _ e]; exact T.get_nil x
end Go.Abs
