import Derived.Test.YtdnedangfnincaaAbsX
namespace Go.Abs
set_option linter.unusedVariables false
set_option linter.unusedSimpArgs false
/-! a law that is given memory: its blocks are the lowest, and are read only -/
theorem ro_true {P : Program} {ex : FuncId → Option (List Value → Option Value)} (hm : P.follows .mixedOrders = true) (hex : ∀ f g, ex f = some g → ExtOk P f g) {E : Env} (hE : E.Ok P noGl ex) {n : Nat} {f : FuncId} {args args' : List Value} {s s' : St}
    (h : callN E n f args s = some (.bool true, s')) (hn : s.next = 8) (hwr : s.wr = 0) (hdead : ∀ x, 8 ≤ x → s.get x = none) (hkept : ∀ x, x < 8 → (s.get x).isSome = true → (s'.get x).isSome = true)
    {w : World} {ρ : Ren} (hrel : HRel ρ (fun x => x < 8) s w) (hρ : ∀ x, 8 ≤ x → ρ x = none) (hr : LR ρ args args') :
    Calls P f args'.toArray w fun e w' => e = .returned (.bool true) ∧ RowKit.Below w.heap.size w w' := by
  have htop : s.next ≤ lim + 1 := by rw [hn]; unfold lim; omega
  obtain ⟨_, st, k⟩ := callN_ok hm hex hE n f args s _ s' h ⟨htop, fun x hx => hdead x (by omega)⟩
  have hlow : ∀ x, x < 8 → s'.wr.testBit x = false := by
    intro x hx
    cases hb : s'.wr.testBit x with
    | false => rfl
    | true =>
      rcases st.low htop x hx (by omega) hb with h1 | ⟨h1, h2⟩
      · rw [hwr] at h1; simp at h1
      · have := hkept x hx h1
        rw [h2] at this; cases this
  have cx : Ctx noGl ρ (fun x => x < 8) s s' w :=
    ⟨htop, fun x hx => by rw [hn]; exact hx, fun x hx _ => by rw [hn] at hx; exact hx, fun x hx _ => hρ x (by omega), fun g hg => (by cases hg), fun x hx => hdead x (by omega), hrel, hlow, fun g hg => (by cases hg)⟩
  refine (k ρ _ w args' cx hr).mono fun e w' he => ?_
  obtain ⟨ρ', v', rfl, hv, g⟩ := he
  rw [hv.bool_inv]
  exact ⟨rfl, g.os, g.tape, g.output, g.size, fun k hk => g.old k hk fun x l hx _ _ hw _ => by rw [hlow x hx] at hw; cases hw⟩
/-- one block -/
noncomputable def st1 (c : Blk) : St := ⟨T.put 40 .nil 0 (some c), 8, 0, 0⟩
noncomputable def st8 : St := ⟨.nil, 8, 0, 0⟩
theorem st8_get (x : Nat) : st8.get x = none := T.get_nil x
theorem st1_get (c : Blk) (x : Nat) : (st1 c).get x = if x = 0 then some c else none := by
  show (T.put 40 .nil 0 (some c)).get x = _
  by_cases e : x = 0
  · subst e; simp only [if_true]; exact T.get_put_same 40 _ _ _ (by omega)
  · simp only [e, if_false]; rw [T.get_put_ne 40 _ _ _ _ e]; exact T.get_nil x
/-- a table that is laid: block 0 -/
theorem ro_laid {P : Program} {ex : FuncId → Option (List Value → Option Value)} (hm : P.follows .mixedOrders = true) (hex : ∀ f g, ex f = some g → ExtOk P f g) {E : Env} (hE : E.Ok P (gl1 0) ex) {n : Nat} {f : FuncId} {args : List Value} (ha : args.all gnd = true) {cells : List Value} (hc : cells.all gnd1 = true) (h20 : cells.length = 20) {s' : St}
    (h : callN E n f args (st1 cells) = some (.bool true, s')) (hkept : (s'.get 0).isSome = true)
    {w : World} {arr : Array Value} {t : TypeId} (hw : w.heap[0]? = some (.cells arr t (0, 0))) (harr : arr.toList = cells) :
    Calls P f args.toArray w fun e w' => e = .returned (.bool true) ∧ RowKit.Below w.heap.size w w' := by
  have hsz : arr.size = 20 := by rw [← h20, ← harr]; simp
  have htop : (st1 cells).next ≤ lim + 1 := by show 8 ≤ lim + 1; unfold lim; omega
  have hdead : ∀ x, (st1 cells).next ≤ x → (st1 cells).get x = none := fun x hx => by
    have : 8 ≤ x := hx
    rw [st1_get, if_neg (by omega)]
  obtain ⟨_, st, k⟩ := callN_ok hm hex hE n f args _ _ s' h ⟨htop, hdead⟩
  have hlow : ∀ x, x < 8 → s'.wr.testBit x = false := by
    intro x hx
    cases hb : s'.wr.testBit x with
    | false => rfl
    | true =>
      rcases st.low htop x hx (by show x < 8; exact hx) hb with h1 | ⟨h1, h2⟩
      · have : (st1 cells).wr = 0 := rfl
        rw [this] at h1; simp at h1
      · rw [st1_get] at h1
        by_cases e : x = 0
        · rw [e, ] at h2; rw [h2] at hkept; cases hkept
        · rw [if_neg e] at h1; cases h1
  have cx : Ctx (gl1 0) (fun x => if x = 0 then some ⟨0, 0, 20⟩ else none) (fun x => x < 8) (st1 cells) s' w := by
    refine ⟨htop, fun x hx => hx, fun x hx _ => hx, fun x hx _ => ?_, fun g hg => ?_, hdead, ⟨fun x b hx hb => ?_, fun x y l m hx hy h1 h2 hl hm he _ => ?_⟩, hlow, fun g hg => ?_⟩
    · have : 8 ≤ x := hx
      rw [if_neg (by omega)]
    · have hgg : g = 0 := by unfold gl1 at hg; rw [beq_eq'] at hg; simpa using hg
      exact ⟨by subst hgg; show 0 < 8; omega, 20, by rw [if_pos hgg, hgg]⟩
    · rw [st1_get] at hb
      by_cases e : x = 0
      · rw [if_pos e] at hb
        cases hb
        refine ⟨⟨0, 0, 20⟩, if_pos e, .inl ⟨arr, t, (0, 0), hw, hsz, (by show 0 + cells.length ≤ 20; omega), fun _ i hi => by simp, ?_⟩⟩
        show CR _ _ ((arr.toList.drop 0).take _)
        rw [List.drop_zero, harr, List.take_length]
        exact ⟨LR.gnd (List.all_eq_true.2 fun v hv => gnd1_gnd (List.all_eq_true.1 hc v hv)), fun v hv => gnd1_one (List.all_eq_true.1 hc v hv)⟩
      · rw [if_neg e] at hb; cases hb
    · rw [st1_get] at h1 h2
      by_cases e1 : x = 0
      · by_cases e2 : y = 0
        · rw [e1, e2]
        · rw [if_neg e2] at h2; cases h2
      · rw [if_neg e1] at h1; cases h1
    · have hgg : g = 0 := by unfold gl1 at hg; rw [beq_eq'] at hg; simpa using hg
      rw [if_pos hgg, hgg]
  refine (k _ _ w args cx (LR.gnd ha)).mono fun e w' he => ?_
  obtain ⟨ρ', v', rfl, hv, g⟩ := he
  rw [hv.bool_inv]
  exact ⟨rfl, g.os, g.tape, g.output, g.size, fun k hk => g.old k hk fun x l hx _ _ hw _ => by rw [hlow x hx] at hw; cases hw⟩
end Go.Abs
