import Derived.Test.YtdnedangfnincaaAbsZS
import Derived.ChangeSlices
namespace Go.Abs
set_option linter.unusedVariables false
set_option linter.unusedSimpArgs false
/-! a law that is given a slice, of any ground cells -/
/-- what a row's reading of a slice says of the memory: n elements of es cells each, the cells are told -/
def SlcIn (es n : Nat) (flat : List Value) (W : World) (v : Value) : Prop :=
  (v = .slice none 0 0 ∧ n = 0) ∨ ∃ b off cap arr row fr, v = .slice (some ⟨b, off, none⟩) n cap ∧ W.heap[b]? = some (.cells arr row fr) ∧ n ≤ cap ∧ cap ≤ maxLen ∧
    (n ≠ 0 → off + n * es ≤ arr.size ∧ (arr.toList.drop off).take (n * es) = flat)
theorem ints_in {H : Type} {enc : TypeId × Value → H} {P : Program} {W : World} {t e : TypeId} {k : IntKind} {v : Value} {d : DataW H} {ps : List MemPlace} {base : Nat} (ht : P.underlying t = some (.slice e)) (he : P.underlying e = some (.int k))
    (ce : P.cellsOf e = 1) (hval : Value.okWide P W .any base t v) (h : DataW.Trod enc P W 0 (fun _ => true) true t v d ps) :
    ∃ L : List Int, SlcIn 1 L.length (L.map fun x => .int k x) W v ∧ ∀ x ∈ L, (Lit.int k x).wf = true := by
  obtain ⟨fuel, h⟩ := h
  unfold Value.okWide at hval
  rw [ht] at hval
  unfold Cell.okWide Cell.ok at hval
  rw [ht] at hval
  have hcells : v.cells.toList = [v] := by
    cases v <;> first | rfl | (simp at hval)
  rw [hcells] at h
  rcases Go.ChangeShapes.open_ints ht he ce h with ⟨hc, _⟩ | ⟨a, len, cap, zs, hc, _, hl, hm, hz, _, hcell0, hwf⟩
  · simp only [List.cons.injEq, and_true] at hc
    exact ⟨[], .inl ⟨hc, rfl⟩, fun p hp => by cases hp⟩
  · simp only [List.cons.injEq, and_true] at hc
    subst hc
    simp only [if_true] at hz
    have hh : ∃ arr row fr, a.spot = none ∧ W.heap[a.block]? = some (.cells arr row fr) := by
      simp only at hval
      obtain ⟨_, _, _, hs, row, cells, hsh, _⟩ := hval
      unfold World.shape? at hsh
      cases hw : W.heap[a.block]? with
      | none => rw [hw] at hsh; cases hsh
      | some o =>
        cases o with
        | cells arr row fr => exact ⟨arr, row, fr, hs, rfl⟩
        | _ => rw [hw] at hsh; cases hsh
    obtain ⟨arr, row, fr, hs, hw⟩ := hh
    obtain ⟨b, off, spot⟩ := a
    simp only at hs hw
    subst hs
    have hcell : ∀ i, i < cap → arr[off + i]? = some (.int k (zs.getD i 0)) := fun i hi => by
      have a0 := hcell0 i (by omega)
      rw [addr_add, cell_of_row W b _ arr row fr hw] at a0
      simpa using a0
    have hlen : (zs.take len).length = len := by rw [List.length_take]; omega
    refine ⟨zs.take len, .inr ⟨b, off, cap, arr, row, fr, by rw [hlen], hw, by omega, hm, fun hne => ?_⟩, fun x hx => hwf x (List.mem_of_mem_take hx)⟩
    rw [hlen] at hne ⊢
    have hsz : off + len * 1 ≤ arr.size := by
      have := hcell (len - 1) (by omega)
      have := (Array.getElem?_eq_some_iff.1 this).1
      omega
    refine ⟨hsz, ?_⟩
    apply List.ext_getElem?
    intro j
    by_cases hj : j < len
    · rw [List.getElem?_take, if_pos (by omega), List.getElem?_drop, Array.getElem?_toList, hcell j (by omega), List.getElem?_map, List.getElem?_take, if_pos hj, List.getElem?_eq_getElem (by omega), List.getD_eq_getElem?_getD, List.getElem?_eq_getElem (by omega)]
      rfl
    · rw [List.getElem?_take, if_neg (by omega), List.getElem?_eq_none (by simp; omega)]
/-- a law with one slice among its parameters -/
theorem slc_law {P : Program} {ex : FuncId → Option (List Value → Option Value)} (hm : P.follows .mixedOrders = true) (hex : ∀ f g, ex f = some g → ExtOk P f g) {E : Env} (hE : E.Ok P noGl ex) {m : Nat} {f : FuncId} {es n : Nat} {flat pre rest : List Value} (hp : pre.all gnd = true) (hr : rest.all gnd = true) (hfl : flat.length = n * es) (hfg : flat.all gnd1 = true)
    {W : World} {v : Value} (hv : SlcIn es n flat W v)
    (run : ∀ (s : St) (a : Value), ((n = 0 ∧ s = st8) ∨ (n ≠ 0 ∧ s = st1 flat)) → ((n = 0 ∧ a = .slice none 0 0) ∨ ∃ c, a = .slice (some ⟨0, 0, none⟩) n c) → ∃ s', callN E m f (pre ++ a :: rest) s = some (.bool true, s') ∧ ((s.get 0).isSome = true → (s'.get 0).isSome = true)) :
    Calls P f (pre ++ v :: rest).toArray W fun e w' => e = .returned (.bool true) ∧ RowKit.Below W.heap.size W w' := by
  have low8 : ∀ x, x < 8 → (st8.get x).isSome = true → False := fun x _ h => by rw [st8_get] at h; cases h
  have low1 : ∀ (c : Blk) (s' : St), ((st1 c).get 0).isSome = true → (s'.get 0).isSome = true → ∀ x, x < 8 → ((st1 c).get x).isSome = true → (s'.get x).isSome = true := fun c s' _ h x hx hs => by
    rw [st1_get] at hs
    by_cases e : x = 0
    · rw [e]; exact h
    · rw [if_neg e] at hs; cases hs
  rcases hv with ⟨rfl, rfl⟩ | ⟨b, off, cap, arr, row, fr, rfl, hw, hl, hc, hcells⟩
  · obtain ⟨s', h1, h2⟩ := run st8 _ (.inl ⟨rfl, rfl⟩) (.inl ⟨rfl, rfl⟩)
    exact ro_true hm hex hE h1 rfl rfl (fun x _ => st8_get x) (fun x hx hs => (low8 x hx hs).elim) (ρ := fun _ => none)
      ⟨fun x b hx hb => (by rw [st8_get] at hb; cases hb), fun x y l m hx hy h => (by rw [st8_get] at h; cases h)⟩ (fun _ _ => rfl) ((LR.gnd hp).append (LR.cons .sliceNil (LR.gnd hr)))
  · by_cases hL : n = 0
    · obtain ⟨s', h1, h2⟩ := run st8 (.slice (some ⟨0, 0, none⟩) n cap) (.inl ⟨hL, rfl⟩) (.inr ⟨_, rfl⟩)
      refine ro_true hm hex hE h1 rfl rfl (fun x _ => st8_get x) (fun x hx hs => (low8 x hx hs).elim) (ρ := fun x => if x = 0 then some ⟨b, off, 0⟩ else none)
        ⟨fun x b hx hb => (by rw [st8_get] at hb; cases hb), fun x y l m hx hy h => (by rw [st8_get] at h; cases h)⟩ (fun x hx => if_neg (by omega)) ((LR.gnd hp).append (LR.cons ?_ (LR.gnd hr)))
      exact VRel.slice (ρ := fun x => if x = 0 then some ⟨b, off, 0⟩ else none) (b := 0) (o := 0) (l := ⟨b, off, 0⟩) (if_pos rfl) hl hc (.inl rfl)
    · obtain ⟨hsz, hce⟩ := hcells hL
      obtain ⟨s', h1, h2⟩ := run (st1 flat) (.slice (some ⟨0, 0, none⟩) n cap) (.inr ⟨hL, rfl⟩) (.inr ⟨_, rfl⟩)
      have hs0 : ((st1 flat).get 0).isSome = true := by rw [st1_get]; rfl
      refine ro_true hm hex hE h1 rfl rfl (fun x hx => by rw [st1_get, if_neg (by omega)]) (low1 _ _ hs0 (h2 hs0)) (ρ := fun x => if x = 0 then some ⟨b, off, arr.size⟩ else none)
        ⟨fun x c hx hb => ?_, fun x y l m hx hy h h' => ?_⟩ (fun x hx => if_neg (by omega)) ((LR.gnd hp).append (LR.cons ?_ (LR.gnd hr)))
      · rw [st1_get] at hb
        by_cases e : x = 0
        · rw [if_pos e] at hb
          cases hb
          refine ⟨⟨b, off, arr.size⟩, if_pos e, .inl ⟨arr, row, fr, hw, rfl, by rw [hfl]; exact hsz, fun h8 => by omega, ?_⟩⟩
          show CR _ _ ((arr.toList.drop off).take _)
          rw [hfl, hce]
          exact ⟨LR.gnd (List.all_eq_true.2 fun v hv => gnd1_gnd (List.all_eq_true.1 hfg v hv)), fun v hv => gnd1_one (List.all_eq_true.1 hfg v hv)⟩
        · rw [if_neg e] at hb; cases hb
      · rw [st1_get] at h h'
        by_cases e : x = 0
        · by_cases e' : y = 0
          · intros; omega
          · rw [if_neg e'] at h'; cases h'
        · rw [if_neg e] at h; cases h
      · exact VRel.slice (ρ := fun x => if x = 0 then some ⟨b, off, arr.size⟩ else none) (b := 0) (o := 0) (l := ⟨b, off, arr.size⟩) (if_pos rfl) hl hc (.inl rfl)
/-- a law with ground arguments -/
theorem plain_law {P : Program} {ex : FuncId → Option (List Value → Option Value)} (hm : P.follows .mixedOrders = true) (hex : ∀ f g, ex f = some g → ExtOk P f g) {E : Env} (hE : E.Ok P noGl ex) {m : Nat} {f : FuncId} {args : List Value} (hp : args.all gnd = true) (W : World)
    (run : ∃ s', callN E m f args st8 = some (.bool true, s')) : Calls P f args.toArray W fun e w' => e = .returned (.bool true) ∧ RowKit.Below W.heap.size W w' := by
  obtain ⟨s', h1⟩ := run
  exact ro_true hm hex hE h1 rfl rfl (fun x _ => st8_get x) (fun x hx hs => by rw [st8_get] at hs; cases hs) (ρ := fun _ => none)
      ⟨fun x b hx hb => (by rw [st8_get] at hb; cases hb), fun x y l m hx hy h => (by rw [st8_get] at h; cases h)⟩ (fun _ _ => rfl) (LR.gnd hp)
theorem flatI_gnd1 (k : IntKind) : ∀ L : List Int, (L.map fun x => Value.int k x).all gnd1 = true
  | [] => rfl
  | x :: l => by
    simp only [List.map_cons, List.all_cons, flatI_gnd1 k l]
    rfl
end Go.Abs
