import Derived.Test.YtdnedangfnincaaAbsZR
import Derived.Deep.SlicePairs
import Derived.Carry
namespace Go.Abs
set_option linter.unusedVariables false
set_option linter.unusedSimpArgs false
/-! a law that is given a slice of pairs of whole numbers -/
def flatP (k0 k1 : IntKind) : List (Int × Int) → List Value
  | [] => []
  | p :: l => .int k0 p.1 :: .int k1 p.2 :: flatP k0 k1 l
theorem flatP_len (k0 k1 : IntKind) : ∀ l, (flatP k0 k1 l).length = l.length * 2
  | [] => rfl
  | p :: l => by
    have := flatP_len k0 k1 l
    simp only [flatP, List.length_cons, this]
    omega
theorem flatP_get (k0 k1 : IntKind) : ∀ (l : List (Int × Int)) (i : Nat) (h : i < l.length), (flatP k0 k1 l)[i * 2]? = some (.int k0 l[i].1) ∧ (flatP k0 k1 l)[i * 2 + 1]? = some (.int k1 l[i].2)
  | p :: l, 0, _ => ⟨rfl, rfl⟩
  | p :: l, i + 1, h => by
    have := flatP_get k0 k1 l i (by simpa using h)
    rw [show (i + 1) * 2 = i * 2 + 1 + 1 by omega]
    simpa [flatP] using this
theorem flatP_gnd1 (k0 k1 : IntKind) : ∀ l, (flatP k0 k1 l).all gnd1 = true
  | [] => rfl
  | p :: l => by
    simp only [flatP, List.all_cons, flatP_gnd1 k0 k1 l]
    rfl
/-- what a row's reading of such a slice says of the memory -/
def PairsAt (k0 k1 : IntKind) (W : World) (v : Value) (L : List (Int × Int)) : Prop :=
  (v = .slice none 0 0 ∧ L = []) ∨ ∃ b off cap arr row fr, v = .slice (some ⟨b, off, none⟩) L.length cap ∧ W.heap[b]? = some (.cells arr row fr) ∧ L.length ≤ cap ∧ cap ≤ maxLen ∧
    (L ≠ [] → off + L.length * 2 ≤ arr.size ∧ (arr.toList.drop off).take (L.length * 2) = flatP k0 k1 L)
def numI (v : Value) : Int := match v with
  | .int _ n => n
  | _ => 0
theorem pairs_in {H : Type} {enc : TypeId × Value → H} {P : Program} {W : World} {t e : TypeId} {f0 f1 : Field} {k0 k1 : IntKind} {v : Value} {d : DataW H} {ps : List MemPlace} {base : Nat} (ht : P.underlying t = some (.slice e)) (he : P.underlying e = some (.struct #[f0, f1]))
    (ce : P.cellsOf e = 2) (o0 : f0.offset = 0) (o1 : f1.offset = 1) (c0 : P.cellsOf f0.type = 1) (c1 : P.cellsOf f1.type = 1) (h0 : P.underlying f0.type = some (.int k0)) (h1 : P.underlying f1.type = some (.int k1))
    (hval : Value.okWide P W .any base t v) (h : DataW.Trod enc P W 0 (fun _ => true) true t v d ps) :
    ∃ L, PairsAt k0 k1 W v L ∧ ∀ p ∈ L, (Lit.int k0 p.1).wf = true ∧ (Lit.int k1 p.2).wf = true := by
  obtain ⟨fuel, h⟩ := h
  unfold Value.okWide at hval
  rw [ht] at hval
  unfold Cell.okWide Cell.ok at hval
  rw [ht] at hval
  have hcells : v.cells.toList = [v] := by
    cases v <;> first | rfl | (simp at hval)
  rw [hcells] at h
  rcases Go.Deep.open_slice_pairs ht he ce o0 o1 c0 c1 h with ⟨hc, _⟩ | ⟨a, len, cap, m, n, V0, V1, D0, D1, P0, P1, hc, _, hl, hm, hmm, _, hall⟩
  · simp only [List.cons.injEq, and_true] at hc
    exact ⟨[], .inl ⟨hc, rfl⟩, fun p hp => by cases hp⟩
  · simp only [List.cons.injEq, and_true] at hc
    subst hc
    simp only [if_true] at hmm
    subst hmm
    have hh : ∃ arr row fr, a.spot = none ∧ W.heap[a.block]? = some (.cells arr row fr) := by
      simp only at hval
      obtain ⟨_, _, _, hs, row, cells, hsh, _⟩ := hval
      unfold World.shape? at hsh
      cases hw : W.heap[a.block]? with
      | none => rw [hw] at hsh; cases hsh
      | some o =>
        cases o with
        | cells arr row fr => exact ⟨arr, row, fr, hs, rfl⟩
        | _ => rw [hw] at hsh; cases hsh
    obtain ⟨arr, row, fr, hs, hw⟩ := hh
    obtain ⟨b, off, spot⟩ := a
    simp only at hs hw
    subst hs
    have hint : ∀ i, i < m → V0 i = .int k0 (numI (V0 i)) ∧ V1 i = .int k1 (numI (V1 i)) ∧ (Lit.int k0 (numI (V0 i))).wf = true ∧ (Lit.int k1 (numI (V1 i))).wf = true := fun i hi => by
      obtain ⟨n0, e0, _, w0⟩ := DataW.trod_int h0 (hall i hi).2.2.1
      obtain ⟨n1, e1, _, w1⟩ := DataW.trod_int h1 (hall i hi).2.2.2
      simp only [List.cons.injEq, and_true] at e0 e1
      rw [e0, e1]
      exact ⟨rfl, rfl, w0, w1⟩
    have hcell : ∀ i, i < m → arr[off + i * 2]? = some (V0 i) ∧ arr[off + (i * 2 + 1)]? = some (V1 i) := fun i hi => by
      have a0 := (hall i hi).1
      have a1 := (hall i hi).2.1
      rw [addr_add, cell_of_row W b _ arr row fr hw] at a0 a1
      exact ⟨by simpa using a0, by simpa using a1⟩
    refine ⟨(List.range len).map fun i => (numI (V0 i), numI (V1 i)), .inr ⟨b, off, m, arr, row, fr, by simp, hw, by simpa using hl, hm, fun hne => ?_⟩, fun p hp => ?_⟩
    · have hlen : ((List.range len).map fun i => (numI (V0 i), numI (V1 i))).length = len := by simp
      rw [hlen]
      have hpos : 0 < len := by
        cases len with
        | zero => exact absurd rfl hne
        | succ n => omega
      have hsz : off + len * 2 ≤ arr.size := by
        have := (hcell (len - 1) (by omega)).2
        have := (Array.getElem?_eq_some_iff.1 this).1
        omega
      refine ⟨hsz, ?_⟩
      apply List.ext_getElem?
      intro j
      by_cases hj : j < len * 2
      · have hq : j / 2 < len := by omega
        obtain ⟨g0, g1⟩ := flatP_get k0 k1 ((List.range len).map fun i => (numI (V0 i), numI (V1 i))) (j / 2) (by rw [hlen]; exact hq)
        obtain ⟨x0, x1⟩ := hcell (j / 2) (by omega)
        obtain ⟨y0, y1, _⟩ := hint (j / 2) (by omega)
        simp only [List.getElem_map, List.getElem_range] at g0 g1
        rw [List.getElem?_take, if_pos hj, List.getElem?_drop, Array.getElem?_toList]
        rcases Nat.mod_two_eq_zero_or_one j with e | e
        · have ej : j / 2 * 2 = j := by omega
          rw [ej] at g0 x0
          rw [g0, x0, y0]
          rfl
        · have ej : j / 2 * 2 + 1 = j := by omega
          rw [ej] at g1 x1
          rw [g1, x1, y1]
          rfl
      · rw [List.getElem?_take, if_neg hj, List.getElem?_eq_none (by rw [flatP_len, hlen]; omega)]
    · obtain ⟨i, hi, rfl⟩ := List.mem_map.1 hp
      have := List.mem_range.1 hi
      exact ⟨(hint i (by omega)).2.2.1, (hint i (by omega)).2.2.2⟩
theorem pairs_law {P : Program} {ex : FuncId → Option (List Value → Option Value)} (hm : P.follows .mixedOrders = true) (hex : ∀ f g, ex f = some g → ExtOk P f g) {E : Env} (hE : E.Ok P noGl ex) {n : Nat} {f : FuncId} {k0 k1 : IntKind} {rest : List Value} (hr : rest.all gnd = true)
    {W : World} {v : Value} {L : List (Int × Int)} (hv : PairsAt k0 k1 W v L)
    (run : ∀ (s : St) (a : Value), ((L = [] ∧ s = st8) ∨ (L ≠ [] ∧ s = st1 (flatP k0 k1 L))) → ((L = [] ∧ a = .slice none 0 0) ∨ ∃ c, a = .slice (some ⟨0, 0, none⟩) L.length c) → ∃ s', callN E n f (a :: rest) s = some (.bool true, s') ∧ ((s.get 0).isSome = true → (s'.get 0).isSome = true)) :
    Calls P f (v :: rest).toArray W fun e w' => e = .returned (.bool true) ∧ RowKit.Below W.heap.size W w' := by
  have low8 : ∀ x, x < 8 → (st8.get x).isSome = true → False := fun x _ h => by rw [st8_get] at h; cases h
  have low1 : ∀ (c : Blk) (s' : St), ((st1 c).get 0).isSome = true → (s'.get 0).isSome = true → ∀ x, x < 8 → ((st1 c).get x).isSome = true → (s'.get x).isSome = true := fun c s' _ h x hx hs => by
    rw [st1_get] at hs
    by_cases e : x = 0
    · rw [e]; exact h
    · rw [if_neg e] at hs; cases hs
  rcases hv with ⟨rfl, rfl⟩ | ⟨b, off, cap, arr, row, fr, rfl, hw, hl, hc, hcells⟩
  · obtain ⟨s', h1, h2⟩ := run st8 _ (.inl ⟨rfl, rfl⟩) (.inl ⟨rfl, rfl⟩)
    exact ro_true hm hex hE h1 rfl rfl (fun x _ => st8_get x) (fun x hx hs => (low8 x hx hs).elim) (ρ := fun _ => none)
      ⟨fun x b hx hb => (by rw [st8_get] at hb; cases hb), fun x y l m hx hy h => (by rw [st8_get] at h; cases h)⟩ (fun _ _ => rfl) (LR.cons .sliceNil (LR.gnd hr))
  · by_cases hL : L = []
    · obtain ⟨s', h1, h2⟩ := run st8 (.slice (some ⟨0, 0, none⟩) L.length cap) (.inl ⟨hL, rfl⟩) (.inr ⟨_, rfl⟩)
      refine ro_true hm hex hE h1 rfl rfl (fun x _ => st8_get x) (fun x hx hs => (low8 x hx hs).elim) (ρ := fun x => if x = 0 then some ⟨b, off, 0⟩ else none)
        ⟨fun x b hx hb => (by rw [st8_get] at hb; cases hb), fun x y l m hx hy h => (by rw [st8_get] at h; cases h)⟩ (fun x hx => if_neg (by omega)) (LR.cons ?_ (LR.gnd hr))
      exact VRel.slice (ρ := fun x => if x = 0 then some ⟨b, off, 0⟩ else none) (b := 0) (o := 0) (l := ⟨b, off, 0⟩) (if_pos rfl) hl hc (.inl rfl)
    · obtain ⟨hsz, hce⟩ := hcells hL
      obtain ⟨s', h1, h2⟩ := run (st1 (flatP k0 k1 L)) (.slice (some ⟨0, 0, none⟩) L.length cap) (.inr ⟨hL, rfl⟩) (.inr ⟨_, rfl⟩)
      have hs0 : ((st1 (flatP k0 k1 L)).get 0).isSome = true := by rw [st1_get]; rfl
      refine ro_true hm hex hE h1 rfl rfl (fun x hx => by rw [st1_get, if_neg (by omega)]) (low1 _ _ hs0 (h2 hs0)) (ρ := fun x => if x = 0 then some ⟨b, off, arr.size⟩ else none)
        ⟨fun x c hx hb => ?_, fun x y l m hx hy h h' => ?_⟩ (fun x hx => if_neg (by omega)) (LR.cons ?_ (LR.gnd hr))
      · rw [st1_get] at hb
        by_cases e : x = 0
        · rw [if_pos e] at hb
          cases hb
          refine ⟨⟨b, off, arr.size⟩, if_pos e, .inl ⟨arr, row, fr, hw, rfl, by rw [flatP_len]; exact hsz, fun h8 => by omega, ?_⟩⟩
          show CR _ _ ((arr.toList.drop off).take _)
          rw [flatP_len, hce]
          have hg := flatP_gnd1 k0 k1 L
          exact ⟨LR.gnd (List.all_eq_true.2 fun v hv => gnd1_gnd (List.all_eq_true.1 hg v hv)), fun v hv => gnd1_one (List.all_eq_true.1 hg v hv)⟩
        · rw [if_neg e] at hb; cases hb
      · rw [st1_get] at h h'
        by_cases e : x = 0
        · by_cases e' : y = 0
          · intros; omega
          · rw [if_neg e'] at h'; cases h'
        · rw [if_neg e] at h; cases h
      · exact VRel.slice (ρ := fun x => if x = 0 then some ⟨b, off, arr.size⟩ else none) (b := 0) (o := 0) (l := ⟨b, off, arr.size⟩) (if_pos rfl) hl hc (.inl rfl)
end Go.Abs
