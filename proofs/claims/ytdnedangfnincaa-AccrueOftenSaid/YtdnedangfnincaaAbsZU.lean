import Derived.Test.YtdnedangfnincaaAbsZT
import Derived.Deep.Strs
namespace Go.Abs
set_option linter.unusedVariables false
set_option linter.unusedSimpArgs false
/-! a law that is given two slices, that may lie in one block -/
noncomputable def st2 (c0 c1 : Option Blk) : St := ⟨T.put 40 (T.put 40 .nil 0 c0) 1 c1, 8, 0, 0⟩
theorem st2_get (c0 c1 : Option Blk) (x : Nat) : (st2 c0 c1).get x = if x = 1 then c1 else if x = 0 then c0 else none := by
  show (T.put 40 (T.put 40 .nil 0 c0) 1 c1).get x = _
  by_cases e : x = 1
  · subst e; simp only [if_true]; exact T.get_put_same 40 _ _ _ (by omega)
  · rw [if_neg e, T.get_put_ne 40 _ _ _ _ e]
    by_cases e0 : x = 0
    · subst e0; simp only [if_true]; exact T.get_put_same 40 _ _ _ (by omega)
    · rw [if_neg e0, T.get_put_ne 40 _ _ _ _ e0]; exact T.get_nil x
theorem slc_pick (k : Nat) (hk : k < 8) {es n : Nat} {flat : List Value} (hfl : flat.length = n * es) (hfg : flat.all gnd1 = true) {W : World} {v : Value} (hv : SlcIn es n flat W v) :
    ∃ (a : Value) (r : Option Loc), ((n = 0 ∧ a = .slice none 0 0) ∨ ∃ c, a = .slice (some ⟨k, 0, none⟩) n c) ∧ (∀ ρ : Ren, ρ k = r → VRel ρ a v) ∧ (n ≠ 0 → ∃ l, r = some l ∧ ∀ ρ : Ren, BRel (8 ≤ k) ρ flat l W) := by
  rcases hv with ⟨rfl, rfl⟩ | ⟨b, off, cap, arr, row, fr, rfl, hw, hl, hc, hcells⟩
  · exact ⟨_, none, .inl ⟨rfl, rfl⟩, fun ρ _ => .sliceNil, fun h => absurd rfl h⟩
  · refine ⟨.slice (some ⟨k, 0, none⟩) n cap, some ⟨b, off, arr.size⟩, .inr ⟨cap, rfl⟩, fun ρ hρ => ?_, fun hn => ⟨_, rfl, fun ρ => ?_⟩⟩
    · exact VRel.slice (ρ := ρ) (b := k) (o := 0) (l := ⟨b, off, arr.size⟩) hρ hl hc (.inl rfl)
    · obtain ⟨hsz, hce⟩ := hcells hn
      refine .inl ⟨arr, row, fr, hw, rfl, by rw [hfl]; exact hsz, fun h8 => by omega, ?_⟩
      show CR _ _ ((arr.toList.drop off).take _)
      rw [hfl, hce]
      exact ⟨LR.gnd (List.all_eq_true.2 fun v hv => gnd1_gnd (List.all_eq_true.1 hfg v hv)), fun v hv => gnd1_one (List.all_eq_true.1 hfg v hv)⟩
def blkIf (n : Nat) (flat : List Value) : Option Blk := if n = 0 then none else some flat
theorem slc2_law {P : Program} {ex : FuncId → Option (List Value → Option Value)} (hm : P.follows .mixedOrders = true) (hex : ∀ f g, ex f = some g → ExtOk P f g) {E : Env} (hE : E.Ok P noGl ex) {m : Nat} {f : FuncId} {es n es' n' : Nat} {flat flat' pre rest : List Value} (hp : pre.all gnd = true) (hr : rest.all gnd = true)
    (hfl : flat.length = n * es) (hfg : flat.all gnd1 = true) (hfl' : flat'.length = n' * es') (hfg' : flat'.all gnd1 = true) {W : World} {v v' : Value} (hv : SlcIn es n flat W v) (hv' : SlcIn es' n' flat' W v')
    (run : ∀ (s : St) (a a' : Value), s = st2 (blkIf n flat) (blkIf n' flat') → ((n = 0 ∧ a = .slice none 0 0) ∨ ∃ c, a = .slice (some ⟨0, 0, none⟩) n c) → ((n' = 0 ∧ a' = .slice none 0 0) ∨ ∃ c, a' = .slice (some ⟨1, 0, none⟩) n' c) →
      ∃ s', callN E m f (pre ++ a :: a' :: rest) s = some (.bool true, s') ∧ ((s.get 0).isSome = true → (s'.get 0).isSome = true) ∧ ((s.get 1).isSome = true → (s'.get 1).isSome = true)) :
    Calls P f (pre ++ v :: v' :: rest).toArray W fun e w' => e = .returned (.bool true) ∧ RowKit.Below W.heap.size W w' := by
  obtain ⟨a, r, h1, h2, h3⟩ := slc_pick 0 (by omega) hfl hfg hv
  obtain ⟨a', r', h1', h2', h3'⟩ := slc_pick 1 (by omega) hfl' hfg' hv'
  obtain ⟨s', q1, q2, q3⟩ := run _ a a' rfl h1 h1'
  have low : ∀ x, ((st2 (blkIf n flat) (blkIf n' flat')).get x).isSome = true → x = 0 ∨ x = 1 := fun x hx => by
    rw [st2_get] at hx
    by_cases e : x = 1
    · exact .inr e
    · by_cases e0 : x = 0
      · exact .inl e0
      · rw [if_neg e, if_neg e0] at hx; cases hx
  refine ro_true hm hex hE q1 rfl rfl (fun x hx => by rw [st2_get, if_neg (by omega), if_neg (by omega)]) (fun x hx hs => ?_) (ρ := fun x => if x = 0 then r else if x = 1 then r' else none)
    ⟨fun x c hx hb => ?_, fun x y l m hx hy hsx hsy _ _ _ hor => ?_⟩ (fun x hx => by show (if x = 0 then r else if x = 1 then r' else none) = none; rw [if_neg (by omega), if_neg (by omega)]) ((LR.gnd hp).append (LR.cons (h2 _ (if_pos rfl)) (LR.cons (h2' _ rfl) (LR.gnd hr))))
  · rcases low x hs with rfl | rfl
    · exact q2 hs
    · exact q3 hs
  · rcases low x (by rw [hb]; rfl) with rfl | rfl
    · rw [st2_get] at hb
      have hb : blkIf n flat = some c := hb
      unfold blkIf at hb
      by_cases hn : n = 0
      · rw [if_pos hn] at hb; cases hb
      · rw [if_neg hn] at hb
        cases hb
        obtain ⟨l, hl, hbr⟩ := h3 hn
        exact ⟨l, (if_pos rfl).trans hl, hbr _⟩
    · rw [st2_get] at hb
      have hb : blkIf n' flat' = some c := hb
      unfold blkIf at hb
      by_cases hn : n' = 0
      · rw [if_pos hn] at hb; cases hb
      · rw [if_neg hn] at hb
        cases hb
        obtain ⟨l, hl, hbr⟩ := h3' hn
        exact ⟨l, hl, hbr _⟩
  · have := low x hsx; have := low y hsy
    omega
/-- cells of triples of whole numbers -/
def flatT (k0 k1 k2 : IntKind) : List (Int × Int × Int) → List Value
  | [] => []
  | x :: l => .int k0 x.1 :: .int k1 x.2.1 :: .int k2 x.2.2 :: flatT k0 k1 k2 l
theorem flatT_len (k0 k1 k2 : IntKind) : ∀ l, (flatT k0 k1 k2 l).length = l.length * 3
  | [] => rfl
  | x :: l => by
    have := flatT_len k0 k1 k2 l
    simp only [flatT, List.length_cons, this]; omega
theorem flatT_gnd1 (k0 k1 k2 : IntKind) : ∀ l, (flatT k0 k1 k2 l).all gnd1 = true
  | [] => rfl
  | x :: l => by
    simp only [flatT, List.all_cons, flatT_gnd1 k0 k1 k2 l]
    rfl
theorem flatT_get (k0 k1 k2 : IntKind) : ∀ (l : List (Int × Int × Int)) (i : Nat) (h : i < l.length), (flatT k0 k1 k2 l)[i * 3]? = some (.int k0 l[i].1) ∧ (flatT k0 k1 k2 l)[i * 3 + 1]? = some (.int k1 l[i].2.1) ∧ (flatT k0 k1 k2 l)[i * 3 + 2]? = some (.int k2 l[i].2.2)
  | x :: l, 0, _ => ⟨rfl, rfl, rfl⟩
  | x :: l, i + 1, h => by
    have := flatT_get k0 k1 k2 l i (by simpa using h)
    rw [show (i + 1) * 3 = i * 3 + 1 + 1 + 1 by omega]
    simpa [flatT] using this
theorem triples_in {H : Type} {enc : TypeId × Value → H} {P : Program} {W : World} {t e : TypeId} {f0 f1 f2 : Field} {k0 k1 k2 : IntKind} {v : Value} {d : DataW H} {ps : List MemPlace} {base : Nat} (ht : P.underlying t = some (.slice e)) (he : P.underlying e = some (.struct #[f0, f1, f2]))
    (ce : P.cellsOf e = 3) (o0 : f0.offset = 0) (o1 : f1.offset = 1) (o2 : f2.offset = 2) (c0 : P.cellsOf f0.type = 1) (c1 : P.cellsOf f1.type = 1) (c2 : P.cellsOf f2.type = 1)
    (h0 : P.underlying f0.type = some (.int k0)) (h1 : P.underlying f1.type = some (.int k1)) (h2 : P.underlying f2.type = some (.int k2))
    (hval : Value.okWide P W .any base t v) (h : DataW.Trod enc P W 0 (fun _ => true) true t v d ps) :
    ∃ L : List (Int × Int × Int), SlcIn 3 L.length (flatT k0 k1 k2 L) W v ∧ ∀ x ∈ L, (Lit.int k0 x.1).wf = true ∧ (Lit.int k1 x.2.1).wf = true ∧ (Lit.int k2 x.2.2).wf = true := by
  obtain ⟨fuel, h⟩ := h
  unfold Value.okWide at hval
  rw [ht] at hval
  unfold Cell.okWide Cell.ok at hval
  rw [ht] at hval
  have hcells : v.cells.toList = [v] := by
    cases v <;> first | rfl | (simp at hval)
  rw [hcells] at h
  rcases Go.Deep.open_slice ht h with ⟨hc, _⟩ | ⟨a, len, cap, m, n, D, Pl, hc, _, hl, hm, hmm, _, hx⟩
  · simp only [List.cons.injEq, and_true] at hc
    exact ⟨[], .inl ⟨hc, rfl⟩, fun p hp => by cases hp⟩
  · simp only [List.cons.injEq, and_true] at hc
    subst hc
    simp only [if_true] at hmm
    subst hmm
    have hh : ∃ arr row fr, a.spot = none ∧ W.heap[a.block]? = some (.cells arr row fr) := by
      simp only at hval
      obtain ⟨_, _, _, hs, row, cells, hsh, _⟩ := hval
      unfold World.shape? at hsh
      cases hw : W.heap[a.block]? with
      | none => rw [hw] at hsh; cases hsh
      | some o =>
        cases o with
        | cells arr row fr => exact ⟨arr, row, fr, hs, rfl⟩
        | _ => rw [hw] at hsh; cases hsh
    obtain ⟨arr, row, fr, hs, hw⟩ := hh
    obtain ⟨b, off, spot⟩ := a
    simp only at hs hw
    subst hs
    have each : ∀ i, i < m → ∃ x : Int × Int × Int, arr[off + i * 3]? = some (.int k0 x.1) ∧ arr[off + (i * 3 + 1)]? = some (.int k1 x.2.1) ∧ arr[off + (i * 3 + 2)]? = some (.int k2 x.2.2) ∧ (Lit.int k0 x.1).wf = true ∧ (Lit.int k1 x.2.1).wf = true ∧ (Lit.int k2 x.2.2).wf = true := by
      intro i hi
      obtain ⟨cs', g1, g2⟩ := hx i hi
      rw [ce] at g1
      obtain ⟨_, hlen, hcell⟩ := World.cells?_some g1
      obtain ⟨y0, y1, y2, n', _, _, t0, t1, t2⟩ := Go.Deep.trod_struct3 he g2
      match cs', hlen with
      | [v0, v1, v2], _ =>
        simp [o0, o1, o2, c0, c1, c2] at t0 t1 t2
        obtain ⟨x0, e0, _, w0⟩ := DataW.trod_int h0 t0
        obtain ⟨x1, e1, _, w1⟩ := DataW.trod_int h1 t1
        obtain ⟨x2, e2, _, w2⟩ := DataW.trod_int h2 t2
        simp only [List.cons.injEq, and_true] at e0 e1 e2
        have q0 := hcell 0 (by omega)
        have q1 := hcell 1 (by omega)
        have q2 := hcell 2 (by omega)
        simp only [addr_add, cell_of_row W b _ arr row fr hw] at q0 q1 q2
        refine ⟨(x0, x1, x2), ?_, ?_, ?_, w0, w1, w2⟩
        · rw [← e0]; simpa [Nat.add_assoc] using q0
        · rw [← e1]; simpa [Nat.add_assoc] using q1
        · rw [← e2]; simpa [Nat.add_assoc] using q2
    obtain ⟨q, hq⟩ := Go.Deep.choose_lt each
    have hlen : ((List.range len).map q).length = len := by simp
    refine ⟨(List.range len).map q, .inr ⟨b, off, m, arr, row, fr, by rw [hlen], hw, by omega, hm, fun hne => ?_⟩, fun x hx' => ?_⟩
    · rw [hlen] at hne ⊢
      have hsz : off + len * 3 ≤ arr.size := by
        have := (hq (len - 1) (by omega)).2.2.1
        have := (Array.getElem?_eq_some_iff.1 this).1
        omega
      refine ⟨hsz, ?_⟩
      apply List.ext_getElem?
      intro j
      by_cases hj : j < len * 3
      · have hjl : j / 3 < len := by omega
        obtain ⟨g0, g1, g2⟩ := flatT_get k0 k1 k2 ((List.range len).map q) (j / 3) (by rw [hlen]; exact hjl)
        obtain ⟨x0, x1, x2, _⟩ := hq (j / 3) (by omega)
        simp only [List.getElem_map, List.getElem_range] at g0 g1 g2
        rw [List.getElem?_take, if_pos hj, List.getElem?_drop, Array.getElem?_toList]
        rcases (show j = j / 3 * 3 ∨ j = j / 3 * 3 + 1 ∨ j = j / 3 * 3 + 2 by omega) with e | e | e
        · rw [← e] at g0 x0; rw [g0, x0]
        · rw [← e] at g1 x1; rw [g1, x1]
        · rw [← e] at g2 x2; rw [g2, x2]
      · rw [List.getElem?_take, if_neg hj, List.getElem?_eq_none (by rw [flatT_len, hlen]; omega)]
    · obtain ⟨i, hi, rfl⟩ := List.mem_map.1 hx'
      exact (hq i (by have := List.mem_range.1 hi; omega)).2.2.2
end Go.Abs
