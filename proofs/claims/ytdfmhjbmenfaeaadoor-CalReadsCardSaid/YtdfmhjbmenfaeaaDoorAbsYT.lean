import Derived.Test.YtdfmhjbmenfaeaaDoorAbsY
import Derived.Shelf.Strconv.Itoa3
namespace Go.Abs
set_option linter.unusedVariables false
set_option linter.unusedSimpArgs false
/-! strconv.Itoa, by its contract; the table of powers lies in block 0 -/
def powT : List Int := [1, 10, 100, 1000, 10000, 100000, 1000000, 10000000, 100000000, 1000000000, 10000000000, 100000000000, 1000000000000, 10000000000000, 100000000000000, 1000000000000000, 10000000000000000, 100000000000000000, 1000000000000000000, 10000000000000000000]
def tabOk : List Value → List Int → Bool
  | [], [] => true
  | v :: l, n :: m => (match v with | .int k x => (match k with | .u64 => eqI x n && tabOk l m | _ => false) | _ => false)
  | _, _ => false
theorem tabOk_spec : ∀ {l : List Value} {m : List Int}, tabOk l m = true → l = m.map fun z => Value.int .u64 z
  | [], [], _ => rfl
  | [], _ :: _, h => by cases h
  | _ :: _, [], h => by cases h
  | v :: l, n :: m, h => by
    unfold tabOk at h
    split at h
    · split at h
      · rw [Bool.and_eq_true, eqI_eq, decide_eq_true_eq] at h
        rw [List.map_cons, ← tabOk_spec h.2, h.1]
      · cases h
    · cases h
def arg1 {α : Type} (l : List Value) (k : Value → Option α) : Option α := match l with
  | [a] => k a
  | _ => none
theorem arg1_some {α : Type} {l : List Value} {k : Value → Option α} {v : α} (h : arg1 l k = some v) : ∃ a, l = [a] ∧ k a = some v := by
  unfold arg1 at h
  split at h
  · exact ⟨_, rfl, h⟩
  · cases h
noncomputable def itoaK (f0 : FuncId) (rest : FuncId → List Value → St → Option (Value × St)) : FuncId → List Value → St → Option (Value × St) := fun f args s =>
  bif Nat.beq f f0 then arg1 args fun a => opt (i64Of a) fun n => bif Nat.ble n 9223372036854775807 then
    opt (s.getC 0) fun c => bif tabOk c powT then some (.string ⟨(Lib.itoa (n : Int)).toArray⟩, s.seen 0) else none else none
  else rest f args s
theorem itoaK_ok {P : Program} {f0 : FuncId} {rest : FuncId → List Value → St → Option (Value × St)} (hf : FnOk P f0) (hr : RecOk P (gl1 0) rest) (hg : P.globalNamed "internal/strconv.uint64pow10" = some 0)
    (h : ∀ (n : Int), -9223372036854775808 ≤ n → n ≤ 9223372036854775807 → ∀ w : World, Lib.TabIs P w "internal/strconv.uint64pow10" .u64 Lib.pow10Tab →
      Calls P f0 #[.int .i64 n] w fun e w' => e = .returned (.string ⟨(Lib.itoa n).toArray⟩) ∧ ∃ k os, w' = Sort.grow (w.drewN k) os) : RecOk P (gl1 0) (itoaK f0 rest) := by
  intro f args s v s' hk hso
  unfold itoaK at hk
  rw [beq_eq'] at hk
  by_cases hff : f = f0
  · subst hff
    simp only [decide_true, cond_true] at hk
    obtain ⟨a, rfl, hk⟩ := arg1_some hk
    obtain ⟨n, hn, hk⟩ := opt_k hk
    rw [cond_some, ble_eq', decide_eq_true_eq] at hk
    obtain ⟨hb, hk⟩ := hk
    obtain ⟨c, hc, hk⟩ := opt_k hk
    rw [cond_some] at hk
    obtain ⟨ht, hk⟩ := hk
    cases hk
    obtain rfl := i64Of_some hn
    refine ⟨hf, AStep.seen s 0, fun ρ Y w args' cx har => ?_⟩
    obtain ⟨x, l1, rfl, hx, har⟩ := har.cons_inv
    obtain rfl := har.nil_inv
    obtain rfl := hx.int_inv
    have hg0 : gl1 0 0 = true := rfl
    have hY : Y 0 := cx.seen (St.getC_get hc) (.inl (seen_bit s 0))
    obtain ⟨l, hl, hbr⟩ := cx.rel.blk 0 c hY (St.getC_get hc)
    rw [cx.groom 0 hg0] at hl
    cases hl
    obtain ⟨cells, e, fr, hcc, hcs, hcb, _, hcr⟩ := hbr.cells (St.getC_some hc).2
    have hce := tabOk_spec ht
    have hlen : c.length = 20 := by rw [hce]; rfl
    have hsz : cells.size = 20 := hcs
    have harr : cells.toList = powT.map fun z => Value.int .u64 z := by
      have h1 := hcr.1
      rw [List.drop_zero, List.take_of_length_le (by rw [hlen]; simp [hsz])] at h1
      rw [hce] at h1
      apply List.ext_getElem?
      intro i
      by_cases hi : i < 20
      · have a1 : i < (powT.map fun z => Value.int .u64 z).length := by simpa [powT] using hi
        have a2 : i < cells.toList.length := by simpa [hsz] using hi
        have := h1.2 i _ _ (List.getElem?_eq_getElem a1) (List.getElem?_eq_getElem a2)
        rw [List.getElem?_eq_getElem a1, List.getElem?_eq_getElem a2]
        rw [List.getElem_map] at this ⊢
        rw [this.int_inv]
      · rw [List.getElem?_eq_none (by simp [hsz]; omega), List.getElem?_eq_none (by simp [powT]; omega)]
    have htab : Lib.TabIs P w "internal/strconv.uint64pow10" .u64 Lib.pow10Tab := by
      unfold Lib.TabIs World.var?
      rw [hg, Option.bind_some, hcc]
      have hp : Lib.pow10Tab = powT := by decide
      rw [hp, ← harr]
    refine (h n (by omega) (by omega) w htab).mono fun e w' ⟨he, k, os, hw⟩ => ?_
    refine ⟨ρ, _, he, .string _, ?_⟩
    have hbel : RowKit.Below w.heap.size w w' := by
      subst hw
      have hd : ∀ k (w : World), (w.drewN k).heap = w.heap ∧ (w.drewN k).os = w.os ∧ (w.drewN k).tape = w.tape ∧ (w.drewN k).output = w.output := by
        intro k
        induction k with
        | zero => intro w; exact ⟨rfl, rfl, rfl, rfl⟩
        | succ k ih => intro w; exact ih w.drew
      obtain ⟨d1, d2, d3, d4⟩ := hd k w
      refine ⟨d2, d3, d4, ?_, fun q hq => ?_⟩
      · show w.heap.size ≤ ((w.drewN k).heap ++ os).size
        rw [d1]; simp
      · show ((w.drewN k).heap ++ os)[q]? = _
        rw [d1, Array.getElem?_append_left hq]
    exact (Good.below (cx.of_same (seen_heap s 0) (St.seen_next s 0)).rel hbel).of_same (seen_heap s 0) (St.seen_next s 0)
  · simp only [hff, decide_false, cond_false] at hk
    exact hr f args s v s' hk hso
end Go.Abs
