import Derived.Test.YtdnedangfnincaaAbsJ
namespace Go.Abs
set_option linter.unusedVariables false
set_option linter.unusedSimpArgs false
section
variable {P : Program} {gl : Nat → Bool} {o : Oper}

theorem St.read_some {s s' : St} {b o n : Nat} {c : List Value} (h : s.read b o n = some (c, s')) : ∃ blk, s.getC b = some blk ∧ o + n ≤ blk.length ∧ c = (blk.drop o).take n ∧ s' = s.seen b := by
  unfold St.read at h
  obtain ⟨blk, hb, h⟩ := opt_k h
  rw [cond_some, ble_eq', lenN_eq] at h
  obtain ⟨h1, h2⟩ := h
  cases h2
  exact ⟨blk, hb, of_decide_eq_true h1, by rw [takeN_eq, dropN_eq], rfl⟩
theorem St.write_some {s s' : St} {b o : Nat} {vs : List Value} (h : s.write b o vs = some s') : ∃ blk, s.getC b = some blk ∧ o + vs.length ≤ blk.length ∧ s' = s.set b (some (blk.take o ++ (vs ++ blk.drop (o + vs.length)))) := by
  unfold St.write at h
  obtain ⟨blk, hb, h⟩ := opt_k h
  rw [cond_some, ble_eq', lenN_eq, lenN_eq, forceL_eq] at h
  obtain ⟨h1, h2⟩ := h
  cases h2
  exact ⟨blk, hb, of_decide_eq_true h1, by rw [app_eq, app_eq, takeN_eq, dropN_eq]⟩
theorem AStep.read {s s' : St} {b o n : Nat} {c : List Value} (h : s.read b o n = some (c, s')) : AStep s s' := by
  obtain ⟨blk, _, _, _, rfl⟩ := St.read_some h; exact AStep.seen s b
theorem Ctx.lt {ρ : Ren} {Y : Nat → Prop} {s s' : St} {w : World} (c : Ctx gl ρ Y s s' w) {x : Nat} {b : Blk} (h : s.get x = some b) : x < s.next := by
  rcases Nat.lt_or_ge x s.next with h1 | h1
  · exact h1
  · rw [c.dead x h1] at h; cases h
theorem Ctx.seen {ρ : Ren} {Y : Nat → Prop} {s s' : St} {w : World} (c : Ctx gl ρ Y s s' w) {x : Nat} {b : Blk} (h : s.get x = some b) (hr : s'.rd.testBit x = true ∨ s'.wr.testBit x = true) : Y x := c.foot x (c.lt h) hr
theorem seen_bit (s : St) (x : Nat) : (s.seen x).rd.testBit x = true := by rw [St.seen_rd, testBit_lor, testBit_bit]; simp
theorem set_bit (s : St) (x : Nat) (b : Option Blk) : (s.set x b).wr.testBit x = true := by rw [St.set_wr, testBit_lor, testBit_bit]; simp

/-- cells read -/
theorem run_cells {ρ : Ren} {Y : Nat → Prop} {s : St} {w : World} (h : HRel ρ Y s w) {x : Nat} {b : Blk} {l : Loc} (hx : Y x) (hb : s.getC x = some b) (hl : ρ x = some l) {o n : Nat} (hle : o + n ≤ b.length) :
    ∃ arr : Array Value, (loadCells ⟨l.blk, l.base + o, none⟩ n).run P w = .ok arr w ∧ CR ρ ((b.drop o).take n) arr.toList ∧ ∀ (j : Nat) (v : Value), arr.toList[j]? = some v → w.cell? ((⟨l.blk, l.base + o, none⟩ : Addr).add j) = some v := by
  obtain ⟨m, hm, hbr⟩ := h.blk x b hx (St.getC_get hb)
  obtain ⟨cells, e, fr, hc, hs, hbl, hf, hr⟩ := hbr.cells (St.getC_some hb).2
  rw [hl] at hm; cases hm
  have hlen : ((cells.toList.drop (l.base + o)).take n).length = n := by simp; omega
  refine ⟨((cells.toList.drop (l.base + o)).take n).toArray, ?_, ?_, ?_⟩
  · have := run_loadCells_list (P := P) w ⟨l.blk, l.base + o, none⟩ ((cells.toList.drop (l.base + o)).take n) (fun j v hv => by
      rw [addr_add, cell_of_row w l.blk _ cells e fr hc]
      rw [List.getElem?_take] at hv
      split at hv
      · simpa [Nat.add_assoc] using hv
      · cases hv)
    rw [hlen] at this
    exact this
  · have := (hr.drop o).take n
    rw [List.drop_take, List.drop_drop, List.take_take] at this
    have e1 : min n (b.length - o) = n := by omega
    rw [e1] at this
    exact this
  · intro j v hv
    rw [addr_add, cell_of_row w l.blk _ cells e fr hc]
    simp only at hv
    rw [List.getElem?_take] at hv
    split at hv
    · simpa [Nat.add_assoc] using hv
    · cases hv
theorem run_cell {ρ : Ren} {Y : Nat → Prop} {s : St} {w : World} (h : HRel ρ Y s w) {x : Nat} {b : Blk} {l : Loc} (hx : Y x) (hb : s.getC x = some b) (hl : ρ x = some l) {o : Nat} {v : Value} (hv : b[o]? = some v) :
    ∃ v', w.cell? ⟨l.blk, l.base + o, none⟩ = some v' ∧ VRel ρ v v' ∧ one v = true := by
  obtain ⟨m, hm, hbr⟩ := h.blk x b hx (St.getC_get hb)
  obtain ⟨cells, e, fr, hc, hs, hbl, hf, hr⟩ := hbr.cells (St.getC_some hb).2
  rw [hl] at hm; cases hm
  obtain ⟨y, hy, hrel⟩ := hr.1.get hv
  refine ⟨y, ?_, hrel, hr.2 v (List.mem_of_getElem? hv)⟩
  rw [cell_of_row w l.blk _ cells e fr hc]
  rw [List.getElem?_take] at hy
  split at hy
  · simpa using hy
  · cases hy

theorem ok_load1 {t : TypeId} {x : Operand} (ho : o.op = .load t x) (ht : isAggT P t = some false) : OpOk P gl o (oLoad1 (cA x)) := by
  intro rec _ fs s v s' hF hso
  unfold oLoad1 at hF
  split at hF
  · rename_i p hb
    obtain ⟨c, hc, hF⟩ := opt_k hF
    obtain ⟨r, hr, hF⟩ := opt_k hF
    cases hF
    refine ⟨AStep.seen _ _, fun ρ Y w a cx ha K Q hK => ?_⟩
    rw [ho] at ha
    have hx := (args1 ha).1
    rw [hb] at hx
    obtain ⟨l, hsp, hl, hx⟩ := hx.ptr_inv
    have hY := cx.seen (St.getC_get hc) (.inl (seen_bit s p.block))
    rw [nth_eq] at hr
    obtain ⟨v', hv, hrel, _⟩ := run_cell cx.rel hY hc hl hr
    refine wp_value (v' := v') (w' := w) ?_ (hK ρ v' w hrel (Good.seen cx.rel _))
    unfold execOp; rw [ho]
    simp [Instr.loadAt, hx, Instr.sureAddr, loadVar, run_isAgg ht, hv]
  · cases hF
theorem ok_loadN {t : TypeId} {n : Nat} {x : Operand} (ho : o.op = .load t x) (ht : isAggT P t = some true) (hn : sizeT P t = some n) : OpOk P gl o (oLoadN n (cA x)) := by
  intro rec _ fs s v s' hF hso
  unfold oLoadN at hF
  split at hF
  · rename_i p hb
    obtain ⟨c, s1, hc, hF⟩ := opt2_k hF
    cases hF
    refine ⟨AStep.read hc, fun ρ Y w a cx ha K Q hK => ?_⟩
    obtain ⟨blk, hg, hle, rfl, rfl⟩ := St.read_some hc
    rw [ho] at ha
    have hx := (args1 ha).1
    rw [hb] at hx
    obtain ⟨l, hsp, hl, hx⟩ := hx.ptr_inv
    have hY := cx.seen (St.getC_get hg) (.inl (seen_bit s p.block))
    obtain ⟨arr, hrun, hrel, _⟩ := run_cells (P := P) cx.rel hY hg hl hle
    refine wp_value (v' := .agg arr) (w' := w) ?_ (hK ρ _ w (by simpa using VRel.agg_of hrel) (Good.seen cx.rel _))
    unfold execOp; rw [ho]
    simp [Instr.loadAt, hx, Instr.sureAddr, loadVar, run_isAgg ht, run_size hn, hrun]
  · cases hF

/-! cells stored -/
theorem run_store_cells (P : Program) (g o : Nat) (t : TypeId) (fz : Nat × Nat) : ∀ (vs : List Value) (i : Nat) (cur : Array Value) (w : World), w.heap[g]? = some (.cells cur t fz) → (∀ j, j < cur.size → ¬ (fz.1 ≤ j ∧ j < fz.2)) → o + i + vs.length ≤ cur.size → (∀ v ∈ vs, v.oneCell' = true) →
    (storeCells ⟨g, o, none⟩ vs i).run P w = .ok () (w.setRow g (cur.toList.take (o + i) ++ vs ++ cur.toList.drop (o + i + vs.length)).toArray)
  | [], i, cur, w, hg, _, _, _ => by
    simp only [storeCells, List.append_nil, List.length_nil, Nat.add_zero, List.take_append_drop, Array.toArray_toList]
    rw [setRow_self w g cur t fz hg]
    rfl
  | v :: rest, i, cur, w, hg, hfz, hl, h1 => by
    have hi : o + i < cur.size := by simp at hl; omega
    have hcell : w.cell? ⟨g, o + i, none⟩ = some cur[o + i] := by simp [World.cell?, hg, hi]
    have hfro : w.frozen? ⟨g, o + i, none⟩ = false := by
      obtain ⟨lo, hi'⟩ := fz
      have := hfz (o + i) hi
      simp only [World.frozen?, hg]
      simpa using this
    have hst : (store ((⟨g, o, none⟩ : Addr).add i) v).run P w = .ok () (w.setRow g (cur.setIfInBounds (o + i) v)) := by
      rw [addr_add, run_store P w _ v _ (h1 v (by simp)), hcell]
      simp [hfro, setCell_eq_setRow w g (o + i) cur t fz v hg]
    have ih := run_store_cells P g o t fz rest (i + 1) (cur.setIfInBounds (o + i) v) (w.setRow g (cur.setIfInBounds (o + i) v)) (setRow_heap w g cur _ t _ hg) (by simpa using hfz) (by simp at hl ⊢; omega) (fun x hx => h1 x (by simp [hx]))
    simp only [storeCells, Sem.run_bind, hst, Result.andThen_ok, ih, setRow_setRow]
    congr 3
    have e := list_seg_step cur.toList (o + i) v rest (by simp at hl ⊢; omega)
    simpa [Array.toList_setIfInBounds, Nat.add_assoc] using e
/-- cells written where the machine writes them -/
theorem run_put {ρ : Ren} {Y : Nat → Prop} {s s' : St} {w : World} (top : s.next ≤ lim + 1) (yok : ∀ x, Y x → x < s.next) (h : HRel ρ Y s w) {x o : Nat} (h8 : 8 ≤ x) {l : Loc} {vs vs' : List Value} (hw : s.write x o vs = some s') (hx : Y x) (hl : ρ x = some l) (hv : CR ρ vs vs') :
    ∃ w', (storeCells ⟨l.blk, l.base + o, none⟩ vs').run P w = .ok () w' ∧ Good ρ ρ Y s s' w w' := by
  obtain ⟨b, hb, hle, rfl⟩ := St.write_some hw
  obtain ⟨m, hm, hbr⟩ := h.blk x b hx (St.getC_get hb)
  obtain ⟨cells, e, fr, hc, hs, hbl, hf, hr⟩ := hbr.cells (St.getC_some hb).2
  rw [hl] at hm; cases hm
  replace hf := hf h8
  have hvl : vs'.length = vs.length := hv.1.1.symm
  refine ⟨_, run_store_cells P l.blk (l.base + o) e fr vs' 0 cells w hc (fun j hj => hf j (by omega)) (by simp; omega) hv.one', ?_⟩
  have hlen : (b.take o ++ (vs ++ b.drop (o + vs.length))).length = b.length := by simp; omega
  refine Good.write top yok h h8 hx (St.getC_get hb) hl hc hf (setRow_heap w l.blk cells _ e fr hc) (by simp; omega) (by rw [hlen]; exact hbl) ?_ (fun k hk => setRow_other w l.blk k _ hk) (setRow_size w l.blk _) rfl rfl rfl
  have e1 : (((cells.toList.take (l.base + o + 0) ++ vs' ++ cells.toList.drop (l.base + o + 0 + vs'.length)).toArray.toList.drop l.base).take (b.take o ++ (vs ++ b.drop (o + vs.length))).length) =
      (((cells.toList.drop l.base).take b.length).take o) ++ (vs' ++ ((cells.toList.drop l.base).take b.length).drop (o + vs.length)) := by
    rw [hlen]
    apply List.ext_getElem?
    intro j
    simp only [List.toList_toArray, List.getElem?_take, List.getElem?_drop, List.getElem?_append, List.length_append, List.length_take, List.length_drop, Array.length_toList, Nat.add_zero, hvl]
    by_cases hj : j < b.length
    · simp only [hj, if_true]
      by_cases h1 : j < o
      · have a1 : l.base + j < min (l.base + o) cells.size := by omega
        have a2 : l.base + j < min (l.base + o) cells.size + vs.length := by omega
        have a3 : j < min o (min b.length (cells.size - l.base)) := by omega
        have a4 : l.base + j < l.base + o := by omega
        simp [h1, a1, a2, a3, a4, hj]
      · by_cases h2 : j < o + vs.length
        · have a1 : ¬ l.base + j < min (l.base + o) cells.size := by omega
          have a2 : l.base + j < min (l.base + o) cells.size + vs.length := by omega
          have a3 : ¬ j < min o (min b.length (cells.size - l.base)) := by omega
          have a4 : j - min o (min b.length (cells.size - l.base)) < vs.length := by omega
          have a5 : l.base + j - min (l.base + o) cells.size = j - min o (min b.length (cells.size - l.base)) := by omega
          simp only [a1, a2, a3, a4, a5, if_true, if_false]
        · have a1 : ¬ l.base + j < min (l.base + o) cells.size := by omega
          have a2 : ¬ l.base + j < min (l.base + o) cells.size + vs.length := by omega
          have a3 : ¬ j < min o (min b.length (cells.size - l.base)) := by omega
          have a4 : ¬ j - min o (min b.length (cells.size - l.base)) < vs.length := by omega
          have a6 : o + vs.length + (j - min o (min b.length (cells.size - l.base)) - vs.length) < b.length := by omega
          have a7 : l.base + o + vs.length + (l.base + j - (min (l.base + o) cells.size + vs.length)) = l.base + (o + vs.length + (j - min o (min b.length (cells.size - l.base)) - vs.length)) := by omega
          simp only [a1, a2, a3, a4, a6, if_true, if_false, a7]
    · simp only [hj, if_false]
      have a3 : ¬ j < min o (min b.length (cells.size - l.base)) := by omega
      have a4 : ¬ j - min o (min b.length (cells.size - l.base)) < vs.length := by omega
      have a6 : ¬ o + vs.length + (j - min o (min b.length (cells.size - l.base)) - vs.length) < b.length := by omega
      simp only [a3, a4, a6, if_false]
  rw [e1]
  exact (hr.take o).append (hv.append (hr.drop (o + vs.length)))
theorem AStep.write {s s' : St} {b o : Nat} {vs : List Value} (h : s.write b o vs = some s') (hs : SOk s) : AStep s s' := by
  obtain ⟨blk, hg, _, rfl⟩ := St.write_some h
  exact AStep.set s b _ (hs.lt40 (St.getC_get hg)) (by rw [St.getC_get hg]; rfl)
theorem ok_store {t : TypeId} {n : Nat} {x y : Operand} (ho : o.op = .store t x y) (hn : sizeT P t = some n) (h0 : n ≠ 0) : OpOk P gl o (oStore n (cA x) (cA y)) := by
  intro rec _ fs s v s' hF hso
  unfold oStore at hF
  split at hF
  · rename_i p hb
    rw [cond_some, beq_eq', lenN_eq] at hF
    obtain ⟨hlen, hF⟩ := hF
    have hlen' := of_decide_eq_true hlen
    obtain ⟨s1, hw, hF⟩ := opt_k hF
    cases hF
    refine ⟨AStep.write hw hso, fun ρ Y w a cx ha K Q hK => ?_⟩
    rw [ho] at ha
    obtain ⟨hx, ha⟩ := args1 ha
    have hy := (args1 ha).1
    rw [hb] at hx
    obtain ⟨l, hsp, hl, hx⟩ := hx.ptr_inv
    obtain ⟨blk, hg, _, he⟩ := St.write_some hw
    have hY : Y p.block := cx.seen (St.getC_get hg) (.inr (by rw [he]; exact set_bit _ _ _))
    have hcs := hy.cells (by intro e; rw [e] at hlen'; simp at hlen'; omega)
    obtain ⟨w', hrun, good⟩ := run_put (P := P) cx.top cx.yok cx.rel (cx.high (by rw [he]; exact set_bit _ _ _)) hw hY hl hcs
    refine wp_skipped (w' := w') ?_ (hK ρ undef w' (.any _) good)
    have hsz : (a.eval y).cells.size = n := by have := hcs.1.1; rw [hlen'] at this; simpa using this.symm
    unfold execOp; rw [ho]
    simp only [Instr.storeAt, hx, Instr.sureAddr, storeVar, Sem.run_bind, Sem.run_pure, Result.andThen_ok, run_size hn, hsz, ne_eq, not_true, if_false, hrun]
  · cases hF

/-! new memory -/
theorem Good.new {ρ : Ren} {Y : Nat → Prop} {s s' : St} {w : World} {n : Nat} {b : Blk} {cells : Array Value} (elem : TypeId)
    (yok : ∀ x, Y x → x < s.next) (hρ : ρ s.next = none) (h : HRel ρ Y s w) (ha : s.alloc b = some (n, s')) (hr : CR ρ b cells.toList) :
    Good ρ (ρ.upd s.next ⟨w.heap.size, 0, cells.size⟩) Y s s' w { w with heap := w.heap.push (.cells cells elem) } :=
  Good.alloc (elem := elem) (fr := (0, 0)) yok hρ h ha (fun k hk => by simp [Array.getElem?_push, Nat.ne_of_lt hk]) (by simp) (by simp) (fun i _ => by simp) (by have := hr.1.1; simp at this; omega)
    (by have e : b.length = cells.toList.length := hr.1.1
        rw [e, List.take_length]; exact hr) rfl rfl rfl
theorem Ctx.new {ρ : Ren} {Y : Nat → Prop} {s s' : St} {w : World} (c : Ctx gl ρ Y s s' w) (h : s.next < s'.next) : ρ s.next = none := c.fresh _ (Nat.le_refl _) h
theorem ptr_new {ρ : Ren} {n g r : Nat} : VRel (ρ.upd n ⟨g, 0, r⟩) (.pointer (some ⟨n, 0, none⟩)) (.pointer (some ⟨g, 0, none⟩)) :=
  VRel.ptr (l := ⟨g, 0, r⟩) (by simp [Ren.upd])
theorem ok_new {t : TypeId} {z : List Value} (ho : o.op = .alloc t) (hz : zeroT P t = some z) : OpOk P gl o (oNew z) := by
  intro rec _ fs s v s' hF hso
  obtain ⟨n, s1, ha, hF⟩ := opt2_k hF
  cases hF
  refine ⟨AStep.alloc ha, fun ρ Y w a cx _ K Q hK => ?_⟩
  obtain ⟨zv, hzr, hzc, hg⟩ := run_zero (P := P) (w := w) hz
  obtain ⟨hn, _, hnx, _⟩ := St.alloc_some ha
  subst hn
  have good := Good.new (cells := zv.cells) t cx.yok (cx.new (by omega)) cx.rel ha (by rw [hzc]; exact gnd_CR hg)
  refine wp_value (v' := .pointer (some ⟨w.heap.size, 0, none⟩)) ?_ (hK _ _ _ ptr_new good)
  unfold execOp; rw [ho]
  simp [Instr.alloc, hzr, newVar, newRow]
theorem ok_box {t : TypeId} {x : Operand} (ho : o.op = .box t x) : OpOk P gl o (oBox (cA x)) := by
  intro rec _ fs s v s' hF hso
  unfold oBox at hF
  rw [cond_none, beq_eq', lenN_eq] at hF
  obtain ⟨h0, hF⟩ := hF
  obtain ⟨n, s1, ha, hF⟩ := opt2_k hF
  cases hF
  refine ⟨AStep.alloc ha, fun ρ Y w a cx har K Q hK => ?_⟩
  obtain ⟨hn, _, hnx, _⟩ := St.alloc_some ha
  subst hn
  rw [ho] at har
  have hx := (args1 har).1
  have hcs := hx.cells (by intro e; rw [e] at h0; simp at h0)
  have good := Good.new (cells := (a.eval x).cells) t cx.yok (cx.new (by omega)) cx.rel ha hcs
  refine wp_value (v' := .pointer (some ⟨w.heap.size, 0, none⟩)) ?_ (hK _ _ _ ptr_new good)
  unfold execOp; rw [ho]
  simp [Instr.box, newVar, newRow]
theorem slice_new {ρ : Ren} {n g r k c : Nat} (h : k ≤ c) (hm : c ≤ maxLen) : VRel (ρ.upd n ⟨g, 0, r⟩) (.slice (some ⟨n, 0, none⟩) k c) (.slice (some ⟨g, 0, none⟩) k c) :=
  VRel.slice (l := ⟨g, 0, r⟩) (by simp [Ren.upd]) h hm (.inl rfl)
theorem rep_cells (n : Nat) (z : Array Value) (h : z.size ≠ 0) : ((Array.range (n * z.size)).map fun i => z[i % z.size]!).toList = rep n z.toList := by
  induction n with
  | zero => simp [rep_zero]
  | succ n ih =>
    rw [rep_succ, ← ih]
    apply List.ext_getElem?
    intro j
    simp only [Array.toList_map, Array.toList_range, List.getElem?_map, List.getElem?_append, Array.length_toList]
    by_cases hj : j < z.size
    · have h1 : j < (n + 1) * z.size := by rw [Nat.succ_mul]; omega
      simp [hj, h1, Nat.mod_eq_of_lt hj]
    · simp only [hj, if_false]
      by_cases h2 : j < (n + 1) * z.size
      · have h3 : j - z.size < n * z.size := by rw [Nat.succ_mul] at h2; omega
        have e : j % z.size = (j - z.size) % z.size := by
          rw [Nat.mod_eq_sub_mod (by omega)]
        simp [h2, h3, e]
      · have h3 : ¬ j - z.size < n * z.size := by rw [Nat.succ_mul] at h2; omega
        simp [h2, h3]
theorem rep_rel {ρ : Ren} {z z' : List Value} (h : CR ρ z z') : ∀ n, CR ρ (rep n z) (rep n z')
  | 0 => CR.nil ρ
  | n + 1 => by rw [rep_succ, rep_succ]; exact h.append (rep_rel h n)
theorem ok_buildSlice {t e : TypeId} {n size : Nat} {parts : Array (Nat × Operand)} {z : List Value} {ps : List (Nat × Nat × Arg)} (ho : o.op = .buildSlice t n parts) (ht : P.underlying t = some (.slice e)) (hs : sizeT P e = some size) (hz : zeroT P e = some z)
    (h0 : size ≠ 0) (hzl : z.length = size) (hle : n * size ≤ 2 ^ 24) (hp : cParts (fun i => some (i * size, size)) parts.toList = some ps) : OpOk P gl o (oBuildSlice n (rep n z) ps) := by
  intro rec _ fs s v s' hF hso
  obtain ⟨c, hc, hF⟩ := opt_k hF
  obtain ⟨b, s1, ha, hF⟩ := opt2_k hF
  cases hF
  refine ⟨AStep.alloc ha, fun ρ Y w a cx har K Q hK => ?_⟩
  obtain ⟨hn, _, hnx, _⟩ := St.alloc_some ha
  subst hn
  obtain ⟨zv, hzr, hzc, hg⟩ := run_zero (P := P) (w := w) hz
  have hzs : zv.cells.size = size := by rw [← hzl, ← hzc]; simp
  have hn24 : n ≤ 2 ^ 24 := Nat.le_trans (Nat.le_mul_of_pos_right n (by omega)) hle
  rw [ho] at har
  obtain ⟨r', hr', hcr⟩ := fill_rel (ρ := ρ) (fs := fs) (a := a) parts.toList ps (rep n z) c ((Array.range (n * size)).map fun i => zv.cells[i % zv.cells.size]!) hp hc
    (by rw [← hzs, rep_cells n zv.cells (by omega), hzc]; exact rep_rel (gnd_CR hg) n)
    (fun x hx => har x (by simpa [Op.operands] using hx))
  have good := Good.new (cells := r') e cx.yok (cx.new (by omega)) cx.rel ha hcr
  refine wp_value (v' := .slice (some ⟨w.heap.size, 0, none⟩) n n) ?_ (hK _ _ _ (slice_new (Nat.le_refl _) (by simp only [maxLen]; omega)) good)
  have e2 : (parts.map fun (i, x) => (i, a.eval x)).toList = parts.toList.map fun p => (p.1, a.eval p.2) := by simp
  have hbig : ¬ (n * size > 2 ^ 24) := by omega
  have e3 : ∀ f : Nat → Value, (Array.range 0).map f = #[] := fun f => by apply Array.ext'; simp
  unfold execOp; rw [ho]
  by_cases hh : n * size = 0
  · rw [hh, e3] at hr'
    simp only [Instr.buildSlice, Sem.run_bind, run_underlying ht, Result.andThen_ok, run_size hs, hbig, if_false, Sem.run_ite]
    rw [if_pos hh]
    simp only [Sem.run_pure, Result.andThen_ok, Sem.run_bind, e2, hh, e3, hr', newRow, run_newObj]
  · simp only [Instr.buildSlice, Sem.run_bind, run_underlying ht, Result.andThen_ok, run_size hs, hbig, if_false, Sem.run_ite]
    rw [if_neg hh]
    simp only [Sem.run_pure, Result.andThen_ok, Sem.run_bind, hzr, e2, hr', newRow, run_newObj]
theorem ok_makeSlice {t e : TypeId} {size bytes : Nat} {z : List Value} {x y : Operand} (ho : o.op = .makeSlice t x y) (ht : P.underlying t = some (.slice e)) (hs : sizeT P e = some size) (hb : bytesT P e = some bytes) (hz : zeroT P e = some z) (hzl : z.length = size) : OpOk P gl o (oMakeSlice size bytes z (cA x) (cA y)) := by
  intro rec _ fs s v s' hF hso
  obtain ⟨c, hc, hF⟩ := opt_k hF
  obtain ⟨l, hl, hF⟩ := opt_k hF
  rw [cond_some, ble_eq', beq_eq'] at hF
  obtain ⟨hcond, hF⟩ := hF
  obtain ⟨b, s1, ha, hF⟩ := opt2_k hF
  cases hF
  refine ⟨AStep.alloc ha, fun ρ Y w a cx har K Q hK => ?_⟩
  obtain ⟨hn, _, hnx, _⟩ := St.alloc_some ha
  subst hn
  simp only [Bool.and_eq_true, decide_eq_true_eq, Bool.not_eq_true', decide_eq_false_iff_not] at hcond
  obtain ⟨hbyt, hs0⟩ := hcond
  obtain ⟨zv, hzr, hzc, hg⟩ := run_zero (P := P) (w := w) hz
  have hzs : zv.cells.size = size := by rw [← hzl, ← hzc]; simp
  rw [ho] at har
  obtain ⟨hx, har⟩ := args1 har
  have hy := (args1 har).1
  obtain ⟨k1, e1, hcm⟩ := bound_some hc
  obtain ⟨k2, e2, hlc⟩ := bound_some hl
  rw [e2] at hx; rw [e1] at hy
  have good := Good.new (cells := (Array.range (c * size)).map fun i => zv.cells[i % zv.cells.size]!) e cx.yok (cx.new (by omega)) cx.rel ha
    (by rw [← hzs, rep_cells c zv.cells (by omega), hzc]; exact rep_rel (gnd_CR hg) c)
  refine wp_value (v' := .slice (some ⟨w.heap.size, 0, none⟩) l c) ?_ (hK _ _ _ (slice_new hlc (by simp only [maxLen]; omega)) good)
  obtain ⟨i, hi, hib⟩ := info_of_bytes hb
  have wr : ∀ m : Nat, m ≤ 9223372036854775807 → IntKind.i64.wrap (Int.ofNat m) = Int.ofNat m := fun m hm => wrap_small .i64 m (by simpa [topOf] using hm)
  have e3 : ∀ f : Nat → Value, (Array.range 0).map f = #[] := fun f => by apply Array.ext'; simp
  have hcond : (decide ((c : Int) < 0) || decide ((bytes : Int) * (c : Int) > 2 ^ 48) || decide ((l : Int) < 0) || decide ((l : Int) > (c : Int))) = false := by
    have h1 : ((bytes : Int) * (c : Int)) = ((bytes * c : Nat) : Int) := by simp
    have h2 : bytes * c ≤ 140737488355328 := by rw [Nat.mul_comm]; exact hbyt
    rw [h1]
    simp only [Bool.or_eq_false_iff, decide_eq_false_iff_not]
    refine ⟨⟨⟨by omega, by omega⟩, by omega⟩, by omega⟩
  have wl := wr l (by omega)
  have wc := wr c hcm
  simp only [Int.ofNat_eq_natCast] at wl wc hx hy
  unfold execOp; rw [ho]
  simp only [Instr.makeSlice, Sem.run_bind, run_underlying ht, Result.andThen_ok, hx.int_inv, hy.int_inv, asInt, asIntOf, Sem.run_pure, run_info hi, hib, wl, wc, hcond, Bool.false_eq_true, if_false, run_askRoom, run_size hs, Int.toNat_natCast, Sem.run_ite]
  by_cases hh : c * size = 0
  · rw [if_pos hh]
    simp only [Sem.run_pure, Result.andThen_ok, Sem.run_bind, hh, e3, newRow, run_newObj]
  · rw [if_neg hh]
    simp only [Sem.run_pure, Result.andThen_ok, Sem.run_bind, hzr, newRow, run_newObj]
end
end Go.Abs
