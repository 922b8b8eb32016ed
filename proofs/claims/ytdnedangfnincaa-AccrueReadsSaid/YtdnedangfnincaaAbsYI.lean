import Derived.Test.YtdnedangfnincaaAbsY
namespace Go.Abs
set_option linter.unusedVariables false
set_option linter.unusedSimpArgs false
/-! slices.Insert of one element ahead of another one, by its contract (of the strict machine: no block bears a string's mark) -/
def slOf (v : Value) : Option (Addr × Nat × Nat) := match v with
  | .slice b n c => (match b with | some a => some (a, n, c) | none => none)
  | _ => none
theorem slOf_some {v : Value} {a : Addr} {n c : Nat} (h : slOf v = some (a, n, c)) : v = .slice (some a) n c := by
  unfold slOf at h
  split at h
  · split at h
    · cases h; rfl
    · cases h
  · cases h
def argsI3 {α : Type} (l : List Value) (k : Value → Value → Value → Option α) : Option α := match l with
  | [a, b, c] => k a b c
  | _ => none
theorem argsI3_some {α : Type} {l : List Value} {k : Value → Value → Value → Option α} {v : α} (h : argsI3 l k = some v) : ∃ a b c, l = [a, b, c] ∧ k a b c = some v := by
  unfold argsI3 at h
  split at h
  · exact ⟨_, _, _, rfl, h⟩
  · cases h
noncomputable def insertK (f0 : FuncId) (es bytes : Nat) (rest : FuncId → List Value → St → Option (Value × St)) : FuncId → List Value → St → Option (Value × St) := fun f args s =>
  bif Nat.beq f f0 then argsI3 args fun x y z => opt (slOf x) fun p => opt (i64Of y) fun i => opt (slOf z) fun q =>
    bif Nat.beq p.2.2 (UNK + es) && (Nat.beq q.2.1 1 && (Nat.blt i p.2.1 && (!Nat.beq p.1.block q.1.block && (fits (p.2.1 + 1) bytes && Nat.ble 8 q.1.block)))) then
      opt (s.getC p.1.block) fun c => bif Nat.ble (p.1.off + p.2.1 * es) (lenN c) then
        opt2 (s.read q.1.block q.1.off es) fun new s => opt2 ((s.set p.1.block none).alloc (app (takeN (i * es) (takeN (p.2.1 * es) (dropN p.1.off c))) (app new (dropN (i * es) (takeN (p.2.1 * es) (dropN p.1.off c)))))) fun b s =>
          some (.slice (some ⟨b, 0, none⟩) (p.2.1 + 1) (UNK + es), s)
      else none
    else none
  else rest f args s
/-- a list with others put in -/
def insL {α : Type} (k : Nat) (cs vs : List α) : List α := cs.take k ++ (vs ++ cs.drop k)
/-- what slices.Insert does where there is room -/
def InsRoom (P : Program) (f0 : FuncId) (es : Nat) : Prop :=
  ∀ (b off n c i vb voff vc : Nat) (cur vcur : Array Value) (t tv : TypeId) (fz fv : Nat × Nat) (w : World), w.heap[b]? = some (.cells cur t fz) → w.heap[vb]? = some (.cells vcur tv fv) →
    (∀ j, j ≤ cur.size → ¬ (fz.1 ≤ j ∧ j < fz.2)) → (∀ j, j ≤ vcur.size → ¬ (fv.1 ≤ j ∧ j < fv.2)) → vb ≠ b → i < n → n + 1 ≤ c → c ≤ maxLen → off + (n + 1) * es ≤ cur.size → voff + es ≤ vcur.size →
    (∀ v ∈ (cur.toList.drop off).take (n * es), v.oneCell' = true) → (∀ v ∈ (vcur.toList.drop voff).take es, v.oneCell' = true) →
    Calls P f0 #[.slice (some ⟨b, off, none⟩) n c, .int .i64 i, .slice (some ⟨vb, voff, none⟩) 1 vc] w fun e w' => e = .returned (.slice (some ⟨b, off, none⟩) (n + 1) c) ∧
      ∃ cells : Array Value, w'.heap[b]? = some (.cells cells t fz) ∧ cells.size = cur.size ∧ (cells.toList.drop off).take ((n + 1) * es) = insL (i * es) ((cur.toList.drop off).take (n * es)) ((vcur.toList.drop voff).take es) ∧
        (∀ k, k ≠ b → w'.heap[k]? = w.heap[k]?) ∧ w'.heap.size = w.heap.size ∧ w'.os = w.os ∧ w'.tape = w.tape ∧ w'.output = w.output
/-- and where there is none -/
def InsGrow (P : Program) (f0 : FuncId) (es bytes : Nat) : Prop :=
  ∀ (b off n c i vb voff vc : Nat) (cur vcur : Array Value) (t tv : TypeId) (fz fv : Nat × Nat) (w : World), w.heap[b]? = some (.cells cur t fz) → w.heap[vb]? = some (.cells vcur tv fv) →
    i < n → n ≤ c → c < n + 1 → (n + 1) * bytes ≤ 140737488355328 → off + n * es ≤ cur.size → voff + es ≤ vcur.size →
    (∀ v ∈ (cur.toList.drop off).take (n * es), v.oneCell' = true) → (∀ v ∈ (vcur.toList.drop voff).take es, v.oneCell' = true) →
    Calls P f0 #[.slice (some ⟨b, off, none⟩) n c, .int .i64 i, .slice (some ⟨vb, voff, none⟩) 1 vc] w fun e w' => ∃ G, n + 1 ≤ G ∧ G ≤ maxLen ∧ e = .returned (.slice (some ⟨w.heap.size, 0, none⟩) (n + 1) G) ∧
      ∃ (cells : Array Value) (ty : TypeId), w'.heap[w.heap.size]? = some (.cells cells ty (0, 0)) ∧ cells.size = G * es ∧ cells.toList.take ((n + 1) * es) = insL (i * es) ((cur.toList.drop off).take (n * es)) ((vcur.toList.drop voff).take es) ∧
        (∀ k, k < w.heap.size → w'.heap[k]? = w.heap[k]?) ∧ w'.heap.size = w.heap.size + 1 ∧ w'.os = w.os ∧ w'.tape = w.tape ∧ w'.output = w.output
theorem insertK_ok {P : Program} {gl : Nat → Bool} {f0 : FuncId} {es bytes : Nat} {rest : FuncId → List Value → St → Option (Value × St)} (hes : 0 < es) (hf : FnOk P f0) (hr : RecOk P gl rest) (h1 : InsRoom P f0 es) (h2 : InsGrow P f0 es bytes) : RecOk P gl (insertK f0 es bytes rest) := by
  intro f args s v s' hk hso
  unfold insertK at hk
  rw [beq_eq'] at hk
  by_cases hff : f = f0
  · subst hff
    simp only [decide_true, cond_true] at hk
    obtain ⟨x, y, z, rfl, hk⟩ := argsI3_some hk
    obtain ⟨⟨a, n, c⟩, hx, hk⟩ := opt_k hk
    obtain ⟨i, hy, hk⟩ := opt_k hk
    obtain ⟨⟨q, m, vc⟩, hz, hk⟩ := opt_k hk
    rw [cond_some] at hk
    obtain ⟨hcond, hk⟩ := hk
    simp only [Bool.and_eq_true, Bool.not_eq_true', beq_eq', decide_eq_true_eq, decide_eq_false_iff_not, blt_eq', fits, ble_eq'] at hcond
    obtain ⟨hc, hm, hi, hne, ⟨hfit, hlen⟩, hq8⟩ := hcond
    subst hc
    subst hm
    obtain ⟨blk, hb, hk⟩ := opt_k hk
    rw [cond_some, ble_eq', lenN_eq, decide_eq_true_eq] at hk
    obtain ⟨hin, hk⟩ := hk
    obtain ⟨new, s1, hrd, hk⟩ := opt2_k hk
    obtain ⟨nb, s2, ha, hk⟩ := opt2_k hk
    cases hk
    obtain rfl := slOf_some hx
    obtain rfl := i64Of_some hy
    obtain rfl := slOf_some hz
    obtain ⟨vblk, hg, hle, rfl, rfl⟩ := St.read_some hrd
    rw [app_eq, app_eq, takeN_eq, takeN_eq, dropN_eq, dropN_eq] at ha
    have hin : a.off + n * es ≤ blk.length := hin
    have hle : q.off + es ≤ vblk.length := hle
    have hi : i < n := hi
    have hne : ¬ a.block = q.block := hne
    have hfit : (n + 1) * bytes ≤ 140737488355328 := hfit
    have hb1 : (s.seen q.block).get a.block = some blk := by rw [St.seen_get]; exact St.getC_get hb
    have hso1 : SOk (s.seen q.block) := hso.step (AStep.seen _ _)
    have hst2 : AStep ((s.seen q.block).set a.block none) s' := AStep.alloc ha
    have hst1 : AStep (s.seen q.block) ((s.seen q.block).set a.block none) := AStep.set _ _ _ (hso1.lt40 hb1) (by rw [hb1]; rfl)
    refine ⟨hf, (AStep.seen s q.block).trans (hst1.trans hst2), fun ρ Y w args' cx har => ?_⟩
    obtain ⟨x', l1, rfl, hx, har⟩ := har.cons_inv
    obtain ⟨y', l2, rfl, hy, har⟩ := har.cons_inv
    obtain ⟨z', l3, rfl, hz, har⟩ := har.cons_inv
    obtain rfl := har.nil_inv
    obtain rfl := hy.int_inv
    have hYa : Y a.block := cx.seen (St.getC_get hb) (.inr (hst2.wr _ (set_bit _ _ _)))
    have hYq : Y q.block := cx.seen (St.getC_get hg) (.inl (hst2.rd _ (hst1.rd _ (seen_bit s q.block))))
    obtain ⟨_, l, hl, hxc⟩ := hx.slice_cases
    obtain ⟨_, lq, hlq, hzc⟩ := hz.slice_cases
    obtain ⟨la, hla, hbra⟩ := cx.rel.blk _ _ hYa (St.getC_get hb)
    rw [hl] at hla; cases hla
    obtain ⟨lq', hlq', hbrq⟩ := cx.rel.blk _ _ hYq (St.getC_get hg)
    rw [hlq] at hlq'; cases hlq'
    obtain ⟨cur, t, fz, hcur, hcs, hcb, hcf, hcr⟩ := hbra.cells (St.getC_some hb).2
    obtain ⟨vcur, tv, fv, hvcur, hvs, hvb, hvf, hvr⟩ := hbrq.cells (St.getC_some hg).2
    replace hcf := hcf (cx.high (hst2.wr _ (set_bit _ _ _)))
    replace hvf := hvf hq8
    have hnb : lq.blk ≠ l.blk := fun e => hne (cx.rel.inj q.block a.block lq l hYq hYa (by rw [St.getC_get hg]; rfl) (by rw [St.getC_get hb]; rfl) hlq hl e (.inl hq8)).symm
    rcases hzc with ⟨cq, rfl, _, _, _⟩ | ⟨h0, _⟩
    · rcases hxc with ⟨c', rfl, hnc, hmc, hcap⟩ | ⟨h0, _⟩
      · have hcap' : l.base + a.off + c' * es = l.room := by
          rcases hcap with h3 | ⟨e2, _, h3, h4⟩
          · simp only [maxLen] at hmc; unfold UNK at h3; omega
          · have : e2 = es := by omega
            subst this; exact h4
        have hne0 : n * es ≤ c' * es := Nat.mul_le_mul_right _ hnc
        -- what is put together
        have hold : CR ρ ((blk.drop a.off).take (n * es)) ((cur.toList.drop (l.base + a.off)).take (n * es)) := by
          have := (hcr.drop a.off).take (n * es)
          rw [List.drop_take, List.drop_drop, List.take_take] at this
          have e1 : min (n * es) (blk.length - a.off) = n * es := by omega
          rw [e1] at this; exact this
        have hnew : CR ρ ((vblk.drop q.off).take es) ((vcur.toList.drop (lq.base + q.off)).take es) := by
          have := (hvr.drop q.off).take es
          rw [List.drop_take, List.drop_drop, List.take_take] at this
          have e1 : min es (vblk.length - q.off) = es := by omega
          rw [e1] at this; exact this
        have hall : CR ρ (((blk.drop a.off).take (n * es)).take (i * es) ++ ((vblk.drop q.off).take es ++ ((blk.drop a.off).take (n * es)).drop (i * es)))
            (insL (i * es) ((cur.toList.drop (l.base + a.off)).take (n * es)) ((vcur.toList.drop (lq.base + q.off)).take es)) :=
          (hold.take (i * es)).append (hnew.append (hold.drop (i * es)))
        have hi2 : i * es ≤ n * es := Nat.mul_le_mul_right _ (by omega)
        have hlenN : (((blk.drop a.off).take (n * es)).take (i * es) ++ ((vblk.drop q.off).take es ++ ((blk.drop a.off).take (n * es)).drop (i * es))).length = (n + 1) * es := by
          simp only [List.length_append, List.length_take, List.length_drop, Nat.add_mul, Nat.one_mul]
          omega
        obtain ⟨hn', hlim, hnx, _⟩ := St.alloc_some ha
        rw [St.set_next, St.seen_next] at hnx hn'
        subst hn'
        have hnewr : ρ s.next = none := cx.new (by omega)
        have cx1 : Ctx gl ρ Y (s.seen q.block) s' w := cx.of_same (seen_heap s q.block) (St.seen_next s q.block)
        have hnewr1 : ρ (s.seen q.block).next = none := by rw [St.seen_next]; exact hnewr
        by_cases hroom : n + 1 ≤ c'
        · have hr2 : (n + 1) * es ≤ c' * es := Nat.mul_le_mul_right _ hroom
          refine (h1 l.blk (l.base + a.off) n c' i lq.blk (lq.base + q.off) cq cur vcur t tv fz fv w hcur hvcur (by rw [hcs]; exact hcf) (by rw [hvs]; exact hvf) hnb hi hroom hmc (by rw [hcs]; omega) (by rw [hvs]; omega) hold.one' hnew.one').mono fun e w' he => ?_
          obtain ⟨he, cells, hw1, hw2, hw3, hw4, hw5, hw6, hw7, hw8⟩ := he
          have good : Good ρ (ρ.upd (s.seen q.block).next ⟨l.blk, l.base + a.off, l.room⟩) Y (s.seen q.block) s' w w' := by
            refine Good.move (l' := ⟨l.blk, l.base + a.off, l.room⟩) (elem := t) (fr := fz) cx1.top cx1.yok hnewr1 cx1.rel (cx.high (hst2.wr _ (set_bit _ _ _))) hYa hb1 hl ha hw1 (by rw [hw2, hcs]) ?_ hcf ?_ (fun k _ hk => hw4 k hk) (by omega) (.inl rfl) hw6 hw7 hw8
            · rw [hlenN]; simp only; omega
            · rw [hlenN, hw3]; exact hall
          refine ⟨_, _, he, ?_, good.of_same (seen_heap s q.block) (St.seen_next s q.block)⟩
          have := VRel.slice (ρ := ρ.upd (s.seen q.block).next ⟨l.blk, l.base + a.off, l.room⟩) (b := s.next) (o := 0) (n := n + 1) (c := UNK + es) (c' := c') (l := ⟨l.blk, l.base + a.off, l.room⟩) (by simp [Ren.upd, St.seen_next]) hroom hmc (.inr ⟨es, hes, rfl, by simpa using hcap'⟩)
          simpa using this
        · refine (h2 l.blk (l.base + a.off) n c' i lq.blk (lq.base + q.off) cq cur vcur t tv fz fv w hcur hvcur hi hnc (by omega) hfit (by rw [hcs]; omega) (by rw [hvs]; omega) hold.one' hnew.one').mono fun e w' he => ?_
          obtain ⟨G, hG1, hG2, he, cells, ty, hw1, hw2, hw3, hw4, hw5, hw6, hw7, hw8⟩ := he
          have hG3 : (n + 1) * es ≤ G * es := Nat.mul_le_mul_right _ hG1
          have hlt : l.blk < w.heap.size := cx.rel.lt hYa (St.getC_get hb) hl
          have good : Good ρ (ρ.upd (s.seen q.block).next ⟨w.heap.size, 0, G * es⟩) Y (s.seen q.block) s' w w' := by
            refine Good.move (l' := ⟨w.heap.size, 0, G * es⟩) (elem := ty) (fr := (0, 0)) cx1.top cx1.yok hnewr1 cx1.rel (cx.high (hst2.wr _ (set_bit _ _ _))) hYa hb1 hl ha hw1 hw2 ?_ (fun j _ => by simp) ?_ (fun k hk _ => hw4 k hk) (by omega) (.inr ⟨rfl, hw4 _ hlt⟩) hw6 hw7 hw8
            · rw [hlenN]; simp only; omega
            · rw [hlenN, List.drop_zero, hw3]; exact hall
          refine ⟨_, _, he, ?_, good.of_same (seen_heap s q.block) (St.seen_next s q.block)⟩
          have := VRel.slice (ρ := ρ.upd (s.seen q.block).next ⟨w.heap.size, 0, G * es⟩) (b := s.next) (o := 0) (n := n + 1) (c := UNK + es) (c' := G) (l := ⟨w.heap.size, 0, G * es⟩) (by simp [Ren.upd, St.seen_next]) hG1 hG2 (.inr ⟨es, hes, rfl, by simp⟩)
          simpa using this
      · omega
    · omega
  · simp only [hff, decide_false, cond_false] at hk
    exact hr f args s v s' hk hso
end Go.Abs
