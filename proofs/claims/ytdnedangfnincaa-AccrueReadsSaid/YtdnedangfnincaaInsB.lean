import Derived.Test.YtdnedangfnincaaInsA
import Derived.Test.YtdnedangfnincaaAbsYI
set_option linter.unusedVariables false
set_option linter.unusedSimpArgs false
/-! slices.Insert at []rate.Step, in the machine's words -/
namespace Go.Proofs.Ytdnedangfnincaa.Ins
open Go Go.Abs Go.Shelf Go.RowKit Go.Lib
theorem setCells_row (P : Program) (b o : Nat) (cur : Array Value) (t : TypeId) (fz : Nat × Nat) (vs : List Value) (w : World) (hg : w.heap[b]? = some (.cells cur t fz)) (hfz : ∀ j, j < cur.size → ¬ (fz.1 ≤ j ∧ j < fz.2)) (hl : o + vs.length ≤ cur.size) (h1 : ∀ v ∈ vs, v.oneCell' = true) :
    w.setCells b o vs = w.setRow b (cur.toList.take o ++ vs ++ cur.toList.drop (o + vs.length)).toArray := by
  have h2 := run_store_cells P b o t fz vs 0 cur w hg hfz (by simpa using hl) h1
  have h3 := run_storeCells_cells (P := P) b o vs 0 w (fun j hj => by
    simp [World.cell?, hg]
    omega) (fun j hj => by
    have := hfz (o + 0 + j) (by omega)
    obtain ⟨lo, hi⟩ := fz
    simp only [World.frozen?, hg]
    simpa using this) h1
  rw [h2] at h3
  simpa using (Result.ok.inj h3).2.symm
theorem list_ins (cur : List Value) (off n i : Nat) (vs : List Value) (hi : i < n) (hoff : off + (n + 1) * 2 ≤ cur.length) (hv : vs.length = 2) (l1 r1 : List Value) (hl1 : l1 = ((cur.drop off).take (n * 2)).drop (i * 2)) (hr1 : r1 = cur.take (off + (i + 1) * 2) ++ l1 ++ cur.drop (off + (i + 1) * 2 + l1.length)) :
    ((r1.take (off + i * 2) ++ vs ++ r1.drop (off + i * 2 + vs.length)).drop off).take ((n + 1) * 2) = insL (i * 2) ((cur.drop off).take (n * 2)) vs := by
  have e1 : l1.length = (n - i) * 2 := by rw [hl1]; simp; omega
  have e2 : r1.length = cur.length := by rw [hr1]; simp [e1]; omega
  unfold insL
  apply List.ext_getElem?
  intro j
  by_cases h0 : j < (n + 1) * 2
  · by_cases h1 : j < i * 2
    · have a1 : off + j < min (off + i * 2) r1.length := by omega
      have a2 : off + j < min (off + i * 2) r1.length + vs.length := by omega
      have a3 : j < min (i * 2) (min (n * 2) (cur.length - off)) := by omega
      have a4 : off + j < off + i * 2 := by omega
      have a5 : j < n * 2 := by omega
      have a6 : off + j < min (off + (i + 1) * 2) cur.length := by omega
      have a7 : off + j < min (off + (i + 1) * 2) cur.length + l1.length := by omega
      have a8 : off + j < off + (i + 1) * 2 := by omega
      simp only [List.getElem?_take, List.getElem?_drop, List.getElem?_append, List.length_append, List.length_take, List.length_drop, h0, h1, a1, a2, a3, a4, a5, if_true]
      rw [hr1]
      simp only [List.getElem?_take, List.getElem?_append, List.length_append, List.length_take, a6, a7, a8, if_true]
    · by_cases h2 : j < i * 2 + 2
      · have a1 : ¬ off + j < min (off + i * 2) r1.length := by omega
        have a2 : off + j < min (off + i * 2) r1.length + vs.length := by omega
        have a3 : ¬ j < min (i * 2) (min (n * 2) (cur.length - off)) := by omega
        have a4 : j - min (i * 2) (min (n * 2) (cur.length - off)) < vs.length := by omega
        have a5 : off + j - min (off + i * 2) r1.length = j - min (i * 2) (min (n * 2) (cur.length - off)) := by omega
        simp only [List.getElem?_take, List.getElem?_drop, List.getElem?_append, List.length_append, List.length_take, List.length_drop, h0, a1, a2, a3, a4, a5, if_true, if_false]
      · have a1 : ¬ off + j < min (off + i * 2) r1.length := by omega
        have a2 : ¬ off + j < min (off + i * 2) r1.length + vs.length := by omega
        have a3 : ¬ j < min (i * 2) (min (n * 2) (cur.length - off)) := by omega
        have a4 : ¬ j - min (i * 2) (min (n * 2) (cur.length - off)) < vs.length := by omega
        have a5 : off + i * 2 + vs.length + (off + j - (min (off + i * 2) r1.length + vs.length)) = off + j := by omega
        simp only [List.getElem?_take, List.getElem?_drop, List.getElem?_append, List.length_append, List.length_take, List.length_drop, h0, a1, a2, a3, a4, a5, if_true, if_false]
        have b1 : ¬ off + j < min (off + (i + 1) * 2) cur.length := by omega
        have b2 : off + j < min (off + (i + 1) * 2) cur.length + l1.length := by omega
        have b3 : i * 2 + (j - min (i * 2) (min (n * 2) (cur.length - off)) - vs.length) < n * 2 := by omega
        have b4 : i * 2 + (off + j - min (off + (i + 1) * 2) cur.length) < n * 2 := by omega
        have b5 : off + (i * 2 + (off + j - min (off + (i + 1) * 2) cur.length)) = off + (i * 2 + (j - min (i * 2) (min (n * 2) (cur.length - off)) - vs.length)) := by omega
        rw [hr1]
        simp only [List.getElem?_append, List.length_append, List.length_take, b1, b2, if_true, if_false]
        rw [hl1]
        simp only [List.getElem?_take, List.getElem?_drop, b3, b4, b5, if_true]
  · have a3 : ¬ j < min (i * 2) (min (n * 2) (cur.length - off)) := by omega
    have a4 : ¬ j - min (i * 2) (min (n * 2) (cur.length - off)) < vs.length := by omega
    have b3 : ¬ i * 2 + (j - min (i * 2) (min (n * 2) (cur.length - off)) - vs.length) < n * 2 := by omega
    simp only [List.getElem?_take, List.getElem?_drop, List.getElem?_append, List.length_append, List.length_take, List.length_drop, h0, a3, a4, b3, if_true, if_false]
theorem room : InsRoom Try.prog 57 2 := by
  intro b off n c i vb voff vc cur vcur t tv fz fv w hb hvb hfz hfv hne hi hroom hc hoff hvoff h1c h1v
  have hcl : ((cur.toList.drop off).take (n * 2)).length = n * 2 := by simp; omega
  have hvl : ((vcur.toList.drop voff).take 2).length = 2 := by simp; omega
  have frz : ∀ (x : Nat) (cu : Array Value) (ty : TypeId) (f : Nat × Nat), w.heap[x]? = some (.cells cu ty f) → (∀ j, j ≤ cu.size → ¬ (f.1 ≤ j ∧ j < f.2)) → ∀ j, j ≤ cu.size → w.frozen? ⟨x, j, none⟩ = false := by
    intro x cu ty f hx hf j hj
    have := hf j hj
    obtain ⟨lo, hi'⟩ := f
    simp only [World.frozen?, hx]
    simpa using this
  refine (insert_shift b off n c i vb voff vc _ _ w hi hroom hc hne hcl hvl ?_ ?_ ?_ ?_ h1c h1v tv t vcur.size cur.size (by simp [World.shape?, hvb]) (by simp [World.shape?, hb]) (by omega) (frz vb vcur tv fv hvb hfv voff (by omega)) (frz vb vcur tv fv hvb hfv _ (Nat.le_refl _))).mono ?_
  · intro j v hj
    rw [List.getElem?_take] at hj
    split at hj
    · simpa [World.cell?, hb] using hj
    · cases hj
  · intro j hj
    have : off + j < cur.size := by omega
    simp [World.cell?, hb, this]
  · intro j hj
    exact frz b cur t fz hb hfz _ (by omega)
  · intro j v hj
    rw [List.getElem?_take] at hj
    split at hj
    · simpa [World.cell?, hvb] using hj
    · cases hj
  · intro e w' ⟨he, hw⟩
    refine ⟨he, ?_⟩
    have hb' : w.drew.heap[b]? = some (.cells cur t fz) := hb
    have d1 : (((cur.toList.drop off).take (n * 2)).drop (i * 2)).length = (n - i) * 2 := by simp; omega
    have s1 := setCells_row Try.prog b (off + (i + 1) * 2) cur t fz (((cur.toList.drop off).take (n * 2)).drop (i * 2)) w.drew hb' (fun j hj => hfz j (Nat.le_of_lt hj)) (by rw [d1]; omega) (fun v hv => h1c v (List.mem_of_mem_drop hv))
    rw [s1] at hw
    have hb2 := setRow_heap w.drew b cur (cur.toList.take (off + (i + 1) * 2) ++ (((cur.toList.drop off).take (n * 2)).drop (i * 2)) ++ cur.toList.drop (off + (i + 1) * 2 + (((cur.toList.drop off).take (n * 2)).drop (i * 2)).length)).toArray t fz hb'
    have z1 : (cur.toList.take (off + (i + 1) * 2) ++ (((cur.toList.drop off).take (n * 2)).drop (i * 2)) ++ cur.toList.drop (off + (i + 1) * 2 + (((cur.toList.drop off).take (n * 2)).drop (i * 2)).length)).length = cur.size := by
      simp only [List.length_append, List.length_take, List.length_drop, Array.length_toList]; omega
    have s2 := setCells_row Try.prog b (off + i * 2) _ t fz ((vcur.toList.drop voff).take 2) _ hb2 (fun j hj => hfz j (by simp only [List.size_toArray, z1] at hj; omega)) (by simp only [List.size_toArray, z1, hvl]; omega) h1v
    rw [s2] at hw
    subst hw
    refine ⟨_, setRow_heap _ b _ _ t fz hb2, ?_, ?_, ?_, ?_, rfl, rfl, rfl⟩
    · simp only [List.size_toArray, List.length_append, List.length_take, List.length_drop, Array.length_toList, hvl]
      omega
    · have := list_ins cur.toList off n i ((vcur.toList.drop voff).take 2) hi (by simpa using hoff) hvl _ _ rfl rfl
      simpa only [List.toList_toArray] using this
    · intro k hk
      rw [setRow_other _ b k _ hk, setRow_other _ b k _ hk]
      rfl
    · rw [setRow_size, setRow_size]; rfl
theorem zrow_size (k : Nat) : (zrow k).size = k * 2 := by simp [zrow, Builtin.zeroCells, Value.cells]
theorem grow : InsGrow Try.prog 57 2 16 := by
  intro b off n c i vb voff vc cur vcur t tv fz fv w hb hvb hi hnc hroom hbig hoff hvoff h1c h1v
  have hcl : ((cur.toList.drop off).take (n * 2)).length = n * 2 := by simp; omega
  have hvl : ((vcur.toList.drop voff).take 2).length = 2 := by simp; omega
  refine (insert_grow b off n c i vb voff vc _ _ w hi hnc hroom hbig hcl hvl ?_ ?_ h1c h1v).mono ?_
  · intro j v hj
    rw [List.getElem?_take] at hj
    split at hj
    · simpa [World.cell?, hb] using hj
    · cases hj
  · intro j v hj
    rw [List.getElem?_take] at hj
    split at hj
    · simpa [World.cell?, hvb] using hj
    · cases hj
  · intro e w' ⟨he, hw⟩
    have g1 := grownCap_ge w (n + 1) c 96
    have g2 := grownCap_le_maxLen w (n + 1) c 96 (by unfold maxLen; omega)
    refine ⟨grownCap w (n + 1) c 96, g1, g2, he, ?_⟩
    obtain ⟨G, hG⟩ : ∃ G, G = grownCap w (n + 1) c 96 := ⟨_, rfl⟩
    rw [← hG] at g1 hw ⊢
    obtain ⟨cs, hcs⟩ : ∃ cs, cs = (cur.toList.drop off).take (n * 2) := ⟨_, rfl⟩
    obtain ⟨vs, hvs⟩ : ∃ vs, vs = (vcur.toList.drop voff).take 2 := ⟨_, rfl⟩
    rw [← hcs] at hcl h1c hw ⊢
    rw [← hvs] at hvl h1v hw ⊢
    obtain ⟨ROW, hROW⟩ : ∃ ROW : Array Value, ROW = (cs.take (i * 2)).toArray ++ zrow (n + 1 - i) ++ zrow (G - (n + 1)) := ⟨_, rfl⟩
    rw [← hROW] at hw
    have hRs : ROW.size = G * 2 := by
      rw [hROW]
      simp only [Array.size_append, List.size_toArray, List.length_take, zrow_size, hcl]
      omega
    have hb1 : ((w.alloc (.cells ROW 96)).drew).heap[w.heap.size]? = some (.cells ROW 96 (0, 0)) := by simp [World.alloc, World.drew, -World.alloc_eq, -World.drew_eq]
    have s1 := setCells_row Try.prog w.heap.size (i * 2) ROW 96 (0, 0) vs _ hb1 (fun j _ => by simp) (by rw [hvl, hRs]; omega) h1v
    rw [s1] at hw
    have hb2 := setRow_heap ((w.alloc (.cells ROW 96)).drew) w.heap.size ROW (ROW.toList.take (i * 2) ++ vs ++ ROW.toList.drop (i * 2 + vs.length)).toArray 96 (0, 0) hb1
    have hb3 : (((w.alloc (.cells ROW 96)).drew).setRow w.heap.size (ROW.toList.take (i * 2) ++ vs ++ ROW.toList.drop (i * 2 + vs.length)).toArray).drew.heap[w.heap.size]? = some (.cells (ROW.toList.take (i * 2) ++ vs ++ ROW.toList.drop (i * 2 + vs.length)).toArray 96 (0, 0)) := hb2
    have z1 : (ROW.toList.take (i * 2) ++ vs ++ ROW.toList.drop (i * 2 + vs.length)).length = G * 2 := by
      simp only [List.length_append, List.length_take, List.length_drop, Array.length_toList, hRs, hvl]; omega
    have d1 : (cs.drop (i * 2)).length = (n - i) * 2 := by simp [hcl]; omega
    have s2 := setCells_row Try.prog w.heap.size ((i + 1) * 2) _ 96 (0, 0) (cs.drop (i * 2)) _ hb3 (fun j _ => by simp) (by simp only [List.size_toArray, z1, d1]; omega) (fun v hv => h1c v (List.mem_of_mem_drop hv))
    rw [s2] at hw
    subst hw
    refine ⟨_, 96, setRow_heap _ w.heap.size _ _ 96 (0, 0) hb3, ?_, ?_, ?_, ?_, rfl, rfl, rfl⟩
    · simp only [List.size_toArray, List.length_append, List.length_take, List.length_drop, Array.length_toList, hRs, hvl, d1]
      omega
    · simp only [List.toList_toArray]
      have e0 : ROW.toList.take (i * 2) = cs.take (i * 2) := by
        rw [hROW]
        simp only [Array.toList_append, List.toList_toArray, List.append_assoc]
        exact List.take_left' (by simp [hcl]; omega)
      have e1 : (ROW.toList.take (i * 2) ++ vs ++ ROW.toList.drop (i * 2 + vs.length)).take ((i + 1) * 2) = cs.take (i * 2) ++ vs := by
        rw [e0]
        exact List.take_left' (by simp [hcl, hvl]; omega)
      rw [e1]
      unfold insL
      rw [List.append_assoc, List.append_assoc, ← List.append_assoc vs, ← List.append_assoc (cs.take (i * 2))]
      exact List.take_left' (by simp [hcl, hvl]; omega)
    · intro k hk
      have hk' : k ≠ w.heap.size := by omega
      rw [setRow_other _ w.heap.size k _ hk']
      show (((w.alloc (.cells ROW 96)).drew).setRow w.heap.size _).heap[k]? = _
      rw [setRow_other _ w.heap.size k _ hk']
      simp [World.alloc, World.drew, -World.alloc_eq, -World.drew_eq, Array.getElem?_push, hk']
    · rw [setRow_size]
      show (((w.alloc (.cells ROW 96)).drew).setRow w.heap.size _).heap.size = _
      rw [setRow_size]
      simp [World.alloc, World.drew, -World.alloc_eq, -World.drew_eq]
end Go.Proofs.Ytdnedangfnincaa.Ins
