import Derived.RangeFuncNested
import Derived.RangeFuncBound
import Derived.RangeFuncCalls
import Derived.RangeFuncLeaves
import Derived.Shelf.Abstract
import Derived.Shelf.RegionOpen
import Derived.WalkKit
import Derived.OwnWalkIn
import Derived.TacticsInMore
import Derived.LoopNIn
import Derived.LoopIn
import Derived.Test.YtcjamnbbedpebaaProg
set_option linter.unusedVariables false
namespace Go.Proofs.Ytcjamnbbedpebaa.NameW
open Go Go.RowKit Go.Shelf Go.Proofs
attribute [local go_sem] Oper.semAt_some
theorem cell_of_box_l {W : World} {B : Nat} {v : Value} {t : TypeId} (h : W.heap[B]? = some (.cells #[v] t (0, 0))) : W.cell? ⟨B, 0, none⟩ = some v ∧ W.frozen? ⟨B, 0, none⟩ = false := by
  constructor <;> simp [World.cell?, World.frozen?, h]
theorem cell_two (W : World) (u v : Value) (t : TypeId) : (W.alloc (.cells #[u, v] t)).cell? ⟨W.heap.size, 0, none⟩ = some u ∧ (W.alloc (.cells #[u, v] t)).cell? ⟨W.heap.size, 1, none⟩ = some v := by
  have h : (W.alloc (.cells #[u, v] t)).heap[W.heap.size]? = some (.cells #[u, v] t (0, 0)) := World.alloc_heap_new W _
  generalize W.alloc (.cells #[u, v] t) = W' at h
  constructor <;> simp [World.cell?, h]
theorem cell_alloc_l {W : World} {a : Addr} {v : Value} (o : Obj) (h : W.cell? a = some v) : (W.alloc o).cell? a = some v := cell_kept h (World.grownBy_alloc W o none) (fun r e => by cases e)
set_option maxHeartbeats 1000000 in
theorem back_in (F : Fence) (n : Nat) (h5 : F.fn 74) (hro : F.round = none) (a : Option Addr) (len cap : Nat) (w : World) :
    CallsIn F n Try.prog 74 #[.slice a len cap] w fun e w' => e = .returned (.func (.func 86) #[] #[.pointer (some ⟨w.heap.size, 0, none⟩)]) ∧ w' = w.alloc (.cells #[.slice a len cap] 38) := by
  refine callsIn_of_wp Try.func74 rfl h5 ?_ hro
  simp only [Try.ntmps74, List.size_toArray, List.length_cons, List.length_nil, Nat.reduceAdd, Nat.reduceSub, Array.replicate_succ, Array.replicate_zero, List.push_toArray, List.append_toArray, List.nil_append, List.cons_append]
  gi_wp2
  go_ret
  exact ⟨rfl, rfl⟩
set_option maxRecDepth 100000 in
set_option maxHeartbeats 2000000 in
theorem iter_stops (F : Fence) (n : Nat) (h86 : F.fn 86) (hro : F.round = none) (hn : 1 ≤ n) (Bs n₀ b off cap : Nat) (nm : ByteArray) (k : Int) (w : World) (hB : Bs < w.heap.size) (hn₀ : n₀ ≤ w.heap.size) (hb : b < n₀)
    (hBs : w.cell? ⟨Bs, 0, none⟩ = some (.slice (some ⟨b, off, none⟩) 1 cap)) (h1 : w.cell? ⟨b, off, none⟩ = some (.string nm)) (h2 : w.cell? ⟨b, off + 1, none⟩ = some (.int .i64 k)) :
    SeqStopsK F n Try.prog 86 #[.pointer (some ⟨Bs, 0, none⟩)] (fun _ : Unit => #[.int .i64 0, .agg #[.string nm, .int .i64 k]]) (Below n₀) (fun ys => ys = [()]) (fun pre => pre = [()]) 1 w := fun l J Jx W hW _ _ hY h0 => by
  have hBs' := (hW.cell (p := ⟨Bs, 0, none⟩) hB).trans hBs
  have h1' := (hW.cell (p := ⟨b, off, none⟩) (by show b < w.heap.size; omega)).trans h1
  have h2' := (hW.cell (p := ⟨b, off + 1, none⟩) (by show b < w.heap.size; omega)).trans h2
  show CallsIn F n Try.prog 86 #[.func (.yield l) #[] #[], .pointer (some ⟨Bs, 0, none⟩)] W _
  refine callsIn_of_wp Try.func86 rfl h86 ?_ hro
  simp only [Try.ntmps86, List.size_toArray, List.length_cons, List.length_nil, Nat.reduceAdd, Nat.reduceSub, Array.replicate_succ, Array.replicate_zero, List.push_toArray, List.append_toArray, List.nil_append, List.cons_append]
  gi_wp2
  gi_loopw [3] (fun i wr => (i = .int .i64 0 ∧ wr = W) ∨ (i = .int .i64 (-1) ∧ J [()] wr)) (fun i _ => (intOf i + 1).toNat)
  case atStart => exact .inl ⟨rfl, rfl⟩
  case round =>
    rcases hrel with ⟨rfl, rfl⟩ | ⟨rfl, hJs⟩
    · obtain ⟨fn, tmps, assign, body, hy, hR⟩ := hY [] () _ h0 (by simp)
      gi_wp2
      refine hR.mono ?_
      rintro e W3 (⟨rfl, hJ3, hk3⟩ | ⟨rfl, hJx3⟩)
      · gi_wp2
        go_roundw
        case rel => exact .inr ⟨by simp, hJ3⟩
        case measure => simp [intOf]
      · gi_wp2
        refine bodyPost_ret (results_none rfl _ _ _) rfl ?_
        exact ⟨⟨_, rfl⟩, .inr ⟨_, rfl, hJx3⟩⟩
    · gi_wp2
      go_end0
      exact ⟨⟨_, rfl⟩, .inl ⟨_, rfl, hJs⟩⟩
set_option maxRecDepth 100000 in
set_option maxHeartbeats 4000000 in
theorem name_in (F : Fence) (n : Nat) (h61 : F.fn 61) (h74 : F.fn 74) (h86 : F.fn 86) (hro : F.round = none) (hn : 3 ≤ n) (cb co b off cap : Nat) (nm : ByteArray) (k : Int) (w : World)
    (hc : w.cell? ⟨cb, co + 6, none⟩ = some (.slice (some ⟨b, off, none⟩) 1 cap)) (h1 : w.cell? ⟨b, off, none⟩ = some (.string nm)) (h2 : w.cell? ⟨b, off + 1, none⟩ = some (.int .i64 k)) (hbw : b < w.heap.size) :
    CallsIn F n Try.prog 61 #[.pointer (some ⟨cb, co, none⟩), .string nm] w fun e w' => e = .returned (.int .i64 k) ∧ Below w.heap.size w w' := by
  have hn1 : 1 ≤ n := by omega
  refine callsIn_of_wp_marks Try.func61 rfl h61 ?_ hro
  simp only [Try.ntmps61, List.size_toArray, List.length_cons, List.length_nil, Nat.reduceAdd, Nat.reduceSub, Array.replicate_succ, Array.replicate_zero, List.push_toArray, List.append_toArray, List.nil_append, List.cons_append]
  have hc2 := cell_alloc_l (.cells #[.int .i64 0] 23) (cell_alloc_l (.cells #[.string nm] 9) hc)
  have h12 := cell_alloc_l (.cells #[.slice (some ⟨b, off, none⟩) 1 cap] 38) (cell_alloc_l (.cells #[.int .i64 0] 23) (cell_alloc_l (.cells #[.string nm] 9) h1))
  have h22 := cell_alloc_l (.cells #[.slice (some ⟨b, off, none⟩) 1 cap] 38) (cell_alloc_l (.cells #[.int .i64 0] 23) (cell_alloc_l (.cells #[.string nm] 9) h2))
  gi_wp2_with (gi_at_call 74; refine (back_in F (n - 1) h74 hro _ _ _ _).mono ?_; rintro e w' ⟨rfl, rfl⟩)
  have n1 := Boxed.new w 9 (.string nm)
  have n2 := Boxed.new (w.alloc (.cells #[.string nm] 9)) 23 (.int .i64 0)
  have n3 := Boxed.new ((w.alloc (.cells #[.string nm] 9)).alloc (.cells #[.int .i64 0] 23)) 38 (.slice (some ⟨b, off, none⟩) 1 cap)
  rw [World.size_alloc] at n2
  rw [World.size_alloc, World.size_alloc] at n3
  have bN := (n1.alloc (.cells #[.int .i64 0] 23)).alloc (.cells #[.slice (some ⟨b, off, none⟩) 1 cap] 38)
  have bR := n2.alloc (.cells #[.slice (some ⟨b, off, none⟩) 1 cap] 38)
  have hB0 : Below w.heap.size w (((w.alloc (.cells #[.string nm] 9)).alloc (.cells #[.int .i64 0] 23)).alloc (.cells #[.slice (some ⟨b, off, none⟩) 1 cap] 38)) :=
    (((Below.refl _ w).alloc (Nat.le_refl _) _).alloc (by simp) _).alloc (by simp; omega) _
  have hs3 : (((w.alloc (.cells #[.string nm] 9)).alloc (.cells #[.int .i64 0] 23)).alloc (.cells #[.slice (some ⟨b, off, none⟩) 1 cap] 38)).heap.size = w.heap.size + 3 := by simp
  clear hc2 n1 n2
  generalize hW0 : (((w.alloc (.cells #[.string nm] 9)).alloc (.cells #[.int .i64 0] 23)).alloc (.cells #[.slice (some ⟨b, off, none⟩) 1 cap] 38)) = W0 at *
  refine wpIn_rangeFunc_ownH hro hn1 (gf := 86) (lb := #[.pointer (some ⟨w.heap.size + 1 + 1, 0, none⟩)]) rfl h86 (enters_of Try.func86 (by kernel_rfl) rfl)
    (iter_stops F (n - 1) h86 hro (by omega) (w.heap.size + 1 + 1) w.heap.size b off cap nm k W0 (by omega) (by omega) hbw n3.cell h12 h22) belowK_t (belowK_b (by omega)) (Below.refl _ _) (fun _ => rfl)
    (fun pre W => (pre = [] ∧ (Boxed W w.heap.size 9 (.string nm) ∧ Boxed W (w.heap.size + 1) 23 (.int .i64 0))) ∧ Below w.heap.size w W)
    (fun c pre W => (c = .ret ∧ Boxed W (w.heap.size + 1) 23 (.int .i64 k)) ∧ Below w.heap.size w W)
    (OwnFrom.and (OwnFrom.and (ownFrom_pure _ _) (OwnFrom.and (Own.from (boxed_own _ _ _) _) (Own.from (boxed_own _ _ _) _))) (ownFrom_below (Nat.le_refl _) (by omega)))
    (fun c => OwnFrom.and (OwnFrom.and (ownFrom_pure _ _) (Own.from (boxed_own _ _ _) _)) (ownFrom_below (Nat.le_refl _) (by omega)))
    ⟨⟨rfl, bN, bR⟩, hB0⟩
    (fun x a' W => ∃ Bx, w.heap.size + 1 < Bx ∧ (W.cell? ⟨Bx, 0, none⟩ = some (.string nm) ∧ W.cell? ⟨Bx, 1, none⟩ = some (.int .i64 k)) ∧ a' = { tmps := #[.pointer (some ⟨cb, co, none⟩), .string nm, undef, .pointer (some ⟨w.heap.size, 0, none⟩), .pointer (some ⟨w.heap.size + 1, 0, none⟩), undef, .pointer (some ⟨Bx, 0, none⟩), undef, undef, .pointer (some ⟨cb, co, none⟩), .pointer (some ⟨cb, co, none⟩), .pointer (some ⟨cb, co + 6, none⟩), .slice (some ⟨b, off, none⟩) 1 cap, .func (.func 86) #[] #[.pointer (some ⟨w.heap.size + 1 + 1, 0, none⟩)], .int .i64 0, .agg #[.string nm, .int .i64 k], undef, undef, undef, undef, undef, undef, undef, undef, undef, undef, undef, undef, undef, undef, undef, undef, undef], defers := [] })
    (fun x a' _ X Y row hs hg hr => by obtain ⟨Bx, g1, ⟨g2, g3⟩, g4⟩ := hs; exact ⟨Bx, g1, ⟨cell_kept g2 hg (fun r e => (hr r e).2), cell_kept g3 hg (fun r e => (hr r e).2)⟩, g4⟩)
    ?assign ?body ?done ?stop
  case assign =>
    rintro l pre x W K ⟨⟨rfl, bN1, bR1⟩, hB1⟩ hK
    gi_wp2
    exact hK _ _ ((KeepsOthers.alloc _ _).from _) ((Below.refl _ W).alloc hB1.size _) ⟨⟨trivial, bN1.alloc _, bR1.alloc _⟩, hB1.alloc hB1.size _⟩ ⟨W.heap.size, bR1.lt, cell_two _ _ _ _, rfl⟩
  case body =>
    rintro l pre x a' W hl hr ⟨⟨rfl, bN1, bR1⟩, hB1⟩ ⟨Bx, hBx, ⟨g1, g2⟩, rfl⟩ hlt
    have cN := bN1.cell
    have cR := bR1.cell
    have fR := bR1.frozen
    gi_wp2
    exact ⟨(KeepsOthers.setCell _ _ _).from _, ⟨rfl, bR1.set _⟩, hB1.setCell (p := ⟨w.heap.size + 1, 0, none⟩) (by simp) _⟩
  case done =>
    rintro D ys W hD rfl ⟨⟨h, _⟩, _⟩ hK
    cases h
  case stop =>
    rintro D c pre W hD hpre ⟨⟨rfl, bR1⟩, hB⟩ hK
    gi_wp2
    refine ⟨by simp, .inl ⟨_, _, rfl, run_takeDeferred hK, ?_⟩⟩
    have hc5 := cell_kept bR1.cell (grownBy_putObj' _ D (.deferred none)) (fun r e => by cases e; exact ⟨_, hK, rfl⟩)
    refine ⟨.int .i64 k, ?_, rfl, hB.trans (belowK_b (w := w) (Nat.le_refl _) W D _ _ (by omega) hK rfl rfl)⟩
    simp [results, Try.f61, go_sem, hc5]
end Go.Proofs.Ytcjamnbbedpebaa.NameW
