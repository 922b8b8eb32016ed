-- Printed by a program of this session (wip/print) out of the translation; Lean checks it.
import Derived.Test.YthjhammjankekaaPNum0
import Derived.Test.YthjhammjankekaaPNum1
import Derived.Test.YthjhammjankekaaPNum2
import Derived.Test.YthjhammjankekaaPNum4
import Derived.Test.YthjhammjankekaaPNum5
namespace Go.Proofs.Ythjhammjankekaa.PNum
open Go.RowKit Go.Proofs.YthjhammjankekaaW.PrintWords Go.Proofs.YthjhammjankekaaW.PrintLast Go.Proofs.YthjhammjankekaaW.PrintMore
attribute [local go_sem] max2_int min2_int max_two min_two max_three min_three max_four min_four   -- for this text's walks alone
set_option linter.unusedVariables false
set_option linter.unusedSimpArgs false

attribute [local go_sem high] eqA48
/-! ### publicanlaw1_NumMany: function 11 -/
mutual
def publicanlaw1_NumMany.j0 : Nat → List Int → List Int → Bool → Option (Bool)
  | 0, _, _, _ => none
  | k + 1, x0, x1, x25 => if x25 = true then (some true) else ((num_Of.f 0).bind fun bt622 => ((num_Of.f 0).bind fun bt624 => (publicanlaw1_NumMany.l0 k x0 x1 true 0 bt622.1 bt622.2 bt624.1 bt624.2)))
def publicanlaw1_NumMany.l0 : Nat → List Int → List Int → Bool → Int → Int → Int → Int → Int → Option (Bool)
  | 0, _, _, _, _, _, _, _, _ => none
  | k + 1, x0, x1, x7, x8, x627000, x627001, x628000, x628001 => if x8 < (x0.length : Int) then (if 0 ≤ x8 then (if x8 < (x1.length : Int) then ((num_Wide_PlusMul.f x627000 x627001 (rd x0 x8) (rd x1 x8)).bind fun bt630 => (if 0 ≤ (wrap64 ((wrap64 ((x0.length : Int) - 1)) - x8)) then (if (wrap64 ((wrap64 ((x0.length : Int) - 1)) - x8)) < (x1.length : Int) then (if (wrap64 ((wrap64 ((x0.length : Int) - 1)) - x8)) < (x0.length : Int) then ((num_Wide_PlusMul.f x628000 x628001 (rd x1 (wrap64 ((wrap64 ((x0.length : Int) - 1)) - x8))) (rd x0 (wrap64 ((wrap64 ((x0.length : Int) - 1)) - x8)))).bind fun bt636 => (publicanlaw1_NumMany.j2 k x0 x1 x7 x8 bt630.2.2 bt636.2.2 bt630.1 bt630.2.1 bt636.1 bt636.2.1)) else (none)) else (none)) else (none))) else (none)) else (none)) else (if x7 = true then (some (x627000 == x628000 && (x627001 == x628001))) else (some true))
def publicanlaw1_NumMany.j2 : Nat → List Int → List Int → Bool → Int → Bool → Bool → Int → Int → Int → Int → Option (Bool)
  | 0, _, _, _, _, _, _, _, _, _, _ => none
  | k + 1, x0, x1, x7, x8, x10, x13, x627000, x627001, x628000, x628001 => if x7 = true then (if x10 = true then (publicanlaw1_NumMany.l0 k x0 x1 x13 (wrap64 (x8 + 1)) x627000 x627001 x628000 x628001) else (publicanlaw1_NumMany.l0 k x0 x1 false (wrap64 (x8 + 1)) x627000 x627001 x628000 x628001)) else (publicanlaw1_NumMany.l0 k x0 x1 false (wrap64 (x8 + 1)) x627000 x627001 x628000 x628001)
end
def publicanlaw1_NumMany.f (k : Nat) (l0 : List Int) (l1 : List Int) : Option (Bool) := (publicanlaw1_awake.f k).bind fun t621 => (if t621 = true then (if (l0.length : Int) > 30 then (publicanlaw1_NumMany.j0 k l0 l1 true) else (publicanlaw1_NumMany.j0 k l0 l1 ((l1.length : Int) != (l0.length : Int)))) else (none))
theorem publicanlaw1_NumMany.mono_l : ∀ k, (∀ y0 y1 y2, LeO (publicanlaw1_NumMany.j0 k y0 y1 y2) (publicanlaw1_NumMany.j0 (k + 1) y0 y1 y2)) ∧ (∀ y0 y1 y2 y3 y4 y5 y6 y7, LeO (publicanlaw1_NumMany.l0 k y0 y1 y2 y3 y4 y5 y6 y7) (publicanlaw1_NumMany.l0 (k + 1) y0 y1 y2 y3 y4 y5 y6 y7)) ∧ (∀ y0 y1 y2 y3 y4 y5 y6 y7 y8 y9, LeO (publicanlaw1_NumMany.j2 k y0 y1 y2 y3 y4 y5 y6 y7 y8 y9) (publicanlaw1_NumMany.j2 (k + 1) y0 y1 y2 y3 y4 y5 y6 y7 y8 y9))
  | 0 => ⟨fun _ _ _ r h => by simp [publicanlaw1_NumMany.j0] at h, fun _ _ _ _ _ _ _ _ r h => by simp [publicanlaw1_NumMany.l0] at h, fun _ _ _ _ _ _ _ _ _ _ r h => by simp [publicanlaw1_NumMany.j2] at h⟩
  | k + 1 => by
    obtain ⟨ih0, ih1, ih2⟩ := publicanlaw1_NumMany.mono_l k
    refine ⟨?_, ?_, ?_⟩
    · intro y0 y1 y2
      unfold publicanlaw1_NumMany.j0
      repeat' first
      | (with_reducible exact ih0 _ _ _)
      | (with_reducible exact ih1 _ _ _ _ _ _ _ _)
      | (with_reducible exact ih2 _ _ _ _ _ _ _ _ _ _)
      | (with_reducible exact publicanlaw1_awake.mono _)
      | (with_reducible exact LeO.refl _)
      | (with_reducible exact LeO.none _)
      | (with_reducible refine LeO.ite ?_ ?_)
      | (with_reducible refine LeO.bind ?_ (fun _ => ?_))
      | exact ih0 _ _ _
      | exact ih1 _ _ _ _ _ _ _ _
      | exact ih2 _ _ _ _ _ _ _ _ _ _
      | exact publicanlaw1_awake.mono _
      | exact LeO.none _
      | refine LeO.ite ?_ ?_
      | refine LeO.bind ?_ (fun _ => ?_)
    · intro y0 y1 y2 y3 y4 y5 y6 y7
      unfold publicanlaw1_NumMany.l0
      repeat' first
      | (with_reducible exact ih0 _ _ _)
      | (with_reducible exact ih1 _ _ _ _ _ _ _ _)
      | (with_reducible exact ih2 _ _ _ _ _ _ _ _ _ _)
      | (with_reducible exact publicanlaw1_awake.mono _)
      | (with_reducible exact LeO.refl _)
      | (with_reducible exact LeO.none _)
      | (with_reducible refine LeO.ite ?_ ?_)
      | (with_reducible refine LeO.bind ?_ (fun _ => ?_))
      | exact ih0 _ _ _
      | exact ih1 _ _ _ _ _ _ _ _
      | exact ih2 _ _ _ _ _ _ _ _ _ _
      | exact publicanlaw1_awake.mono _
      | exact LeO.none _
      | refine LeO.ite ?_ ?_
      | refine LeO.bind ?_ (fun _ => ?_)
    · intro y0 y1 y2 y3 y4 y5 y6 y7 y8 y9
      unfold publicanlaw1_NumMany.j2
      repeat' first
      | (with_reducible exact ih0 _ _ _)
      | (with_reducible exact ih1 _ _ _ _ _ _ _ _)
      | (with_reducible exact ih2 _ _ _ _ _ _ _ _ _ _)
      | (with_reducible exact publicanlaw1_awake.mono _)
      | (with_reducible exact LeO.refl _)
      | (with_reducible exact LeO.none _)
      | (with_reducible refine LeO.ite ?_ ?_)
      | (with_reducible refine LeO.bind ?_ (fun _ => ?_))
      | exact ih0 _ _ _
      | exact ih1 _ _ _ _ _ _ _ _
      | exact ih2 _ _ _ _ _ _ _ _ _ _
      | exact publicanlaw1_awake.mono _
      | exact LeO.none _
      | refine LeO.ite ?_ ?_
      | refine LeO.bind ?_ (fun _ => ?_)
theorem publicanlaw1_NumMany.mono : ∀ a0 a1 k, LeO (publicanlaw1_NumMany.f k a0 a1) (publicanlaw1_NumMany.f (k + 1) a0 a1) := by
  intro a0 a1 k
  obtain ⟨ih0, ih1, ih2⟩ := publicanlaw1_NumMany.mono_l k
  unfold publicanlaw1_NumMany.f
  repeat' first
      | (with_reducible exact ih0 _ _ _)
      | (with_reducible exact ih1 _ _ _ _ _ _ _ _)
      | (with_reducible exact ih2 _ _ _ _ _ _ _ _ _ _)
      | (with_reducible exact publicanlaw1_awake.mono _)
      | (with_reducible exact LeO.refl _)
      | (with_reducible exact LeO.none _)
      | (with_reducible refine LeO.ite ?_ ?_)
      | (with_reducible refine LeO.bind ?_ (fun _ => ?_))
      | exact ih0 _ _ _
      | exact ih1 _ _ _ _ _ _ _ _
      | exact ih2 _ _ _ _ _ _ _ _ _ _
      | exact publicanlaw1_awake.mono _
      | exact LeO.none _
      | refine LeO.ite ?_ ?_
      | refine LeO.bind ?_ (fun _ => ?_)
def publicanlaw1_NumMany.T10 : Bool × List (List Nat × List Nat) := (true, [([], []), ([], []), ([], []), ([1, 2], [1, 2]), ([3], [3]), ([], []), ([], []), ([5, 6], [5, 6]), ([7], [7]), ([0, 4, 8], [0, 4, 8]), ([9], [9]), ([10], [10]), ([10], [10]), ([], []), ([13, 11, 9, 0, 1, 2, 3, 4, 5, 6, 7, 8, 9, 10, 11, 13], [11, 13]), ([12, 14, 0, 1, 2, 3, 4, 5, 6, 7, 8, 9, 10, 11, 12, 13, 14], [12])])
def publicanlaw1_NumMany.B10 : List Nat := [0, 0, 0, 6, 14, 0, 0, 96, 224, 511, 1023, 2047, 2047, 0, 12287, 32767]
theorem publicanlaw1_NumMany.tab10 : rtab .any (opsOf Try.f11 10) = publicanlaw1_NumMany.T10 := by kernel_rfl
theorem publicanlaw1_NumMany.bits10 : waitsOk publicanlaw1_NumMany.T10.2 publicanlaw1_NumMany.B10 = true := by kernel_rfl
def publicanlaw1_NumMany.T12 : Bool × List (List Nat × List Nat) := (true, [([], []), ([], []), ([], []), ([1, 2], [1, 2]), ([3], [3]), ([], []), ([], []), ([5, 6], [5, 6]), ([7], [7]), ([0, 4, 8], [0, 4, 8]), ([9], [9]), ([10], [10]), ([10], [10]), ([], []), ([13, 11, 9, 0, 1, 2, 3, 4, 5, 6, 7, 8, 9, 10, 11, 13], [11, 13]), ([12, 14, 0, 1, 2, 3, 4, 5, 6, 7, 8, 9, 10, 11, 12, 13, 14], [12])])
def publicanlaw1_NumMany.B12 : List Nat := [0, 0, 0, 6, 14, 0, 0, 96, 224, 511, 1023, 2047, 2047, 0, 12287, 32767]
theorem publicanlaw1_NumMany.tab12 : rtab .any (opsOf Try.f11 12) = publicanlaw1_NumMany.T12 := by kernel_rfl
theorem publicanlaw1_NumMany.bits12 : waitsOk publicanlaw1_NumMany.T12.2 publicanlaw1_NumMany.B12 = true := by kernel_rfl
set_option maxHeartbeats 8000000 in
set_option maxRecDepth 100000 in
theorem publicanlaw1_NumMany.calls (k : Nat) (A0 : Option Addr) (c0 : Nat) (l0 : List Int) (A1 : Option Addr) (c1 : Nat) (l1 : List Int) (r : Bool) (w : World) (hr0 : Kd.C (Kd.int .i64) w A0 l0.length l0) (hc0 : l0.length ≤ c0) (hr1 : Kd.C (Kd.int .i64) w A1 l1.length l1) (hc1 : l1.length ≤ c1) (h : publicanlaw1_NumMany.f k l0 l1 = some r) :
    Calls Try.prog 11 #[.slice A0 l0.length c0, .slice A1 l1.length c1] w fun e w' => e = .returned (.bool r) ∧ Below w.heap.size w w' := by
  have hu48 := Try.underlying48
  have HR0 := Aside0.mk hr0
  have HC0 := Aside0.mk hc0
  clear hr0 hc0
  have HR1 := Aside0.mk hr1
  have HC1 := Aside0.mk hc1
  clear hr1 hc1
  have HB := Aside0.mk (Below.refl w.heap.size w)
  have H : ((publicanlaw1_awake.f k).bind fun t621 => (if t621 = true then (if (l0.length : Int) > 30 then (publicanlaw1_NumMany.j0 k l0 l1 true) else (publicanlaw1_NumMany.j0 k l0 l1 ((l1.length : Int) != (l0.length : Int)))) else (none))) = some r := h
  clear h
  replace H := Option.bind_eq_some_iff.mp H
  obtain ⟨t621, A30, H⟩ := H
  replace H : (if t621 = true then (if (l0.length : Int) > 30 then (publicanlaw1_NumMany.j0 k l0 l1 true) else (publicanlaw1_NumMany.j0 k l0 l1 ((l1.length : Int) != (l0.length : Int)))) else (none)) = some r := H
  have A3 := Aside0.mk A30
  clear A30
  by_cases c4 : t621 = true
  · subst c4
    have H1 : (if (l0.length : Int) > 30 then (publicanlaw1_NumMany.j0 k l0 l1 true) else (publicanlaw1_NumMany.j0 k l0 l1 ((l1.length : Int) != (l0.length : Int)))) = some r := by rw [if_pos rfl] at H; exact H
    clear H
    have H := H1
    clear H1
    have HC5 := Aside0.mk H
    clear H
    go_enter Try.func11, Try.ntmps11
    go_upto_region 3 with (first | ((with_reducible refine gate_callee (f := 22) rfl ?_); refine goesL_ (some 14) rfl rfl Try.func22 (by kernel_rfl) rfl #[] rfl (by (try simp only [List.map_toArray, List.map_cons, List.map_nil]); first | done | rfl | (simp only [List.length_drop, List.length_take]; rfl)) ?_; (with_reducible refine (publicanlaw1_awake.calls k  true _ A3.out).mono ?_); rintro e w6 ⟨rfl, hb⟩; refine ⟨_, rfl, ?_⟩; have n0_ := Aside0.mk (below_step (by repeat (first | (with_reducible first | exact HB.out | apply below_alloc | apply pw_below_drewN | apply below_drew1) | exact HB.out)) hb); clear HB; have HB := n0_; clear n0_; (try clear hb); (try clear hb2); (try clear hk); (try clear hi)))
    (try simp only [Act.put, List.setIfInBounds_toArray, List.set_cons_zero, List.set_cons_succ])
    go_cut [25] (fun v25 wc => ∃ (kq : Nat) (x25_4 : Bool), v25 = .bool x25_4 ∧ Aside0 (publicanlaw1_NumMany.j0 kq l0 l1 x25_4 = some r) ∧ Aside0 (kq ≤ k) ∧ Aside0 (Below w.heap.size w wc))
    case first =>
      have H := HC5.out
      clear HC5
      by_cases c7 : (l0.length : Int) > 30
      · rw [if_pos c7] at H
        have c7b0 : decide (30 < (l0.length : Int)) = true := decide_eq_true c7
        have c7b1 : decide (30 < l0.length) = true := decide_eq_true (by omega)
        clear c7
        (first | rw [c7b0] | (simp only [i64_w, i32_w]; rw [c7b0]) | skip)
        have H' := Aside0.mk H
        clear H
        go_wp2
        go_meet
        case rel => exact ⟨_, (true), (by first | rfl | (simp; done) | (simp [*]; done)), H', ⟨by first | omega | exact Nat.le_refl _⟩, ⟨by repeat (first | (with_reducible first | exact HB.out | apply below_alloc | apply pw_below_drewN | apply below_drew1) | exact HB.out)⟩⟩
      · rw [if_neg c7] at H
        have c7b0 : decide (30 < (l0.length : Int)) = false := decide_eq_false c7
        have c7b1 : decide (30 < l0.length) = false := decide_eq_false (by omega)
        clear c7
        (first | rw [c7b0] | (simp only [i64_w, i32_w]; rw [c7b0]) | skip)
        have H' := Aside0.mk H
        clear H
        go_wp2
        go_meet
        case rel => exact ⟨_, (((l1.length : Int) != (l0.length : Int))), (by first | rfl | (simp; done) | (simp [*]; done)), H', ⟨by first | omega | exact Nat.le_refl _⟩, ⟨by repeat (first | (with_reducible first | exact HB.out | apply below_alloc | apply pw_below_drewN | apply below_drew1) | exact HB.out)⟩⟩
    case rest =>
      clear HC5
      try clear c1
      try clear c2
      try clear p2
      try clear c4
      try clear c7
      try clear c7b0
      try clear c7b1
      obtain ⟨kq, x25_4, rfl, HA, HJ4, HB⟩ := hcut
      cases kq with
      | zero => exact absurd HA.out (by simp [publicanlaw1_NumMany.j0])
      | succ kj4 =>
        have H := HA.out
        clear HA
        simp only [publicanlaw1_NumMany.j0] at H
        by_cases c8 : x25_4 = true
        · subst c8
          have H1 : (some true) = some r := by rw [if_pos rfl] at H; exact H
          clear H
          have H := H1
          clear H1
          obtain rfl := Option.some.inj H
          go_wp2
          go_ret
          exact ⟨by first | rfl | (simp [errW_none, errW_some] <;> rfl) | (simp [*, errW_none, errW_some] <;> rfl), by repeat (first | (with_reducible first | exact HB.out | apply below_alloc | apply pw_below_drewN | apply below_drew1) | exact HB.out)⟩
        · replace c8 := Bool.eq_false_iff.mpr c8
          subst c8
          have H1 : ((num_Of.f 0).bind fun bt622 => ((num_Of.f 0).bind fun bt624 => (publicanlaw1_NumMany.l0 kj4 l0 l1 true 0 bt622.1 bt622.2 bt624.1 bt624.2))) = some r := by rw [if_neg (show ¬ (false = true) by decide)] at H; exact H
          clear H
          have H := H1
          clear H1
          replace H := Option.bind_eq_some_iff.mp H
          obtain ⟨⟨t622, t623⟩, A90, H⟩ := H
          replace H : ((num_Of.f 0).bind fun bt624 => (publicanlaw1_NumMany.l0 kj4 l0 l1 true 0 t622 t623 bt624.1 bt624.2)) = some r := H
          have A9 := Aside0.mk A90
          clear A90
          replace H := Option.bind_eq_some_iff.mp H
          obtain ⟨⟨t624, t625⟩, A100, H⟩ := H
          replace H : (publicanlaw1_NumMany.l0 kj4 l0 l1 true 0 t622 t623 t624 t625) = some r := H
          have A10 := Aside0.mk A100
          clear A100
          have H' := Aside0.mk H
          clear H
          go_wp2_with (first | ((with_reducible refine gate_callee (f := 28) rfl ?_); refine goesL_ (some 26) rfl rfl Try.func28 (by kernel_rfl) rfl #[.int .i64 0] rfl (by (try simp only [List.map_toArray, List.map_cons, List.map_nil]); first | done | rfl | (simp only [List.length_drop, List.length_take]; rfl)) ?_; (with_reducible refine (num_Of.calls 0 t622 t623 _ A9.out).mono ?_); rintro e w11 ⟨rfl, hb⟩; refine ⟨_, rfl, ?_⟩; have n0_ := Aside0.mk (below_step (by repeat (first | (with_reducible first | exact HB.out | apply below_alloc | apply pw_below_drewN | apply below_drew1) | exact HB.out)) hb); clear HB; have HB := n0_; clear n0_; (try clear hb); (try clear hb2); (try clear hk); (try clear hi)) | ((with_reducible refine gate_callee (f := 28) rfl ?_); refine goesL_ (some 27) rfl rfl Try.func28 (by kernel_rfl) rfl #[.int .i64 0] rfl (by (try simp only [List.map_toArray, List.map_cons, List.map_nil]); first | done | rfl | (simp only [List.length_drop, List.length_take]; rfl)) ?_; (with_reducible refine (num_Of.calls 0 t624 t625 _ A10.out).mono ?_); rintro e w12 ⟨rfl, hb⟩; refine ⟨_, rfl, ?_⟩; have n0_ := Aside0.mk (below_step (by repeat (first | (with_reducible first | exact HB.out | apply below_alloc | apply pw_below_drewN | apply below_drew1) | exact HB.out)) hb); clear HB; have HB := n0_; clear n0_; (try clear hb); (try clear hb2); (try clear hk); (try clear hi)) | ((with_reducible refine gate_dst (N := 5) rfl ?_); (try (refine gate_guard (by rfl) ?_; dsimp only)); refine box_event ?hg (N := 5) ?hd (cs := #[.int .i64 0, .int .u64 0]) (t := 48) ?hr ?_; (case hd => rfl); (case hg => rfl); (case hr => first | (go_simp; done) | (go_simp; rfl)); intro gb626 hg w13 hbox hb; have n0_ := Aside0.mk (below_step (by repeat (first | (with_reducible first | exact HB.out | apply below_alloc | apply pw_below_drewN | apply below_drew1) | exact HB.out)) hb); have n1_ := Aside0.mk (hbox); have n2_ := Aside0.mk ((by rw [hg]; exact (below_size (by repeat (first | (with_reducible first | exact HB.out | apply below_alloc | apply pw_below_drewN | apply below_drew1) | exact HB.out))) : w.heap.size ≤ gb626)); have n3_ := Aside0.mk ((by rw [hg]; exact (below_size (by repeat (first | (with_reducible first | exact HB.out | apply below_alloc | apply pw_below_drewN | apply below_drew1) | exact HB.out))) : w.heap.size ≤ gb626)); clear HB; have HB := n0_; have BK626 := n1_; have GW626 := n2_; have GE626 := n3_; clear n0_ n1_ n2_ n3_; clear hb hbox hg) | ((with_reducible refine gate_dst (N := 6) rfl ?_); (try (refine gate_guard (by rfl) ?_; dsimp only)); refine box_event ?hg (N := 6) ?hd (cs := #[.int .i64 0, .int .u64 0]) (t := 48) ?hr ?_; (case hd => rfl); (case hg => rfl); (case hr => first | (go_simp; done) | (go_simp; rfl)); intro gb627 hg w14 hbox hb; have n0_ := Aside0.mk (blk_below (g := gb626) (o := .cells #[.int .i64 0, .int .u64 0] 48 (0, 0)) (by (with_reducible repeat (first | refine blk_drewN ?_ _ | refine blk_drew ?_ | refine blk_alloc ?_ _)); exact BK626.out) hb); have n1_ := Aside0.mk (below_step (by repeat (first | (with_reducible first | exact HB.out | apply below_alloc | apply pw_below_drewN | apply below_drew1 | refine below_set ?_ GE626.out) | exact HB.out)) hb); have n2_ := Aside0.mk (hbox); have n3_ := Aside0.mk ((by rw [hg]; exact (below_size (by repeat (first | (with_reducible first | exact HB.out | apply below_alloc | apply pw_below_drewN | apply below_drew1 | refine below_set ?_ GE626.out) | exact HB.out))) : w.heap.size ≤ gb627)); have n4_ := Aside0.mk ((by rw [hg]; exact (below_size (by repeat (first | (with_reducible first | exact HB.out | apply below_alloc | apply pw_below_drewN | apply below_drew1 | refine below_set ?_ GE626.out) | exact HB.out))) : w.heap.size ≤ gb627)); have n5_ := Aside0.mk ((by rw [hg]; exact Nat.ne_of_lt (blk_lt (g := gb626) (o := .cells #[.int .i64 0, .int .u64 0] 48 (0, 0)) (by (with_reducible repeat (first | refine blk_drewN ?_ _ | refine blk_drew ?_ | refine blk_alloc ?_ _)); exact BK626.out)) : gb626 ≠ gb627)); have n6_ := Aside0.mk ((by rw [hg]; exact Nat.ne_of_gt (blk_lt (g := gb626) (o := .cells #[.int .i64 0, .int .u64 0] 48 (0, 0)) (by (with_reducible repeat (first | refine blk_drewN ?_ _ | refine blk_drew ?_ | refine blk_alloc ?_ _)); exact BK626.out)) : gb627 ≠ gb626)); clear BK626; clear HB; have BK626 := n0_; have HB := n1_; have BK627 := n2_; have GW627 := n3_; have GE627 := n4_; have NB626_627 := n5_; have NB627_626 := n6_; clear n0_ n1_ n2_ n3_ n4_ n5_ n6_; clear hb hbox hg; have hnb15 := NB626_627.out; have hnc15 := NB627_626.out; have hcz16_0 : w14.cell? ⟨gb626, 0, none⟩ = some (.int .i64 0) := (blk_cell BK626.out 0).trans rfl; have hcz16_1 : w14.cell? ⟨gb626, 1, none⟩ = some (.int .u64 0) := (blk_cell BK626.out 1).trans rfl; have hfz16_0 := blk_frozen BK626.out 0; have hfz16_1 := blk_frozen BK626.out 1; have hcz17_0 : w14.cell? ⟨gb627, 0, none⟩ = some (.int .i64 0) := (blk_cell BK627.out 0).trans rfl; have hcz17_1 : w14.cell? ⟨gb627, 1, none⟩ = some (.int .u64 0) := (blk_cell BK627.out 1).trans rfl; have hfz17_0 := blk_frozen BK627.out 0; have hfz17_1 := blk_frozen BK627.out 1))
          go_loopg [7, 8] kj4 (fun kq v7 v8 w' => ∃ (x7_2 : Bool) (x8_2 : Int) (x627000_2 : Int) (x627001_2 : Int) (x628000_2 : Int) (x628001_2 : Int), v7 = .bool x7_2 ∧ v8 = .int .i64 x8_2 ∧ Aside0 (publicanlaw1_NumMany.l0 kq l0 l1 x7_2 x8_2 x627000_2 x627001_2 x628000_2 x628001_2 = some r) ∧ Aside0 (kq ≤ kj4) ∧ Aside0 (w'.heap[gb626]? = some (.cells #[.int .i64 x627000_2, .int .u64 x627001_2] 48 (0, 0))) ∧ Aside0 (w'.heap[gb627]? = some (.cells #[.int .i64 x628000_2, .int .u64 x628001_2] 48 (0, 0))) ∧ Aside0 (Below w.heap.size w w'))
          case atStart => exact ⟨(true), (0), (t622), (t623), (t624), (t625), (by first | rfl | (simp; done) | (simp [*]; done)), (by first | rfl | (simp; done) | (simp [*]; done)), H', ⟨Nat.le_refl _⟩, ⟨by (with_reducible repeat (first | refine blk_drewN ?_ _ | refine blk_drew ?_ | refine blk_alloc ?_ _)); refine blk_far ?_ NB626_627.out _; (with_reducible repeat (first | refine blk_drewN ?_ _ | refine blk_drew ?_ | refine blk_alloc ?_ _)); refine blk_far ?_ NB626_627.out _; (with_reducible repeat (first | refine blk_drewN ?_ _ | refine blk_drew ?_ | refine blk_alloc ?_ _)); refine blk_put (cs := #[.int .i64 t622, .int .u64 0]) ?_ 1 _ rfl; (with_reducible repeat (first | refine blk_drewN ?_ _ | refine blk_drew ?_ | refine blk_alloc ?_ _)); refine blk_put (cs := #[.int .i64 0, .int .u64 0]) ?_ 0 _ rfl; (with_reducible repeat (first | refine blk_drewN ?_ _ | refine blk_drew ?_ | refine blk_alloc ?_ _)); exact BK626.out⟩, ⟨by (with_reducible repeat (first | refine blk_drewN ?_ _ | refine blk_drew ?_ | refine blk_alloc ?_ _)); refine blk_put (cs := #[.int .i64 t624, .int .u64 0]) ?_ 1 _ rfl; (with_reducible repeat (first | refine blk_drewN ?_ _ | refine blk_drew ?_ | refine blk_alloc ?_ _)); refine blk_put (cs := #[.int .i64 0, .int .u64 0]) ?_ 0 _ rfl; (with_reducible repeat (first | refine blk_drewN ?_ _ | refine blk_drew ?_ | refine blk_alloc ?_ _)); refine blk_far ?_ NB627_626.out _; (with_reducible repeat (first | refine blk_drewN ?_ _ | refine blk_drew ?_ | refine blk_alloc ?_ _)); refine blk_far ?_ NB627_626.out _; (with_reducible repeat (first | refine blk_drewN ?_ _ | refine blk_drew ?_ | refine blk_alloc ?_ _)); exact BK627.out⟩, ⟨by repeat (first | (with_reducible first | exact HB.out | apply below_alloc | apply pw_below_drewN | apply below_drew1 | refine below_set ?_ GE626.out | refine below_set ?_ GE627.out) | exact HB.out)⟩⟩
          case round =>
            clear H'
            try clear c1
            try clear c2
            try clear p2
            try clear c4
            try clear c7
            try clear c7b0
            try clear c7b1
            try clear c8
            try clear c11
            try clear c15
            try clear hcz16_0
            try clear hcz16_1
            try clear hcz17_0
            try clear hcz17_1
            try clear hfz16_0
            try clear hfz16_1
            try clear hfz17_0
            try clear hfz17_1
            try clear p2
            try clear BK626
            try clear BK627
            obtain ⟨x7_2, x8_2, x627000_2, x627001_2, x628000_2, x628001_2, rfl, rfl, HA, HK2, BK626, BK627, HB⟩ := hrel
            cases gk with
            | zero => exact absurd HA.out (by simp [publicanlaw1_NumMany.l0])
            | succ k2 =>
              have H := HA.out
              clear HA
              simp only [publicanlaw1_NumMany.l0] at H
              by_cases c18 : x8_2 < (l0.length : Int)
              · rw [if_pos c18] at H
                have c18b0 : decide (x8_2 < (l0.length : Int)) = true := decide_eq_true c18
                clear c18
                by_cases c19 : 0 ≤ x8_2
                · rw [if_pos c19] at H
                  have c19b0 : decide (0 ≤ x8_2) = true := decide_eq_true c19
                  clear c19
                  by_cases c20 : x8_2 < (l1.length : Int)
                  · rw [if_pos c20] at H
                    have c20b0 : decide (x8_2 < (l1.length : Int)) = true := decide_eq_true c20
                    clear c20
                    replace H := Option.bind_eq_some_iff.mp H
                    obtain ⟨⟨t630, t631, t632⟩, A210, H⟩ := H
                    replace H : (if 0 ≤ (wrap64 ((wrap64 ((l0.length : Int) - 1)) - x8_2)) then (if (wrap64 ((wrap64 ((l0.length : Int) - 1)) - x8_2)) < (l1.length : Int) then (if (wrap64 ((wrap64 ((l0.length : Int) - 1)) - x8_2)) < (l0.length : Int) then ((num_Wide_PlusMul.f x628000_2 x628001_2 (rd l1 (wrap64 ((wrap64 ((l0.length : Int) - 1)) - x8_2))) (rd l0 (wrap64 ((wrap64 ((l0.length : Int) - 1)) - x8_2)))).bind fun bt636 => (publicanlaw1_NumMany.j2 k2 l0 l1 x7_2 x8_2 t632 bt636.2.2 t630 t631 bt636.1 bt636.2.1)) else (none)) else (none)) else (none)) = some r := H
                    have A21 := Aside0.mk A210
                    clear A210
                    obtain ⟨ji22, hji22⟩ : ∃ j_ : Int, (wrap64 ((wrap64 ((l0.length : Int) - 1)) - x8_2)) = j_ := ⟨_, rfl⟩
                    replace H : (if 0 ≤ (ji22) then (if (ji22) < (l1.length : Int) then (if (ji22) < (l0.length : Int) then ((num_Wide_PlusMul.f x628000_2 x628001_2 (rd l1 (ji22)) (rd l0 (ji22))).bind fun bt636 => (publicanlaw1_NumMany.j2 k2 l0 l1 x7_2 x8_2 t632 bt636.2.2 t630 t631 bt636.1 bt636.2.1)) else (none)) else (none)) else (none)) = some r := by first | (rw [hji22] at H; exact H) | (simp only [hji22] at H ⊢; exact H)
                    (try rw [hji22] at A21)
                    have hji22w : (IntKind.i64.wrap ((wrap64 ((l0.length : Int) - 1)) - x8_2)) = ji22 := (i64_w _).trans hji22
                    by_cases c23 : 0 ≤ (ji22)
                    · rw [if_pos c23] at H
                      have c23b0 : decide (0 ≤ (ji22)) = true := decide_eq_true c23
                      clear c23
                      by_cases c24 : (ji22) < (l1.length : Int)
                      · rw [if_pos c24] at H
                        have c24b0 : decide ((ji22) < (l1.length : Int)) = true := decide_eq_true c24
                        clear c24
                        by_cases c25 : (ji22) < (l0.length : Int)
                        · rw [if_pos c25] at H
                          have c25b0 : decide ((ji22) < (l0.length : Int)) = true := decide_eq_true c25
                          clear c25
                          replace H := Option.bind_eq_some_iff.mp H
                          obtain ⟨⟨t636, t637, t638⟩, A260, H⟩ := H
                          replace H : (publicanlaw1_NumMany.j2 k2 l0 l1 x7_2 x8_2 t632 t638 t630 t631 t636 t637) = some r := H
                          have A26 := Aside0.mk A260
                          clear A260
                          have HC27 := Aside0.mk H
                          clear H
                          try go_wp2
                          have n0_ := Aside0.mk (blk_drew BK626.out)
                          have n1_ := Aside0.mk (blk_drew BK627.out)
                          have n2_ := Aside0.mk (below_drew1 HB.out)
                          clear BK626
                          clear BK627
                          clear HB
                          have BK626 := n0_
                          have BK627 := n1_
                          have HB := n2_
                          clear n0_ n1_ n2_
                          have p628 : 0 ≤ (x8_2 : Int) := of_decide_eq_true (by first | (with_reducible assumption) | assumption)
                          have q628 : x8_2 < (l0.length : Int) := of_decide_eq_true (by first | (with_reducible assumption) | assumption)
                          obtain ⟨ad628, e628, hx628_0⟩ := Kd.at_int HR0.out x8_2 p628 q628
                          have hw628_0 := hx628_0
                          cases e628
                          replace hx628_0 := (HB.out.cell (World.block_lt_of_cell? w _ hx628_0)).trans hx628_0
                          replace p628 := eq_true p628
                          replace q628 := eq_true q628
                          have p629 : 0 ≤ (x8_2 : Int) := of_decide_eq_true (by first | (with_reducible assumption) | assumption)
                          have q629 : x8_2 < (l1.length : Int) := of_decide_eq_true (by first | (with_reducible assumption) | assumption)
                          obtain ⟨ad629, e629, hx629_0⟩ := Kd.at_int HR1.out x8_2 p629 q629
                          have hw629_0 := hx629_0
                          cases e629
                          replace hx629_0 := (HB.out.cell (World.block_lt_of_cell? w _ hx629_0)).trans hx629_0
                          replace p629 := eq_true p629
                          replace q629 := eq_true q629
                          refine start_ (n := 16) (S := fun w' => w'.cell? ⟨gb626, 0, none⟩ = some (.int .i64 x627000_2) ∧ w'.cell? ⟨gb626, 1, none⟩ = some (.int .u64 x627001_2) ∧ w'.cell? (ad628.add (x8_2).toNat) = some (.int .i64 (rd l0 x8_2)) ∧ w'.cell? (ad629.add (x8_2).toNat) = some (.int .i64 (rd l1 x8_2))) (ds := []) #[false, false, false, false, false, false, false, false, false, false, false, false, false, false, false, false] (by kernel_rfl) rfl rfl ⟨(blk_cell BK626.out 0).trans rfl, (blk_cell BK626.out 1).trans rfl, ((HB.out.cell (World.block_lt_of_cell? w _ hw628_0)).trans hw628_0), ((HB.out.cell (World.block_lt_of_cell? w _ hw629_0)).trans hw629_0)⟩ (fun hHeld => ?_); refine with_tabW publicanlaw1_NumMany.tab10 publicanlaw1_NumMany.bits10 (fun HT_ HW_ => ?_)
                          generalize wr.drew = w28 at BK626 BK627 HB hx628_0 hx629_0 hHeld ⊢
                          refine pure_ (i := 1) (N := some 36) (v := ?_) (a' := ?_) #[false, true, false, false, false, false, false, false, false, false, false, false, false, false, false, false] rfl rfl (any_of HT_.out (by kernel_rfl)) (fun _ _ _ h => h) (Or.inl ⟨by rfl, ?_⟩) ?_ ?_
                          rotate_left
                          · intro w'
                            go_simp
                            with_reducible rfl
                          rotate_left
                          · simp only [Act.put, List.setIfInBounds_toArray, List.set_cons_zero, List.set_cons_succ, i64_w, i32_w]
                            rfl
                          refine pure_ (i := 2) (N := some 37) (v := ?_) (a' := ?_) #[false, true, true, false, false, false, false, false, false, false, false, false, false, false, false, false] rfl rfl (any_of HT_.out (by kernel_rfl)) (fun _ _ _ h => h) (Or.inl ⟨by rfl, ?_⟩) ?_ ?_
                          rotate_left
                          · intro w'
                            go_simp
                            with_reducible rfl
                          rotate_left
                          · simp only [Act.put, List.setIfInBounds_toArray, List.set_cons_zero, List.set_cons_succ, i64_w, i32_w]
                            rfl
                          refine pure_ (i := 3) (N := some 38) (v := ?_) (a' := ?_) #[false, true, true, true, false, false, false, false, false, false, false, false, false, false, false, false] rfl rfl (any_of HT_.out (by kernel_rfl)) (fun _ _ _ h => h) (Or.inl ⟨by rfl, ?_⟩) ?_ ?_
                          rotate_left
                          · intro w'
                            go_simp
                            with_reducible rfl
                          rotate_left
                          · simp only [Act.put, List.setIfInBounds_toArray, List.set_cons_zero, List.set_cons_succ, i64_w, i32_w]
                            rfl
                          refine pure_ (i := 5) (N := some 40) (v := ?_) (a' := ?_) #[false, true, true, true, false, true, false, false, false, false, false, false, false, false, false, false] rfl rfl (any_of HT_.out (by kernel_rfl)) (fun _ _ _ h => h) (Or.inl ⟨by rfl, ?_⟩) ?_ ?_
                          rotate_left
                          · intro w'
                            go_simp
                            with_reducible rfl
                          rotate_left
                          · simp only [Act.put, List.setIfInBounds_toArray, List.set_cons_zero, List.set_cons_succ, i64_w, i32_w]
                            rfl
                          refine pure_ (i := 6) (N := some 41) (v := ?_) (a' := ?_) #[false, true, true, true, false, true, true, false, false, false, false, false, false, false, false, false] rfl rfl (any_of HT_.out (by kernel_rfl)) (fun _ _ _ h => h) (Or.inl ⟨by rfl, ?_⟩) ?_ ?_
                          rotate_left
                          · intro w'
                            go_simp
                            with_reducible rfl
                          rotate_left
                          · simp only [Act.put, List.setIfInBounds_toArray, List.set_cons_zero, List.set_cons_succ, i64_w, i32_w]
                            rfl
                          refine pure_ (i := 7) (N := some 42) (v := ?_) (a' := ?_) #[false, true, true, true, false, true, true, true, false, false, false, false, false, false, false, false] rfl rfl (any_of HT_.out (by kernel_rfl)) (fun _ _ _ h => h) (Or.inl ⟨by rfl, ?_⟩) ?_ ?_
                          rotate_left
                          · intro w'
                            go_simp
                            with_reducible rfl
                          rotate_left
                          · simp only [Act.put, List.setIfInBounds_toArray, List.set_cons_zero, List.set_cons_succ, i64_w, i32_w]
                            rfl
                          refine take_ (i := 0) (N := some 35) (v := ?_) (a' := ?_) #[true, true, true, true, false, true, true, true, false, false, false, false, false, false, false, false] rfl rfl (take_ofW HT_.out HW_.out (by kernel_rfl)) (fun _ _ _ h => h) (Or.inl ⟨by rfl, ?_⟩) hHeld ?_ ?_
                          rotate_left
                          · rintro w' ⟨s0, s1, s2, s3⟩
                            go_simp
                            with_reducible rfl
                          rotate_left
                          · simp only [Act.put, List.setIfInBounds_toArray, List.set_cons_zero, List.set_cons_succ, i64_w, i32_w]
                            rfl
                          refine take_ (i := 4) (N := some 39) (v := ?_) (a' := ?_) #[true, true, true, true, true, true, true, true, false, false, false, false, false, false, false, false] rfl rfl (take_ofW HT_.out HW_.out (by kernel_rfl)) (fun _ _ _ h => h) (Or.inl ⟨by rfl, ?_⟩) hHeld ?_ ?_
                          rotate_left
                          · rintro w' ⟨s0, s1, s2, s3⟩
                            go_simp
                            with_reducible rfl
                          rotate_left
                          · simp only [Act.put, List.setIfInBounds_toArray, List.set_cons_zero, List.set_cons_succ, i64_w, i32_w]
                            rfl
                          refine take_ (i := 8) (N := some 43) (v := ?_) (a' := ?_) #[true, true, true, true, true, true, true, true, true, false, false, false, false, false, false, false] rfl rfl (take_ofW HT_.out HW_.out (by kernel_rfl)) (fun _ _ _ h => h) (Or.inl ⟨by rfl, ?_⟩) hHeld ?_ ?_
                          rotate_left
                          · rintro w' ⟨s0, s1, s2, s3⟩
                            go_simp
                            with_reducible rfl
                          rotate_left
                          · simp only [Act.put, List.setIfInBounds_toArray, List.set_cons_zero, List.set_cons_succ, i64_w, i32_w]
                            rfl
                          refine join_ (σ := Nat) 2 #[true, true, true, true, true, true, true, true, true, true, true, true, true, true, false, false] (fun s_ => [(44, .tuple #[.agg #[.int .i64 t630, .int .u64 t631], .bool t632]), (9, .pointer (some ⟨s_, 0, none⟩)), (34, .tuple #[.agg #[.int .i64 t630, .int .u64 t631], .bool t632]), (45, .agg #[.int .i64 t630, .int .u64 t631]), (46, .bool t632)]) (fun s_ w' => (w'.cell? ⟨gb626, 0, none⟩ = some (.int .i64 x627000_2) ∧ w'.cell? ⟨gb626, 1, none⟩ = some (.int .u64 x627001_2) ∧ w'.cell? (ad628.add (x8_2).toNat) = some (.int .i64 (rd l0 x8_2)) ∧ w'.cell? (ad629.add (x8_2).toNat) = some (.int .i64 (rd l1 x8_2))) ∧ (w'.heap[gb626]? = some (.cells #[.int .i64 x627000_2, .int .u64 x627001_2] 48 (0, 0))) ∧ (w'.heap[gb627]? = some (.cells #[.int .i64 x628000_2, .int .u64 x628001_2] 48 (0, 0))) ∧ (w'.heap[s_]? = some (.cells #[.int .i64 0, .int .u64 0] 48 (0, 0))) ∧ (w.heap.size ≤ s_) ∧ (w.heap.size ≤ s_) ∧ (gb626 ≠ s_) ∧ (s_ ≠ gb626) ∧ (gb627 ≠ s_) ∧ (s_ ≠ gb627) ∧ (Below w.heap.size w w')) ?_ ?_
                          rotate_left
                          · intro hCont
                            refine two_ (i := 9) (j := 13) (Ni := some 44) (Nj := some 9) #[true, true, true, true, true, true, true, true, true, true, false, false, false, false, false, false] #[true, true, true, true, true, true, true, true, true, false, false, false, false, true, false, false] rfl rfl rfl rfl (two_of HT_.out (by kernel_rfl)) (by decide) (by decide) (fun K hK => ?_) (fun K hK => ?_)
                            · skip
                              refine goes_ Try.func37 (by kernel_rfl) rfl #[.agg #[.int .i64 x627000_2, .int .u64 x627001_2], .int .i64 (rd l0 x8_2), .int .i64 (rd l1 x8_2)] (by rfl) rfl rfl (by (try simp only [List.map_toArray, List.map_cons, List.map_nil]); first | done | rfl | (simp only [List.length_drop, List.length_take]; rfl)) ?_
                              with_reducible refine (num_Wide_PlusMul.calls x627000_2 x627001_2 (rd l0 x8_2) (rd l1 x8_2) t630 t631 t632 _ A21.out).mono ?_
                              rintro e w29 ⟨rfl, hb⟩
                              refine ⟨_, rfl, ?_⟩
                              have n0_ := Aside0.mk (blk_below (g := gb626) (o := .cells #[.int .i64 x627000_2, .int .u64 x627001_2] 48 (0, 0)) (by (with_reducible repeat (first | refine blk_drewN ?_ _ | refine blk_drew ?_ | refine blk_alloc ?_ _)); exact BK626.out) hb)
                              have n1_ := Aside0.mk (blk_below (g := gb627) (o := .cells #[.int .i64 x628000_2, .int .u64 x628001_2] 48 (0, 0)) (by (with_reducible repeat (first | refine blk_drewN ?_ _ | refine blk_drew ?_ | refine blk_alloc ?_ _)); exact BK627.out) hb)
                              have n2_ := Aside0.mk (below_step (by repeat (first | (with_reducible first | exact HB.out | apply below_alloc | apply pw_below_drewN | apply below_drew1 | refine below_set ?_ GE626.out | refine below_set ?_ GE627.out) | exact HB.out)) hb)
                              clear BK626
                              clear BK627
                              clear HB
                              have BK626 := n0_
                              have BK627 := n1_
                              have HB := n2_
                              clear n0_ n1_ n2_
                              (try clear hb)
                              (try clear hb2)
                              (try clear hk)
                              (try clear hi)
                              refine hK.out _ _ ⟨(blk_cell BK626.out 0).trans rfl, (blk_cell BK626.out 1).trans rfl, ((HB.out.cell (World.block_lt_of_cell? w _ hw628_0)).trans hw628_0), ((HB.out.cell (World.block_lt_of_cell? w _ hw629_0)).trans hw629_0)⟩ (fun hHeld => ?_)
                              clear hK K
                              refine norm_ (a' := ?_) ?_ ?_
                              rotate_left
                              · show Act.put _ (some 44) _ = _
                                simp only [Act.put, List.setIfInBounds_toArray, List.set_cons_zero, List.set_cons_succ, i64_w, i32_w]
                                rfl
                              refine pure_ (i := 10) (N := some 34) (v := ?_) (a' := ?_) #[true, true, true, true, true, true, true, true, true, true, true, false, false, false, false, false] rfl rfl (any_of HT_.out (by kernel_rfl)) (fun _ _ _ h => h) (Or.inl ⟨by rfl, ?_⟩) ?_ ?_
                              rotate_left
                              · intro w'
                                go_simp
                                with_reducible rfl
                              rotate_left
                              · simp only [Act.put, List.setIfInBounds_toArray, List.set_cons_zero, List.set_cons_succ, i64_w, i32_w]
                                rfl
                              refine pure_ (i := 11) (N := some 45) (v := ?_) (a' := ?_) #[true, true, true, true, true, true, true, true, true, true, true, true, false, false, false, false] rfl rfl (any_of HT_.out (by kernel_rfl)) (fun _ _ _ h => h) (Or.inl ⟨by rfl, ?_⟩) ?_ ?_
                              rotate_left
                              · intro w'
                                go_simp
                                with_reducible rfl
                              rotate_left
                              · simp only [Act.put, List.setIfInBounds_toArray, List.set_cons_zero, List.set_cons_succ, i64_w, i32_w]
                                rfl
                              refine pure_ (i := 12) (N := some 46) (v := ?_) (a' := ?_) #[true, true, true, true, true, true, true, true, true, true, true, true, true, false, false, false] rfl rfl (any_of HT_.out (by kernel_rfl)) (fun _ _ _ h => h) (Or.inl ⟨by rfl, ?_⟩) ?_ ?_
                              rotate_left
                              · intro w'
                                go_simp
                                with_reducible rfl
                              rotate_left
                              · simp only [Act.put, List.setIfInBounds_toArray, List.set_cons_zero, List.set_cons_succ, i64_w, i32_w]
                                rfl
                              refine one_ (i := 13) (N := some 9) #[true, true, true, true, true, true, true, true, true, true, true, true, true, true, false, false] rfl rfl (one_of HT_.out (by kernel_rfl)) (by decide) (fun K hK => ?_)
                              refine box_step ?hg (N := 9) ?hd (cs := #[.int .i64 0, .int .u64 0]) (t := 48) ?hr ?_; (case hd => rfl); (case hg => rfl); (case hr => first | (go_simp; done) | (go_simp; rfl))
                              intro gb633 hg w30 hbox hb
                              have n0_ := Aside0.mk (blk_below (g := gb626) (o := .cells #[.int .i64 x627000_2, .int .u64 x627001_2] 48 (0, 0)) (by (with_reducible repeat (first | refine blk_drewN ?_ _ | refine blk_drew ?_ | refine blk_alloc ?_ _)); exact BK626.out) hb)
                              have n1_ := Aside0.mk (blk_below (g := gb627) (o := .cells #[.int .i64 x628000_2, .int .u64 x628001_2] 48 (0, 0)) (by (with_reducible repeat (first | refine blk_drewN ?_ _ | refine blk_drew ?_ | refine blk_alloc ?_ _)); exact BK627.out) hb)
                              have n2_ := Aside0.mk (below_step (by repeat (first | (with_reducible first | exact HB.out | apply below_alloc | apply pw_below_drewN | apply below_drew1 | refine below_set ?_ GE626.out | refine below_set ?_ GE627.out) | exact HB.out)) hb)
                              have n3_ := Aside0.mk (hbox)
                              have n4_ := Aside0.mk ((by rw [hg]; exact (below_size (by repeat (first | (with_reducible first | exact HB.out | apply below_alloc | apply pw_below_drewN | apply below_drew1 | refine below_set ?_ GE626.out | refine below_set ?_ GE627.out) | exact HB.out))) : w.heap.size ≤ gb633))
                              have n5_ := Aside0.mk ((by rw [hg]; exact (below_size (by repeat (first | (with_reducible first | exact HB.out | apply below_alloc | apply pw_below_drewN | apply below_drew1 | refine below_set ?_ GE626.out | refine below_set ?_ GE627.out) | exact HB.out))) : w.heap.size ≤ gb633))
                              have n6_ := Aside0.mk ((by rw [hg]; exact Nat.ne_of_lt (blk_lt (g := gb626) (o := .cells #[.int .i64 x627000_2, .int .u64 x627001_2] 48 (0, 0)) (by (with_reducible repeat (first | refine blk_drewN ?_ _ | refine blk_drew ?_ | refine blk_alloc ?_ _)); exact BK626.out)) : gb626 ≠ gb633))
                              have n7_ := Aside0.mk ((by rw [hg]; exact Nat.ne_of_gt (blk_lt (g := gb626) (o := .cells #[.int .i64 x627000_2, .int .u64 x627001_2] 48 (0, 0)) (by (with_reducible repeat (first | refine blk_drewN ?_ _ | refine blk_drew ?_ | refine blk_alloc ?_ _)); exact BK626.out)) : gb633 ≠ gb626))
                              have n8_ := Aside0.mk ((by rw [hg]; exact Nat.ne_of_lt (blk_lt (g := gb627) (o := .cells #[.int .i64 x628000_2, .int .u64 x628001_2] 48 (0, 0)) (by (with_reducible repeat (first | refine blk_drewN ?_ _ | refine blk_drew ?_ | refine blk_alloc ?_ _)); exact BK627.out)) : gb627 ≠ gb633))
                              have n9_ := Aside0.mk ((by rw [hg]; exact Nat.ne_of_gt (blk_lt (g := gb627) (o := .cells #[.int .i64 x628000_2, .int .u64 x628001_2] 48 (0, 0)) (by (with_reducible repeat (first | refine blk_drewN ?_ _ | refine blk_drew ?_ | refine blk_alloc ?_ _)); exact BK627.out)) : gb633 ≠ gb627))
                              clear BK626
                              clear BK627
                              clear HB
                              have BK626 := n0_
                              have BK627 := n1_
                              have HB := n2_
                              have BK633 := n3_
                              have GW633 := n4_
                              have GE633 := n5_
                              have NB626_633 := n6_
                              have NB633_626 := n7_
                              have NB627_633 := n8_
                              have NB633_627 := n9_
                              clear n0_ n1_ n2_ n3_ n4_ n5_ n6_ n7_ n8_ n9_
                              clear hb hbox hg
                              refine hK.out _ _ ⟨(blk_cell BK626.out 0).trans rfl, (blk_cell BK626.out 1).trans rfl, ((HB.out.cell (World.block_lt_of_cell? w _ hw628_0)).trans hw628_0), ((HB.out.cell (World.block_lt_of_cell? w _ hw629_0)).trans hw629_0)⟩ (fun hHeld => ?_)
                              clear hK K
                              refine norm_ (a' := ?_) ?_ ?_
                              rotate_left
                              · show Act.put _ (some 9) _ = _
                                simp only [Act.put, List.setIfInBounds_toArray, List.set_cons_zero, List.set_cons_succ, i64_w, i32_w]
                                rfl
                              exact norm_ (by simp only [putAll, Act.put, List.setIfInBounds_toArray, List.set_cons_zero, List.set_cons_succ]) (hCont (gb633) _ ⟨hHeld, (by (with_reducible repeat (first | refine blk_drewN ?_ _ | refine blk_drew ?_ | refine blk_alloc ?_ _)); exact BK626.out), (by (with_reducible repeat (first | refine blk_drewN ?_ _ | refine blk_drew ?_ | refine blk_alloc ?_ _)); exact BK627.out), (by (with_reducible repeat (first | refine blk_drewN ?_ _ | refine blk_drew ?_ | refine blk_alloc ?_ _)); exact BK633.out), GW633.out, GE633.out, NB626_633.out, NB633_626.out, NB627_633.out, NB633_627.out, (by repeat (first | (with_reducible first | exact HB.out | apply below_alloc | apply pw_below_drewN | apply below_drew1 | refine below_set ?_ GE626.out | refine below_set ?_ GE627.out | refine below_set ?_ GE633.out) | exact HB.out))⟩)
                            · skip
                              refine box_step ?hg (N := 9) ?hd (cs := #[.int .i64 0, .int .u64 0]) (t := 48) ?hr ?_; (case hd => rfl); (case hg => rfl); (case hr => first | (go_simp; done) | (go_simp; rfl))
                              intro gb633 hg w29 hbox hb
                              have n0_ := Aside0.mk (blk_below (g := gb626) (o := .cells #[.int .i64 x627000_2, .int .u64 x627001_2] 48 (0, 0)) (by (with_reducible repeat (first | refine blk_drewN ?_ _ | refine blk_drew ?_ | refine blk_alloc ?_ _)); exact BK626.out) hb)
                              have n1_ := Aside0.mk (blk_below (g := gb627) (o := .cells #[.int .i64 x628000_2, .int .u64 x628001_2] 48 (0, 0)) (by (with_reducible repeat (first | refine blk_drewN ?_ _ | refine blk_drew ?_ | refine blk_alloc ?_ _)); exact BK627.out) hb)
                              have n2_ := Aside0.mk (below_step (by repeat (first | (with_reducible first | exact HB.out | apply below_alloc | apply pw_below_drewN | apply below_drew1 | refine below_set ?_ GE626.out | refine below_set ?_ GE627.out) | exact HB.out)) hb)
                              have n3_ := Aside0.mk (hbox)
                              have n4_ := Aside0.mk ((by rw [hg]; exact (below_size (by repeat (first | (with_reducible first | exact HB.out | apply below_alloc | apply pw_below_drewN | apply below_drew1 | refine below_set ?_ GE626.out | refine below_set ?_ GE627.out) | exact HB.out))) : w.heap.size ≤ gb633))
                              have n5_ := Aside0.mk ((by rw [hg]; exact (below_size (by repeat (first | (with_reducible first | exact HB.out | apply below_alloc | apply pw_below_drewN | apply below_drew1 | refine below_set ?_ GE626.out | refine below_set ?_ GE627.out) | exact HB.out))) : w.heap.size ≤ gb633))
                              have n6_ := Aside0.mk ((by rw [hg]; exact Nat.ne_of_lt (blk_lt (g := gb626) (o := .cells #[.int .i64 x627000_2, .int .u64 x627001_2] 48 (0, 0)) (by (with_reducible repeat (first | refine blk_drewN ?_ _ | refine blk_drew ?_ | refine blk_alloc ?_ _)); exact BK626.out)) : gb626 ≠ gb633))
                              have n7_ := Aside0.mk ((by rw [hg]; exact Nat.ne_of_gt (blk_lt (g := gb626) (o := .cells #[.int .i64 x627000_2, .int .u64 x627001_2] 48 (0, 0)) (by (with_reducible repeat (first | refine blk_drewN ?_ _ | refine blk_drew ?_ | refine blk_alloc ?_ _)); exact BK626.out)) : gb633 ≠ gb626))
                              have n8_ := Aside0.mk ((by rw [hg]; exact Nat.ne_of_lt (blk_lt (g := gb627) (o := .cells #[.int .i64 x628000_2, .int .u64 x628001_2] 48 (0, 0)) (by (with_reducible repeat (first | refine blk_drewN ?_ _ | refine blk_drew ?_ | refine blk_alloc ?_ _)); exact BK627.out)) : gb627 ≠ gb633))
                              have n9_ := Aside0.mk ((by rw [hg]; exact Nat.ne_of_gt (blk_lt (g := gb627) (o := .cells #[.int .i64 x628000_2, .int .u64 x628001_2] 48 (0, 0)) (by (with_reducible repeat (first | refine blk_drewN ?_ _ | refine blk_drew ?_ | refine blk_alloc ?_ _)); exact BK627.out)) : gb633 ≠ gb627))
                              clear BK626
                              clear BK627
                              clear HB
                              have BK626 := n0_
                              have BK627 := n1_
                              have HB := n2_
                              have BK633 := n3_
                              have GW633 := n4_
                              have GE633 := n5_
                              have NB626_633 := n6_
                              have NB633_626 := n7_
                              have NB627_633 := n8_
                              have NB633_627 := n9_
                              clear n0_ n1_ n2_ n3_ n4_ n5_ n6_ n7_ n8_ n9_
                              clear hb hbox hg
                              refine hK.out _ _ ⟨(blk_cell BK626.out 0).trans rfl, (blk_cell BK626.out 1).trans rfl, ((HB.out.cell (World.block_lt_of_cell? w _ hw628_0)).trans hw628_0), ((HB.out.cell (World.block_lt_of_cell? w _ hw629_0)).trans hw629_0)⟩ (fun hHeld => ?_)
                              clear hK K
                              refine norm_ (a' := ?_) ?_ ?_
                              rotate_left
                              · show Act.put _ (some 9) _ = _
                                simp only [Act.put, List.setIfInBounds_toArray, List.set_cons_zero, List.set_cons_succ, i64_w, i32_w]
                                rfl
                              refine one_ (i := 9) (N := some 44) #[true, true, true, true, true, true, true, true, true, true, false, false, false, true, false, false] rfl rfl (one_of HT_.out (by kernel_rfl)) (by decide) (fun K hK => ?_)
                              refine goes_ Try.func37 (by kernel_rfl) rfl #[.agg #[.int .i64 x627000_2, .int .u64 x627001_2], .int .i64 (rd l0 x8_2), .int .i64 (rd l1 x8_2)] (by rfl) rfl rfl (by (try simp only [List.map_toArray, List.map_cons, List.map_nil]); first | done | rfl | (simp only [List.length_drop, List.length_take]; rfl)) ?_
                              with_reducible refine (num_Wide_PlusMul.calls x627000_2 x627001_2 (rd l0 x8_2) (rd l1 x8_2) t630 t631 t632 _ A21.out).mono ?_
                              rintro e w30 ⟨rfl, hb⟩
                              refine ⟨_, rfl, ?_⟩
                              have n0_ := Aside0.mk (blk_below (g := gb626) (o := .cells #[.int .i64 x627000_2, .int .u64 x627001_2] 48 (0, 0)) (by (with_reducible repeat (first | refine blk_drewN ?_ _ | refine blk_drew ?_ | refine blk_alloc ?_ _)); exact BK626.out) hb)
                              have n1_ := Aside0.mk (blk_below (g := gb627) (o := .cells #[.int .i64 x628000_2, .int .u64 x628001_2] 48 (0, 0)) (by (with_reducible repeat (first | refine blk_drewN ?_ _ | refine blk_drew ?_ | refine blk_alloc ?_ _)); exact BK627.out) hb)
                              have n2_ := Aside0.mk (blk_below (g := gb633) (o := .cells #[.int .i64 0, .int .u64 0] 48 (0, 0)) (by (with_reducible repeat (first | refine blk_drewN ?_ _ | refine blk_drew ?_ | refine blk_alloc ?_ _)); exact BK633.out) hb)
                              have n3_ := Aside0.mk (below_step (by repeat (first | (with_reducible first | exact HB.out | apply below_alloc | apply pw_below_drewN | apply below_drew1 | refine below_set ?_ GE626.out | refine below_set ?_ GE627.out | refine below_set ?_ GE633.out) | exact HB.out)) hb)
                              clear BK626
                              clear BK627
                              clear BK633
                              clear HB
                              have BK626 := n0_
                              have BK627 := n1_
                              have BK633 := n2_
                              have HB := n3_
                              clear n0_ n1_ n2_ n3_
                              (try clear hb)
                              (try clear hb2)
                              (try clear hk)
                              (try clear hi)
                              refine hK.out _ _ ⟨(blk_cell BK626.out 0).trans rfl, (blk_cell BK626.out 1).trans rfl, ((HB.out.cell (World.block_lt_of_cell? w _ hw628_0)).trans hw628_0), ((HB.out.cell (World.block_lt_of_cell? w _ hw629_0)).trans hw629_0)⟩ (fun hHeld => ?_)
                              clear hK K
                              refine norm_ (a' := ?_) ?_ ?_
                              rotate_left
                              · show Act.put _ (some 44) _ = _
                                simp only [Act.put, List.setIfInBounds_toArray, List.set_cons_zero, List.set_cons_succ, i64_w, i32_w]
                                rfl
                              refine pure_ (i := 10) (N := some 34) (v := ?_) (a' := ?_) #[true, true, true, true, true, true, true, true, true, true, true, false, false, true, false, false] rfl rfl (any_of HT_.out (by kernel_rfl)) (fun _ _ _ h => h) (Or.inl ⟨by rfl, ?_⟩) ?_ ?_
                              rotate_left
                              · intro w'
                                go_simp
                                with_reducible rfl
                              rotate_left
                              · simp only [Act.put, List.setIfInBounds_toArray, List.set_cons_zero, List.set_cons_succ, i64_w, i32_w]
                                rfl
                              refine pure_ (i := 11) (N := some 45) (v := ?_) (a' := ?_) #[true, true, true, true, true, true, true, true, true, true, true, true, false, true, false, false] rfl rfl (any_of HT_.out (by kernel_rfl)) (fun _ _ _ h => h) (Or.inl ⟨by rfl, ?_⟩) ?_ ?_
                              rotate_left
                              · intro w'
                                go_simp
                                with_reducible rfl
                              rotate_left
                              · simp only [Act.put, List.setIfInBounds_toArray, List.set_cons_zero, List.set_cons_succ, i64_w, i32_w]
                                rfl
                              refine pure_ (i := 12) (N := some 46) (v := ?_) (a' := ?_) #[true, true, true, true, true, true, true, true, true, true, true, true, true, true, false, false] rfl rfl (any_of HT_.out (by kernel_rfl)) (fun _ _ _ h => h) (Or.inl ⟨by rfl, ?_⟩) ?_ ?_
                              rotate_left
                              · intro w'
                                go_simp
                                with_reducible rfl
                              rotate_left
                              · simp only [Act.put, List.setIfInBounds_toArray, List.set_cons_zero, List.set_cons_succ, i64_w, i32_w]
                                rfl
                              exact norm_ (by simp only [putAll, Act.put, List.setIfInBounds_toArray, List.set_cons_zero, List.set_cons_succ]) (hCont (gb633) _ ⟨hHeld, (by (with_reducible repeat (first | refine blk_drewN ?_ _ | refine blk_drew ?_ | refine blk_alloc ?_ _)); exact BK626.out), (by (with_reducible repeat (first | refine blk_drewN ?_ _ | refine blk_drew ?_ | refine blk_alloc ?_ _)); exact BK627.out), (by (with_reducible repeat (first | refine blk_drewN ?_ _ | refine blk_drew ?_ | refine blk_alloc ?_ _)); exact BK633.out), GW633.out, GE633.out, NB626_633.out, NB633_626.out, NB627_633.out, NB633_627.out, (by repeat (first | (with_reducible first | exact HB.out | apply below_alloc | apply pw_below_drewN | apply below_drew1 | refine below_set ?_ GE626.out | refine below_set ?_ GE627.out | refine below_set ?_ GE633.out) | exact HB.out))⟩)
                          rintro gb633 w31 ⟨hS_, h0_, h1_, h2_, h3_, h4_, h5_, h6_, h7_, h8_, h9_⟩
                          have n0_ : Aside0 (w31.heap[gb626]? = some (.cells #[.int .i64 x627000_2, .int .u64 x627001_2] 48 (0, 0))) := ⟨h0_⟩
                          have n1_ : Aside0 (w31.heap[gb627]? = some (.cells #[.int .i64 x628000_2, .int .u64 x628001_2] 48 (0, 0))) := ⟨h1_⟩
                          have n2_ : Aside0 (w31.heap[gb633]? = some (.cells #[.int .i64 0, .int .u64 0] 48 (0, 0))) := ⟨h2_⟩
                          have n3_ : Aside0 (w.heap.size ≤ gb633) := ⟨h3_⟩
                          have n4_ : Aside0 (w.heap.size ≤ gb633) := ⟨h4_⟩
                          have n5_ : Aside0 (gb626 ≠ gb633) := ⟨h5_⟩
                          have n6_ : Aside0 (gb633 ≠ gb626) := ⟨h6_⟩
                          have n7_ : Aside0 (gb627 ≠ gb633) := ⟨h7_⟩
                          have n8_ : Aside0 (gb633 ≠ gb627) := ⟨h8_⟩
                          have n9_ : Aside0 (Below w.heap.size w w31) := ⟨h9_⟩
                          clear BK626
                          clear BK627
                          clear HB
                          clear h0_ h1_ h2_ h3_ h4_ h5_ h6_ h7_ h8_ h9_
                          have BK626 := n0_
                          have BK627 := n1_
                          have BK633 := n2_
                          have GW633 := n3_
                          have GE633 := n4_
                          have NB626_633 := n5_
                          have NB633_626 := n6_
                          have NB627_633 := n7_
                          have NB633_627 := n8_
                          have HB := n9_
                          clear n0_ n1_ n2_ n3_ n4_ n5_ n6_ n7_ n8_ n9_
                          have hHeld : w31.cell? ⟨gb626, 0, none⟩ = some (.int .i64 x627000_2) ∧ w31.cell? ⟨gb626, 1, none⟩ = some (.int .u64 x627001_2) ∧ w31.cell? (ad628.add (x8_2).toNat) = some (.int .i64 (rd l0 x8_2)) ∧ w31.cell? (ad629.add (x8_2).toNat) = some (.int .i64 (rd l1 x8_2)) := hS_
                          refine norm_ (a' := ?_) ?_ ?_
                          rotate_left
                          · simp only [putAll, Act.put, List.setIfInBounds_toArray, List.set_cons_zero, List.set_cons_succ]
                            rfl
                          refine one_ (i := 14) (N := none) #[true, true, true, true, true, true, true, true, true, true, true, true, true, true, true, false] rfl rfl (one_of HT_.out (by kernel_rfl)) (by decide) (fun K hK => ?_)
                          have hs32 : w31.cell? ⟨gb633, 0, none⟩ = some (.int .i64 0) := (blk_cell BK633.out 0).trans rfl
                          have hfs32 := blk_frozen BK633.out 0
                          have hns32_0 := NB626_633.out
                          have hns32_1 := NB627_633.out
                          have hms32_0 := NB633_626.out
                          have hms32_1 := NB633_627.out
                          have hs33 : w31.cell? ⟨gb633, 1, none⟩ = some (.int .u64 0) := (blk_cell BK633.out 1).trans rfl
                          have hfs33 := blk_frozen BK633.out 1
                          have hns33_0 := NB626_633.out
                          have hns33_1 := NB627_633.out
                          have hms33_0 := NB633_626.out
                          have hms33_1 := NB633_627.out
                          refine skip_ (w1 := ?_) (by rfl) rfl ?_ ?_
                          rotate_left
                          · go_simp
                            rfl
                          refine hK.out _ _ ⟨((cell_far (p := ⟨gb633, _, none⟩) NB626_633.out _).trans (((cell_far (p := ⟨gb633, _, none⟩) NB626_633.out _).trans (hHeld.1)))), ((cell_far (p := ⟨gb633, _, none⟩) NB626_633.out _).trans (((cell_far (p := ⟨gb633, _, none⟩) NB626_633.out _).trans (hHeld.2.1)))), ((cell_far (p := ⟨gb633, _, none⟩) (by first | exact Nat.ne_of_lt (Nat.lt_of_lt_of_le (by have := World.block_lt_of_cell? _ _ hw628_0; first | rwa [add_block] at this | exact this) GW633.out) | (rw [add_block]; exact Nat.ne_of_lt (Nat.lt_of_lt_of_le (by have := World.block_lt_of_cell? _ _ hw628_0; first | rwa [add_block] at this | exact this) GW633.out)) | (show (Addr.add _ _).block ≠ _; rw [add_block]; exact Nat.ne_of_lt (Nat.lt_of_lt_of_le (by have := World.block_lt_of_cell? _ _ hw628_0; first | rwa [add_block] at this | exact this) GW633.out)) | (dsimp only; exact Nat.ne_of_lt (Nat.lt_of_lt_of_le (by have := World.block_lt_of_cell? _ _ hw628_0; first | rwa [add_block] at this | exact this) GW633.out))) _).trans (((cell_far (p := ⟨gb633, _, none⟩) (by first | exact Nat.ne_of_lt (Nat.lt_of_lt_of_le (by have := World.block_lt_of_cell? _ _ hw628_0; first | rwa [add_block] at this | exact this) GW633.out) | (rw [add_block]; exact Nat.ne_of_lt (Nat.lt_of_lt_of_le (by have := World.block_lt_of_cell? _ _ hw628_0; first | rwa [add_block] at this | exact this) GW633.out)) | (show (Addr.add _ _).block ≠ _; rw [add_block]; exact Nat.ne_of_lt (Nat.lt_of_lt_of_le (by have := World.block_lt_of_cell? _ _ hw628_0; first | rwa [add_block] at this | exact this) GW633.out)) | (dsimp only; exact Nat.ne_of_lt (Nat.lt_of_lt_of_le (by have := World.block_lt_of_cell? _ _ hw628_0; first | rwa [add_block] at this | exact this) GW633.out))) _).trans (hHeld.2.2.1)))), ((cell_far (p := ⟨gb633, _, none⟩) (by first | exact Nat.ne_of_lt (Nat.lt_of_lt_of_le (by have := World.block_lt_of_cell? _ _ hw629_0; first | rwa [add_block] at this | exact this) GW633.out) | (rw [add_block]; exact Nat.ne_of_lt (Nat.lt_of_lt_of_le (by have := World.block_lt_of_cell? _ _ hw629_0; first | rwa [add_block] at this | exact this) GW633.out)) | (show (Addr.add _ _).block ≠ _; rw [add_block]; exact Nat.ne_of_lt (Nat.lt_of_lt_of_le (by have := World.block_lt_of_cell? _ _ hw629_0; first | rwa [add_block] at this | exact this) GW633.out)) | (dsimp only; exact Nat.ne_of_lt (Nat.lt_of_lt_of_le (by have := World.block_lt_of_cell? _ _ hw629_0; first | rwa [add_block] at this | exact this) GW633.out))) _).trans (((cell_far (p := ⟨gb633, _, none⟩) (by first | exact Nat.ne_of_lt (Nat.lt_of_lt_of_le (by have := World.block_lt_of_cell? _ _ hw629_0; first | rwa [add_block] at this | exact this) GW633.out) | (rw [add_block]; exact Nat.ne_of_lt (Nat.lt_of_lt_of_le (by have := World.block_lt_of_cell? _ _ hw629_0; first | rwa [add_block] at this | exact this) GW633.out)) | (show (Addr.add _ _).block ≠ _; rw [add_block]; exact Nat.ne_of_lt (Nat.lt_of_lt_of_le (by have := World.block_lt_of_cell? _ _ hw629_0; first | rwa [add_block] at this | exact this) GW633.out)) | (dsimp only; exact Nat.ne_of_lt (Nat.lt_of_lt_of_le (by have := World.block_lt_of_cell? _ _ hw629_0; first | rwa [add_block] at this | exact this) GW633.out))) _).trans (hHeld.2.2.2))))⟩ (fun hHeld => ?_)
                          clear hK K
                          refine pure_ (i := 15) (N := some 10) (v := ?_) (a' := ?_) #[true, true, true, true, true, true, true, true, true, true, true, true, true, true, true, true] rfl rfl (any_of HT_.out (by kernel_rfl)) (fun _ _ _ h => h) (Or.inl ⟨by rfl, ?_⟩) ?_ ?_
                          rotate_left
                          · intro w'
                            go_simp
                            with_reducible rfl
                          rotate_left
                          · simp only [Act.put, List.setIfInBounds_toArray, List.set_cons_zero, List.set_cons_succ, i64_w, i32_w]
                            rfl
                          refine done_ (done_of HT_.out (by kernel_rfl)) ?_
                          try go_wp2
                          have n0_ : Aside0 (((w31.setCell ⟨gb633, 0, none⟩ (.int .i64 t630)).setCell ⟨gb633, 1, none⟩ (.int .u64 t631)).heap[gb626]? = some (.cells #[.int .i64 x627000_2, .int .u64 x627001_2] 48 (0, 0))) := ⟨by (with_reducible repeat (first | refine blk_drewN ?_ _ | refine blk_drew ?_ | refine blk_alloc ?_ _)); refine blk_far ?_ NB626_633.out _; (with_reducible repeat (first | refine blk_drewN ?_ _ | refine blk_drew ?_ | refine blk_alloc ?_ _)); refine blk_far ?_ NB626_633.out _; (with_reducible repeat (first | refine blk_drewN ?_ _ | refine blk_drew ?_ | refine blk_alloc ?_ _)); exact BK626.out⟩
                          have n1_ : Aside0 (((w31.setCell ⟨gb633, 0, none⟩ (.int .i64 t630)).setCell ⟨gb633, 1, none⟩ (.int .u64 t631)).heap[gb627]? = some (.cells #[.int .i64 x628000_2, .int .u64 x628001_2] 48 (0, 0))) := ⟨by (with_reducible repeat (first | refine blk_drewN ?_ _ | refine blk_drew ?_ | refine blk_alloc ?_ _)); refine blk_far ?_ NB627_633.out _; (with_reducible repeat (first | refine blk_drewN ?_ _ | refine blk_drew ?_ | refine blk_alloc ?_ _)); refine blk_far ?_ NB627_633.out _; (with_reducible repeat (first | refine blk_drewN ?_ _ | refine blk_drew ?_ | refine blk_alloc ?_ _)); exact BK627.out⟩
                          have n2_ : Aside0 (((w31.setCell ⟨gb633, 0, none⟩ (.int .i64 t630)).setCell ⟨gb633, 1, none⟩ (.int .u64 t631)).heap[gb633]? = some (.cells #[.int .i64 t630, .int .u64 t631] 48 (0, 0))) := ⟨by (with_reducible repeat (first | refine blk_drewN ?_ _ | refine blk_drew ?_ | refine blk_alloc ?_ _)); refine blk_put (cs := #[.int .i64 t630, .int .u64 0]) ?_ 1 _ rfl; (with_reducible repeat (first | refine blk_drewN ?_ _ | refine blk_drew ?_ | refine blk_alloc ?_ _)); refine blk_put (cs := #[.int .i64 0, .int .u64 0]) ?_ 0 _ rfl; (with_reducible repeat (first | refine blk_drewN ?_ _ | refine blk_drew ?_ | refine blk_alloc ?_ _)); exact BK633.out⟩
                          have n3_ : Aside0 (Below w.heap.size w ((w31.setCell ⟨gb633, 0, none⟩ (.int .i64 t630)).setCell ⟨gb633, 1, none⟩ (.int .u64 t631))) := ⟨by repeat (first | (with_reducible first | exact HB.out | apply below_alloc | apply pw_below_drewN | apply below_drew1 | refine below_set ?_ GE626.out | refine below_set ?_ GE627.out | refine below_set ?_ GE633.out) | exact HB.out)⟩
                          (try clear BK626)
                          (try clear BK627)
                          (try clear BK633)
                          (try clear HB)
                          generalize ((w31.setCell ⟨gb633, 0, none⟩ (.int .i64 t630)).setCell ⟨gb633, 1, none⟩ (.int .u64 t631)) = w34 at n0_ n1_ n2_ n3_ ⊢
                          have BK626 := n0_
                          have BK627 := n1_
                          have BK633 := n2_
                          have HB := n3_
                          clear n0_ n1_ n2_ n3_
                          have n0_ := Aside0.mk (blk_drew BK626.out)
                          have n1_ := Aside0.mk (blk_drew BK627.out)
                          have n2_ := Aside0.mk (blk_drew BK633.out)
                          have n3_ := Aside0.mk (below_drew1 HB.out)
                          clear BK626
                          clear BK627
                          clear BK633
                          clear HB
                          have BK626 := n0_
                          have BK627 := n1_
                          have BK633 := n2_
                          have HB := n3_
                          clear n0_ n1_ n2_ n3_
                          have p634 : 0 ≤ ((ji22) : Int) := of_decide_eq_true (by first | (with_reducible assumption) | assumption)
                          have q634 : (ji22) < (l1.length : Int) := of_decide_eq_true (by first | (with_reducible assumption) | assumption)
                          obtain ⟨ad634, e634, hx634_0⟩ := Kd.at_int HR1.out (ji22) p634 q634
                          have hw634_0 := hx634_0
                          obtain rfl : ad629 = ad634 := (by injection e634)
                          replace hx634_0 := (HB.out.cell (World.block_lt_of_cell? w _ hx634_0)).trans hx634_0
                          replace p634 := eq_true p634
                          replace q634 := eq_true q634
                          have p635 : 0 ≤ ((ji22) : Int) := of_decide_eq_true (by first | (with_reducible assumption) | assumption)
                          have q635 : (ji22) < (l0.length : Int) := of_decide_eq_true (by first | (with_reducible assumption) | assumption)
                          obtain ⟨ad635, e635, hx635_0⟩ := Kd.at_int HR0.out (ji22) p635 q635
                          have hw635_0 := hx635_0
                          obtain rfl : ad628 = ad635 := (by injection e635)
                          replace hx635_0 := (HB.out.cell (World.block_lt_of_cell? w _ hx635_0)).trans hx635_0
                          replace p635 := eq_true p635
                          replace q635 := eq_true q635
                          refine start_ (n := 16) (S := fun w' => w'.cell? ⟨gb627, 0, none⟩ = some (.int .i64 x628000_2) ∧ w'.cell? ⟨gb627, 1, none⟩ = some (.int .u64 x628001_2) ∧ w'.cell? (ad629.add ((ji22)).toNat) = some (.int .i64 (rd l1 (ji22))) ∧ w'.cell? (ad628.add ((ji22)).toNat) = some (.int .i64 (rd l0 (ji22)))) (ds := []) #[false, false, false, false, false, false, false, false, false, false, false, false, false, false, false, false] (by kernel_rfl) rfl rfl ⟨(blk_cell BK627.out 0).trans rfl, (blk_cell BK627.out 1).trans rfl, ((HB.out.cell (World.block_lt_of_cell? w _ hw634_0)).trans hw634_0), ((HB.out.cell (World.block_lt_of_cell? w _ hw635_0)).trans hw635_0)⟩ (fun hHeld => ?_); refine with_tabW publicanlaw1_NumMany.tab12 publicanlaw1_NumMany.bits12 (fun HT_ HW_ => ?_)
                          generalize w34.drew = w35 at BK626 BK627 BK633 HB hx634_0 hx635_0 hHeld ⊢
                          refine pure_ (i := 1) (N := some 54) (v := ?_) (a' := ?_) #[false, true, false, false, false, false, false, false, false, false, false, false, false, false, false, false] rfl rfl (any_of HT_.out (by kernel_rfl)) (fun _ _ _ h => h) (Or.inl ⟨by rfl, ?_⟩) ?_ ?_
                          rotate_left
                          · intro w'
                            go_simp
                            with_reducible rfl
                          rotate_left
                          · simp only [Act.put, List.setIfInBounds_toArray, List.set_cons_zero, List.set_cons_succ, i64_w, i32_w]
                            rfl
                          refine pure_ (i := 2) (N := some 55) (v := ?_) (a' := ?_) #[false, true, true, false, false, false, false, false, false, false, false, false, false, false, false, false] rfl rfl (any_of HT_.out (by kernel_rfl)) (fun _ _ _ h => h) (Or.inl ⟨by rfl, ?_⟩) ?_ ?_
                          rotate_left
                          · intro w'
                            go_simp
                            with_reducible rfl
                          rotate_left
                          · simp only [Act.put, List.setIfInBounds_toArray, List.set_cons_zero, List.set_cons_succ, i64_w, i32_w]
                            rfl
                          refine pure_ (i := 3) (N := some 56) (v := ?_) (a' := ?_) #[false, true, true, true, false, false, false, false, false, false, false, false, false, false, false, false] rfl rfl (any_of HT_.out (by kernel_rfl)) (fun _ _ _ h => h) (Or.inl ⟨by rfl, ?_⟩) ?_ ?_
                          rotate_left
                          · intro w'
                            go_simp
                            with_reducible rfl
                          rotate_left
                          · simp only [Act.put, List.setIfInBounds_toArray, List.set_cons_zero, List.set_cons_succ, i64_w, i32_w]
                            rfl
                          refine pure_ (i := 5) (N := some 58) (v := ?_) (a' := ?_) #[false, true, true, true, false, true, false, false, false, false, false, false, false, false, false, false] rfl rfl (any_of HT_.out (by kernel_rfl)) (fun _ _ _ h => h) (Or.inl ⟨by rfl, ?_⟩) ?_ ?_
                          rotate_left
                          · intro w'
                            go_simp
                            with_reducible rfl
                          rotate_left
                          · simp only [Act.put, List.setIfInBounds_toArray, List.set_cons_zero, List.set_cons_succ, i64_w, i32_w]
                            rfl
                          refine pure_ (i := 6) (N := some 59) (v := ?_) (a' := ?_) #[false, true, true, true, false, true, true, false, false, false, false, false, false, false, false, false] rfl rfl (any_of HT_.out (by kernel_rfl)) (fun _ _ _ h => h) (Or.inl ⟨by rfl, ?_⟩) ?_ ?_
                          rotate_left
                          · intro w'
                            go_simp
                            with_reducible rfl
                          rotate_left
                          · simp only [Act.put, List.setIfInBounds_toArray, List.set_cons_zero, List.set_cons_succ, i64_w, i32_w]
                            rfl
                          refine pure_ (i := 7) (N := some 60) (v := ?_) (a' := ?_) #[false, true, true, true, false, true, true, true, false, false, false, false, false, false, false, false] rfl rfl (any_of HT_.out (by kernel_rfl)) (fun _ _ _ h => h) (Or.inl ⟨by rfl, ?_⟩) ?_ ?_
                          rotate_left
                          · intro w'
                            go_simp
                            with_reducible rfl
                          rotate_left
                          · simp only [Act.put, List.setIfInBounds_toArray, List.set_cons_zero, List.set_cons_succ, i64_w, i32_w]
                            rfl
                          refine take_ (i := 0) (N := some 53) (v := ?_) (a' := ?_) #[true, true, true, true, false, true, true, true, false, false, false, false, false, false, false, false] rfl rfl (take_ofW HT_.out HW_.out (by kernel_rfl)) (fun _ _ _ h => h) (Or.inl ⟨by rfl, ?_⟩) hHeld ?_ ?_
                          rotate_left
                          · rintro w' ⟨s0, s1, s2, s3⟩
                            go_simp
                            with_reducible rfl
                          rotate_left
                          · simp only [Act.put, List.setIfInBounds_toArray, List.set_cons_zero, List.set_cons_succ, i64_w, i32_w]
                            rfl
                          refine take_ (i := 4) (N := some 57) (v := ?_) (a' := ?_) #[true, true, true, true, true, true, true, true, false, false, false, false, false, false, false, false] rfl rfl (take_ofW HT_.out HW_.out (by kernel_rfl)) (fun _ _ _ h => h) (Or.inl ⟨by rfl, ?_⟩) hHeld ?_ ?_
                          rotate_left
                          · rintro w' ⟨s0, s1, s2, s3⟩
                            go_simp
                            with_reducible rfl
                          rotate_left
                          · simp only [Act.put, List.setIfInBounds_toArray, List.set_cons_zero, List.set_cons_succ, i64_w, i32_w]
                            rfl
                          refine take_ (i := 8) (N := some 61) (v := ?_) (a' := ?_) #[true, true, true, true, true, true, true, true, true, false, false, false, false, false, false, false] rfl rfl (take_ofW HT_.out HW_.out (by kernel_rfl)) (fun _ _ _ h => h) (Or.inl ⟨by rfl, ?_⟩) hHeld ?_ ?_
                          rotate_left
                          · rintro w' ⟨s0, s1, s2, s3⟩
                            go_simp
                            with_reducible rfl
                          rotate_left
                          · simp only [Act.put, List.setIfInBounds_toArray, List.set_cons_zero, List.set_cons_succ, i64_w, i32_w]
                            rfl
                          refine join_ (σ := Nat) 2 #[true, true, true, true, true, true, true, true, true, true, true, true, true, true, false, false] (fun s_ => [(62, .tuple #[.agg #[.int .i64 t636, .int .u64 t637], .bool t638]), (12, .pointer (some ⟨s_, 0, none⟩)), (52, .tuple #[.agg #[.int .i64 t636, .int .u64 t637], .bool t638]), (63, .agg #[.int .i64 t636, .int .u64 t637]), (64, .bool t638)]) (fun s_ w' => (w'.cell? ⟨gb627, 0, none⟩ = some (.int .i64 x628000_2) ∧ w'.cell? ⟨gb627, 1, none⟩ = some (.int .u64 x628001_2) ∧ w'.cell? (ad629.add ((ji22)).toNat) = some (.int .i64 (rd l1 (ji22))) ∧ w'.cell? (ad628.add ((ji22)).toNat) = some (.int .i64 (rd l0 (ji22)))) ∧ (w'.heap[gb626]? = some (.cells #[.int .i64 x627000_2, .int .u64 x627001_2] 48 (0, 0))) ∧ (w'.heap[gb627]? = some (.cells #[.int .i64 x628000_2, .int .u64 x628001_2] 48 (0, 0))) ∧ (w'.heap[gb633]? = some (.cells #[.int .i64 t630, .int .u64 t631] 48 (0, 0))) ∧ (w'.heap[s_]? = some (.cells #[.int .i64 0, .int .u64 0] 48 (0, 0))) ∧ (w.heap.size ≤ s_) ∧ (w.heap.size ≤ s_) ∧ (gb626 ≠ s_) ∧ (s_ ≠ gb626) ∧ (gb627 ≠ s_) ∧ (s_ ≠ gb627) ∧ (gb633 ≠ s_) ∧ (s_ ≠ gb633) ∧ (Below w.heap.size w w')) ?_ ?_
                          rotate_left
                          · intro hCont
                            refine two_ (i := 9) (j := 13) (Ni := some 62) (Nj := some 12) #[true, true, true, true, true, true, true, true, true, true, false, false, false, false, false, false] #[true, true, true, true, true, true, true, true, true, false, false, false, false, true, false, false] rfl rfl rfl rfl (two_of HT_.out (by kernel_rfl)) (by decide) (by decide) (fun K hK => ?_) (fun K hK => ?_)
                            · skip
                              refine goes_ Try.func37 (by kernel_rfl) rfl #[.agg #[.int .i64 x628000_2, .int .u64 x628001_2], .int .i64 (rd l1 (ji22)), .int .i64 (rd l0 (ji22))] (by rfl) rfl rfl (by (try simp only [List.map_toArray, List.map_cons, List.map_nil]); first | done | (simp only [hji22]; rfl) | rfl | (simp only [List.length_drop, List.length_take]; rfl)) ?_
                              with_reducible refine (num_Wide_PlusMul.calls x628000_2 x628001_2 (rd l1 (ji22)) (rd l0 (ji22)) t636 t637 t638 _ A26.out).mono ?_
                              rintro e w36 ⟨rfl, hb⟩
                              refine ⟨_, rfl, ?_⟩
                              have n0_ := Aside0.mk (blk_below (g := gb626) (o := .cells #[.int .i64 x627000_2, .int .u64 x627001_2] 48 (0, 0)) (by (with_reducible repeat (first | refine blk_drewN ?_ _ | refine blk_drew ?_ | refine blk_alloc ?_ _)); exact BK626.out) hb)
                              have n1_ := Aside0.mk (blk_below (g := gb627) (o := .cells #[.int .i64 x628000_2, .int .u64 x628001_2] 48 (0, 0)) (by (with_reducible repeat (first | refine blk_drewN ?_ _ | refine blk_drew ?_ | refine blk_alloc ?_ _)); exact BK627.out) hb)
                              have n2_ := Aside0.mk (blk_below (g := gb633) (o := .cells #[.int .i64 t630, .int .u64 t631] 48 (0, 0)) (by (with_reducible repeat (first | refine blk_drewN ?_ _ | refine blk_drew ?_ | refine blk_alloc ?_ _)); exact BK633.out) hb)
                              have n3_ := Aside0.mk (below_step (by repeat (first | (with_reducible first | exact HB.out | apply below_alloc | apply pw_below_drewN | apply below_drew1 | refine below_set ?_ GE626.out | refine below_set ?_ GE627.out | refine below_set ?_ GE633.out) | exact HB.out)) hb)
                              clear BK626
                              clear BK627
                              clear BK633
                              clear HB
                              have BK626 := n0_
                              have BK627 := n1_
                              have BK633 := n2_
                              have HB := n3_
                              clear n0_ n1_ n2_ n3_
                              (try clear hb)
                              (try clear hb2)
                              (try clear hk)
                              (try clear hi)
                              refine hK.out _ _ ⟨(blk_cell BK627.out 0).trans rfl, (blk_cell BK627.out 1).trans rfl, ((HB.out.cell (World.block_lt_of_cell? w _ hw634_0)).trans hw634_0), ((HB.out.cell (World.block_lt_of_cell? w _ hw635_0)).trans hw635_0)⟩ (fun hHeld => ?_)
                              clear hK K
                              refine norm_ (a' := ?_) ?_ ?_
                              rotate_left
                              · show Act.put _ (some 62) _ = _
                                simp only [Act.put, List.setIfInBounds_toArray, List.set_cons_zero, List.set_cons_succ, i64_w, i32_w]
                                rfl
                              refine pure_ (i := 10) (N := some 52) (v := ?_) (a' := ?_) #[true, true, true, true, true, true, true, true, true, true, true, false, false, false, false, false] rfl rfl (any_of HT_.out (by kernel_rfl)) (fun _ _ _ h => h) (Or.inl ⟨by rfl, ?_⟩) ?_ ?_
                              rotate_left
                              · intro w'
                                go_simp
                                with_reducible rfl
                              rotate_left
                              · simp only [Act.put, List.setIfInBounds_toArray, List.set_cons_zero, List.set_cons_succ, i64_w, i32_w]
                                rfl
                              refine pure_ (i := 11) (N := some 63) (v := ?_) (a' := ?_) #[true, true, true, true, true, true, true, true, true, true, true, true, false, false, false, false] rfl rfl (any_of HT_.out (by kernel_rfl)) (fun _ _ _ h => h) (Or.inl ⟨by rfl, ?_⟩) ?_ ?_
                              rotate_left
                              · intro w'
                                go_simp
                                with_reducible rfl
                              rotate_left
                              · simp only [Act.put, List.setIfInBounds_toArray, List.set_cons_zero, List.set_cons_succ, i64_w, i32_w]
                                rfl
                              refine pure_ (i := 12) (N := some 64) (v := ?_) (a' := ?_) #[true, true, true, true, true, true, true, true, true, true, true, true, true, false, false, false] rfl rfl (any_of HT_.out (by kernel_rfl)) (fun _ _ _ h => h) (Or.inl ⟨by rfl, ?_⟩) ?_ ?_
                              rotate_left
                              · intro w'
                                go_simp
                                with_reducible rfl
                              rotate_left
                              · simp only [Act.put, List.setIfInBounds_toArray, List.set_cons_zero, List.set_cons_succ, i64_w, i32_w]
                                rfl
                              refine one_ (i := 13) (N := some 12) #[true, true, true, true, true, true, true, true, true, true, true, true, true, true, false, false] rfl rfl (one_of HT_.out (by kernel_rfl)) (by decide) (fun K hK => ?_)
                              refine box_step ?hg (N := 12) ?hd (cs := #[.int .i64 0, .int .u64 0]) (t := 48) ?hr ?_; (case hd => rfl); (case hg => rfl); (case hr => first | (go_simp; done) | (go_simp; rfl))
                              intro gb639 hg w37 hbox hb
                              have n0_ := Aside0.mk (blk_below (g := gb626) (o := .cells #[.int .i64 x627000_2, .int .u64 x627001_2] 48 (0, 0)) (by (with_reducible repeat (first | refine blk_drewN ?_ _ | refine blk_drew ?_ | refine blk_alloc ?_ _)); exact BK626.out) hb)
                              have n1_ := Aside0.mk (blk_below (g := gb627) (o := .cells #[.int .i64 x628000_2, .int .u64 x628001_2] 48 (0, 0)) (by (with_reducible repeat (first | refine blk_drewN ?_ _ | refine blk_drew ?_ | refine blk_alloc ?_ _)); exact BK627.out) hb)
                              have n2_ := Aside0.mk (blk_below (g := gb633) (o := .cells #[.int .i64 t630, .int .u64 t631] 48 (0, 0)) (by (with_reducible repeat (first | refine blk_drewN ?_ _ | refine blk_drew ?_ | refine blk_alloc ?_ _)); exact BK633.out) hb)
                              have n3_ := Aside0.mk (below_step (by repeat (first | (with_reducible first | exact HB.out | apply below_alloc | apply pw_below_drewN | apply below_drew1 | refine below_set ?_ GE626.out | refine below_set ?_ GE627.out | refine below_set ?_ GE633.out) | exact HB.out)) hb)
                              have n4_ := Aside0.mk (hbox)
                              have n5_ := Aside0.mk ((by rw [hg]; exact (below_size (by repeat (first | (with_reducible first | exact HB.out | apply below_alloc | apply pw_below_drewN | apply below_drew1 | refine below_set ?_ GE626.out | refine below_set ?_ GE627.out | refine below_set ?_ GE633.out) | exact HB.out))) : w.heap.size ≤ gb639))
                              have n6_ := Aside0.mk ((by rw [hg]; exact (below_size (by repeat (first | (with_reducible first | exact HB.out | apply below_alloc | apply pw_below_drewN | apply below_drew1 | refine below_set ?_ GE626.out | refine below_set ?_ GE627.out | refine below_set ?_ GE633.out) | exact HB.out))) : w.heap.size ≤ gb639))
                              have n7_ := Aside0.mk ((by rw [hg]; exact Nat.ne_of_lt (blk_lt (g := gb626) (o := .cells #[.int .i64 x627000_2, .int .u64 x627001_2] 48 (0, 0)) (by (with_reducible repeat (first | refine blk_drewN ?_ _ | refine blk_drew ?_ | refine blk_alloc ?_ _)); exact BK626.out)) : gb626 ≠ gb639))
                              have n8_ := Aside0.mk ((by rw [hg]; exact Nat.ne_of_gt (blk_lt (g := gb626) (o := .cells #[.int .i64 x627000_2, .int .u64 x627001_2] 48 (0, 0)) (by (with_reducible repeat (first | refine blk_drewN ?_ _ | refine blk_drew ?_ | refine blk_alloc ?_ _)); exact BK626.out)) : gb639 ≠ gb626))
                              have n9_ := Aside0.mk ((by rw [hg]; exact Nat.ne_of_lt (blk_lt (g := gb627) (o := .cells #[.int .i64 x628000_2, .int .u64 x628001_2] 48 (0, 0)) (by (with_reducible repeat (first | refine blk_drewN ?_ _ | refine blk_drew ?_ | refine blk_alloc ?_ _)); exact BK627.out)) : gb627 ≠ gb639))
                              have n10_ := Aside0.mk ((by rw [hg]; exact Nat.ne_of_gt (blk_lt (g := gb627) (o := .cells #[.int .i64 x628000_2, .int .u64 x628001_2] 48 (0, 0)) (by (with_reducible repeat (first | refine blk_drewN ?_ _ | refine blk_drew ?_ | refine blk_alloc ?_ _)); exact BK627.out)) : gb639 ≠ gb627))
                              have n11_ := Aside0.mk ((by rw [hg]; exact Nat.ne_of_lt (blk_lt (g := gb633) (o := .cells #[.int .i64 t630, .int .u64 t631] 48 (0, 0)) (by (with_reducible repeat (first | refine blk_drewN ?_ _ | refine blk_drew ?_ | refine blk_alloc ?_ _)); exact BK633.out)) : gb633 ≠ gb639))
                              have n12_ := Aside0.mk ((by rw [hg]; exact Nat.ne_of_gt (blk_lt (g := gb633) (o := .cells #[.int .i64 t630, .int .u64 t631] 48 (0, 0)) (by (with_reducible repeat (first | refine blk_drewN ?_ _ | refine blk_drew ?_ | refine blk_alloc ?_ _)); exact BK633.out)) : gb639 ≠ gb633))
                              clear BK626
                              clear BK627
                              clear BK633
                              clear HB
                              have BK626 := n0_
                              have BK627 := n1_
                              have BK633 := n2_
                              have HB := n3_
                              have BK639 := n4_
                              have GW639 := n5_
                              have GE639 := n6_
                              have NB626_639 := n7_
                              have NB639_626 := n8_
                              have NB627_639 := n9_
                              have NB639_627 := n10_
                              have NB633_639 := n11_
                              have NB639_633 := n12_
                              clear n0_ n1_ n2_ n3_ n4_ n5_ n6_ n7_ n8_ n9_ n10_ n11_ n12_
                              clear hb hbox hg
                              refine hK.out _ _ ⟨(blk_cell BK627.out 0).trans rfl, (blk_cell BK627.out 1).trans rfl, ((HB.out.cell (World.block_lt_of_cell? w _ hw634_0)).trans hw634_0), ((HB.out.cell (World.block_lt_of_cell? w _ hw635_0)).trans hw635_0)⟩ (fun hHeld => ?_)
                              clear hK K
                              refine norm_ (a' := ?_) ?_ ?_
                              rotate_left
                              · show Act.put _ (some 12) _ = _
                                simp only [Act.put, List.setIfInBounds_toArray, List.set_cons_zero, List.set_cons_succ, i64_w, i32_w]
                                rfl
                              exact norm_ (by simp only [putAll, Act.put, List.setIfInBounds_toArray, List.set_cons_zero, List.set_cons_succ]) (hCont (gb639) _ ⟨hHeld, (by (with_reducible repeat (first | refine blk_drewN ?_ _ | refine blk_drew ?_ | refine blk_alloc ?_ _)); exact BK626.out), (by (with_reducible repeat (first | refine blk_drewN ?_ _ | refine blk_drew ?_ | refine blk_alloc ?_ _)); exact BK627.out), (by (with_reducible repeat (first | refine blk_drewN ?_ _ | refine blk_drew ?_ | refine blk_alloc ?_ _)); exact BK633.out), (by (with_reducible repeat (first | refine blk_drewN ?_ _ | refine blk_drew ?_ | refine blk_alloc ?_ _)); exact BK639.out), GW639.out, GE639.out, NB626_639.out, NB639_626.out, NB627_639.out, NB639_627.out, NB633_639.out, NB639_633.out, (by repeat (first | (with_reducible first | exact HB.out | apply below_alloc | apply pw_below_drewN | apply below_drew1 | refine below_set ?_ GE626.out | refine below_set ?_ GE627.out | refine below_set ?_ GE633.out | refine below_set ?_ GE639.out) | exact HB.out))⟩)
                            · skip
                              refine box_step ?hg (N := 12) ?hd (cs := #[.int .i64 0, .int .u64 0]) (t := 48) ?hr ?_; (case hd => rfl); (case hg => rfl); (case hr => first | (go_simp; done) | (go_simp; rfl))
                              intro gb639 hg w36 hbox hb
                              have n0_ := Aside0.mk (blk_below (g := gb626) (o := .cells #[.int .i64 x627000_2, .int .u64 x627001_2] 48 (0, 0)) (by (with_reducible repeat (first | refine blk_drewN ?_ _ | refine blk_drew ?_ | refine blk_alloc ?_ _)); exact BK626.out) hb)
                              have n1_ := Aside0.mk (blk_below (g := gb627) (o := .cells #[.int .i64 x628000_2, .int .u64 x628001_2] 48 (0, 0)) (by (with_reducible repeat (first | refine blk_drewN ?_ _ | refine blk_drew ?_ | refine blk_alloc ?_ _)); exact BK627.out) hb)
                              have n2_ := Aside0.mk (blk_below (g := gb633) (o := .cells #[.int .i64 t630, .int .u64 t631] 48 (0, 0)) (by (with_reducible repeat (first | refine blk_drewN ?_ _ | refine blk_drew ?_ | refine blk_alloc ?_ _)); exact BK633.out) hb)
                              have n3_ := Aside0.mk (below_step (by repeat (first | (with_reducible first | exact HB.out | apply below_alloc | apply pw_below_drewN | apply below_drew1 | refine below_set ?_ GE626.out | refine below_set ?_ GE627.out | refine below_set ?_ GE633.out) | exact HB.out)) hb)
                              have n4_ := Aside0.mk (hbox)
                              have n5_ := Aside0.mk ((by rw [hg]; exact (below_size (by repeat (first | (with_reducible first | exact HB.out | apply below_alloc | apply pw_below_drewN | apply below_drew1 | refine below_set ?_ GE626.out | refine below_set ?_ GE627.out | refine below_set ?_ GE633.out) | exact HB.out))) : w.heap.size ≤ gb639))
                              have n6_ := Aside0.mk ((by rw [hg]; exact (below_size (by repeat (first | (with_reducible first | exact HB.out | apply below_alloc | apply pw_below_drewN | apply below_drew1 | refine below_set ?_ GE626.out | refine below_set ?_ GE627.out | refine below_set ?_ GE633.out) | exact HB.out))) : w.heap.size ≤ gb639))
                              have n7_ := Aside0.mk ((by rw [hg]; exact Nat.ne_of_lt (blk_lt (g := gb626) (o := .cells #[.int .i64 x627000_2, .int .u64 x627001_2] 48 (0, 0)) (by (with_reducible repeat (first | refine blk_drewN ?_ _ | refine blk_drew ?_ | refine blk_alloc ?_ _)); exact BK626.out)) : gb626 ≠ gb639))
                              have n8_ := Aside0.mk ((by rw [hg]; exact Nat.ne_of_gt (blk_lt (g := gb626) (o := .cells #[.int .i64 x627000_2, .int .u64 x627001_2] 48 (0, 0)) (by (with_reducible repeat (first | refine blk_drewN ?_ _ | refine blk_drew ?_ | refine blk_alloc ?_ _)); exact BK626.out)) : gb639 ≠ gb626))
                              have n9_ := Aside0.mk ((by rw [hg]; exact Nat.ne_of_lt (blk_lt (g := gb627) (o := .cells #[.int .i64 x628000_2, .int .u64 x628001_2] 48 (0, 0)) (by (with_reducible repeat (first | refine blk_drewN ?_ _ | refine blk_drew ?_ | refine blk_alloc ?_ _)); exact BK627.out)) : gb627 ≠ gb639))
                              have n10_ := Aside0.mk ((by rw [hg]; exact Nat.ne_of_gt (blk_lt (g := gb627) (o := .cells #[.int .i64 x628000_2, .int .u64 x628001_2] 48 (0, 0)) (by (with_reducible repeat (first | refine blk_drewN ?_ _ | refine blk_drew ?_ | refine blk_alloc ?_ _)); exact BK627.out)) : gb639 ≠ gb627))
                              have n11_ := Aside0.mk ((by rw [hg]; exact Nat.ne_of_lt (blk_lt (g := gb633) (o := .cells #[.int .i64 t630, .int .u64 t631] 48 (0, 0)) (by (with_reducible repeat (first | refine blk_drewN ?_ _ | refine blk_drew ?_ | refine blk_alloc ?_ _)); exact BK633.out)) : gb633 ≠ gb639))
                              have n12_ := Aside0.mk ((by rw [hg]; exact Nat.ne_of_gt (blk_lt (g := gb633) (o := .cells #[.int .i64 t630, .int .u64 t631] 48 (0, 0)) (by (with_reducible repeat (first | refine blk_drewN ?_ _ | refine blk_drew ?_ | refine blk_alloc ?_ _)); exact BK633.out)) : gb639 ≠ gb633))
                              clear BK626
                              clear BK627
                              clear BK633
                              clear HB
                              have BK626 := n0_
                              have BK627 := n1_
                              have BK633 := n2_
                              have HB := n3_
                              have BK639 := n4_
                              have GW639 := n5_
                              have GE639 := n6_
                              have NB626_639 := n7_
                              have NB639_626 := n8_
                              have NB627_639 := n9_
                              have NB639_627 := n10_
                              have NB633_639 := n11_
                              have NB639_633 := n12_
                              clear n0_ n1_ n2_ n3_ n4_ n5_ n6_ n7_ n8_ n9_ n10_ n11_ n12_
                              clear hb hbox hg
                              refine hK.out _ _ ⟨(blk_cell BK627.out 0).trans rfl, (blk_cell BK627.out 1).trans rfl, ((HB.out.cell (World.block_lt_of_cell? w _ hw634_0)).trans hw634_0), ((HB.out.cell (World.block_lt_of_cell? w _ hw635_0)).trans hw635_0)⟩ (fun hHeld => ?_)
                              clear hK K
                              refine norm_ (a' := ?_) ?_ ?_
                              rotate_left
                              · show Act.put _ (some 12) _ = _
                                simp only [Act.put, List.setIfInBounds_toArray, List.set_cons_zero, List.set_cons_succ, i64_w, i32_w]
                                rfl
                              refine one_ (i := 9) (N := some 62) #[true, true, true, true, true, true, true, true, true, true, false, false, false, true, false, false] rfl rfl (one_of HT_.out (by kernel_rfl)) (by decide) (fun K hK => ?_)
                              refine goes_ Try.func37 (by kernel_rfl) rfl #[.agg #[.int .i64 x628000_2, .int .u64 x628001_2], .int .i64 (rd l1 (ji22)), .int .i64 (rd l0 (ji22))] (by rfl) rfl rfl (by (try simp only [List.map_toArray, List.map_cons, List.map_nil]); first | done | (simp only [hji22]; rfl) | rfl | (simp only [List.length_drop, List.length_take]; rfl)) ?_
                              with_reducible refine (num_Wide_PlusMul.calls x628000_2 x628001_2 (rd l1 (ji22)) (rd l0 (ji22)) t636 t637 t638 _ A26.out).mono ?_
                              rintro e w37 ⟨rfl, hb⟩
                              refine ⟨_, rfl, ?_⟩
                              have n0_ := Aside0.mk (blk_below (g := gb626) (o := .cells #[.int .i64 x627000_2, .int .u64 x627001_2] 48 (0, 0)) (by (with_reducible repeat (first | refine blk_drewN ?_ _ | refine blk_drew ?_ | refine blk_alloc ?_ _)); exact BK626.out) hb)
                              have n1_ := Aside0.mk (blk_below (g := gb627) (o := .cells #[.int .i64 x628000_2, .int .u64 x628001_2] 48 (0, 0)) (by (with_reducible repeat (first | refine blk_drewN ?_ _ | refine blk_drew ?_ | refine blk_alloc ?_ _)); exact BK627.out) hb)
                              have n2_ := Aside0.mk (blk_below (g := gb633) (o := .cells #[.int .i64 t630, .int .u64 t631] 48 (0, 0)) (by (with_reducible repeat (first | refine blk_drewN ?_ _ | refine blk_drew ?_ | refine blk_alloc ?_ _)); exact BK633.out) hb)
                              have n3_ := Aside0.mk (blk_below (g := gb639) (o := .cells #[.int .i64 0, .int .u64 0] 48 (0, 0)) (by (with_reducible repeat (first | refine blk_drewN ?_ _ | refine blk_drew ?_ | refine blk_alloc ?_ _)); exact BK639.out) hb)
                              have n4_ := Aside0.mk (below_step (by repeat (first | (with_reducible first | exact HB.out | apply below_alloc | apply pw_below_drewN | apply below_drew1 | refine below_set ?_ GE626.out | refine below_set ?_ GE627.out | refine below_set ?_ GE633.out | refine below_set ?_ GE639.out) | exact HB.out)) hb)
                              clear BK626
                              clear BK627
                              clear BK633
                              clear BK639
                              clear HB
                              have BK626 := n0_
                              have BK627 := n1_
                              have BK633 := n2_
                              have BK639 := n3_
                              have HB := n4_
                              clear n0_ n1_ n2_ n3_ n4_
                              (try clear hb)
                              (try clear hb2)
                              (try clear hk)
                              (try clear hi)
                              refine hK.out _ _ ⟨(blk_cell BK627.out 0).trans rfl, (blk_cell BK627.out 1).trans rfl, ((HB.out.cell (World.block_lt_of_cell? w _ hw634_0)).trans hw634_0), ((HB.out.cell (World.block_lt_of_cell? w _ hw635_0)).trans hw635_0)⟩ (fun hHeld => ?_)
                              clear hK K
                              refine norm_ (a' := ?_) ?_ ?_
                              rotate_left
                              · show Act.put _ (some 62) _ = _
                                simp only [Act.put, List.setIfInBounds_toArray, List.set_cons_zero, List.set_cons_succ, i64_w, i32_w]
                                rfl
                              refine pure_ (i := 10) (N := some 52) (v := ?_) (a' := ?_) #[true, true, true, true, true, true, true, true, true, true, true, false, false, true, false, false] rfl rfl (any_of HT_.out (by kernel_rfl)) (fun _ _ _ h => h) (Or.inl ⟨by rfl, ?_⟩) ?_ ?_
                              rotate_left
                              · intro w'
                                go_simp
                                with_reducible rfl
                              rotate_left
                              · simp only [Act.put, List.setIfInBounds_toArray, List.set_cons_zero, List.set_cons_succ, i64_w, i32_w]
                                rfl
                              refine pure_ (i := 11) (N := some 63) (v := ?_) (a' := ?_) #[true, true, true, true, true, true, true, true, true, true, true, true, false, true, false, false] rfl rfl (any_of HT_.out (by kernel_rfl)) (fun _ _ _ h => h) (Or.inl ⟨by rfl, ?_⟩) ?_ ?_
                              rotate_left
                              · intro w'
                                go_simp
                                with_reducible rfl
                              rotate_left
                              · simp only [Act.put, List.setIfInBounds_toArray, List.set_cons_zero, List.set_cons_succ, i64_w, i32_w]
                                rfl
                              refine pure_ (i := 12) (N := some 64) (v := ?_) (a' := ?_) #[true, true, true, true, true, true, true, true, true, true, true, true, true, true, false, false] rfl rfl (any_of HT_.out (by kernel_rfl)) (fun _ _ _ h => h) (Or.inl ⟨by rfl, ?_⟩) ?_ ?_
                              rotate_left
                              · intro w'
                                go_simp
                                with_reducible rfl
                              rotate_left
                              · simp only [Act.put, List.setIfInBounds_toArray, List.set_cons_zero, List.set_cons_succ, i64_w, i32_w]
                                rfl
                              exact norm_ (by simp only [putAll, Act.put, List.setIfInBounds_toArray, List.set_cons_zero, List.set_cons_succ]) (hCont (gb639) _ ⟨hHeld, (by (with_reducible repeat (first | refine blk_drewN ?_ _ | refine blk_drew ?_ | refine blk_alloc ?_ _)); exact BK626.out), (by (with_reducible repeat (first | refine blk_drewN ?_ _ | refine blk_drew ?_ | refine blk_alloc ?_ _)); exact BK627.out), (by (with_reducible repeat (first | refine blk_drewN ?_ _ | refine blk_drew ?_ | refine blk_alloc ?_ _)); exact BK633.out), (by (with_reducible repeat (first | refine blk_drewN ?_ _ | refine blk_drew ?_ | refine blk_alloc ?_ _)); exact BK639.out), GW639.out, GE639.out, NB626_639.out, NB639_626.out, NB627_639.out, NB639_627.out, NB633_639.out, NB639_633.out, (by repeat (first | (with_reducible first | exact HB.out | apply below_alloc | apply pw_below_drewN | apply below_drew1 | refine below_set ?_ GE626.out | refine below_set ?_ GE627.out | refine below_set ?_ GE633.out | refine below_set ?_ GE639.out) | exact HB.out))⟩)
                          rintro gb639 w38 ⟨hS_, h0_, h1_, h2_, h3_, h4_, h5_, h6_, h7_, h8_, h9_, h10_, h11_, h12_⟩
                          have n0_ : Aside0 (w38.heap[gb626]? = some (.cells #[.int .i64 x627000_2, .int .u64 x627001_2] 48 (0, 0))) := ⟨h0_⟩
                          have n1_ : Aside0 (w38.heap[gb627]? = some (.cells #[.int .i64 x628000_2, .int .u64 x628001_2] 48 (0, 0))) := ⟨h1_⟩
                          have n2_ : Aside0 (w38.heap[gb633]? = some (.cells #[.int .i64 t630, .int .u64 t631] 48 (0, 0))) := ⟨h2_⟩
                          have n3_ : Aside0 (w38.heap[gb639]? = some (.cells #[.int .i64 0, .int .u64 0] 48 (0, 0))) := ⟨h3_⟩
                          have n4_ : Aside0 (w.heap.size ≤ gb639) := ⟨h4_⟩
                          have n5_ : Aside0 (w.heap.size ≤ gb639) := ⟨h5_⟩
                          have n6_ : Aside0 (gb626 ≠ gb639) := ⟨h6_⟩
                          have n7_ : Aside0 (gb639 ≠ gb626) := ⟨h7_⟩
                          have n8_ : Aside0 (gb627 ≠ gb639) := ⟨h8_⟩
                          have n9_ : Aside0 (gb639 ≠ gb627) := ⟨h9_⟩
                          have n10_ : Aside0 (gb633 ≠ gb639) := ⟨h10_⟩
                          have n11_ : Aside0 (gb639 ≠ gb633) := ⟨h11_⟩
                          have n12_ : Aside0 (Below w.heap.size w w38) := ⟨h12_⟩
                          clear BK626
                          clear BK627
                          clear BK633
                          clear HB
                          clear h0_ h1_ h2_ h3_ h4_ h5_ h6_ h7_ h8_ h9_ h10_ h11_ h12_
                          have BK626 := n0_
                          have BK627 := n1_
                          have BK633 := n2_
                          have BK639 := n3_
                          have GW639 := n4_
                          have GE639 := n5_
                          have NB626_639 := n6_
                          have NB639_626 := n7_
                          have NB627_639 := n8_
                          have NB639_627 := n9_
                          have NB633_639 := n10_
                          have NB639_633 := n11_
                          have HB := n12_
                          clear n0_ n1_ n2_ n3_ n4_ n5_ n6_ n7_ n8_ n9_ n10_ n11_ n12_
                          have hHeld : w38.cell? ⟨gb627, 0, none⟩ = some (.int .i64 x628000_2) ∧ w38.cell? ⟨gb627, 1, none⟩ = some (.int .u64 x628001_2) ∧ w38.cell? (ad629.add ((ji22)).toNat) = some (.int .i64 (rd l1 (ji22))) ∧ w38.cell? (ad628.add ((ji22)).toNat) = some (.int .i64 (rd l0 (ji22))) := hS_
                          refine norm_ (a' := ?_) ?_ ?_
                          rotate_left
                          · simp only [putAll, Act.put, List.setIfInBounds_toArray, List.set_cons_zero, List.set_cons_succ]
                            rfl
                          refine one_ (i := 14) (N := none) #[true, true, true, true, true, true, true, true, true, true, true, true, true, true, true, false] rfl rfl (one_of HT_.out (by kernel_rfl)) (by decide) (fun K hK => ?_)
                          have hs39 : w38.cell? ⟨gb639, 0, none⟩ = some (.int .i64 0) := (blk_cell BK639.out 0).trans rfl
                          have hfs39 := blk_frozen BK639.out 0
                          have hns39_0 := NB626_639.out
                          have hns39_1 := NB627_639.out
                          have hns39_2 := NB633_639.out
                          have hms39_0 := NB639_626.out
                          have hms39_1 := NB639_627.out
                          have hms39_2 := NB639_633.out
                          have hs40 : w38.cell? ⟨gb639, 1, none⟩ = some (.int .u64 0) := (blk_cell BK639.out 1).trans rfl
                          have hfs40 := blk_frozen BK639.out 1
                          have hns40_0 := NB626_639.out
                          have hns40_1 := NB627_639.out
                          have hns40_2 := NB633_639.out
                          have hms40_0 := NB639_626.out
                          have hms40_1 := NB639_627.out
                          have hms40_2 := NB639_633.out
                          refine skip_ (w1 := ?_) (by rfl) rfl ?_ ?_
                          rotate_left
                          · go_simp
                            rfl
                          refine hK.out _ _ ⟨((cell_far (p := ⟨gb639, _, none⟩) NB627_639.out _).trans (((cell_far (p := ⟨gb639, _, none⟩) NB627_639.out _).trans (hHeld.1)))), ((cell_far (p := ⟨gb639, _, none⟩) NB627_639.out _).trans (((cell_far (p := ⟨gb639, _, none⟩) NB627_639.out _).trans (hHeld.2.1)))), ((cell_far (p := ⟨gb639, _, none⟩) (by first | exact Nat.ne_of_lt (Nat.lt_of_lt_of_le (by have := World.block_lt_of_cell? _ _ hw634_0; first | rwa [add_block] at this | exact this) GW639.out) | (rw [add_block]; exact Nat.ne_of_lt (Nat.lt_of_lt_of_le (by have := World.block_lt_of_cell? _ _ hw634_0; first | rwa [add_block] at this | exact this) GW639.out)) | (show (Addr.add _ _).block ≠ _; rw [add_block]; exact Nat.ne_of_lt (Nat.lt_of_lt_of_le (by have := World.block_lt_of_cell? _ _ hw634_0; first | rwa [add_block] at this | exact this) GW639.out)) | (dsimp only; exact Nat.ne_of_lt (Nat.lt_of_lt_of_le (by have := World.block_lt_of_cell? _ _ hw634_0; first | rwa [add_block] at this | exact this) GW639.out))) _).trans (((cell_far (p := ⟨gb639, _, none⟩) (by first | exact Nat.ne_of_lt (Nat.lt_of_lt_of_le (by have := World.block_lt_of_cell? _ _ hw634_0; first | rwa [add_block] at this | exact this) GW639.out) | (rw [add_block]; exact Nat.ne_of_lt (Nat.lt_of_lt_of_le (by have := World.block_lt_of_cell? _ _ hw634_0; first | rwa [add_block] at this | exact this) GW639.out)) | (show (Addr.add _ _).block ≠ _; rw [add_block]; exact Nat.ne_of_lt (Nat.lt_of_lt_of_le (by have := World.block_lt_of_cell? _ _ hw634_0; first | rwa [add_block] at this | exact this) GW639.out)) | (dsimp only; exact Nat.ne_of_lt (Nat.lt_of_lt_of_le (by have := World.block_lt_of_cell? _ _ hw634_0; first | rwa [add_block] at this | exact this) GW639.out))) _).trans (hHeld.2.2.1)))), ((cell_far (p := ⟨gb639, _, none⟩) (by first | exact Nat.ne_of_lt (Nat.lt_of_lt_of_le (by have := World.block_lt_of_cell? _ _ hw635_0; first | rwa [add_block] at this | exact this) GW639.out) | (rw [add_block]; exact Nat.ne_of_lt (Nat.lt_of_lt_of_le (by have := World.block_lt_of_cell? _ _ hw635_0; first | rwa [add_block] at this | exact this) GW639.out)) | (show (Addr.add _ _).block ≠ _; rw [add_block]; exact Nat.ne_of_lt (Nat.lt_of_lt_of_le (by have := World.block_lt_of_cell? _ _ hw635_0; first | rwa [add_block] at this | exact this) GW639.out)) | (dsimp only; exact Nat.ne_of_lt (Nat.lt_of_lt_of_le (by have := World.block_lt_of_cell? _ _ hw635_0; first | rwa [add_block] at this | exact this) GW639.out))) _).trans (((cell_far (p := ⟨gb639, _, none⟩) (by first | exact Nat.ne_of_lt (Nat.lt_of_lt_of_le (by have := World.block_lt_of_cell? _ _ hw635_0; first | rwa [add_block] at this | exact this) GW639.out) | (rw [add_block]; exact Nat.ne_of_lt (Nat.lt_of_lt_of_le (by have := World.block_lt_of_cell? _ _ hw635_0; first | rwa [add_block] at this | exact this) GW639.out)) | (show (Addr.add _ _).block ≠ _; rw [add_block]; exact Nat.ne_of_lt (Nat.lt_of_lt_of_le (by have := World.block_lt_of_cell? _ _ hw635_0; first | rwa [add_block] at this | exact this) GW639.out)) | (dsimp only; exact Nat.ne_of_lt (Nat.lt_of_lt_of_le (by have := World.block_lt_of_cell? _ _ hw635_0; first | rwa [add_block] at this | exact this) GW639.out))) _).trans (hHeld.2.2.2))))⟩ (fun hHeld => ?_)
                          clear hK K
                          refine pure_ (i := 15) (N := some 13) (v := ?_) (a' := ?_) #[true, true, true, true, true, true, true, true, true, true, true, true, true, true, true, true] rfl rfl (any_of HT_.out (by kernel_rfl)) (fun _ _ _ h => h) (Or.inl ⟨by rfl, ?_⟩) ?_ ?_
                          rotate_left
                          · intro w'
                            go_simp
                            with_reducible rfl
                          rotate_left
                          · simp only [Act.put, List.setIfInBounds_toArray, List.set_cons_zero, List.set_cons_succ, i64_w, i32_w]
                            rfl
                          refine done_ (done_of HT_.out (by kernel_rfl)) ?_
                          go_upto_region 13 with (fail)
                          go_cut [] (fun wc => ∃ (kq : Nat) (x627000_26 : Int) (x627001_26 : Int) (x628000_26 : Int) (x628001_26 : Int), Aside0 (publicanlaw1_NumMany.j2 kq l0 l1 x7_2 x8_2 t632 t638 x627000_26 x627001_26 x628000_26 x628001_26 = some r) ∧ Aside0 (kq ≤ k2) ∧ Aside0 (wc.heap[gb626]? = some (.cells #[.int .i64 x627000_26, .int .u64 x627001_26] 48 (0, 0))) ∧ Aside0 (wc.heap[gb627]? = some (.cells #[.int .i64 x628000_26, .int .u64 x628001_26] 48 (0, 0))) ∧ Aside0 (wc.heap[gb633]? = some (.cells #[.int .i64 t630, .int .u64 t631] 48 (0, 0))) ∧ Aside0 (wc.heap[gb639]? = some (.cells #[.int .i64 t636, .int .u64 t637] 48 (0, 0))) ∧ Aside0 (Below w.heap.size w wc))
                          case first =>
                            have H := HC27.out
                            clear HC27
                            have H' := Aside0.mk H
                            clear H
                            try go_wp2
                            have n0_ : Aside0 (((w38.setCell ⟨gb639, 0, none⟩ (.int .i64 t636)).setCell ⟨gb639, 1, none⟩ (.int .u64 t637)).heap[gb626]? = some (.cells #[.int .i64 x627000_2, .int .u64 x627001_2] 48 (0, 0))) := ⟨by (with_reducible repeat (first | refine blk_drewN ?_ _ | refine blk_drew ?_ | refine blk_alloc ?_ _)); refine blk_far ?_ NB626_639.out _; (with_reducible repeat (first | refine blk_drewN ?_ _ | refine blk_drew ?_ | refine blk_alloc ?_ _)); refine blk_far ?_ NB626_639.out _; (with_reducible repeat (first | refine blk_drewN ?_ _ | refine blk_drew ?_ | refine blk_alloc ?_ _)); exact BK626.out⟩
                            have n1_ : Aside0 (((w38.setCell ⟨gb639, 0, none⟩ (.int .i64 t636)).setCell ⟨gb639, 1, none⟩ (.int .u64 t637)).heap[gb627]? = some (.cells #[.int .i64 x628000_2, .int .u64 x628001_2] 48 (0, 0))) := ⟨by (with_reducible repeat (first | refine blk_drewN ?_ _ | refine blk_drew ?_ | refine blk_alloc ?_ _)); refine blk_far ?_ NB627_639.out _; (with_reducible repeat (first | refine blk_drewN ?_ _ | refine blk_drew ?_ | refine blk_alloc ?_ _)); refine blk_far ?_ NB627_639.out _; (with_reducible repeat (first | refine blk_drewN ?_ _ | refine blk_drew ?_ | refine blk_alloc ?_ _)); exact BK627.out⟩
                            have n2_ : Aside0 (((w38.setCell ⟨gb639, 0, none⟩ (.int .i64 t636)).setCell ⟨gb639, 1, none⟩ (.int .u64 t637)).heap[gb633]? = some (.cells #[.int .i64 t630, .int .u64 t631] 48 (0, 0))) := ⟨by (with_reducible repeat (first | refine blk_drewN ?_ _ | refine blk_drew ?_ | refine blk_alloc ?_ _)); refine blk_far ?_ NB633_639.out _; (with_reducible repeat (first | refine blk_drewN ?_ _ | refine blk_drew ?_ | refine blk_alloc ?_ _)); refine blk_far ?_ NB633_639.out _; (with_reducible repeat (first | refine blk_drewN ?_ _ | refine blk_drew ?_ | refine blk_alloc ?_ _)); exact BK633.out⟩
                            have n3_ : Aside0 (((w38.setCell ⟨gb639, 0, none⟩ (.int .i64 t636)).setCell ⟨gb639, 1, none⟩ (.int .u64 t637)).heap[gb639]? = some (.cells #[.int .i64 t636, .int .u64 t637] 48 (0, 0))) := ⟨by (with_reducible repeat (first | refine blk_drewN ?_ _ | refine blk_drew ?_ | refine blk_alloc ?_ _)); refine blk_put (cs := #[.int .i64 t636, .int .u64 0]) ?_ 1 _ rfl; (with_reducible repeat (first | refine blk_drewN ?_ _ | refine blk_drew ?_ | refine blk_alloc ?_ _)); refine blk_put (cs := #[.int .i64 0, .int .u64 0]) ?_ 0 _ rfl; (with_reducible repeat (first | refine blk_drewN ?_ _ | refine blk_drew ?_ | refine blk_alloc ?_ _)); exact BK639.out⟩
                            have n4_ : Aside0 (Below w.heap.size w ((w38.setCell ⟨gb639, 0, none⟩ (.int .i64 t636)).setCell ⟨gb639, 1, none⟩ (.int .u64 t637))) := ⟨by repeat (first | (with_reducible first | exact HB.out | apply below_alloc | apply pw_below_drewN | apply below_drew1 | refine below_set ?_ GE626.out | refine below_set ?_ GE627.out | refine below_set ?_ GE633.out | refine below_set ?_ GE639.out) | exact HB.out)⟩
                            (try clear BK626)
                            (try clear BK627)
                            (try clear BK633)
                            (try clear BK639)
                            (try clear HB)
                            generalize ((w38.setCell ⟨gb639, 0, none⟩ (.int .i64 t636)).setCell ⟨gb639, 1, none⟩ (.int .u64 t637)) = w41 at n0_ n1_ n2_ n3_ n4_ ⊢
                            have BK626 := n0_
                            have BK627 := n1_
                            have BK633 := n2_
                            have BK639 := n3_
                            have HB := n4_
                            clear n0_ n1_ n2_ n3_ n4_
                            have n0_ := Aside0.mk (blk_drew BK626.out)
                            have n1_ := Aside0.mk (blk_drew BK627.out)
                            have n2_ := Aside0.mk (blk_drew BK633.out)
                            have n3_ := Aside0.mk (blk_drew BK639.out)
                            have n4_ := Aside0.mk (below_drew1 HB.out)
                            clear BK626
                            clear BK627
                            clear BK633
                            clear BK639
                            clear HB
                            have BK626 := n0_
                            have BK627 := n1_
                            have BK633 := n2_
                            have BK639 := n3_
                            have HB := n4_
                            clear n0_ n1_ n2_ n3_ n4_
                            refine start_ (n := 4) (S := fun w' => w'.cell? ⟨gb633, 0, none⟩ = some (.int .i64 t630) ∧ w'.cell? ⟨gb633, 1, none⟩ = some (.int .u64 t631) ∧ w'.cell? ⟨gb639, 0, none⟩ = some (.int .i64 t636) ∧ w'.cell? ⟨gb639, 1, none⟩ = some (.int .u64 t637)) (ds := []) #[false, false, false, false] (by kernel_rfl) rfl rfl ⟨(blk_cell BK633.out 0).trans rfl, (blk_cell BK633.out 1).trans rfl, (blk_cell BK639.out 0).trans rfl, (blk_cell BK639.out 1).trans rfl⟩ (fun hHeld => ?_)
                            generalize w41.drew = w42 at BK626 BK627 BK633 BK639 HB hHeld ⊢
                            refine take_ (i := 0) (N := some 65) (v := ?_) (a' := ?_) #[true, false, false, false] rfl rfl (by kernel_rfl) (fun _ _ _ h => h) (Or.inl ⟨by rfl, ?_⟩) hHeld ?_ ?_
                            rotate_left
                            · rintro w' ⟨s0, s1, s2, s3⟩
                              go_simp
                              with_reducible rfl
                            rotate_left
                            · simp only [Act.put, List.setIfInBounds_toArray, List.set_cons_zero, List.set_cons_succ, i64_w, i32_w]
                              rfl
                            refine take_ (i := 1) (N := some 66) (v := ?_) (a' := ?_) #[true, true, false, false] rfl rfl (by kernel_rfl) (fun _ _ _ h => h) (Or.inl ⟨by rfl, ?_⟩) hHeld ?_ ?_
                            rotate_left
                            · rintro w' ⟨s0, s1, s2, s3⟩
                              go_simp
                              with_reducible rfl
                            rotate_left
                            · simp only [Act.put, List.setIfInBounds_toArray, List.set_cons_zero, List.set_cons_succ, i64_w, i32_w]
                              rfl
                            refine one_ (i := 2) (N := none) #[true, true, true, false] rfl rfl (by kernel_rfl) (by decide) (fun K hK => ?_)
                            have hs43 : w42.cell? ⟨gb626, 0, none⟩ = some (.int .i64 x627000_2) := (blk_cell BK626.out 0).trans rfl
                            have hfs43 := blk_frozen BK626.out 0
                            have hns43_1 := NB627_626.out
                            have hns43_2 := NB633_626.out
                            have hns43_3 := NB639_626.out
                            have hms43_1 := NB626_627.out
                            have hms43_2 := NB626_633.out
                            have hms43_3 := NB626_639.out
                            have hs44 : w42.cell? ⟨gb626, 1, none⟩ = some (.int .u64 x627001_2) := (blk_cell BK626.out 1).trans rfl
                            have hfs44 := blk_frozen BK626.out 1
                            have hns44_1 := NB627_626.out
                            have hns44_2 := NB633_626.out
                            have hns44_3 := NB639_626.out
                            have hms44_1 := NB626_627.out
                            have hms44_2 := NB626_633.out
                            have hms44_3 := NB626_639.out
                            refine skip_ (w1 := ?_) (by rfl) rfl ?_ ?_
                            rotate_left
                            · go_simp
                              rfl
                            refine hK.out _ _ ⟨((cell_far (p := ⟨gb626, _, none⟩) NB633_626.out _).trans (((cell_far (p := ⟨gb626, _, none⟩) NB633_626.out _).trans (hHeld.1)))), ((cell_far (p := ⟨gb626, _, none⟩) NB633_626.out _).trans (((cell_far (p := ⟨gb626, _, none⟩) NB633_626.out _).trans (hHeld.2.1)))), ((cell_far (p := ⟨gb626, _, none⟩) NB639_626.out _).trans (((cell_far (p := ⟨gb626, _, none⟩) NB639_626.out _).trans (hHeld.2.2.1)))), ((cell_far (p := ⟨gb626, _, none⟩) NB639_626.out _).trans (((cell_far (p := ⟨gb626, _, none⟩) NB639_626.out _).trans (hHeld.2.2.2))))⟩ (fun hHeld => ?_)
                            clear hK K
                            refine one_ (i := 3) (N := none) #[true, true, true, true] rfl rfl (by kernel_rfl) (by decide) (fun K hK => ?_)
                            have hs45 : w42.cell? ⟨gb627, 0, none⟩ = some (.int .i64 x628000_2) := (blk_cell BK627.out 0).trans rfl
                            have hfs45 := blk_frozen BK627.out 0
                            have hns45_0 := NB626_627.out
                            have hns45_2 := NB633_627.out
                            have hns45_3 := NB639_627.out
                            have hms45_0 := NB627_626.out
                            have hms45_2 := NB627_633.out
                            have hms45_3 := NB627_639.out
                            have hs46 : w42.cell? ⟨gb627, 1, none⟩ = some (.int .u64 x628001_2) := (blk_cell BK627.out 1).trans rfl
                            have hfs46 := blk_frozen BK627.out 1
                            have hns46_0 := NB626_627.out
                            have hns46_2 := NB633_627.out
                            have hns46_3 := NB639_627.out
                            have hms46_0 := NB627_626.out
                            have hms46_2 := NB627_633.out
                            have hms46_3 := NB627_639.out
                            refine skip_ (w1 := ?_) (by rfl) rfl ?_ ?_
                            rotate_left
                            · go_simp
                              rfl
                            refine hK.out _ _ ⟨((cell_far (p := ⟨gb627, _, none⟩) NB633_627.out _).trans (((cell_far (p := ⟨gb627, _, none⟩) NB633_627.out _).trans (hHeld.1)))), ((cell_far (p := ⟨gb627, _, none⟩) NB633_627.out _).trans (((cell_far (p := ⟨gb627, _, none⟩) NB633_627.out _).trans (hHeld.2.1)))), ((cell_far (p := ⟨gb627, _, none⟩) NB639_627.out _).trans (((cell_far (p := ⟨gb627, _, none⟩) NB639_627.out _).trans (hHeld.2.2.1)))), ((cell_far (p := ⟨gb627, _, none⟩) NB639_627.out _).trans (((cell_far (p := ⟨gb627, _, none⟩) NB639_627.out _).trans (hHeld.2.2.2))))⟩ (fun hHeld => ?_)
                            clear hK K
                            refine done_ (by kernel_rfl) ?_
                            try go_wp2
                            go_meet
                            case rel => exact ⟨_, (t630), (t631), (t636), (t637), H', ⟨by have := HJ4.out; have := HK2.out; first | omega | exact Nat.le_refl _⟩, ⟨by (with_reducible repeat (first | refine blk_drewN ?_ _ | refine blk_drew ?_ | refine blk_alloc ?_ _)); refine blk_far ?_ NB626_627.out _; (with_reducible repeat (first | refine blk_drewN ?_ _ | refine blk_drew ?_ | refine blk_alloc ?_ _)); refine blk_far ?_ NB626_627.out _; (with_reducible repeat (first | refine blk_drewN ?_ _ | refine blk_drew ?_ | refine blk_alloc ?_ _)); refine blk_put (cs := #[.int .i64 t630, .int .u64 x627001_2]) ?_ 1 _ rfl; (with_reducible repeat (first | refine blk_drewN ?_ _ | refine blk_drew ?_ | refine blk_alloc ?_ _)); refine blk_put (cs := #[.int .i64 x627000_2, .int .u64 x627001_2]) ?_ 0 _ rfl; (with_reducible repeat (first | refine blk_drewN ?_ _ | refine blk_drew ?_ | refine blk_alloc ?_ _)); exact BK626.out⟩, ⟨by (with_reducible repeat (first | refine blk_drewN ?_ _ | refine blk_drew ?_ | refine blk_alloc ?_ _)); refine blk_put (cs := #[.int .i64 t636, .int .u64 x628001_2]) ?_ 1 _ rfl; (with_reducible repeat (first | refine blk_drewN ?_ _ | refine blk_drew ?_ | refine blk_alloc ?_ _)); refine blk_put (cs := #[.int .i64 x628000_2, .int .u64 x628001_2]) ?_ 0 _ rfl; (with_reducible repeat (first | refine blk_drewN ?_ _ | refine blk_drew ?_ | refine blk_alloc ?_ _)); refine blk_far ?_ NB627_626.out _; (with_reducible repeat (first | refine blk_drewN ?_ _ | refine blk_drew ?_ | refine blk_alloc ?_ _)); refine blk_far ?_ NB627_626.out _; (with_reducible repeat (first | refine blk_drewN ?_ _ | refine blk_drew ?_ | refine blk_alloc ?_ _)); exact BK627.out⟩, ⟨by (with_reducible repeat (first | refine blk_drewN ?_ _ | refine blk_drew ?_ | refine blk_alloc ?_ _)); refine blk_far ?_ NB633_627.out _; (with_reducible repeat (first | refine blk_drewN ?_ _ | refine blk_drew ?_ | refine blk_alloc ?_ _)); refine blk_far ?_ NB633_627.out _; (with_reducible repeat (first | refine blk_drewN ?_ _ | refine blk_drew ?_ | refine blk_alloc ?_ _)); refine blk_far ?_ NB633_626.out _; (with_reducible repeat (first | refine blk_drewN ?_ _ | refine blk_drew ?_ | refine blk_alloc ?_ _)); refine blk_far ?_ NB633_626.out _; (with_reducible repeat (first | refine blk_drewN ?_ _ | refine blk_drew ?_ | refine blk_alloc ?_ _)); exact BK633.out⟩, ⟨by (with_reducible repeat (first | refine blk_drewN ?_ _ | refine blk_drew ?_ | refine blk_alloc ?_ _)); refine blk_far ?_ NB639_627.out _; (with_reducible repeat (first | refine blk_drewN ?_ _ | refine blk_drew ?_ | refine blk_alloc ?_ _)); refine blk_far ?_ NB639_627.out _; (with_reducible repeat (first | refine blk_drewN ?_ _ | refine blk_drew ?_ | refine blk_alloc ?_ _)); refine blk_far ?_ NB639_626.out _; (with_reducible repeat (first | refine blk_drewN ?_ _ | refine blk_drew ?_ | refine blk_alloc ?_ _)); refine blk_far ?_ NB639_626.out _; (with_reducible repeat (first | refine blk_drewN ?_ _ | refine blk_drew ?_ | refine blk_alloc ?_ _)); exact BK639.out⟩, ⟨by repeat (first | (with_reducible first | exact HB.out | apply below_alloc | apply pw_below_drewN | apply below_drew1 | refine below_set ?_ GE626.out | refine below_set ?_ GE627.out | refine below_set ?_ GE633.out | refine below_set ?_ GE639.out) | exact HB.out)⟩⟩
                          case rest =>
                            clear HC27
                            try clear p2
                            try clear c3
                            try clear p6
                            try clear q6
                            try clear hx6
                            try clear c37
                            try clear hx634_0
                            try clear hx635_0
                            try clear p634
                            try clear p635
                            try clear q634
                            try clear q635
                            obtain ⟨kq, x627000_26, x627001_26, x628000_26, x628001_26, HA, HJ26, BK626, BK627, BK633, BK639, HB⟩ := hcut
                            cases kq with
                            | zero => exact absurd HA.out (by simp [publicanlaw1_NumMany.j2])
                            | succ kj26 =>
                              have H := HA.out
                              clear HA
                              simp only [publicanlaw1_NumMany.j2] at H
                              by_cases c47 : x7_2 = true
                              · subst c47
                                have H1 : (if t632 = true then (publicanlaw1_NumMany.l0 kj26 l0 l1 t638 (wrap64 (x8_2 + 1)) x627000_26 x627001_26 x628000_26 x628001_26) else (publicanlaw1_NumMany.l0 kj26 l0 l1 false (wrap64 (x8_2 + 1)) x627000_26 x627001_26 x628000_26 x628001_26)) = some r := by rw [if_pos rfl] at H; exact H
                                clear H
                                have H := H1
                                clear H1
                                by_cases c48 : t632 = true
                                · subst c48
                                  have H1 : (publicanlaw1_NumMany.l0 kj26 l0 l1 t638 (wrap64 (x8_2 + 1)) x627000_26 x627001_26 x628000_26 x628001_26) = some r := by rw [if_pos rfl] at H; exact H
                                  clear H
                                  have H := H1
                                  clear H1
                                  have H' := Aside0.mk H
                                  clear H
                                  go_wp2
                                  go_roundg kj26
                                  case measure => have := HJ4.out; have := HK2.out; have := HJ26.out; omega
                                  case rel => exact ⟨(t638), (wrap64 (x8_2 + 1)), (x627000_26), (x627001_26), (x628000_26), (x628001_26), (by first | rfl | (simp; done) | (simp [*]; done)), (by first | rfl | (simp; done) | (simp [*]; done)), H', ⟨by have := HJ4.out; have := HK2.out; have := HJ26.out; omega⟩, ⟨by (with_reducible repeat (first | refine blk_drewN ?_ _ | refine blk_drew ?_ | refine blk_alloc ?_ _)); exact BK626.out⟩, ⟨by (with_reducible repeat (first | refine blk_drewN ?_ _ | refine blk_drew ?_ | refine blk_alloc ?_ _)); exact BK627.out⟩, ⟨by repeat (first | (with_reducible first | exact HB.out | apply below_alloc | apply pw_below_drewN | apply below_drew1 | refine below_set ?_ GE626.out | refine below_set ?_ GE627.out | refine below_set ?_ GE633.out | refine below_set ?_ GE639.out) | exact HB.out)⟩⟩
                                · replace c48 := Bool.eq_false_iff.mpr c48
                                  subst c48
                                  have H1 : (publicanlaw1_NumMany.l0 kj26 l0 l1 false (wrap64 (x8_2 + 1)) x627000_26 x627001_26 x628000_26 x628001_26) = some r := by rw [if_neg (show ¬ (false = true) by decide)] at H; exact H
                                  clear H
                                  have H := H1
                                  clear H1
                                  have H' := Aside0.mk H
                                  clear H
                                  go_wp2
                                  go_roundg kj26
                                  case measure => have := HJ4.out; have := HK2.out; have := HJ26.out; omega
                                  case rel => exact ⟨(false), (wrap64 (x8_2 + 1)), (x627000_26), (x627001_26), (x628000_26), (x628001_26), (by first | rfl | (simp; done) | (simp [*]; done)), (by first | rfl | (simp; done) | (simp [*]; done)), H', ⟨by have := HJ4.out; have := HK2.out; have := HJ26.out; omega⟩, ⟨by (with_reducible repeat (first | refine blk_drewN ?_ _ | refine blk_drew ?_ | refine blk_alloc ?_ _)); exact BK626.out⟩, ⟨by (with_reducible repeat (first | refine blk_drewN ?_ _ | refine blk_drew ?_ | refine blk_alloc ?_ _)); exact BK627.out⟩, ⟨by repeat (first | (with_reducible first | exact HB.out | apply below_alloc | apply pw_below_drewN | apply below_drew1 | refine below_set ?_ GE626.out | refine below_set ?_ GE627.out | refine below_set ?_ GE633.out | refine below_set ?_ GE639.out) | exact HB.out)⟩⟩
                              · replace c47 := Bool.eq_false_iff.mpr c47
                                subst c47
                                have H1 : (publicanlaw1_NumMany.l0 kj26 l0 l1 false (wrap64 (x8_2 + 1)) x627000_26 x627001_26 x628000_26 x628001_26) = some r := by rw [if_neg (show ¬ (false = true) by decide)] at H; exact H
                                clear H
                                have H := H1
                                clear H1
                                have H' := Aside0.mk H
                                clear H
                                go_wp2
                                go_roundg kj26
                                case measure => have := HJ4.out; have := HK2.out; have := HJ26.out; omega
                                case rel => exact ⟨(false), (wrap64 (x8_2 + 1)), (x627000_26), (x627001_26), (x628000_26), (x628001_26), (by first | rfl | (simp; done) | (simp [*]; done)), (by first | rfl | (simp; done) | (simp [*]; done)), H', ⟨by have := HJ4.out; have := HK2.out; have := HJ26.out; omega⟩, ⟨by (with_reducible repeat (first | refine blk_drewN ?_ _ | refine blk_drew ?_ | refine blk_alloc ?_ _)); exact BK626.out⟩, ⟨by (with_reducible repeat (first | refine blk_drewN ?_ _ | refine blk_drew ?_ | refine blk_alloc ?_ _)); exact BK627.out⟩, ⟨by repeat (first | (with_reducible first | exact HB.out | apply below_alloc | apply pw_below_drewN | apply below_drew1 | refine below_set ?_ GE626.out | refine below_set ?_ GE627.out | refine below_set ?_ GE633.out | refine below_set ?_ GE639.out) | exact HB.out)⟩⟩
                        · rw [if_neg c25] at H
                          exact absurd H (by simp)
                      · rw [if_neg c24] at H
                        exact absurd H (by simp)
                    · rw [if_neg c23] at H
                      exact absurd H (by simp)
                  · rw [if_neg c20] at H
                    exact absurd H (by simp)
                · rw [if_neg c19] at H
                  exact absurd H (by simp)
              · rw [if_neg c18] at H
                have c18b0 : decide (x8_2 < (l0.length : Int)) = false := decide_eq_false c18
                clear c18
                by_cases c49 : x7_2 = true
                · subst c49
                  have H1 : (some (x627000_2 == x628000_2 && (x627001_2 == x628001_2))) = some r := by rw [if_pos rfl] at H; exact H
                  clear H
                  have H := H1
                  clear H1
                  obtain rfl := Option.some.inj H
                  have hnb50 := NB626_627.out
                  have hnc50 := NB627_626.out
                  have hcz51_0 : wr.cell? ⟨gb626, 0, none⟩ = some (.int .i64 x627000_2) := (blk_cell BK626.out 0).trans rfl
                  have hcz51_1 : wr.cell? ⟨gb626, 1, none⟩ = some (.int .u64 x627001_2) := (blk_cell BK626.out 1).trans rfl
                  have hfz51_0 := blk_frozen BK626.out 0
                  have hfz51_1 := blk_frozen BK626.out 1
                  have hcz52_0 : wr.cell? ⟨gb627, 0, none⟩ = some (.int .i64 x628000_2) := (blk_cell BK627.out 0).trans rfl
                  have hcz52_1 : wr.cell? ⟨gb627, 1, none⟩ = some (.int .u64 x628001_2) := (blk_cell BK627.out 1).trans rfl
                  have hfz52_0 := blk_frozen BK627.out 0
                  have hfz52_1 := blk_frozen BK627.out 1
                  go_wp2
                  go_ret
                  exact ⟨by first | rfl | (simp [errW_none, errW_some] <;> rfl) | (simp [*, errW_none, errW_some] <;> rfl), by repeat (first | (with_reducible first | exact HB.out | apply below_alloc | apply pw_below_drewN | apply below_drew1 | refine below_set ?_ GE626.out | refine below_set ?_ GE627.out) | exact HB.out)⟩
                · replace c49 := Bool.eq_false_iff.mpr c49
                  subst c49
                  have H1 : (some true) = some r := by rw [if_neg (show ¬ (false = true) by decide)] at H; exact H
                  clear H
                  have H := H1
                  clear H1
                  obtain rfl := Option.some.inj H
                  go_wp2
                  go_ret
                  exact ⟨by first | rfl | (simp [errW_none, errW_some] <;> rfl) | (simp [*, errW_none, errW_some] <;> rfl), by repeat (first | (with_reducible first | exact HB.out | apply below_alloc | apply pw_below_drewN | apply below_drew1 | refine below_set ?_ GE626.out | refine below_set ?_ GE627.out) | exact HB.out)⟩
  · replace c4 := Bool.eq_false_iff.mpr c4
    subst c4
    have H1 : (none) = some r := by rw [if_neg (show ¬ (false = true) by decide)] at H; exact H
    clear H
    have H := H1
    clear H1
    exact absurd H (by simp)

/-- THE ONE PURE STATEMENT of publicanlaw1_NumMany: yours. -/
def publicanlaw1_NumMany.Pure : Prop := ∀ (l0 : List Int) (l1 : List Int), l0.length ≤ maxLen → l0.length * 8 ≤ 140737488351232 → (∀ x ∈ l0, (Lit.int .i64 x).wf = true) → l1.length ≤ maxLen → l1.length * 8 ≤ 140737488351232 → (∀ x ∈ l1, (Lit.int .i64 x).wf = true) → ∃ k, publicanlaw1_NumMany.f k l0 l1 = some true
theorem publicanlaw1_NumMany.walk (P : publicanlaw1_NumMany.Pure) (a0 : Option Addr) (len0 cap0 : Nat) (z0 : List Int) (a1 : Option Addr) (len1 cap1 : Nat) (z1 : List Int) (w : World) (w0 : (a0 = none ∧ len0 = 0 ∧ cap0 = 0 ∧ z0 = []) ∨ ∃ x, a0 = some x ∧ len0 ≤ cap0 ∧ cap0 ≤ maxLen ∧ z0.length = cap0 ∧ (∀ i, i < z0.length → w.cell? (x.add i) = some (.int .i64 (z0.getD i 0))) ∧ ∀ n ∈ z0, (Lit.int .i64 n).wf = true) (y0 : len0 * 8 ≤ 140737488351232) (w1 : (a1 = none ∧ len1 = 0 ∧ cap1 = 0 ∧ z1 = []) ∨ ∃ x, a1 = some x ∧ len1 ≤ cap1 ∧ cap1 ≤ maxLen ∧ z1.length = cap1 ∧ (∀ i, i < z1.length → w.cell? (x.add i) = some (.int .i64 (z1.getD i 0))) ∧ ∀ n ∈ z1, (Lit.int .i64 n).wf = true) (y1 : len1 * 8 ≤ 140737488351232) :
    Calls Try.prog 11 #[.slice a0 len0 cap0, .slice a1 len1 cap1] w fun e w' => e = .returned (.bool true) ∧ Below w.heap.size w w' := by
  obtain ⟨l0, rfl, hr0, hm0, hw0, hc0⟩ := ReadsInt.ofRowC w0
  obtain ⟨l1, rfl, hr1, hm1, hw1, hc1⟩ := ReadsInt.ofRowC w1
  obtain ⟨k, h⟩ := P l0 l1 hm0 y0 hw0 hm1 y1 hw1
  refine (publicanlaw1_NumMany.calls k _ _ l0 _ _ l1 true w (Kd.C_of_reads (d := (0 : Int)) (h1 := fun _ => rfl) hr0) hc0 (Kd.C_of_reads (d := (0 : Int)) (h1 := fun _ => rfl) hr1) hc1 h).mono ?_
  rintro e w' ⟨rfl, hd⟩
  exact ⟨rfl, hd⟩

end Go.Proofs.Ythjhammjankekaa.PNum
