-- Printed by a program of this session (wip/print) out of the translation; Lean checks it.
import Derived.Test.YthjhammjankekaaPNum0
import Derived.Test.YthjhammjankekaaPNum2
import Derived.Test.YthjhammjankekaaPNum4
import Derived.Test.YthjhammjankekaaPNum5
namespace Go.Proofs.Ythjhammjankekaa.PNum
open Go.RowKit Go.Proofs.YthjhammjankekaaW.PrintWords Go.Proofs.YthjhammjankekaaW.PrintLast Go.Proofs.YthjhammjankekaaW.PrintMore
attribute [local go_sem] max2_int min2_int max_two min_two max_three min_three max_four min_four   -- for this text's walks alone
set_option linter.unusedVariables false
set_option linter.unusedSimpArgs false

/-! ### publicanlaw1_NumBack: function 10 -/
mutual
def publicanlaw1_NumBack.j0 : Nat → Int → Int → Option (Bool)
  | 0, _, _ => none
  | k + 1, x0, x1 => (num_Floor.f k x0 x1).bind fun bt601 => (if bt601.2 = true then (publicanlaw1_NumBack.j1 k x0 x1 bt601.1 (decide (x1 < 1))) else (publicanlaw1_NumBack.j1 k x0 x1 bt601.1 true))
def publicanlaw1_NumBack.j1 : Nat → Int → Int → Int → Bool → Option (Bool)
  | 0, _, _, _, _ => none
  | k + 1, x0, x1, x9, x47 => if x47 = true then (some true) else ((num_Of.f 0).bind fun bt603 => ((num_Wide_PlusMul.f bt603.1 bt603.2 x9 x1).bind fun bt605 => ((num_Of.f x1).bind fun bt609 => ((num_Wide_Plus.f bt605.1 bt605.2.1 bt609.1 bt609.2).bind fun bt611 => (if bt605.2.2 = true then (if bt611.2.2 = true then ((num_Of.f x0).bind fun bt615 => ((num_Wide_Cmp.f bt605.1 bt605.2.1 bt615.1 bt615.2).bind fun t617 => (if t617 ≤ 0 then ((num_Of.f x0).bind fun bt618 => ((num_Wide_Cmp.f bt611.1 bt611.2.1 bt618.1 bt618.2).bind fun t620 => (some (decide (t620 > 0))))) else (none)))) else (none)) else (none))))))
end
def publicanlaw1_NumBack.f (k : Nat) (a0 : Int) (a1 : Int) : Option (Bool) := (publicanlaw1_awake.f k).bind fun t596 => (if t596 = true then ((num_Add.f a0 a1).bind fun bt597 => (if bt597.2 = true then ((num_Sub.f bt597.1 a1).bind fun bt599 => (if bt599.2 = true then (if bt599.1 = a0 then (publicanlaw1_NumBack.j0 k a0 a1) else (none)) else (none))) else (publicanlaw1_NumBack.j0 k a0 a1))) else (none))
theorem publicanlaw1_NumBack.mono_l : ∀ k, (∀ y0 y1, LeO (publicanlaw1_NumBack.j0 k y0 y1) (publicanlaw1_NumBack.j0 (k + 1) y0 y1)) ∧ (∀ y0 y1 y2 y3, LeO (publicanlaw1_NumBack.j1 k y0 y1 y2 y3) (publicanlaw1_NumBack.j1 (k + 1) y0 y1 y2 y3))
  | 0 => ⟨fun _ _ r h => by simp [publicanlaw1_NumBack.j0] at h, fun _ _ _ _ r h => by simp [publicanlaw1_NumBack.j1] at h⟩
  | k + 1 => by
    obtain ⟨ih0, ih1⟩ := publicanlaw1_NumBack.mono_l k
    refine ⟨?_, ?_⟩
    · intro y0 y1
      unfold publicanlaw1_NumBack.j0
      repeat' first
      | (with_reducible exact ih0 _ _)
      | (with_reducible exact ih1 _ _ _ _)
      | (with_reducible exact num_Floor.mono _ _ _)
      | (with_reducible exact publicanlaw1_awake.mono _)
      | (with_reducible exact LeO.refl _)
      | (with_reducible exact LeO.none _)
      | (with_reducible refine LeO.ite ?_ ?_)
      | (with_reducible refine LeO.bind ?_ (fun _ => ?_))
      | exact ih0 _ _
      | exact ih1 _ _ _ _
      | exact num_Floor.mono _ _ _
      | exact publicanlaw1_awake.mono _
      | exact LeO.none _
      | refine LeO.ite ?_ ?_
      | refine LeO.bind ?_ (fun _ => ?_)
    · intro y0 y1 y2 y3
      unfold publicanlaw1_NumBack.j1
      repeat' first
      | (with_reducible exact ih0 _ _)
      | (with_reducible exact ih1 _ _ _ _)
      | (with_reducible exact num_Floor.mono _ _ _)
      | (with_reducible exact publicanlaw1_awake.mono _)
      | (with_reducible exact LeO.refl _)
      | (with_reducible exact LeO.none _)
      | (with_reducible refine LeO.ite ?_ ?_)
      | (with_reducible refine LeO.bind ?_ (fun _ => ?_))
      | exact ih0 _ _
      | exact ih1 _ _ _ _
      | exact num_Floor.mono _ _ _
      | exact publicanlaw1_awake.mono _
      | exact LeO.none _
      | refine LeO.ite ?_ ?_
      | refine LeO.bind ?_ (fun _ => ?_)
theorem publicanlaw1_NumBack.mono : ∀ a0 a1 k, LeO (publicanlaw1_NumBack.f k a0 a1) (publicanlaw1_NumBack.f (k + 1) a0 a1) := by
  intro a0 a1 k
  obtain ⟨ih0, ih1⟩ := publicanlaw1_NumBack.mono_l k
  unfold publicanlaw1_NumBack.f
  repeat' first
      | (with_reducible exact ih0 _ _)
      | (with_reducible exact ih1 _ _ _ _)
      | (with_reducible exact num_Floor.mono _ _ _)
      | (with_reducible exact publicanlaw1_awake.mono _)
      | (with_reducible exact LeO.refl _)
      | (with_reducible exact LeO.none _)
      | (with_reducible refine LeO.ite ?_ ?_)
      | (with_reducible refine LeO.bind ?_ (fun _ => ?_))
      | exact ih0 _ _
      | exact ih1 _ _ _ _
      | exact num_Floor.mono _ _ _
      | exact publicanlaw1_awake.mono _
      | exact LeO.none _
      | refine LeO.ite ?_ ?_
      | refine LeO.bind ?_ (fun _ => ?_)
def publicanlaw1_NumBack.T12 : Bool × List (List Nat × List Nat) := (true, [([], []), ([], []), ([1], [1]), ([0, 2, 2], [0, 2]), ([3], [3]), ([4], [4]), ([4], [4]), ([], []), ([7, 5, 3, 0, 1, 2, 3, 4, 5, 7], [5, 7]), ([6, 8, 0, 1, 2, 3, 4, 5, 6, 7, 8], [6])])
def publicanlaw1_NumBack.B12 : List Nat := [0, 0, 2, 7, 15, 31, 31, 0, 191, 511]
theorem publicanlaw1_NumBack.tab12 : rtab .any (opsOf Try.f10 12) = publicanlaw1_NumBack.T12 := by kernel_rfl
theorem publicanlaw1_NumBack.bits12 : waitsOk publicanlaw1_NumBack.T12.2 publicanlaw1_NumBack.B12 = true := by kernel_rfl
def publicanlaw1_NumBack.T13 : Bool × List (List Nat × List Nat) := (true, [([], []), ([0], [0]), ([1], [1]), ([1, 2], [1, 2]), ([3, 1], [3]), ([4], [4]), ([4], [4]), ([6, 4, 4], [4, 6]), ([5, 7, 7, 4], [4, 5, 7]), ([8, 4], [4, 8]), ([4, 9], [4, 9]), ([10, 8], [10]), ([11], [11]), ([11], [11]), ([13, 11, 11], [11, 13]), ([12, 14, 14, 11], [11, 12, 14]), ([15, 11], [11, 15]), ([11, 16], [11, 16]), ([17, 15, 0, 1, 2, 3, 4, 5, 6, 7, 8, 9, 10, 11, 12, 13, 14, 15, 16, 17], [17])])
def publicanlaw1_NumBack.B13 : List Nat := [0, 1, 3, 7, 15, 31, 31, 95, 255, 511, 1023, 2047, 4095, 4095, 12287, 32767, 65535, 131071, 262143]
theorem publicanlaw1_NumBack.tab13 : rtab .any (opsOf Try.f10 13) = publicanlaw1_NumBack.T13 := by kernel_rfl
theorem publicanlaw1_NumBack.bits13 : waitsOk publicanlaw1_NumBack.T13.2 publicanlaw1_NumBack.B13 = true := by kernel_rfl
set_option maxHeartbeats 8000000 in
set_option maxRecDepth 100000 in
theorem publicanlaw1_NumBack.calls (k : Nat) (a0 : Int) (a1 : Int) (r : Bool) (w : World) (h : publicanlaw1_NumBack.f k a0 a1 = some r) :
    Calls Try.prog 10 #[.int .i64 a0, .int .i64 a1] w fun e w' => e = .returned (.bool r) ∧ Below w.heap.size w w' := by
  have hu48 := Try.underlying48
  have HB := Aside0.mk (Below.refl w.heap.size w)
  have H : ((publicanlaw1_awake.f k).bind fun t596 => (if t596 = true then ((num_Add.f a0 a1).bind fun bt597 => (if bt597.2 = true then ((num_Sub.f bt597.1 a1).bind fun bt599 => (if bt599.2 = true then (if bt599.1 = a0 then (publicanlaw1_NumBack.j0 k a0 a1) else (none)) else (none))) else (publicanlaw1_NumBack.j0 k a0 a1))) else (none))) = some r := h
  clear h
  replace H := Option.bind_eq_some_iff.mp H
  obtain ⟨t596, A30, H⟩ := H
  replace H : (if t596 = true then ((num_Add.f a0 a1).bind fun bt597 => (if bt597.2 = true then ((num_Sub.f bt597.1 a1).bind fun bt599 => (if bt599.2 = true then (if bt599.1 = a0 then (publicanlaw1_NumBack.j0 k a0 a1) else (none)) else (none))) else (publicanlaw1_NumBack.j0 k a0 a1))) else (none)) = some r := H
  have A3 := Aside0.mk A30
  clear A30
  by_cases c4 : t596 = true
  · subst c4
    have H1 : ((num_Add.f a0 a1).bind fun bt597 => (if bt597.2 = true then ((num_Sub.f bt597.1 a1).bind fun bt599 => (if bt599.2 = true then (if bt599.1 = a0 then (publicanlaw1_NumBack.j0 k a0 a1) else (none)) else (none))) else (publicanlaw1_NumBack.j0 k a0 a1))) = some r := by rw [if_pos rfl] at H; exact H
    clear H
    have H := H1
    clear H1
    replace H := Option.bind_eq_some_iff.mp H
    obtain ⟨⟨t597, t598⟩, A50, H⟩ := H
    replace H : (if t598 = true then ((num_Sub.f t597 a1).bind fun bt599 => (if bt599.2 = true then (if bt599.1 = a0 then (publicanlaw1_NumBack.j0 k a0 a1) else (none)) else (none))) else (publicanlaw1_NumBack.j0 k a0 a1)) = some r := H
    have A5 := Aside0.mk A50
    clear A50
    have HC6 := Aside0.mk H
    clear H
    go_enter Try.func10, Try.ntmps10
    go_upto_if 22 with (first | ((with_reducible refine gate_callee (f := 22) rfl ?_); refine goesL_ (some 14) rfl rfl Try.func22 (by kernel_rfl) rfl #[] rfl (by (try simp only [List.map_toArray, List.map_cons, List.map_nil]); first | done | rfl | (simp only [List.length_drop, List.length_take]; rfl)) ?_; (with_reducible refine (publicanlaw1_awake.calls k  true _ A3.out).mono ?_); rintro e w7 ⟨rfl, hb⟩; refine ⟨_, rfl, ?_⟩; have n0_ := Aside0.mk (below_step (by repeat (first | (with_reducible first | exact HB.out | apply below_alloc | apply pw_below_drewN | apply below_drew1) | exact HB.out)) hb); clear HB; have HB := n0_; clear n0_; (try clear hb); (try clear hb2); (try clear hk); (try clear hi)) | ((with_reducible refine gate_callee (f := 23) rfl ?_); refine goesL_ (some 19) rfl rfl Try.func23 (by kernel_rfl) rfl #[.int .i64 a0, .int .i64 a1] rfl (by (try simp only [List.map_toArray, List.map_cons, List.map_nil]); first | done | rfl | (simp only [List.length_drop, List.length_take]; rfl)) ?_; (with_reducible refine (num_Add.calls a0 a1 t597 t598 _ A5.out).mono ?_); rintro e w' ⟨rfl, ⟨nd, rfl⟩⟩; refine ⟨_, rfl, ?_⟩))
    (try simp only [Act.put, List.setIfInBounds_toArray, List.set_cons_zero, List.set_cons_succ])
    go_cut [] (fun wc => ∃ (kq : Nat), Aside0 (publicanlaw1_NumBack.j0 kq a0 a1 = some r) ∧ Aside0 (kq ≤ k) ∧ Aside0 (Below w.heap.size w wc))
    case first =>
      have H := HC6.out
      clear HC6
      by_cases c8 : t598 = true
      · subst c8
        have H1 : ((num_Sub.f t597 a1).bind fun bt599 => (if bt599.2 = true then (if bt599.1 = a0 then (publicanlaw1_NumBack.j0 k a0 a1) else (none)) else (none))) = some r := by rw [if_pos rfl] at H; exact H
        clear H
        have H := H1
        clear H1
        replace H := Option.bind_eq_some_iff.mp H
        obtain ⟨⟨t599, t600⟩, A90, H⟩ := H
        replace H : (if t600 = true then (if t599 = a0 then (publicanlaw1_NumBack.j0 k a0 a1) else (none)) else (none)) = some r := H
        have A9 := Aside0.mk A90
        clear A90
        by_cases c10 : t600 = true
        · subst c10
          have H1 : (if t599 = a0 then (publicanlaw1_NumBack.j0 k a0 a1) else (none)) = some r := by rw [if_pos rfl] at H; exact H
          clear H
          have H := H1
          clear H1
          by_cases c11 : t599 = a0
          · rw [if_pos c11] at H
            have c11b0 : (t599 == a0) = true := beq_iff_eq.mpr c11
            have c11b1 : (t599 != a0) = false := bne_eq_false_iff_eq.mpr c11
            clear c11
            (first | rw [c11b0] | (simp only [i64_w, i32_w]; rw [c11b0]) | skip)
            have H' := Aside0.mk H
            clear H
            go_wp2_with (first | ((with_reducible refine gate_callee (f := 24) rfl ?_); refine goesL_ (some 26) rfl rfl Try.func24 (by kernel_rfl) rfl #[.int .i64 t597, .int .i64 a1] rfl (by (try simp only [List.map_toArray, List.map_cons, List.map_nil]); first | done | rfl | (simp only [List.length_drop, List.length_take]; rfl)) ?_; (with_reducible refine (num_Sub.calls t597 a1 t599 true _ A9.out).mono ?_); rintro e w' ⟨rfl, ⟨nd, rfl⟩⟩; refine ⟨_, rfl, ?_⟩))
            go_meet
            case rel => exact ⟨_, H', ⟨by first | omega | exact Nat.le_refl _⟩, ⟨by repeat (first | (with_reducible first | exact HB.out | apply below_alloc | apply pw_below_drewN | apply below_drew1) | exact HB.out)⟩⟩
          · rw [if_neg c11] at H
            exact absurd H (by simp)
        · replace c10 := Bool.eq_false_iff.mpr c10
          subst c10
          have H1 : (none) = some r := by rw [if_neg (show ¬ (false = true) by decide)] at H; exact H
          clear H
          have H := H1
          clear H1
          exact absurd H (by simp)
      · replace c8 := Bool.eq_false_iff.mpr c8
        subst c8
        have H1 : (publicanlaw1_NumBack.j0 k a0 a1) = some r := by rw [if_neg (show ¬ (false = true) by decide)] at H; exact H
        clear H
        have H := H1
        clear H1
        have H' := Aside0.mk H
        clear H
        go_wp2
        go_meet
        case rel => exact ⟨_, H', ⟨by first | omega | exact Nat.le_refl _⟩, ⟨by repeat (first | (with_reducible first | exact HB.out | apply below_alloc | apply pw_below_drewN | apply below_drew1) | exact HB.out)⟩⟩
    case rest =>
      clear HC6
      try clear c1
      try clear c2
      try clear p2
      try clear c4
      try clear c8
      try clear c10
      try clear c11
      try clear c11b0
      try clear c11b1
      obtain ⟨kq, HA, HJ5, HB⟩ := hcut
      cases kq with
      | zero => exact absurd HA.out (by simp [publicanlaw1_NumBack.j0])
      | succ kj5 =>
        have H := HA.out
        clear HA
        simp only [publicanlaw1_NumBack.j0] at H
        replace H := Option.bind_eq_some_iff.mp H
        obtain ⟨⟨t601, t602⟩, A120, H⟩ := H
        replace H : (if t602 = true then (publicanlaw1_NumBack.j1 kj5 a0 a1 t601 (decide (a1 < 1))) else (publicanlaw1_NumBack.j1 kj5 a0 a1 t601 true)) = some r := H
        have A12 := Aside0.mk A120
        clear A120
        have HC13 := Aside0.mk H
        clear H
        go_upto_region 9 with (first | ((with_reducible refine gate_callee (f := 26) rfl ?_); refine goesL_ (some 39) rfl rfl Try.func26 (by kernel_rfl) rfl #[.int .i64 a0, .int .i64 a1] rfl (by (try simp only [List.map_toArray, List.map_cons, List.map_nil]); first | done | rfl | (simp only [List.length_drop, List.length_take]; rfl)) ?_; (with_reducible refine (num_Floor.calls kj5 a0 a1 t601 t602 _ A12.out).mono ?_); rintro e w' ⟨rfl, ⟨nd, rfl⟩⟩; refine ⟨_, rfl, ?_⟩))
        (try simp only [Act.put, List.setIfInBounds_toArray, List.set_cons_zero, List.set_cons_succ])
        go_cut [47] (fun v47 wc => ∃ (kq : Nat) (x47_12 : Bool), v47 = .bool x47_12 ∧ Aside0 (publicanlaw1_NumBack.j1 kq a0 a1 t601 x47_12 = some r) ∧ Aside0 (kq ≤ kj5) ∧ Aside0 (Below w.heap.size w wc))
        case first =>
          have H := HC13.out
          clear HC13
          by_cases c14 : t602 = true
          · subst c14
            have H1 : (publicanlaw1_NumBack.j1 kj5 a0 a1 t601 (decide (a1 < 1))) = some r := by rw [if_pos rfl] at H; exact H
            clear H
            have H := H1
            clear H1
            have H' := Aside0.mk H
            clear H
            go_wp2
            go_meet
            case rel => exact ⟨_, (decide (a1 < 1)), (by first | rfl | (simp; done) | (simp [*]; done)), H', ⟨by have := HJ5.out; first | omega | exact Nat.le_refl _⟩, ⟨by repeat (first | (with_reducible first | exact HB.out | apply below_alloc | apply pw_below_drewN | apply below_drew1) | exact HB.out)⟩⟩
          · replace c14 := Bool.eq_false_iff.mpr c14
            subst c14
            have H1 : (publicanlaw1_NumBack.j1 kj5 a0 a1 t601 true) = some r := by rw [if_neg (show ¬ (false = true) by decide)] at H; exact H
            clear H
            have H := H1
            clear H1
            have H' := Aside0.mk H
            clear H
            go_wp2
            go_meet
            case rel => exact ⟨_, (true), (by first | rfl | (simp; done) | (simp [*]; done)), H', ⟨by have := HJ5.out; first | omega | exact Nat.le_refl _⟩, ⟨by repeat (first | (with_reducible first | exact HB.out | apply below_alloc | apply pw_below_drewN | apply below_drew1) | exact HB.out)⟩⟩
        case rest =>
          clear HC13
          try clear c1
          try clear c2
          try clear p2
          try clear c4
          try clear c8
          try clear c10
          try clear c11
          try clear c11b0
          try clear c11b1
          try clear c14
          try clear p2
          obtain ⟨kq, x47_12, rfl, HA, HJ12, HB⟩ := hcut
          cases kq with
          | zero => exact absurd HA.out (by simp [publicanlaw1_NumBack.j1])
          | succ kj12 =>
            have H := HA.out
            clear HA
            simp only [publicanlaw1_NumBack.j1] at H
            by_cases c15 : x47_12 = true
            · subst c15
              have H1 : (some true) = some r := by rw [if_pos rfl] at H; exact H
              clear H
              have H := H1
              clear H1
              obtain rfl := Option.some.inj H
              go_wp2
              go_ret
              exact ⟨by first | rfl | (simp [errW_none, errW_some] <;> rfl) | (simp [*, errW_none, errW_some] <;> rfl), by repeat (first | (with_reducible first | exact HB.out | apply below_alloc | apply pw_below_drewN | apply below_drew1) | exact HB.out)⟩
            · replace c15 := Bool.eq_false_iff.mpr c15
              subst c15
              have H1 : ((num_Of.f 0).bind fun bt603 => ((num_Wide_PlusMul.f bt603.1 bt603.2 t601 a1).bind fun bt605 => ((num_Of.f a1).bind fun bt609 => ((num_Wide_Plus.f bt605.1 bt605.2.1 bt609.1 bt609.2).bind fun bt611 => (if bt605.2.2 = true then (if bt611.2.2 = true then ((num_Of.f a0).bind fun bt615 => ((num_Wide_Cmp.f bt605.1 bt605.2.1 bt615.1 bt615.2).bind fun t617 => (if t617 ≤ 0 then ((num_Of.f a0).bind fun bt618 => ((num_Wide_Cmp.f bt611.1 bt611.2.1 bt618.1 bt618.2).bind fun t620 => (some (decide (t620 > 0))))) else (none)))) else (none)) else (none)))))) = some r := by rw [if_neg (show ¬ (false = true) by decide)] at H; exact H
              clear H
              have H := H1
              clear H1
              replace H := Option.bind_eq_some_iff.mp H
              obtain ⟨⟨t603, t604⟩, A160, H⟩ := H
              replace H : ((num_Wide_PlusMul.f t603 t604 t601 a1).bind fun bt605 => ((num_Of.f a1).bind fun bt609 => ((num_Wide_Plus.f bt605.1 bt605.2.1 bt609.1 bt609.2).bind fun bt611 => (if bt605.2.2 = true then (if bt611.2.2 = true then ((num_Of.f a0).bind fun bt615 => ((num_Wide_Cmp.f bt605.1 bt605.2.1 bt615.1 bt615.2).bind fun t617 => (if t617 ≤ 0 then ((num_Of.f a0).bind fun bt618 => ((num_Wide_Cmp.f bt611.1 bt611.2.1 bt618.1 bt618.2).bind fun t620 => (some (decide (t620 > 0))))) else (none)))) else (none)) else (none))))) = some r := H
              have A16 := Aside0.mk A160
              clear A160
              replace H := Option.bind_eq_some_iff.mp H
              obtain ⟨⟨t605, t606, t607⟩, A170, H⟩ := H
              replace H : ((num_Of.f a1).bind fun bt609 => ((num_Wide_Plus.f t605 t606 bt609.1 bt609.2).bind fun bt611 => (if t607 = true then (if bt611.2.2 = true then ((num_Of.f a0).bind fun bt615 => ((num_Wide_Cmp.f t605 t606 bt615.1 bt615.2).bind fun t617 => (if t617 ≤ 0 then ((num_Of.f a0).bind fun bt618 => ((num_Wide_Cmp.f bt611.1 bt611.2.1 bt618.1 bt618.2).bind fun t620 => (some (decide (t620 > 0))))) else (none)))) else (none)) else (none)))) = some r := H
              have A17 := Aside0.mk A170
              clear A170
              replace H := Option.bind_eq_some_iff.mp H
              obtain ⟨⟨t609, t610⟩, A180, H⟩ := H
              replace H : ((num_Wide_Plus.f t605 t606 t609 t610).bind fun bt611 => (if t607 = true then (if bt611.2.2 = true then ((num_Of.f a0).bind fun bt615 => ((num_Wide_Cmp.f t605 t606 bt615.1 bt615.2).bind fun t617 => (if t617 ≤ 0 then ((num_Of.f a0).bind fun bt618 => ((num_Wide_Cmp.f bt611.1 bt611.2.1 bt618.1 bt618.2).bind fun t620 => (some (decide (t620 > 0))))) else (none)))) else (none)) else (none))) = some r := H
              have A18 := Aside0.mk A180
              clear A180
              replace H := Option.bind_eq_some_iff.mp H
              obtain ⟨⟨t611, t612, t613⟩, A190, H⟩ := H
              replace H : (if t607 = true then (if t613 = true then ((num_Of.f a0).bind fun bt615 => ((num_Wide_Cmp.f t605 t606 bt615.1 bt615.2).bind fun t617 => (if t617 ≤ 0 then ((num_Of.f a0).bind fun bt618 => ((num_Wide_Cmp.f t611 t612 bt618.1 bt618.2).bind fun t620 => (some (decide (t620 > 0))))) else (none)))) else (none)) else (none)) = some r := H
              have A19 := Aside0.mk A190
              clear A190
              by_cases c20 : t607 = true
              · subst c20
                have H1 : (if t613 = true then ((num_Of.f a0).bind fun bt615 => ((num_Wide_Cmp.f t605 t606 bt615.1 bt615.2).bind fun t617 => (if t617 ≤ 0 then ((num_Of.f a0).bind fun bt618 => ((num_Wide_Cmp.f t611 t612 bt618.1 bt618.2).bind fun t620 => (some (decide (t620 > 0))))) else (none)))) else (none)) = some r := by rw [if_pos rfl] at H; exact H
                clear H
                have H := H1
                clear H1
                by_cases c21 : t613 = true
                · subst c21
                  have H1 : ((num_Of.f a0).bind fun bt615 => ((num_Wide_Cmp.f t605 t606 bt615.1 bt615.2).bind fun t617 => (if t617 ≤ 0 then ((num_Of.f a0).bind fun bt618 => ((num_Wide_Cmp.f t611 t612 bt618.1 bt618.2).bind fun t620 => (some (decide (t620 > 0))))) else (none)))) = some r := by rw [if_pos rfl] at H; exact H
                  clear H
                  have H := H1
                  clear H1
                  replace H := Option.bind_eq_some_iff.mp H
                  obtain ⟨⟨t615, t616⟩, A220, H⟩ := H
                  replace H : ((num_Wide_Cmp.f t605 t606 t615 t616).bind fun t617 => (if t617 ≤ 0 then ((num_Of.f a0).bind fun bt618 => ((num_Wide_Cmp.f t611 t612 bt618.1 bt618.2).bind fun t620 => (some (decide (t620 > 0))))) else (none))) = some r := H
                  have A22 := Aside0.mk A220
                  clear A220
                  replace H := Option.bind_eq_some_iff.mp H
                  obtain ⟨t617, A230, H⟩ := H
                  replace H : (if t617 ≤ 0 then ((num_Of.f a0).bind fun bt618 => ((num_Wide_Cmp.f t611 t612 bt618.1 bt618.2).bind fun t620 => (some (decide (t620 > 0))))) else (none)) = some r := H
                  have A23 := Aside0.mk A230
                  clear A230
                  by_cases c24 : t617 ≤ 0
                  · rw [if_pos c24] at H
                    have c24b0 : decide (t617 ≤ 0) = true := decide_eq_true c24
                    clear c24
                    replace H := Option.bind_eq_some_iff.mp H
                    obtain ⟨⟨t618, t619⟩, A250, H⟩ := H
                    replace H : ((num_Wide_Cmp.f t611 t612 t618 t619).bind fun t620 => (some (decide (t620 > 0)))) = some r := H
                    have A25 := Aside0.mk A250
                    clear A250
                    replace H := Option.bind_eq_some_iff.mp H
                    obtain ⟨t620, A260, H⟩ := H
                    replace H : (some (decide (t620 > 0))) = some r := H
                    have A26 := Aside0.mk A260
                    clear A260
                    obtain rfl := Option.some.inj H
                    try go_wp2_with (first | ((with_reducible refine gate_callee (f := 28) rfl ?_); refine goesL_ (some 49) rfl rfl Try.func28 (by kernel_rfl) rfl #[.int .i64 0] rfl (by (try simp only [List.map_toArray, List.map_cons, List.map_nil]); first | done | rfl | (simp only [List.length_drop, List.length_take]; rfl)) ?_; (with_reducible refine (num_Of.calls 0 t603 t604 _ A16.out).mono ?_); rintro e w27 ⟨rfl, hb⟩; refine ⟨_, rfl, ?_⟩; have n0_ := Aside0.mk (below_step (by repeat (first | (with_reducible first | exact HB.out | apply below_alloc | apply pw_below_drewN | apply below_drew1) | exact HB.out)) hb); clear HB; have HB := n0_; clear n0_; (try clear hb); (try clear hb2); (try clear hk); (try clear hi)) | ((with_reducible refine gate_callee (f := 37) rfl ?_); refine goesL_ (some 52) rfl rfl Try.func37 (by kernel_rfl) rfl #[.agg #[.int .i64 t603, .int .u64 t604], .int .i64 t601, .int .i64 a1] rfl (by (try simp only [List.map_toArray, List.map_cons, List.map_nil]); first | done | rfl | (simp only [List.length_drop, List.length_take]; rfl)) ?_; (with_reducible refine (num_Wide_PlusMul.calls t603 t604 t601 a1 t605 t606 true _ A17.out).mono ?_); rintro e w28 ⟨rfl, hb⟩; refine ⟨_, rfl, ?_⟩; have n0_ := Aside0.mk (below_step (by repeat (first | (with_reducible first | exact HB.out | apply below_alloc | apply pw_below_drewN | apply below_drew1) | exact HB.out)) hb); clear HB; have HB := n0_; clear n0_; (try clear hb); (try clear hb2); (try clear hk); (try clear hi)) | ((with_reducible refine gate_dst (N := 10) rfl ?_); refine box_event ?hg (N := 10) ?hd (cs := #[.int .i64 0, .int .u64 0]) (t := 48) ?hr ?_; (case hd => rfl); (case hg => rfl); (case hr => first | (go_simp; done) | (go_simp; rfl)); intro gb608 hg w29 hbox hb; have n0_ := Aside0.mk (below_step (by repeat (first | (with_reducible first | exact HB.out | apply below_alloc | apply pw_below_drewN | apply below_drew1) | exact HB.out)) hb); have n1_ := Aside0.mk (hbox); have n2_ := Aside0.mk ((by rw [hg]; exact (below_size (by repeat (first | (with_reducible first | exact HB.out | apply below_alloc | apply pw_below_drewN | apply below_drew1) | exact HB.out))) : w.heap.size ≤ gb608)); have n3_ := Aside0.mk ((by rw [hg]; exact (below_size (by repeat (first | (with_reducible first | exact HB.out | apply below_alloc | apply pw_below_drewN | apply below_drew1) | exact HB.out))) : w.heap.size ≤ gb608)); clear HB; have HB := n0_; have BK608 := n1_; have GW608 := n2_; have GE608 := n3_; clear n0_ n1_ n2_ n3_; clear hb hbox hg; have hcz30_0 : w29.cell? ⟨gb608, 0, none⟩ = some (.int .i64 0) := (blk_cell BK608.out 0).trans rfl; have hcz30_1 : w29.cell? ⟨gb608, 1, none⟩ = some (.int .u64 0) := (blk_cell BK608.out 1).trans rfl; have hfz30_0 := blk_frozen BK608.out 0; have hfz30_1 := blk_frozen BK608.out 1))
                    have n0_ : Aside0 (((w29.setCell ⟨gb608, 0, none⟩ (.int .i64 t605)).setCell ⟨gb608, 1, none⟩ (.int .u64 t606)).heap[gb608]? = some (.cells #[.int .i64 t605, .int .u64 t606] 48 (0, 0))) := ⟨by (with_reducible repeat (first | refine blk_drewN ?_ _ | refine blk_drew ?_ | refine blk_alloc ?_ _)); refine blk_put (cs := #[.int .i64 t605, .int .u64 0]) ?_ 1 _ rfl; (with_reducible repeat (first | refine blk_drewN ?_ _ | refine blk_drew ?_ | refine blk_alloc ?_ _)); refine blk_put (cs := #[.int .i64 0, .int .u64 0]) ?_ 0 _ rfl; (with_reducible repeat (first | refine blk_drewN ?_ _ | refine blk_drew ?_ | refine blk_alloc ?_ _)); exact BK608.out⟩
                    have n1_ : Aside0 (Below w.heap.size w ((w29.setCell ⟨gb608, 0, none⟩ (.int .i64 t605)).setCell ⟨gb608, 1, none⟩ (.int .u64 t606))) := ⟨by repeat (first | (with_reducible first | exact HB.out | apply below_alloc | apply pw_below_drewN | apply below_drew1 | refine below_set ?_ GE608.out) | exact HB.out)⟩
                    (try clear BK608)
                    (try clear HB)
                    generalize ((w29.setCell ⟨gb608, 0, none⟩ (.int .i64 t605)).setCell ⟨gb608, 1, none⟩ (.int .u64 t606)) = w31 at n0_ n1_ ⊢
                    have BK608 := n0_
                    have HB := n1_
                    clear n0_ n1_
                    have n0_ := Aside0.mk (blk_drew BK608.out)
                    have n1_ := Aside0.mk (below_drew1 HB.out)
                    clear BK608
                    clear HB
                    have BK608 := n0_
                    have HB := n1_
                    clear n0_ n1_
                    refine start_ (n := 10) (S := fun w' => w'.cell? ⟨gb608, 0, none⟩ = some (.int .i64 t605) ∧ w'.cell? ⟨gb608, 1, none⟩ = some (.int .u64 t606)) (ds := []) #[false, false, false, false, false, false, false, false, false, false] (by kernel_rfl) rfl rfl ⟨(blk_cell BK608.out 0).trans rfl, (blk_cell BK608.out 1).trans rfl⟩ (fun hHeld => ?_); refine with_tabW publicanlaw1_NumBack.tab12 publicanlaw1_NumBack.bits12 (fun HT_ HW_ => ?_)
                    generalize w31.drew = w32 at BK608 HB hHeld ⊢
                    refine pure_ (i := 1) (N := some 57) (v := ?_) (a' := ?_) #[false, true, false, false, false, false, false, false, false, false] rfl rfl (any_of HT_.out (by kernel_rfl)) (fun _ _ _ h => h) (Or.inl ⟨by rfl, ?_⟩) ?_ ?_
                    rotate_left
                    · intro w'
                      go_simp
                      with_reducible rfl
                    rotate_left
                    · simp only [Act.put, List.setIfInBounds_toArray, List.set_cons_zero, List.set_cons_succ, i64_w, i32_w]
                      rfl
                    refine take_ (i := 0) (N := some 56) (v := ?_) (a' := ?_) #[true, true, false, false, false, false, false, false, false, false] rfl rfl (take_ofW HT_.out HW_.out (by kernel_rfl)) (fun _ _ _ h => h) (Or.inl ⟨by rfl, ?_⟩) hHeld ?_ ?_
                    rotate_left
                    · rintro w' ⟨s0, s1⟩
                      go_simp
                      with_reducible rfl
                    rotate_left
                    · simp only [Act.put, List.setIfInBounds_toArray, List.set_cons_zero, List.set_cons_succ, i64_w, i32_w]
                      rfl
                    refine join_ (σ := Nat) 2 #[true, true, true, true, true, true, true, true, false, false] (fun s_ => [(58, .agg #[.int .i64 t609, .int .u64 t610]), (59, .tuple #[.agg #[.int .i64 t611, .int .u64 t612], .bool true]), (12, .pointer (some ⟨s_, 0, none⟩)), (55, .tuple #[.agg #[.int .i64 t611, .int .u64 t612], .bool true]), (60, .agg #[.int .i64 t611, .int .u64 t612]), (61, .bool true)]) (fun s_ w' => (w'.cell? ⟨gb608, 0, none⟩ = some (.int .i64 t605) ∧ w'.cell? ⟨gb608, 1, none⟩ = some (.int .u64 t606)) ∧ (w'.heap[gb608]? = some (.cells #[.int .i64 t605, .int .u64 t606] 48 (0, 0))) ∧ (w'.heap[s_]? = some (.cells #[.int .i64 0, .int .u64 0] 48 (0, 0))) ∧ (w.heap.size ≤ s_) ∧ (w.heap.size ≤ s_) ∧ (gb608 ≠ s_) ∧ (s_ ≠ gb608) ∧ (Below w.heap.size w w')) ?_ ?_
                    rotate_left
                    · intro hCont
                      refine two_ (i := 2) (j := 7) (Ni := some 58) (Nj := some 12) #[true, true, true, false, false, false, false, false, false, false] #[true, true, false, false, false, false, false, true, false, false] rfl rfl rfl rfl (two_of HT_.out (by kernel_rfl)) (by decide) (by decide) (fun K hK => ?_) (fun K hK => ?_)
                      · skip
                        refine goes_ Try.func28 (by kernel_rfl) rfl #[.int .i64 a1] (by rfl) rfl rfl (by (try simp only [List.map_toArray, List.map_cons, List.map_nil]); first | done | rfl | (simp only [List.length_drop, List.length_take]; rfl)) ?_
                        with_reducible refine (num_Of.calls a1 t609 t610 _ A18.out).mono ?_
                        rintro e w33 ⟨rfl, hb⟩
                        refine ⟨_, rfl, ?_⟩
                        have n0_ := Aside0.mk (blk_below (g := gb608) (o := .cells #[.int .i64 t605, .int .u64 t606] 48 (0, 0)) (by (with_reducible repeat (first | refine blk_drewN ?_ _ | refine blk_drew ?_ | refine blk_alloc ?_ _)); exact BK608.out) hb)
                        have n1_ := Aside0.mk (below_step (by repeat (first | (with_reducible first | exact HB.out | apply below_alloc | apply pw_below_drewN | apply below_drew1 | refine below_set ?_ GE608.out) | exact HB.out)) hb)
                        clear BK608
                        clear HB
                        have BK608 := n0_
                        have HB := n1_
                        clear n0_ n1_
                        (try clear hb)
                        (try clear hb2)
                        (try clear hk)
                        (try clear hi)
                        refine hK.out _ _ ⟨(blk_cell BK608.out 0).trans rfl, (blk_cell BK608.out 1).trans rfl⟩ (fun hHeld => ?_)
                        clear hK K
                        refine norm_ (a' := ?_) ?_ ?_
                        rotate_left
                        · show Act.put _ (some 58) _ = _
                          simp only [Act.put, List.setIfInBounds_toArray, List.set_cons_zero, List.set_cons_succ, i64_w, i32_w]
                          rfl
                        refine two_ (i := 3) (j := 7) (Ni := some 59) (Nj := some 12) #[true, true, true, true, false, false, false, false, false, false] #[true, true, true, false, false, false, false, true, false, false] rfl rfl rfl rfl (two_of HT_.out (by kernel_rfl)) (by decide) (by decide) (fun K hK => ?_) (fun K hK => ?_)
                        · skip
                          refine goes_ Try.func30 (by kernel_rfl) rfl #[.agg #[.int .i64 t605, .int .u64 t606], .agg #[.int .i64 t609, .int .u64 t610]] (by rfl) rfl rfl (by (try simp only [List.map_toArray, List.map_cons, List.map_nil]); first | done | rfl | (simp only [List.length_drop, List.length_take]; rfl)) ?_
                          with_reducible refine (num_Wide_Plus.calls t605 t606 t609 t610 t611 t612 true _ A19.out).mono ?_
                          rintro e w34 ⟨rfl, hb⟩
                          refine ⟨_, rfl, ?_⟩
                          have n0_ := Aside0.mk (blk_below (g := gb608) (o := .cells #[.int .i64 t605, .int .u64 t606] 48 (0, 0)) (by (with_reducible repeat (first | refine blk_drewN ?_ _ | refine blk_drew ?_ | refine blk_alloc ?_ _)); exact BK608.out) hb)
                          have n1_ := Aside0.mk (below_step (by repeat (first | (with_reducible first | exact HB.out | apply below_alloc | apply pw_below_drewN | apply below_drew1 | refine below_set ?_ GE608.out) | exact HB.out)) hb)
                          clear BK608
                          clear HB
                          have BK608 := n0_
                          have HB := n1_
                          clear n0_ n1_
                          (try clear hb)
                          (try clear hb2)
                          (try clear hk)
                          (try clear hi)
                          refine hK.out _ _ ⟨(blk_cell BK608.out 0).trans rfl, (blk_cell BK608.out 1).trans rfl⟩ (fun hHeld => ?_)
                          clear hK K
                          refine norm_ (a' := ?_) ?_ ?_
                          rotate_left
                          · show Act.put _ (some 59) _ = _
                            simp only [Act.put, List.setIfInBounds_toArray, List.set_cons_zero, List.set_cons_succ, i64_w, i32_w]
                            rfl
                          refine pure_ (i := 4) (N := some 55) (v := ?_) (a' := ?_) #[true, true, true, true, true, false, false, false, false, false] rfl rfl (any_of HT_.out (by kernel_rfl)) (fun _ _ _ h => h) (Or.inl ⟨by rfl, ?_⟩) ?_ ?_
                          rotate_left
                          · intro w'
                            go_simp
                            with_reducible rfl
                          rotate_left
                          · simp only [Act.put, List.setIfInBounds_toArray, List.set_cons_zero, List.set_cons_succ, i64_w, i32_w]
                            rfl
                          refine pure_ (i := 5) (N := some 60) (v := ?_) (a' := ?_) #[true, true, true, true, true, true, false, false, false, false] rfl rfl (any_of HT_.out (by kernel_rfl)) (fun _ _ _ h => h) (Or.inl ⟨by rfl, ?_⟩) ?_ ?_
                          rotate_left
                          · intro w'
                            go_simp
                            with_reducible rfl
                          rotate_left
                          · simp only [Act.put, List.setIfInBounds_toArray, List.set_cons_zero, List.set_cons_succ, i64_w, i32_w]
                            rfl
                          refine pure_ (i := 6) (N := some 61) (v := ?_) (a' := ?_) #[true, true, true, true, true, true, true, false, false, false] rfl rfl (any_of HT_.out (by kernel_rfl)) (fun _ _ _ h => h) (Or.inl ⟨by rfl, ?_⟩) ?_ ?_
                          rotate_left
                          · intro w'
                            go_simp
                            with_reducible rfl
                          rotate_left
                          · simp only [Act.put, List.setIfInBounds_toArray, List.set_cons_zero, List.set_cons_succ, i64_w, i32_w]
                            rfl
                          refine one_ (i := 7) (N := some 12) #[true, true, true, true, true, true, true, true, false, false] rfl rfl (one_of HT_.out (by kernel_rfl)) (by decide) (fun K hK => ?_)
                          refine box_step ?hg (N := 12) ?hd (cs := #[.int .i64 0, .int .u64 0]) (t := 48) ?hr ?_; (case hd => rfl); (case hg => rfl); (case hr => first | (go_simp; done) | (go_simp; rfl))
                          intro gb614 hg w35 hbox hb
                          have n0_ := Aside0.mk (blk_below (g := gb608) (o := .cells #[.int .i64 t605, .int .u64 t606] 48 (0, 0)) (by (with_reducible repeat (first | refine blk_drewN ?_ _ | refine blk_drew ?_ | refine blk_alloc ?_ _)); exact BK608.out) hb)
                          have n1_ := Aside0.mk (below_step (by repeat (first | (with_reducible first | exact HB.out | apply below_alloc | apply pw_below_drewN | apply below_drew1 | refine below_set ?_ GE608.out) | exact HB.out)) hb)
                          have n2_ := Aside0.mk (hbox)
                          have n3_ := Aside0.mk ((by rw [hg]; exact (below_size (by repeat (first | (with_reducible first | exact HB.out | apply below_alloc | apply pw_below_drewN | apply below_drew1 | refine below_set ?_ GE608.out) | exact HB.out))) : w.heap.size ≤ gb614))
                          have n4_ := Aside0.mk ((by rw [hg]; exact (below_size (by repeat (first | (with_reducible first | exact HB.out | apply below_alloc | apply pw_below_drewN | apply below_drew1 | refine below_set ?_ GE608.out) | exact HB.out))) : w.heap.size ≤ gb614))
                          have n5_ := Aside0.mk ((by rw [hg]; exact Nat.ne_of_lt (blk_lt (g := gb608) (o := .cells #[.int .i64 t605, .int .u64 t606] 48 (0, 0)) (by (with_reducible repeat (first | refine blk_drewN ?_ _ | refine blk_drew ?_ | refine blk_alloc ?_ _)); exact BK608.out)) : gb608 ≠ gb614))
                          have n6_ := Aside0.mk ((by rw [hg]; exact Nat.ne_of_gt (blk_lt (g := gb608) (o := .cells #[.int .i64 t605, .int .u64 t606] 48 (0, 0)) (by (with_reducible repeat (first | refine blk_drewN ?_ _ | refine blk_drew ?_ | refine blk_alloc ?_ _)); exact BK608.out)) : gb614 ≠ gb608))
                          clear BK608
                          clear HB
                          have BK608 := n0_
                          have HB := n1_
                          have BK614 := n2_
                          have GW614 := n3_
                          have GE614 := n4_
                          have NB608_614 := n5_
                          have NB614_608 := n6_
                          clear n0_ n1_ n2_ n3_ n4_ n5_ n6_
                          clear hb hbox hg
                          refine hK.out _ _ ⟨(blk_cell BK608.out 0).trans rfl, (blk_cell BK608.out 1).trans rfl⟩ (fun hHeld => ?_)
                          clear hK K
                          refine norm_ (a' := ?_) ?_ ?_
                          rotate_left
                          · show Act.put _ (some 12) _ = _
                            simp only [Act.put, List.setIfInBounds_toArray, List.set_cons_zero, List.set_cons_succ, i64_w, i32_w]
                            rfl
                          exact norm_ (by simp only [putAll, Act.put, List.setIfInBounds_toArray, List.set_cons_zero, List.set_cons_succ]) (hCont (gb614) _ ⟨hHeld, (by (with_reducible repeat (first | refine blk_drewN ?_ _ | refine blk_drew ?_ | refine blk_alloc ?_ _)); exact BK608.out), (by (with_reducible repeat (first | refine blk_drewN ?_ _ | refine blk_drew ?_ | refine blk_alloc ?_ _)); exact BK614.out), GW614.out, GE614.out, NB608_614.out, NB614_608.out, (by repeat (first | (with_reducible first | exact HB.out | apply below_alloc | apply pw_below_drewN | apply below_drew1 | refine below_set ?_ GE608.out | refine below_set ?_ GE614.out) | exact HB.out))⟩)
                        · skip
                          refine box_step ?hg (N := 12) ?hd (cs := #[.int .i64 0, .int .u64 0]) (t := 48) ?hr ?_; (case hd => rfl); (case hg => rfl); (case hr => first | (go_simp; done) | (go_simp; rfl))
                          intro gb614 hg w34 hbox hb
                          have n0_ := Aside0.mk (blk_below (g := gb608) (o := .cells #[.int .i64 t605, .int .u64 t606] 48 (0, 0)) (by (with_reducible repeat (first | refine blk_drewN ?_ _ | refine blk_drew ?_ | refine blk_alloc ?_ _)); exact BK608.out) hb)
                          have n1_ := Aside0.mk (below_step (by repeat (first | (with_reducible first | exact HB.out | apply below_alloc | apply pw_below_drewN | apply below_drew1 | refine below_set ?_ GE608.out) | exact HB.out)) hb)
                          have n2_ := Aside0.mk (hbox)
                          have n3_ := Aside0.mk ((by rw [hg]; exact (below_size (by repeat (first | (with_reducible first | exact HB.out | apply below_alloc | apply pw_below_drewN | apply below_drew1 | refine below_set ?_ GE608.out) | exact HB.out))) : w.heap.size ≤ gb614))
                          have n4_ := Aside0.mk ((by rw [hg]; exact (below_size (by repeat (first | (with_reducible first | exact HB.out | apply below_alloc | apply pw_below_drewN | apply below_drew1 | refine below_set ?_ GE608.out) | exact HB.out))) : w.heap.size ≤ gb614))
                          have n5_ := Aside0.mk ((by rw [hg]; exact Nat.ne_of_lt (blk_lt (g := gb608) (o := .cells #[.int .i64 t605, .int .u64 t606] 48 (0, 0)) (by (with_reducible repeat (first | refine blk_drewN ?_ _ | refine blk_drew ?_ | refine blk_alloc ?_ _)); exact BK608.out)) : gb608 ≠ gb614))
                          have n6_ := Aside0.mk ((by rw [hg]; exact Nat.ne_of_gt (blk_lt (g := gb608) (o := .cells #[.int .i64 t605, .int .u64 t606] 48 (0, 0)) (by (with_reducible repeat (first | refine blk_drewN ?_ _ | refine blk_drew ?_ | refine blk_alloc ?_ _)); exact BK608.out)) : gb614 ≠ gb608))
                          clear BK608
                          clear HB
                          have BK608 := n0_
                          have HB := n1_
                          have BK614 := n2_
                          have GW614 := n3_
                          have GE614 := n4_
                          have NB608_614 := n5_
                          have NB614_608 := n6_
                          clear n0_ n1_ n2_ n3_ n4_ n5_ n6_
                          clear hb hbox hg
                          refine hK.out _ _ ⟨(blk_cell BK608.out 0).trans rfl, (blk_cell BK608.out 1).trans rfl⟩ (fun hHeld => ?_)
                          clear hK K
                          refine norm_ (a' := ?_) ?_ ?_
                          rotate_left
                          · show Act.put _ (some 12) _ = _
                            simp only [Act.put, List.setIfInBounds_toArray, List.set_cons_zero, List.set_cons_succ, i64_w, i32_w]
                            rfl
                          refine one_ (i := 3) (N := some 59) #[true, true, true, true, false, false, false, true, false, false] rfl rfl (one_of HT_.out (by kernel_rfl)) (by decide) (fun K hK => ?_)
                          refine goes_ Try.func30 (by kernel_rfl) rfl #[.agg #[.int .i64 t605, .int .u64 t606], .agg #[.int .i64 t609, .int .u64 t610]] (by rfl) rfl rfl (by (try simp only [List.map_toArray, List.map_cons, List.map_nil]); first | done | rfl | (simp only [List.length_drop, List.length_take]; rfl)) ?_
                          with_reducible refine (num_Wide_Plus.calls t605 t606 t609 t610 t611 t612 true _ A19.out).mono ?_
                          rintro e w35 ⟨rfl, hb⟩
                          refine ⟨_, rfl, ?_⟩
                          have n0_ := Aside0.mk (blk_below (g := gb608) (o := .cells #[.int .i64 t605, .int .u64 t606] 48 (0, 0)) (by (with_reducible repeat (first | refine blk_drewN ?_ _ | refine blk_drew ?_ | refine blk_alloc ?_ _)); exact BK608.out) hb)
                          have n1_ := Aside0.mk (blk_below (g := gb614) (o := .cells #[.int .i64 0, .int .u64 0] 48 (0, 0)) (by (with_reducible repeat (first | refine blk_drewN ?_ _ | refine blk_drew ?_ | refine blk_alloc ?_ _)); exact BK614.out) hb)
                          have n2_ := Aside0.mk (below_step (by repeat (first | (with_reducible first | exact HB.out | apply below_alloc | apply pw_below_drewN | apply below_drew1 | refine below_set ?_ GE608.out | refine below_set ?_ GE614.out) | exact HB.out)) hb)
                          clear BK608
                          clear BK614
                          clear HB
                          have BK608 := n0_
                          have BK614 := n1_
                          have HB := n2_
                          clear n0_ n1_ n2_
                          (try clear hb)
                          (try clear hb2)
                          (try clear hk)
                          (try clear hi)
                          refine hK.out _ _ ⟨(blk_cell BK608.out 0).trans rfl, (blk_cell BK608.out 1).trans rfl⟩ (fun hHeld => ?_)
                          clear hK K
                          refine norm_ (a' := ?_) ?_ ?_
                          rotate_left
                          · show Act.put _ (some 59) _ = _
                            simp only [Act.put, List.setIfInBounds_toArray, List.set_cons_zero, List.set_cons_succ, i64_w, i32_w]
                            rfl
                          refine pure_ (i := 4) (N := some 55) (v := ?_) (a' := ?_) #[true, true, true, true, true, false, false, true, false, false] rfl rfl (any_of HT_.out (by kernel_rfl)) (fun _ _ _ h => h) (Or.inl ⟨by rfl, ?_⟩) ?_ ?_
                          rotate_left
                          · intro w'
                            go_simp
                            with_reducible rfl
                          rotate_left
                          · simp only [Act.put, List.setIfInBounds_toArray, List.set_cons_zero, List.set_cons_succ, i64_w, i32_w]
                            rfl
                          refine pure_ (i := 5) (N := some 60) (v := ?_) (a' := ?_) #[true, true, true, true, true, true, false, true, false, false] rfl rfl (any_of HT_.out (by kernel_rfl)) (fun _ _ _ h => h) (Or.inl ⟨by rfl, ?_⟩) ?_ ?_
                          rotate_left
                          · intro w'
                            go_simp
                            with_reducible rfl
                          rotate_left
                          · simp only [Act.put, List.setIfInBounds_toArray, List.set_cons_zero, List.set_cons_succ, i64_w, i32_w]
                            rfl
                          refine pure_ (i := 6) (N := some 61) (v := ?_) (a' := ?_) #[true, true, true, true, true, true, true, true, false, false] rfl rfl (any_of HT_.out (by kernel_rfl)) (fun _ _ _ h => h) (Or.inl ⟨by rfl, ?_⟩) ?_ ?_
                          rotate_left
                          · intro w'
                            go_simp
                            with_reducible rfl
                          rotate_left
                          · simp only [Act.put, List.setIfInBounds_toArray, List.set_cons_zero, List.set_cons_succ, i64_w, i32_w]
                            rfl
                          exact norm_ (by simp only [putAll, Act.put, List.setIfInBounds_toArray, List.set_cons_zero, List.set_cons_succ]) (hCont (gb614) _ ⟨hHeld, (by (with_reducible repeat (first | refine blk_drewN ?_ _ | refine blk_drew ?_ | refine blk_alloc ?_ _)); exact BK608.out), (by (with_reducible repeat (first | refine blk_drewN ?_ _ | refine blk_drew ?_ | refine blk_alloc ?_ _)); exact BK614.out), GW614.out, GE614.out, NB608_614.out, NB614_608.out, (by repeat (first | (with_reducible first | exact HB.out | apply below_alloc | apply pw_below_drewN | apply below_drew1 | refine below_set ?_ GE608.out | refine below_set ?_ GE614.out) | exact HB.out))⟩)
                      · skip
                        refine box_step ?hg (N := 12) ?hd (cs := #[.int .i64 0, .int .u64 0]) (t := 48) ?hr ?_; (case hd => rfl); (case hg => rfl); (case hr => first | (go_simp; done) | (go_simp; rfl))
                        intro gb614 hg w33 hbox hb
                        have n0_ := Aside0.mk (blk_below (g := gb608) (o := .cells #[.int .i64 t605, .int .u64 t606] 48 (0, 0)) (by (with_reducible repeat (first | refine blk_drewN ?_ _ | refine blk_drew ?_ | refine blk_alloc ?_ _)); exact BK608.out) hb)
                        have n1_ := Aside0.mk (below_step (by repeat (first | (with_reducible first | exact HB.out | apply below_alloc | apply pw_below_drewN | apply below_drew1 | refine below_set ?_ GE608.out) | exact HB.out)) hb)
                        have n2_ := Aside0.mk (hbox)
                        have n3_ := Aside0.mk ((by rw [hg]; exact (below_size (by repeat (first | (with_reducible first | exact HB.out | apply below_alloc | apply pw_below_drewN | apply below_drew1 | refine below_set ?_ GE608.out) | exact HB.out))) : w.heap.size ≤ gb614))
                        have n4_ := Aside0.mk ((by rw [hg]; exact (below_size (by repeat (first | (with_reducible first | exact HB.out | apply below_alloc | apply pw_below_drewN | apply below_drew1 | refine below_set ?_ GE608.out) | exact HB.out))) : w.heap.size ≤ gb614))
                        have n5_ := Aside0.mk ((by rw [hg]; exact Nat.ne_of_lt (blk_lt (g := gb608) (o := .cells #[.int .i64 t605, .int .u64 t606] 48 (0, 0)) (by (with_reducible repeat (first | refine blk_drewN ?_ _ | refine blk_drew ?_ | refine blk_alloc ?_ _)); exact BK608.out)) : gb608 ≠ gb614))
                        have n6_ := Aside0.mk ((by rw [hg]; exact Nat.ne_of_gt (blk_lt (g := gb608) (o := .cells #[.int .i64 t605, .int .u64 t606] 48 (0, 0)) (by (with_reducible repeat (first | refine blk_drewN ?_ _ | refine blk_drew ?_ | refine blk_alloc ?_ _)); exact BK608.out)) : gb614 ≠ gb608))
                        clear BK608
                        clear HB
                        have BK608 := n0_
                        have HB := n1_
                        have BK614 := n2_
                        have GW614 := n3_
                        have GE614 := n4_
                        have NB608_614 := n5_
                        have NB614_608 := n6_
                        clear n0_ n1_ n2_ n3_ n4_ n5_ n6_
                        clear hb hbox hg
                        refine hK.out _ _ ⟨(blk_cell BK608.out 0).trans rfl, (blk_cell BK608.out 1).trans rfl⟩ (fun hHeld => ?_)
                        clear hK K
                        refine norm_ (a' := ?_) ?_ ?_
                        rotate_left
                        · show Act.put _ (some 12) _ = _
                          simp only [Act.put, List.setIfInBounds_toArray, List.set_cons_zero, List.set_cons_succ, i64_w, i32_w]
                          rfl
                        refine one_ (i := 2) (N := some 58) #[true, true, true, false, false, false, false, true, false, false] rfl rfl (one_of HT_.out (by kernel_rfl)) (by decide) (fun K hK => ?_)
                        refine goes_ Try.func28 (by kernel_rfl) rfl #[.int .i64 a1] (by rfl) rfl rfl (by (try simp only [List.map_toArray, List.map_cons, List.map_nil]); first | done | rfl | (simp only [List.length_drop, List.length_take]; rfl)) ?_
                        with_reducible refine (num_Of.calls a1 t609 t610 _ A18.out).mono ?_
                        rintro e w34 ⟨rfl, hb⟩
                        refine ⟨_, rfl, ?_⟩
                        have n0_ := Aside0.mk (blk_below (g := gb608) (o := .cells #[.int .i64 t605, .int .u64 t606] 48 (0, 0)) (by (with_reducible repeat (first | refine blk_drewN ?_ _ | refine blk_drew ?_ | refine blk_alloc ?_ _)); exact BK608.out) hb)
                        have n1_ := Aside0.mk (blk_below (g := gb614) (o := .cells #[.int .i64 0, .int .u64 0] 48 (0, 0)) (by (with_reducible repeat (first | refine blk_drewN ?_ _ | refine blk_drew ?_ | refine blk_alloc ?_ _)); exact BK614.out) hb)
                        have n2_ := Aside0.mk (below_step (by repeat (first | (with_reducible first | exact HB.out | apply below_alloc | apply pw_below_drewN | apply below_drew1 | refine below_set ?_ GE608.out | refine below_set ?_ GE614.out) | exact HB.out)) hb)
                        clear BK608
                        clear BK614
                        clear HB
                        have BK608 := n0_
                        have BK614 := n1_
                        have HB := n2_
                        clear n0_ n1_ n2_
                        (try clear hb)
                        (try clear hb2)
                        (try clear hk)
                        (try clear hi)
                        refine hK.out _ _ ⟨(blk_cell BK608.out 0).trans rfl, (blk_cell BK608.out 1).trans rfl⟩ (fun hHeld => ?_)
                        clear hK K
                        refine norm_ (a' := ?_) ?_ ?_
                        rotate_left
                        · show Act.put _ (some 58) _ = _
                          simp only [Act.put, List.setIfInBounds_toArray, List.set_cons_zero, List.set_cons_succ, i64_w, i32_w]
                          rfl
                        refine one_ (i := 3) (N := some 59) #[true, true, true, true, false, false, false, true, false, false] rfl rfl (one_of HT_.out (by kernel_rfl)) (by decide) (fun K hK => ?_)
                        refine goes_ Try.func30 (by kernel_rfl) rfl #[.agg #[.int .i64 t605, .int .u64 t606], .agg #[.int .i64 t609, .int .u64 t610]] (by rfl) rfl rfl (by (try simp only [List.map_toArray, List.map_cons, List.map_nil]); first | done | rfl | (simp only [List.length_drop, List.length_take]; rfl)) ?_
                        with_reducible refine (num_Wide_Plus.calls t605 t606 t609 t610 t611 t612 true _ A19.out).mono ?_
                        rintro e w35 ⟨rfl, hb⟩
                        refine ⟨_, rfl, ?_⟩
                        have n0_ := Aside0.mk (blk_below (g := gb608) (o := .cells #[.int .i64 t605, .int .u64 t606] 48 (0, 0)) (by (with_reducible repeat (first | refine blk_drewN ?_ _ | refine blk_drew ?_ | refine blk_alloc ?_ _)); exact BK608.out) hb)
                        have n1_ := Aside0.mk (blk_below (g := gb614) (o := .cells #[.int .i64 0, .int .u64 0] 48 (0, 0)) (by (with_reducible repeat (first | refine blk_drewN ?_ _ | refine blk_drew ?_ | refine blk_alloc ?_ _)); exact BK614.out) hb)
                        have n2_ := Aside0.mk (below_step (by repeat (first | (with_reducible first | exact HB.out | apply below_alloc | apply pw_below_drewN | apply below_drew1 | refine below_set ?_ GE608.out | refine below_set ?_ GE614.out) | exact HB.out)) hb)
                        clear BK608
                        clear BK614
                        clear HB
                        have BK608 := n0_
                        have BK614 := n1_
                        have HB := n2_
                        clear n0_ n1_ n2_
                        (try clear hb)
                        (try clear hb2)
                        (try clear hk)
                        (try clear hi)
                        refine hK.out _ _ ⟨(blk_cell BK608.out 0).trans rfl, (blk_cell BK608.out 1).trans rfl⟩ (fun hHeld => ?_)
                        clear hK K
                        refine norm_ (a' := ?_) ?_ ?_
                        rotate_left
                        · show Act.put _ (some 59) _ = _
                          simp only [Act.put, List.setIfInBounds_toArray, List.set_cons_zero, List.set_cons_succ, i64_w, i32_w]
                          rfl
                        refine pure_ (i := 4) (N := some 55) (v := ?_) (a' := ?_) #[true, true, true, true, true, false, false, true, false, false] rfl rfl (any_of HT_.out (by kernel_rfl)) (fun _ _ _ h => h) (Or.inl ⟨by rfl, ?_⟩) ?_ ?_
                        rotate_left
                        · intro w'
                          go_simp
                          with_reducible rfl
                        rotate_left
                        · simp only [Act.put, List.setIfInBounds_toArray, List.set_cons_zero, List.set_cons_succ, i64_w, i32_w]
                          rfl
                        refine pure_ (i := 5) (N := some 60) (v := ?_) (a' := ?_) #[true, true, true, true, true, true, false, true, false, false] rfl rfl (any_of HT_.out (by kernel_rfl)) (fun _ _ _ h => h) (Or.inl ⟨by rfl, ?_⟩) ?_ ?_
                        rotate_left
                        · intro w'
                          go_simp
                          with_reducible rfl
                        rotate_left
                        · simp only [Act.put, List.setIfInBounds_toArray, List.set_cons_zero, List.set_cons_succ, i64_w, i32_w]
                          rfl
                        refine pure_ (i := 6) (N := some 61) (v := ?_) (a' := ?_) #[true, true, true, true, true, true, true, true, false, false] rfl rfl (any_of HT_.out (by kernel_rfl)) (fun _ _ _ h => h) (Or.inl ⟨by rfl, ?_⟩) ?_ ?_
                        rotate_left
                        · intro w'
                          go_simp
                          with_reducible rfl
                        rotate_left
                        · simp only [Act.put, List.setIfInBounds_toArray, List.set_cons_zero, List.set_cons_succ, i64_w, i32_w]
                          rfl
                        exact norm_ (by simp only [putAll, Act.put, List.setIfInBounds_toArray, List.set_cons_zero, List.set_cons_succ]) (hCont (gb614) _ ⟨hHeld, (by (with_reducible repeat (first | refine blk_drewN ?_ _ | refine blk_drew ?_ | refine blk_alloc ?_ _)); exact BK608.out), (by (with_reducible repeat (first | refine blk_drewN ?_ _ | refine blk_drew ?_ | refine blk_alloc ?_ _)); exact BK614.out), GW614.out, GE614.out, NB608_614.out, NB614_608.out, (by repeat (first | (with_reducible first | exact HB.out | apply below_alloc | apply pw_below_drewN | apply below_drew1 | refine below_set ?_ GE608.out | refine below_set ?_ GE614.out) | exact HB.out))⟩)
                    rintro gb614 w36 ⟨hS_, h0_, h1_, h2_, h3_, h4_, h5_, h6_⟩
                    have n0_ : Aside0 (w36.heap[gb608]? = some (.cells #[.int .i64 t605, .int .u64 t606] 48 (0, 0))) := ⟨h0_⟩
                    have n1_ : Aside0 (w36.heap[gb614]? = some (.cells #[.int .i64 0, .int .u64 0] 48 (0, 0))) := ⟨h1_⟩
                    have n2_ : Aside0 (w.heap.size ≤ gb614) := ⟨h2_⟩
                    have n3_ : Aside0 (w.heap.size ≤ gb614) := ⟨h3_⟩
                    have n4_ : Aside0 (gb608 ≠ gb614) := ⟨h4_⟩
                    have n5_ : Aside0 (gb614 ≠ gb608) := ⟨h5_⟩
                    have n6_ : Aside0 (Below w.heap.size w w36) := ⟨h6_⟩
                    clear BK608
                    clear HB
                    clear h0_ h1_ h2_ h3_ h4_ h5_ h6_
                    have BK608 := n0_
                    have BK614 := n1_
                    have GW614 := n2_
                    have GE614 := n3_
                    have NB608_614 := n4_
                    have NB614_608 := n5_
                    have HB := n6_
                    clear n0_ n1_ n2_ n3_ n4_ n5_ n6_
                    have hHeld : w36.cell? ⟨gb608, 0, none⟩ = some (.int .i64 t605) ∧ w36.cell? ⟨gb608, 1, none⟩ = some (.int .u64 t606) := hS_
                    refine norm_ (a' := ?_) ?_ ?_
                    rotate_left
                    · simp only [putAll, Act.put, List.setIfInBounds_toArray, List.set_cons_zero, List.set_cons_succ]
                      rfl
                    refine one_ (i := 8) (N := none) #[true, true, true, true, true, true, true, true, true, false] rfl rfl (one_of HT_.out (by kernel_rfl)) (by decide) (fun K hK => ?_)
                    have hs37 : w36.cell? ⟨gb614, 0, none⟩ = some (.int .i64 0) := (blk_cell BK614.out 0).trans rfl
                    have hfs37 := blk_frozen BK614.out 0
                    have hns37_0 := NB608_614.out
                    have hms37_0 := NB614_608.out
                    have hs38 : w36.cell? ⟨gb614, 1, none⟩ = some (.int .u64 0) := (blk_cell BK614.out 1).trans rfl
                    have hfs38 := blk_frozen BK614.out 1
                    have hns38_0 := NB608_614.out
                    have hms38_0 := NB614_608.out
                    refine skip_ (w1 := ?_) (by rfl) rfl ?_ ?_
                    rotate_left
                    · go_simp
                      rfl
                    refine hK.out _ _ ⟨((cell_far (p := ⟨gb614, _, none⟩) NB608_614.out _).trans (((cell_far (p := ⟨gb614, _, none⟩) NB608_614.out _).trans (hHeld.1)))), ((cell_far (p := ⟨gb614, _, none⟩) NB608_614.out _).trans (((cell_far (p := ⟨gb614, _, none⟩) NB608_614.out _).trans (hHeld.2))))⟩ (fun hHeld => ?_)
                    clear hK K
                    refine pure_ (i := 9) (N := some 13) (v := ?_) (a' := ?_) #[true, true, true, true, true, true, true, true, true, true] rfl rfl (any_of HT_.out (by kernel_rfl)) (fun _ _ _ h => h) (Or.inl ⟨by rfl, ?_⟩) ?_ ?_
                    rotate_left
                    · intro w'
                      go_simp
                      with_reducible rfl
                    rotate_left
                    · simp only [Act.put, List.setIfInBounds_toArray, List.set_cons_zero, List.set_cons_succ, i64_w, i32_w]
                      rfl
                    refine done_ (done_of HT_.out (by kernel_rfl)) ?_
                    try go_wp2
                    have n0_ : Aside0 (((w36.setCell ⟨gb614, 0, none⟩ (.int .i64 t611)).setCell ⟨gb614, 1, none⟩ (.int .u64 t612)).heap[gb608]? = some (.cells #[.int .i64 t605, .int .u64 t606] 48 (0, 0))) := ⟨by (with_reducible repeat (first | refine blk_drewN ?_ _ | refine blk_drew ?_ | refine blk_alloc ?_ _)); refine blk_far ?_ NB608_614.out _; (with_reducible repeat (first | refine blk_drewN ?_ _ | refine blk_drew ?_ | refine blk_alloc ?_ _)); refine blk_far ?_ NB608_614.out _; (with_reducible repeat (first | refine blk_drewN ?_ _ | refine blk_drew ?_ | refine blk_alloc ?_ _)); exact BK608.out⟩
                    have n1_ : Aside0 (((w36.setCell ⟨gb614, 0, none⟩ (.int .i64 t611)).setCell ⟨gb614, 1, none⟩ (.int .u64 t612)).heap[gb614]? = some (.cells #[.int .i64 t611, .int .u64 t612] 48 (0, 0))) := ⟨by (with_reducible repeat (first | refine blk_drewN ?_ _ | refine blk_drew ?_ | refine blk_alloc ?_ _)); refine blk_put (cs := #[.int .i64 t611, .int .u64 0]) ?_ 1 _ rfl; (with_reducible repeat (first | refine blk_drewN ?_ _ | refine blk_drew ?_ | refine blk_alloc ?_ _)); refine blk_put (cs := #[.int .i64 0, .int .u64 0]) ?_ 0 _ rfl; (with_reducible repeat (first | refine blk_drewN ?_ _ | refine blk_drew ?_ | refine blk_alloc ?_ _)); exact BK614.out⟩
                    have n2_ : Aside0 (Below w.heap.size w ((w36.setCell ⟨gb614, 0, none⟩ (.int .i64 t611)).setCell ⟨gb614, 1, none⟩ (.int .u64 t612))) := ⟨by repeat (first | (with_reducible first | exact HB.out | apply below_alloc | apply pw_below_drewN | apply below_drew1 | refine below_set ?_ GE608.out | refine below_set ?_ GE614.out) | exact HB.out)⟩
                    (try clear BK608)
                    (try clear BK614)
                    (try clear HB)
                    generalize ((w36.setCell ⟨gb614, 0, none⟩ (.int .i64 t611)).setCell ⟨gb614, 1, none⟩ (.int .u64 t612)) = w39 at n0_ n1_ n2_ ⊢
                    have BK608 := n0_
                    have BK614 := n1_
                    have HB := n2_
                    clear n0_ n1_ n2_
                    have n0_ := Aside0.mk (blk_drew BK608.out)
                    have n1_ := Aside0.mk (blk_drew BK614.out)
                    have n2_ := Aside0.mk (below_drew1 HB.out)
                    clear BK608
                    clear BK614
                    clear HB
                    have BK608 := n0_
                    have BK614 := n1_
                    have HB := n2_
                    clear n0_ n1_ n2_
                    refine start_ (n := 19) (S := fun w' => w'.cell? ⟨gb608, 0, none⟩ = some (.int .i64 t605) ∧ w'.cell? ⟨gb608, 1, none⟩ = some (.int .u64 t606) ∧ w'.cell? ⟨gb614, 0, none⟩ = some (.int .i64 t611) ∧ w'.cell? ⟨gb614, 1, none⟩ = some (.int .u64 t612)) (ds := []) #[false, false, false, false, false, false, false, false, false, false, false, false, false, false, false, false, false, false, false] (by kernel_rfl) rfl rfl ⟨(blk_cell BK608.out 0).trans rfl, (blk_cell BK608.out 1).trans rfl, (blk_cell BK614.out 0).trans rfl, (blk_cell BK614.out 1).trans rfl⟩ (fun hHeld => ?_); refine with_tabW publicanlaw1_NumBack.tab13 publicanlaw1_NumBack.bits13 (fun HT_ HW_ => ?_)
                    generalize w39.drew = w40 at BK608 BK614 HB hHeld ⊢
                    refine pure_ (i := 0) (N := some 62) (v := ?_) (a' := ?_) #[true, false, false, false, false, false, false, false, false, false, false, false, false, false, false, false, false, false, false] rfl rfl (any_of HT_.out (by kernel_rfl)) (fun _ _ _ h => h) (Or.inl ⟨by rfl, ?_⟩) ?_ ?_
                    rotate_left
                    · intro w'
                      go_simp
                      with_reducible rfl
                    rotate_left
                    · simp only [Act.put, List.setIfInBounds_toArray, List.set_cons_zero, List.set_cons_succ, i64_w, i32_w]
                      rfl
                    refine pure_ (i := 1) (N := some 63) (v := ?_) (a' := ?_) #[true, true, false, false, false, false, false, false, false, false, false, false, false, false, false, false, false, false, false] rfl rfl (any_of HT_.out (by kernel_rfl)) (fun _ _ _ h => h) (Or.inl ⟨by rfl, ?_⟩) ?_ ?_
                    rotate_left
                    · intro w'
                      go_simp
                      with_reducible rfl
                    rotate_left
                    · simp only [Act.put, List.setIfInBounds_toArray, List.set_cons_zero, List.set_cons_succ, i64_w, i32_w]
                      rfl
                    refine pure_ (i := 2) (N := some 64) (v := ?_) (a' := ?_) #[true, true, true, false, false, false, false, false, false, false, false, false, false, false, false, false, false, false, false] rfl rfl (any_of HT_.out (by kernel_rfl)) (fun _ _ _ h => h) (Or.inl ⟨by rfl, ?_⟩) ?_ ?_
                    rotate_left
                    · intro w'
                      go_simp
                      with_reducible rfl
                    rotate_left
                    · simp only [Act.put, List.setIfInBounds_toArray, List.set_cons_zero, List.set_cons_succ, i64_w, i32_w]
                      rfl
                    refine pure_ (i := 3) (N := some 65) (v := ?_) (a' := ?_) #[true, true, true, true, false, false, false, false, false, false, false, false, false, false, false, false, false, false, false] rfl rfl (any_of HT_.out (by kernel_rfl)) (fun _ _ _ h => h) (Or.inl ⟨by rfl, ?_⟩) ?_ ?_
                    rotate_left
                    · intro w'
                      go_simp
                      with_reducible rfl
                    rotate_left
                    · simp only [Act.put, List.setIfInBounds_toArray, List.set_cons_zero, List.set_cons_succ, i64_w, i32_w]
                      rfl
                    refine pure_ (i := 4) (N := some 66) (v := ?_) (a' := ?_) #[true, true, true, true, true, false, false, false, false, false, false, false, false, false, false, false, false, false, false] rfl rfl (any_of HT_.out (by kernel_rfl)) (fun _ _ _ h => h) (Or.inl ⟨by rfl, ?_⟩) ?_ ?_
                    rotate_left
                    · intro w'
                      go_simp
                      with_reducible rfl
                    rotate_left
                    · simp only [Act.put, List.setIfInBounds_toArray, List.set_cons_zero, List.set_cons_succ, i64_w, i32_w]
                      rfl
                    refine pure_ (i := 6) (N := some 68) (v := ?_) (a' := ?_) #[true, true, true, true, true, false, true, false, false, false, false, false, false, false, false, false, false, false, false] rfl rfl (any_of HT_.out (by kernel_rfl)) (fun _ _ _ h => h) (Or.inl ⟨by rfl, ?_⟩) ?_ ?_
                    rotate_left
                    · intro w'
                      go_simp
                      with_reducible rfl
                    rotate_left
                    · simp only [Act.put, List.setIfInBounds_toArray, List.set_cons_zero, List.set_cons_succ, i64_w, i32_w]
                      rfl
                    refine take_ (i := 5) (N := some 67) (v := ?_) (a' := ?_) #[true, true, true, true, true, true, true, false, false, false, false, false, false, false, false, false, false, false, false] rfl rfl (take_ofW HT_.out HW_.out (by kernel_rfl)) (fun _ _ _ h => h) (Or.inl ⟨by rfl, ?_⟩) hHeld ?_ ?_
                    rotate_left
                    · rintro w' ⟨s0, s1, s2, s3⟩
                      go_simp
                      with_reducible rfl
                    rotate_left
                    · simp only [Act.put, List.setIfInBounds_toArray, List.set_cons_zero, List.set_cons_succ, i64_w, i32_w]
                      rfl
                    refine one_ (i := 7) (N := some 69) #[true, true, true, true, true, true, true, true, false, false, false, false, false, false, false, false, false, false, false] rfl rfl (one_of HT_.out (by kernel_rfl)) (by decide) (fun K hK => ?_)
                    refine goes_ Try.func28 (by kernel_rfl) rfl #[.int .i64 a0] (by rfl) rfl rfl (by (try simp only [List.map_toArray, List.map_cons, List.map_nil]); first | done | rfl | (simp only [List.length_drop, List.length_take]; rfl)) ?_
                    with_reducible refine (num_Of.calls a0 t615 t616 _ A22.out).mono ?_
                    rintro e w41 ⟨rfl, hb⟩
                    refine ⟨_, rfl, ?_⟩
                    have n0_ := Aside0.mk (blk_below (g := gb608) (o := .cells #[.int .i64 t605, .int .u64 t606] 48 (0, 0)) (by (with_reducible repeat (first | refine blk_drewN ?_ _ | refine blk_drew ?_ | refine blk_alloc ?_ _)); exact BK608.out) hb)
                    have n1_ := Aside0.mk (blk_below (g := gb614) (o := .cells #[.int .i64 t611, .int .u64 t612] 48 (0, 0)) (by (with_reducible repeat (first | refine blk_drewN ?_ _ | refine blk_drew ?_ | refine blk_alloc ?_ _)); exact BK614.out) hb)
                    have n2_ := Aside0.mk (below_step (by repeat (first | (with_reducible first | exact HB.out | apply below_alloc | apply pw_below_drewN | apply below_drew1 | refine below_set ?_ GE608.out | refine below_set ?_ GE614.out) | exact HB.out)) hb)
                    clear BK608
                    clear BK614
                    clear HB
                    have BK608 := n0_
                    have BK614 := n1_
                    have HB := n2_
                    clear n0_ n1_ n2_
                    (try clear hb)
                    (try clear hb2)
                    (try clear hk)
                    (try clear hi)
                    refine hK.out _ _ ⟨(blk_cell BK608.out 0).trans rfl, (blk_cell BK608.out 1).trans rfl, (blk_cell BK614.out 0).trans rfl, (blk_cell BK614.out 1).trans rfl⟩ (fun hHeld => ?_)
                    clear hK K
                    refine norm_ (a' := ?_) ?_ ?_
                    rotate_left
                    · show Act.put _ (some 69) _ = _
                      simp only [Act.put, List.setIfInBounds_toArray, List.set_cons_zero, List.set_cons_succ, i64_w, i32_w]
                      rfl
                    refine one_ (i := 8) (N := some 70) #[true, true, true, true, true, true, true, true, true, false, false, false, false, false, false, false, false, false, false] rfl rfl (one_of HT_.out (by kernel_rfl)) (by decide) (fun K hK => ?_)
                    refine goes_ Try.func41 (by kernel_rfl) rfl #[.agg #[.int .i64 t605, .int .u64 t606], .agg #[.int .i64 t615, .int .u64 t616]] (by rfl) rfl rfl (by (try simp only [List.map_toArray, List.map_cons, List.map_nil]); first | done | rfl | (simp only [List.length_drop, List.length_take]; rfl)) ?_
                    with_reducible refine (num_Wide_Cmp.calls t605 t606 t615 t616 t617 _ A23.out).mono ?_
                    rintro e w42 ⟨rfl, hb⟩
                    refine ⟨_, rfl, ?_⟩
                    have n0_ := Aside0.mk (blk_below (g := gb608) (o := .cells #[.int .i64 t605, .int .u64 t606] 48 (0, 0)) (by (with_reducible repeat (first | refine blk_drewN ?_ _ | refine blk_drew ?_ | refine blk_alloc ?_ _)); exact BK608.out) hb)
                    have n1_ := Aside0.mk (blk_below (g := gb614) (o := .cells #[.int .i64 t611, .int .u64 t612] 48 (0, 0)) (by (with_reducible repeat (first | refine blk_drewN ?_ _ | refine blk_drew ?_ | refine blk_alloc ?_ _)); exact BK614.out) hb)
                    have n2_ := Aside0.mk (below_step (by repeat (first | (with_reducible first | exact HB.out | apply below_alloc | apply pw_below_drewN | apply below_drew1 | refine below_set ?_ GE608.out | refine below_set ?_ GE614.out) | exact HB.out)) hb)
                    clear BK608
                    clear BK614
                    clear HB
                    have BK608 := n0_
                    have BK614 := n1_
                    have HB := n2_
                    clear n0_ n1_ n2_
                    (try clear hb)
                    (try clear hb2)
                    (try clear hk)
                    (try clear hi)
                    refine hK.out _ _ ⟨(blk_cell BK608.out 0).trans rfl, (blk_cell BK608.out 1).trans rfl, (blk_cell BK614.out 0).trans rfl, (blk_cell BK614.out 1).trans rfl⟩ (fun hHeld => ?_)
                    clear hK K
                    refine norm_ (a' := ?_) ?_ ?_
                    rotate_left
                    · show Act.put _ (some 70) _ = _
                      simp only [Act.put, List.setIfInBounds_toArray, List.set_cons_zero, List.set_cons_succ, i64_w, i32_w]
                      rfl
                    refine pure_ (i := 9) (N := some 71) (v := ?_) (a' := ?_) #[true, true, true, true, true, true, true, true, true, true, false, false, false, false, false, false, false, false, false] rfl rfl (any_of HT_.out (by kernel_rfl)) (fun _ _ _ h => h) (Or.inl ⟨by rfl, ?_⟩) ?_ ?_
                    rotate_left
                    · intro w'
                      go_simp
                      with_reducible rfl
                    rotate_left
                    · simp only [Act.put, List.setIfInBounds_toArray, List.set_cons_zero, List.set_cons_succ, i64_w, i32_w]
                      rfl
                    refine pure_ (i := 10) (N := some 72) (v := ?_) (a' := ?_) #[true, true, true, true, true, true, true, true, true, true, true, false, false, false, false, false, false, false, false] rfl rfl (any_of HT_.out (by kernel_rfl)) (fun _ _ _ h => h) (Or.inl ⟨by rfl, ?_⟩) ?_ ?_
                    rotate_left
                    · intro w'
                      go_simp
                      with_reducible rfl
                    rotate_left
                    · simp only [Act.put, List.setIfInBounds_toArray, List.set_cons_zero, List.set_cons_succ, i64_w, i32_w]
                      rfl
                    refine pure_ (i := 11) (N := some 73) (v := ?_) (a' := ?_) #[true, true, true, true, true, true, true, true, true, true, true, true, false, false, false, false, false, false, false] rfl rfl (any_of HT_.out (by kernel_rfl)) (fun _ _ _ h => h) (Or.inl ⟨by rfl, ?_⟩) ?_ ?_
                    rotate_left
                    · intro w'
                      go_simp
                      with_reducible rfl
                    rotate_left
                    · simp only [Act.put, List.setIfInBounds_toArray, List.set_cons_zero, List.set_cons_succ, i64_w, i32_w]
                      rfl
                    refine pure_ (i := 13) (N := some 75) (v := ?_) (a' := ?_) #[true, true, true, true, true, true, true, true, true, true, true, true, false, true, false, false, false, false, false] rfl rfl (any_of HT_.out (by kernel_rfl)) (fun _ _ _ h => h) (Or.inl ⟨by rfl, ?_⟩) ?_ ?_
                    rotate_left
                    · intro w'
                      go_simp
                      with_reducible rfl
                    rotate_left
                    · simp only [Act.put, List.setIfInBounds_toArray, List.set_cons_zero, List.set_cons_succ, i64_w, i32_w]
                      rfl
                    refine take_ (i := 12) (N := some 74) (v := ?_) (a' := ?_) #[true, true, true, true, true, true, true, true, true, true, true, true, true, true, false, false, false, false, false] rfl rfl (take_ofW HT_.out HW_.out (by kernel_rfl)) (fun _ _ _ h => h) (Or.inl ⟨by rfl, ?_⟩) hHeld ?_ ?_
                    rotate_left
                    · rintro w' ⟨s0, s1, s2, s3⟩
                      go_simp
                      with_reducible rfl
                    rotate_left
                    · simp only [Act.put, List.setIfInBounds_toArray, List.set_cons_zero, List.set_cons_succ, i64_w, i32_w]
                      rfl
                    refine one_ (i := 14) (N := some 76) #[true, true, true, true, true, true, true, true, true, true, true, true, true, true, true, false, false, false, false] rfl rfl (one_of HT_.out (by kernel_rfl)) (by decide) (fun K hK => ?_)
                    refine goes_ Try.func28 (by kernel_rfl) rfl #[.int .i64 a0] (by rfl) rfl rfl (by (try simp only [List.map_toArray, List.map_cons, List.map_nil]); first | done | rfl | (simp only [List.length_drop, List.length_take]; rfl)) ?_
                    with_reducible refine (num_Of.calls a0 t618 t619 _ A25.out).mono ?_
                    rintro e w43 ⟨rfl, hb⟩
                    refine ⟨_, rfl, ?_⟩
                    have n0_ := Aside0.mk (blk_below (g := gb608) (o := .cells #[.int .i64 t605, .int .u64 t606] 48 (0, 0)) (by (with_reducible repeat (first | refine blk_drewN ?_ _ | refine blk_drew ?_ | refine blk_alloc ?_ _)); exact BK608.out) hb)
                    have n1_ := Aside0.mk (blk_below (g := gb614) (o := .cells #[.int .i64 t611, .int .u64 t612] 48 (0, 0)) (by (with_reducible repeat (first | refine blk_drewN ?_ _ | refine blk_drew ?_ | refine blk_alloc ?_ _)); exact BK614.out) hb)
                    have n2_ := Aside0.mk (below_step (by repeat (first | (with_reducible first | exact HB.out | apply below_alloc | apply pw_below_drewN | apply below_drew1 | refine below_set ?_ GE608.out | refine below_set ?_ GE614.out) | exact HB.out)) hb)
                    clear BK608
                    clear BK614
                    clear HB
                    have BK608 := n0_
                    have BK614 := n1_
                    have HB := n2_
                    clear n0_ n1_ n2_
                    (try clear hb)
                    (try clear hb2)
                    (try clear hk)
                    (try clear hi)
                    refine hK.out _ _ ⟨(blk_cell BK608.out 0).trans rfl, (blk_cell BK608.out 1).trans rfl, (blk_cell BK614.out 0).trans rfl, (blk_cell BK614.out 1).trans rfl⟩ (fun hHeld => ?_)
                    clear hK K
                    refine norm_ (a' := ?_) ?_ ?_
                    rotate_left
                    · show Act.put _ (some 76) _ = _
                      simp only [Act.put, List.setIfInBounds_toArray, List.set_cons_zero, List.set_cons_succ, i64_w, i32_w]
                      rfl
                    refine one_ (i := 15) (N := some 77) #[true, true, true, true, true, true, true, true, true, true, true, true, true, true, true, true, false, false, false] rfl rfl (one_of HT_.out (by kernel_rfl)) (by decide) (fun K hK => ?_)
                    refine goes_ Try.func41 (by kernel_rfl) rfl #[.agg #[.int .i64 t611, .int .u64 t612], .agg #[.int .i64 t618, .int .u64 t619]] (by rfl) rfl rfl (by (try simp only [List.map_toArray, List.map_cons, List.map_nil]); first | done | rfl | (simp only [List.length_drop, List.length_take]; rfl)) ?_
                    with_reducible refine (num_Wide_Cmp.calls t611 t612 t618 t619 t620 _ A26.out).mono ?_
                    rintro e w44 ⟨rfl, hb⟩
                    refine ⟨_, rfl, ?_⟩
                    have n0_ := Aside0.mk (blk_below (g := gb608) (o := .cells #[.int .i64 t605, .int .u64 t606] 48 (0, 0)) (by (with_reducible repeat (first | refine blk_drewN ?_ _ | refine blk_drew ?_ | refine blk_alloc ?_ _)); exact BK608.out) hb)
                    have n1_ := Aside0.mk (blk_below (g := gb614) (o := .cells #[.int .i64 t611, .int .u64 t612] 48 (0, 0)) (by (with_reducible repeat (first | refine blk_drewN ?_ _ | refine blk_drew ?_ | refine blk_alloc ?_ _)); exact BK614.out) hb)
                    have n2_ := Aside0.mk (below_step (by repeat (first | (with_reducible first | exact HB.out | apply below_alloc | apply pw_below_drewN | apply below_drew1 | refine below_set ?_ GE608.out | refine below_set ?_ GE614.out) | exact HB.out)) hb)
                    clear BK608
                    clear BK614
                    clear HB
                    have BK608 := n0_
                    have BK614 := n1_
                    have HB := n2_
                    clear n0_ n1_ n2_
                    (try clear hb)
                    (try clear hb2)
                    (try clear hk)
                    (try clear hi)
                    refine hK.out _ _ ⟨(blk_cell BK608.out 0).trans rfl, (blk_cell BK608.out 1).trans rfl, (blk_cell BK614.out 0).trans rfl, (blk_cell BK614.out 1).trans rfl⟩ (fun hHeld => ?_)
                    clear hK K
                    refine norm_ (a' := ?_) ?_ ?_
                    rotate_left
                    · show Act.put _ (some 77) _ = _
                      simp only [Act.put, List.setIfInBounds_toArray, List.set_cons_zero, List.set_cons_succ, i64_w, i32_w]
                      rfl
                    refine pure_ (i := 16) (N := some 78) (v := ?_) (a' := ?_) #[true, true, true, true, true, true, true, true, true, true, true, true, true, true, true, true, true, false, false] rfl rfl (any_of HT_.out (by kernel_rfl)) (fun _ _ _ h => h) (Or.inl ⟨by rfl, ?_⟩) ?_ ?_
                    rotate_left
                    · intro w'
                      go_simp
                      with_reducible rfl
                    rotate_left
                    · simp only [Act.put, List.setIfInBounds_toArray, List.set_cons_zero, List.set_cons_succ, i64_w, i32_w]
                      rfl
                    refine pure_ (i := 17) (N := some 79) (v := ?_) (a' := ?_) #[true, true, true, true, true, true, true, true, true, true, true, true, true, true, true, true, true, true, false] rfl rfl (any_of HT_.out (by kernel_rfl)) (fun _ _ _ h => h) (Or.inl ⟨by rfl, ?_⟩) ?_ ?_
                    rotate_left
                    · intro w'
                      go_simp
                      with_reducible rfl
                    rotate_left
                    · simp only [Act.put, List.setIfInBounds_toArray, List.set_cons_zero, List.set_cons_succ, i64_w, i32_w]
                      rfl
                    refine pure_ (i := 18) (N := some 4) (v := ?_) (a' := ?_) #[true, true, true, true, true, true, true, true, true, true, true, true, true, true, true, true, true, true, true] rfl rfl (any_of HT_.out (by kernel_rfl)) (fun _ _ _ h => h) (Or.inl ⟨by rfl, ?_⟩) ?_ ?_
                    rotate_left
                    · intro w'
                      go_simp
                      with_reducible rfl
                    rotate_left
                    · simp only [Act.put, List.setIfInBounds_toArray, List.set_cons_zero, List.set_cons_succ, i64_w, i32_w]
                      rfl
                    refine done_ (done_of HT_.out (by kernel_rfl)) ?_
                    try go_wp2
                    go_ret
                    exact ⟨by first | rfl | (simp [errW_none, errW_some] <;> rfl) | (simp [*, errW_none, errW_some] <;> rfl), by repeat (first | (with_reducible first | exact HB.out | apply below_alloc | apply pw_below_drewN | apply below_drew1 | refine below_set ?_ GE608.out | refine below_set ?_ GE614.out) | exact HB.out)⟩
                  · rw [if_neg c24] at H
                    exact absurd H (by simp)
                · replace c21 := Bool.eq_false_iff.mpr c21
                  subst c21
                  have H1 : (none) = some r := by rw [if_neg (show ¬ (false = true) by decide)] at H; exact H
                  clear H
                  have H := H1
                  clear H1
                  exact absurd H (by simp)
              · replace c20 := Bool.eq_false_iff.mpr c20
                subst c20
                have H1 : (none) = some r := by rw [if_neg (show ¬ (false = true) by decide)] at H; exact H
                clear H
                have H := H1
                clear H1
                exact absurd H (by simp)
  · replace c4 := Bool.eq_false_iff.mpr c4
    subst c4
    have H1 : (none) = some r := by rw [if_neg (show ¬ (false = true) by decide)] at H; exact H
    clear H
    have H := H1
    clear H1
    exact absurd H (by simp)

/-- THE ONE PURE STATEMENT of publicanlaw1_NumBack: yours. -/
def publicanlaw1_NumBack.Pure : Prop := ∀ (a0 : Int) (a1 : Int), (Lit.int .i64 a0).wf = true → (Lit.int .i64 a1).wf = true → ∃ k, publicanlaw1_NumBack.f k a0 a1 = some true
theorem publicanlaw1_NumBack.walk (P : publicanlaw1_NumBack.Pure) (a0 : Int) (a1 : Int) (w : World) (w0 : (Lit.int .i64 a0).wf = true) (w1 : (Lit.int .i64 a1).wf = true) :
    Calls Try.prog 10 #[.int .i64 a0, .int .i64 a1] w fun e w' => e = .returned (.bool true) ∧ Below w.heap.size w w' := by
  obtain ⟨k, h⟩ := P a0 a1 w0 w1
  refine (publicanlaw1_NumBack.calls k a0 a1 true w h).mono ?_
  rintro e w' ⟨rfl, hd⟩
  exact ⟨rfl, hd⟩

end Go.Proofs.Ythjhammjankekaa.PNum
