import Derived.Test.YthjhammjankekaaKPNum0
import Derived.Test.YthjhammjankekaaKPNum2
import Derived.Test.YthjhammjankekaaKPNum4
import Derived.Test.YthjhammjankekaaKPNum5
import Derived.Test.YthjhammjankekaaKPNum6
import Derived.Test.YthjhammjankekaaKPNum7
import Derived.Test.YthjhammjankekaaKPNum9
import Derived.Test.YthjhammjankekaaKPNum10
import Derived.Test.YthjhammjankekaaKPNum11
namespace Go.Proofs.Ythjhammjankekaa.PNum
open Go.RowKit Go.Proofs.YthjhammjankekaaW.PrintWords Go.Proofs.YthjhammjankekaaW.PrintLast Go.Proofs.YthjhammjankekaaW.PrintMore
attribute [local go_sem] max2_int min2_int max_two min_two max_three min_three max_four min_four
set_option linter.unusedVariables false
set_option linter.unusedSimpArgs false
mutual
def publicanlaw1_NumChecked.j0 : Nat → Int → Int → Int → Bool → Bool → List Int → Bool → List Int → Option (Bool)
 | 0, _, _, _, _, _, _, _, _ => none
 | k + 1, x0, x1, x2, x39, x369000, x369001, x374000, x374001 => if x39 = true then (none) else ((num_Sub.f x0 x1).bind fun bt382 => ((publicanref1_Minus.f k x374000 x374001).bind fun bt384 => ((publicanref1_Add.f k x369000 x369001 bt384.1 bt384.2).bind fun bt388 => ((publicanref1_Int.f k bt388.1 bt388.2).bind fun bt392 => (if bt382.1 = bt392.1 then (publicanlaw1_NumChecked.j1 k x0 x1 x2 (!(bt382.2 == bt392.2)) x369000 x369001 x374000 x374001) else (publicanlaw1_NumChecked.j1 k x0 x1 x2 true x369000 x369001 x374000 x374001))))))
def publicanlaw1_NumChecked.j1 : Nat → Int → Int → Int → Bool → Bool → List Int → Bool → List Int → Option (Bool)
 | 0, _, _, _, _, _, _, _, _ => none
 | k + 1, x0, x1, x2, x61, x369000, x369001, x374000, x374001 => if x61 = true then (none) else ((num_Mul.f x0 x1).bind fun bt394 => ((publicanref1_Mul.f k x369000 x369001 x374000 x374001).bind fun bt396 => ((publicanref1_Int.f k bt396.1 bt396.2).bind fun bt400 => (if bt394.1 = bt400.1 then (publicanlaw1_NumChecked.j2 k x0 x1 x2 (!(bt394.2 == bt400.2)) x369000 x369001 x374000 x374001) else (publicanlaw1_NumChecked.j2 k x0 x1 x2 true x369000 x369001 x374000 x374001)))))
def publicanlaw1_NumChecked.j2 : Nat → Int → Int → Int → Bool → Bool → List Int → Bool → List Int → Option (Bool)
 | 0, _, _, _, _, _, _, _, _ => none
 | k + 1, x0, x1, x2, x82, x369000, x369001, x374000, x374001 => if x82 = true then (none) else ((num_Floor.f k x0 x1).bind fun bt402 => (if x1 = 0 then (publicanlaw1_NumChecked.j3 k x0 x1 x2 bt402.1 bt402.2 0 false x369000 x369001 x374000 x374001) else ((publicanref1_Floor.f k x369000 x369001 x374000 x374001).bind fun bt404 => ((publicanref1_Int.f k bt404.1 bt404.2).bind fun bt408 => (publicanlaw1_NumChecked.j3 k x0 x1 x2 bt402.1 bt402.2 bt408.1 bt408.2 x369000 x369001 x374000 x374001)))))
def publicanlaw1_NumChecked.j3 : Nat → Int → Int → Int → Int → Bool → Int → Bool → Bool → List Int → Bool → List Int → Option (Bool)
 | 0, _, _, _, _, _, _, _, _, _, _, _ => none
 | k + 1, x0, x1, x2, x9, x10, x11, x12, x369000, x369001, x374000, x374001 => if x9 = x11 then (publicanlaw1_NumChecked.j4 k x0 x1 x2 (!(x10 == x12)) x369000 x369001 x374000 x374001) else (publicanlaw1_NumChecked.j4 k x0 x1 x2 true x369000 x369001 x374000 x374001)
def publicanlaw1_NumChecked.j4 : Nat → Int → Int → Int → Bool → Bool → List Int → Bool → List Int → Option (Bool)
 | 0, _, _, _, _, _, _, _, _ => none
 | k + 1, x0, x1, x2, x105, x369000, x369001, x374000, x374001 => if x105 = true then (none) else ((num_MulFloor.f k x0 x1 x2).bind fun bt410 => (if x2 > 0 then ((publicanref1_Mul.f k x369000 x369001 x374000 x374001).bind fun bt412 => ((publicanref1_Of.f k x2).bind fun bt416 => ((publicanref1_Floor.f k bt412.1 bt412.2 bt416.1 bt416.2).bind fun bt420 => ((publicanref1_Int.f k bt420.1 bt420.2).bind fun bt424 => (if bt410.1 = bt424.1 then (some (bt410.2 == bt424.2)) else (none)))))) else (if bt410.1 = 0 then (some (bt410.2 == false)) else (none))))
end
def publicanlaw1_NumChecked.f (k : Nat) (a0 : Int) (a1 : Int) (a2 : Int) : Option (Bool) := (publicanlaw1_awake.f k).bind fun t363 => (if t363 = true then ((publicanref1_Of.f k a0).bind fun bt364 => ((publicanref1_Of.f k a1).bind fun bt369 => ((num_Add.f a0 a1).bind fun bt374 => ((publicanref1_Add.f k bt364.1 bt364.2 bt369.1 bt369.2).bind fun bt376 => ((publicanref1_Int.f k bt376.1 bt376.2).bind fun bt380 => (if bt374.1 = bt380.1 then (publicanlaw1_NumChecked.j0 k a0 a1 a2 (!(bt374.2 == bt380.2)) bt364.1 bt364.2 bt369.1 bt369.2) else (publicanlaw1_NumChecked.j0 k a0 a1 a2 true bt364.1 bt364.2 bt369.1 bt369.2))))))) else (none))
def publicanlaw1_NumChecked.T10 : Bool × List (List Nat × List Nat) := (true, [([], []), ([], []), ([1], [1]), ([0, 2, 2], [0, 2]), ([3, 3], [3]), ([4], [4]), ([5], [5]), ([5], [5]), ([6, 4, 0, 1, 2, 3, 4, 5, 6], [6]), ([7, 8, 0, 1, 2, 3, 4, 5, 6, 7, 8], [7])])
def publicanlaw1_NumChecked.B10 : List Nat := [0, 0, 2, 7, 15, 31, 63, 63, 127, 511]
theorem publicanlaw1_NumChecked.tab10 : rtab .any (opsOf Try.f8 10) = publicanlaw1_NumChecked.T10 := by kernel_rfl
theorem publicanlaw1_NumChecked.bits10 : waitsOk publicanlaw1_NumChecked.T10.2 publicanlaw1_NumChecked.B10 = true := by kernel_rfl
set_option maxHeartbeats 8000000 in
set_option maxRecDepth 100000 in
theorem publicanlaw1_NumChecked.calls (k : Nat) (a0 : Int) (a1 : Int) (a2 : Int) (r : Bool) (w : World) (h : publicanlaw1_NumChecked.f k a0 a1 a2 = some r) :
  Calls Try.prog 8 #[.int .i64 a0, .int .i64 a1, .int .i64 a2] w fun e w' => e = .returned (.bool r) ∧ Below w.heap.size w w' := by
 have hu55 := Try.underlying55
 have HB := Aside0.mk (Below.refl w.heap.size w)
 have H : ((publicanlaw1_awake.f k).bind fun t363 => (if t363 = true then ((publicanref1_Of.f k a0).bind fun bt364 => ((publicanref1_Of.f k a1).bind fun bt369 => ((num_Add.f a0 a1).bind fun bt374 => ((publicanref1_Add.f k bt364.1 bt364.2 bt369.1 bt369.2).bind fun bt376 => ((publicanref1_Int.f k bt376.1 bt376.2).bind fun bt380 => (if bt374.1 = bt380.1 then (publicanlaw1_NumChecked.j0 k a0 a1 a2 (!(bt374.2 == bt380.2)) bt364.1 bt364.2 bt369.1 bt369.2) else (publicanlaw1_NumChecked.j0 k a0 a1 a2 true bt364.1 bt364.2 bt369.1 bt369.2))))))) else (none))) = some r := h
 clear h
 replace H := Option.bind_eq_some_iff.mp H
 obtain ⟨t363, A40, H⟩ := H
 replace H : (if t363 = true then ((publicanref1_Of.f k a0).bind fun bt364 => ((publicanref1_Of.f k a1).bind fun bt369 => ((num_Add.f a0 a1).bind fun bt374 => ((publicanref1_Add.f k bt364.1 bt364.2 bt369.1 bt369.2).bind fun bt376 => ((publicanref1_Int.f k bt376.1 bt376.2).bind fun bt380 => (if bt374.1 = bt380.1 then (publicanlaw1_NumChecked.j0 k a0 a1 a2 (!(bt374.2 == bt380.2)) bt364.1 bt364.2 bt369.1 bt369.2) else (publicanlaw1_NumChecked.j0 k a0 a1 a2 true bt364.1 bt364.2 bt369.1 bt369.2))))))) else (none)) = some r := H
 have A4 := Aside0.mk A40
 clear A40
 by_cases c5 : t363 = true
 ·subst c5
  have H1 : ((publicanref1_Of.f k a0).bind fun bt364 => ((publicanref1_Of.f k a1).bind fun bt369 => ((num_Add.f a0 a1).bind fun bt374 => ((publicanref1_Add.f k bt364.1 bt364.2 bt369.1 bt369.2).bind fun bt376 => ((publicanref1_Int.f k bt376.1 bt376.2).bind fun bt380 => (if bt374.1 = bt380.1 then (publicanlaw1_NumChecked.j0 k a0 a1 a2 (!(bt374.2 == bt380.2)) bt364.1 bt364.2 bt369.1 bt369.2) else (publicanlaw1_NumChecked.j0 k a0 a1 a2 true bt364.1 bt364.2 bt369.1 bt369.2))))))) = some r := by rw [if_pos rfl] at H; exact H
  clear H
  have H := H1
  clear H1
  replace H := Option.bind_eq_some_iff.mp H
  obtain ⟨⟨t364, t365⟩, A60, H⟩ := H
  replace H : ((publicanref1_Of.f k a1).bind fun bt369 => ((num_Add.f a0 a1).bind fun bt374 => ((publicanref1_Add.f k t364 t365 bt369.1 bt369.2).bind fun bt376 => ((publicanref1_Int.f k bt376.1 bt376.2).bind fun bt380 => (if bt374.1 = bt380.1 then (publicanlaw1_NumChecked.j0 k a0 a1 a2 (!(bt374.2 == bt380.2)) t364 t365 bt369.1 bt369.2) else (publicanlaw1_NumChecked.j0 k a0 a1 a2 true t364 t365 bt369.1 bt369.2)))))) = some r := H
  have A6 := Aside0.mk A60
  clear A60
  replace H := Option.bind_eq_some_iff.mp H
  obtain ⟨⟨t369, t370⟩, A70, H⟩ := H
  replace H : ((num_Add.f a0 a1).bind fun bt374 => ((publicanref1_Add.f k t364 t365 t369 t370).bind fun bt376 => ((publicanref1_Int.f k bt376.1 bt376.2).bind fun bt380 => (if bt374.1 = bt380.1 then (publicanlaw1_NumChecked.j0 k a0 a1 a2 (!(bt374.2 == bt380.2)) t364 t365 t369 t370) else (publicanlaw1_NumChecked.j0 k a0 a1 a2 true t364 t365 t369 t370))))) = some r := H
  have A7 := Aside0.mk A70
  clear A70
  replace H := Option.bind_eq_some_iff.mp H
  obtain ⟨⟨t374, t375⟩, A80, H⟩ := H
  replace H : ((publicanref1_Add.f k t364 t365 t369 t370).bind fun bt376 => ((publicanref1_Int.f k bt376.1 bt376.2).bind fun bt380 => (if t374 = bt380.1 then (publicanlaw1_NumChecked.j0 k a0 a1 a2 (!(t375 == bt380.2)) t364 t365 t369 t370) else (publicanlaw1_NumChecked.j0 k a0 a1 a2 true t364 t365 t369 t370)))) = some r := H
  have A8 := Aside0.mk A80
  clear A80
  replace H := Option.bind_eq_some_iff.mp H
  obtain ⟨⟨t376, t377⟩, A90, H⟩ := H
  replace H : ((publicanref1_Int.f k t376 t377).bind fun bt380 => (if t374 = bt380.1 then (publicanlaw1_NumChecked.j0 k a0 a1 a2 (!(t375 == bt380.2)) t364 t365 t369 t370) else (publicanlaw1_NumChecked.j0 k a0 a1 a2 true t364 t365 t369 t370))) = some r := H
  have A9 := Aside0.mk A90
  clear A90
  replace H := Option.bind_eq_some_iff.mp H
  obtain ⟨⟨t380, t381⟩, A100, H⟩ := H
  replace H : (if t374 = t380 then (publicanlaw1_NumChecked.j0 k a0 a1 a2 (!(t375 == t381)) t364 t365 t369 t370) else (publicanlaw1_NumChecked.j0 k a0 a1 a2 true t364 t365 t369 t370)) = some r := H
  have A10 := Aside0.mk A100
  clear A100
  have HC11 := Aside0.mk H
  clear H
  go_enter Try.func8, Try.ntmps8
  go_upto_region 7 with (first | ((with_reducible refine gate_callee (f := 22) rfl ?_); refine goesL_ (some 13) rfl rfl Try.func22 (by kernel_rfl) rfl #[] rfl (by (try simp only [List.map_toArray, List.map_cons, List.map_nil]); first | done | rfl | (simp only [List.length_drop, List.length_take]; rfl)) ?_; (with_reducible refine (publicanlaw1_awake.calls k  true _ A4.out).mono ?_); rintro e w12 ⟨rfl, hb⟩; refine ⟨_, rfl, ?_⟩; have n0_ := Aside0.mk (below_step (by repeat (first | (with_reducible first | exact HB.out | apply below_alloc | apply pw_below_drewN | apply below_drew1) | exact HB.out)) hb); clear HB; have HB := n0_; clear n0_; (try clear hb); (try clear hb2); (try clear hk); (try clear hi)) | ((with_reducible refine gate_callee (f := 31) rfl ?_); refine goesL_ (some 16) rfl rfl Try.func31 (by kernel_rfl) rfl #[.int .i64 a0] rfl (by (try simp only [List.map_toArray, List.map_cons, List.map_nil]); first | done | rfl | (simp only [List.length_drop, List.length_take]; rfl)) ?_; (with_reducible refine (publicanref1_Of.calls k a0 t364 t365 _ A6.out).mono ?_); rintro e w13 ⟨v366, rfl, ho0, hb⟩; refine ⟨_, rfl, ?_⟩; have n0_ := Aside0.mk (Kd.V_lower (Kd.V_mono (ok' := fun k_ => True) ho0 (fun k_ hk_ => trivial)) (below_size (by repeat (first | (with_reducible first | exact HB.out | apply below_alloc | apply pw_below_drewN | apply below_drew1) | exact HB.out)))); have n1_ := Aside0.mk (below_step (by repeat (first | (with_reducible first | exact HB.out | apply below_alloc | apply pw_below_drewN | apply below_drew1) | exact HB.out)) hb); clear HB; have HO367 := n0_; have HB := n1_; clear n0_ n1_; (try clear hb); (try clear hb2); (try clear hk); (try clear hi); (try clear ho0)) | ((with_reducible refine gate_dst (N := 7) rfl ?_); refine box_event ?hg (N := 7) ?hd (cs := #[.bool false, .slice none 0 0]) (t := 55) ?hr ?_; (case hd => rfl); (case hg => rfl); (case hr => first | (go_simp; done) | (go_simp; rfl)); intro gb368 hg w14 hbox hb; have n0_ := Aside0.mk (Kd.V_below (Kd.V_elderB (by (with_reducible repeat (first | apply Kd.V_alloc | apply Kd.V_drewN | apply Kd.V_drew)); exact HO367.out) gb368 (Nat.le_of_eq hg.symm)) hb); have n1_ := Aside0.mk (below_step (by repeat (first | (with_reducible first | exact HB.out | apply below_alloc | apply pw_below_drewN | apply below_drew1) | exact HB.out)) hb); have n2_ := Aside0.mk (hbox); have n3_ := Aside0.mk ((by rw [hg]; exact (below_size (by repeat (first | (with_reducible first | exact HB.out | apply below_alloc | apply pw_below_drewN | apply below_drew1) | exact HB.out))) : w.heap.size ≤ gb368)); have n4_ := Aside0.mk ((by rw [hg]; exact (below_size (by repeat (first | (with_reducible first | exact HB.out | apply below_alloc | apply pw_below_drewN | apply below_drew1) | exact HB.out))) : w.heap.size ≤ gb368)); clear HO367; clear HB; have HO367 := n0_; have HB := n1_; have BK368 := n2_; have GW368 := n3_; have GE368 := n4_; clear n0_ n1_ n2_ n3_ n4_; clear hb hbox hg; have hcz15_0 : w14.cell? ⟨gb368, 0, none⟩ = some (.bool false) := (blk_cell BK368.out 0).trans rfl; have hcz15_1 : w14.cell? ⟨gb368, 1, none⟩ = some (.slice none 0 0) := (blk_cell BK368.out 1).trans rfl; have hfz15_0 := blk_frozen BK368.out 0; have hfz15_1 := blk_frozen BK368.out 1; obtain ⟨Ao16, co16, eo16⟩ := Kd.V_slice HO367.out; subst eo16) | ((with_reducible refine gate_callee (f := 31) rfl ?_); refine goesL_ (some 18) rfl rfl Try.func31 (by kernel_rfl) rfl #[.int .i64 a1] rfl (by (try simp only [List.map_toArray, List.map_cons, List.map_nil]); first | done | rfl | (simp only [List.length_drop, List.length_take]; rfl)) ?_; (with_reducible refine (publicanref1_Of.calls k a1 t369 t370 _ A7.out).mono ?_); rintro e w17 ⟨v371, rfl, ho0, hb⟩; refine ⟨_, rfl, ?_⟩; have n0_ := Aside0.mk (Kd.V_below (by (with_reducible repeat (first | apply Kd.V_alloc | apply Kd.V_drewN | apply Kd.V_drew)); exact (Kd.V_mono (Kd.V_far (p := ⟨gb368, 1, none⟩) (Kd.V_far (p := ⟨gb368, 0, none⟩) (Kd.V_mono HO367.out (fun k_ hk => (⟨hk, hk.2⟩ : _ ∧ k_ ≠ gb368))) (fun _ hk => hk.2) (.bool t364)) (fun _ hk => hk.2) (.slice Ao16 t365.length co16)) (fun _ h_ => h_.1))) hb); have n1_ := Aside0.mk (Kd.V_lower (Kd.V_mono (ok' := fun k_ => k_ ≠ gb368) ho0 (fun k_ hk_ => (Kd.freshB (g := gb368) (o := .cells #[.bool t364, .slice Ao16 t365.length co16] 55 (0, 0)) (by (with_reducible repeat (first | refine blk_drewN ?_ _ | refine blk_drew ?_ | refine blk_alloc ?_ _)); refine blk_put (cs := #[.bool t364, .slice none 0 0]) ?_ 1 _ rfl; (with_reducible repeat (first | refine blk_drewN ?_ _ | refine blk_drew ?_ | refine blk_alloc ?_ _)); refine blk_put (cs := #[.bool false, .slice none 0 0]) ?_ 0 _ rfl; (with_reducible repeat (first | refine blk_drewN ?_ _ | refine blk_drew ?_ | refine blk_alloc ?_ _)); exact BK368.out) k_ hk_))) (below_size (by repeat (first | (with_reducible first | exact HB.out | apply below_alloc | apply pw_below_drewN | apply below_drew1 | refine below_set ?_ GE368.out) | exact HB.out)))); have n2_ := Aside0.mk (blk_below (g := gb368) (o := .cells #[.bool t364, .slice Ao16 t365.length co16] 55 (0, 0)) (by (with_reducible repeat (first | refine blk_drewN ?_ _ | refine blk_drew ?_ | refine blk_alloc ?_ _)); refine blk_put (cs := #[.bool t364, .slice none 0 0]) ?_ 1 _ rfl; (with_reducible repeat (first | refine blk_drewN ?_ _ | refine blk_drew ?_ | refine blk_alloc ?_ _)); refine blk_put (cs := #[.bool false, .slice none 0 0]) ?_ 0 _ rfl; (with_reducible repeat (first | refine blk_drewN ?_ _ | refine blk_drew ?_ | refine blk_alloc ?_ _)); exact BK368.out) hb); have n3_ := Aside0.mk (below_step (by repeat (first | (with_reducible first | exact HB.out | apply below_alloc | apply pw_below_drewN | apply below_drew1 | refine below_set ?_ GE368.out) | exact HB.out)) hb); clear HO367; clear BK368; clear HB; have HO367 := n0_; have HO372 := n1_; have BK368 := n2_; have HB := n3_; clear n0_ n1_ n2_ n3_; (try clear hb); (try clear hb2); (try clear hk); (try clear hi); (try clear ho0)) | ((with_reducible refine gate_dst (N := 8) rfl ?_); refine box_event ?hg (N := 8) ?hd (cs := #[.bool false, .slice none 0 0]) (t := 55) ?hr ?_; (case hd => rfl); (case hg => rfl); (case hr => first | (go_simp; done) | (go_simp; rfl)); intro gb373 hg w18 hbox hb; have n0_ := Aside0.mk (Kd.V_below (Kd.V_elderB (by (with_reducible repeat (first | apply Kd.V_alloc | apply Kd.V_drewN | apply Kd.V_drew)); exact HO367.out) gb373 (Nat.le_of_eq hg.symm)) hb); have n1_ := Aside0.mk (Kd.V_below (Kd.V_elderB (by (with_reducible repeat (first | apply Kd.V_alloc | apply Kd.V_drewN | apply Kd.V_drew)); exact HO372.out) gb373 (Nat.le_of_eq hg.symm)) hb); have n2_ := Aside0.mk (blk_below (g := gb368) (o := .cells #[.bool t364, .slice Ao16 t365.length co16] 55 (0, 0)) (by (with_reducible repeat (first | refine blk_drewN ?_ _ | refine blk_drew ?_ | refine blk_alloc ?_ _)); exact BK368.out) hb); have n3_ := Aside0.mk (below_step (by repeat (first | (with_reducible first | exact HB.out | apply below_alloc | apply pw_below_drewN | apply below_drew1 | refine below_set ?_ GE368.out) | exact HB.out)) hb); have n4_ := Aside0.mk (hbox); have n5_ := Aside0.mk ((by rw [hg]; exact (below_size (by repeat (first | (with_reducible first | exact HB.out | apply below_alloc | apply pw_below_drewN | apply below_drew1 | refine below_set ?_ GE368.out) | exact HB.out))) : w.heap.size ≤ gb373)); have n6_ := Aside0.mk ((by rw [hg]; exact (below_size (by repeat (first | (with_reducible first | exact HB.out | apply below_alloc | apply pw_below_drewN | apply below_drew1 | refine below_set ?_ GE368.out) | exact HB.out))) : w.heap.size ≤ gb373)); have n7_ := Aside0.mk ((by rw [hg]; exact Nat.ne_of_lt (blk_lt (g := gb368) (o := .cells #[.bool t364, .slice Ao16 t365.length co16] 55 (0, 0)) (by (with_reducible repeat (first | refine blk_drewN ?_ _ | refine blk_drew ?_ | refine blk_alloc ?_ _)); exact BK368.out)) : gb368 ≠ gb373)); have n8_ := Aside0.mk ((by rw [hg]; exact Nat.ne_of_gt (blk_lt (g := gb368) (o := .cells #[.bool t364, .slice Ao16 t365.length co16] 55 (0, 0)) (by (with_reducible repeat (first | refine blk_drewN ?_ _ | refine blk_drew ?_ | refine blk_alloc ?_ _)); exact BK368.out)) : gb373 ≠ gb368)); clear HO367; clear HO372; clear BK368; clear HB; have HO367 := n0_; have HO372 := n1_; have BK368 := n2_; have HB := n3_; have BK373 := n4_; have GW373 := n5_; have GE373 := n6_; have NB368_373 := n7_; have NB373_368 := n8_; clear n0_ n1_ n2_ n3_ n4_ n5_ n6_ n7_ n8_; clear hb hbox hg; have hnb19 := NB373_368.out; have hnc19 := NB368_373.out; have hcz20_0 : w18.cell? ⟨gb373, 0, none⟩ = some (.bool false) := (blk_cell BK373.out 0).trans rfl; have hcz20_1 : w18.cell? ⟨gb373, 1, none⟩ = some (.slice none 0 0) := (blk_cell BK373.out 1).trans rfl; have hfz20_0 := blk_frozen BK373.out 0; have hfz20_1 := blk_frozen BK373.out 1; obtain ⟨Ao21, co21, eo21⟩ := Kd.V_slice HO372.out; subst eo21) | ((with_reducible refine gate_callee (f := 23) rfl ?_); refine goesL_ (some 22) rfl rfl Try.func23 (by kernel_rfl) rfl #[.int .i64 a0, .int .i64 a1] rfl (by (try simp only [List.map_toArray, List.map_cons, List.map_nil]); first | done | rfl | (simp only [List.length_drop, List.length_take]; rfl)) ?_; (with_reducible refine (num_Add.calls a0 a1 t374 t375 _ A8.out).mono ?_); rintro e w' ⟨rfl, ⟨nd, rfl⟩⟩; refine ⟨_, rfl, ?_⟩; have hcz22_0 : w18.cell? ⟨gb368, 0, none⟩ = some (.bool t364) := (blk_cell BK368.out 0).trans rfl; have hcz22_1 : w18.cell? ⟨gb368, 1, none⟩ = some (.slice Ao16 t365.length co16) := (blk_cell BK368.out 1).trans rfl; have hfz22_0 := blk_frozen BK368.out 0; have hfz22_1 := blk_frozen BK368.out 1) | ((with_reducible refine gate_callee (f := 33) rfl ?_); refine goesL_ (some 28) rfl rfl Try.func33 (by kernel_rfl) rfl #[.agg #[.bool t364, .slice Ao16 t365.length co16], .agg #[.bool t369, .slice Ao21 t370.length co21]] rfl (by (try simp only [List.map_toArray, List.map_cons, List.map_nil]); first | done | rfl | (simp only [List.length_drop, List.length_take]; rfl)) ?_; (with_reducible refine (publicanref1_Add.calls k t364 _ _ t365 t369 _ _ t370 t376 t377 _ ?side1 ?side2 ?side3 ?side4 A9.out).mono ?_); (case side1 => refine (Kd.V_reads' (e := 46) (base := w.heap.size) (ok := fun k_ => ((True ∧ k_ ≠ gb368) ∧ k_ ≠ gb373)) (n := t365.length) (c := co16) ?_).2.2; exact (by (with_reducible repeat (first | apply Kd.V_alloc | apply Kd.V_drewN | apply Kd.V_drew)); exact (Kd.V_mono (Kd.V_far (p := ⟨gb373, 1, none⟩) (Kd.V_far (p := ⟨gb373, 0, none⟩) (Kd.V_mono HO367.out (fun k_ hk => (⟨hk, hk.2⟩ : _ ∧ k_ ≠ gb373))) (fun _ hk => hk.2) (.bool t369)) (fun _ hk => hk.2) (.slice Ao21 t370.length co21)) (fun _ h_ => h_.1)))); (case side2 => exact (Kd.V_reads' HO367.out).2.1); (case side3 => refine (Kd.V_reads' (e := 46) (base := w.heap.size) (ok := fun k_ => (k_ ≠ gb368 ∧ k_ ≠ gb373)) (n := t370.length) (c := co21) ?_).2.2; exact (by (with_reducible repeat (first | apply Kd.V_alloc | apply Kd.V_drewN | apply Kd.V_drew)); exact (Kd.V_mono (Kd.V_far (p := ⟨gb373, 1, none⟩) (Kd.V_far (p := ⟨gb373, 0, none⟩) (Kd.V_mono HO372.out (fun k_ hk => (⟨hk, hk.2⟩ : _ ∧ k_ ≠ gb373))) (fun _ hk => hk.2) (.bool t369)) (fun _ hk => hk.2) (.slice Ao21 t370.length co21)) (fun _ h_ => h_.1)))); (case side4 => exact (Kd.V_reads' HO372.out).2.1); rintro e w23 ⟨v378, rfl, ho0, hb⟩; refine ⟨_, rfl, ?_⟩; have n0_ := Aside0.mk (Kd.V_below (by (with_reducible repeat (first | apply Kd.V_alloc | apply Kd.V_drewN | apply Kd.V_drew)); exact (Kd.V_mono (Kd.V_far (p := ⟨gb373, 1, none⟩) (Kd.V_far (p := ⟨gb373, 0, none⟩) (Kd.V_mono HO367.out (fun k_ hk => (⟨hk, hk.2⟩ : _ ∧ k_ ≠ gb373))) (fun _ hk => hk.2) (.bool t369)) (fun _ hk => hk.2) (.slice Ao21 t370.length co21)) (fun _ h_ => h_.1))) hb); have n1_ := Aside0.mk (Kd.V_below (by (with_reducible repeat (first | apply Kd.V_alloc | apply Kd.V_drewN | apply Kd.V_drew)); exact (Kd.V_mono (Kd.V_far (p := ⟨gb373, 1, none⟩) (Kd.V_far (p := ⟨gb373, 0, none⟩) (Kd.V_mono HO372.out (fun k_ hk => (⟨hk, hk.2⟩ : _ ∧ k_ ≠ gb373))) (fun _ hk => hk.2) (.bool t369)) (fun _ hk => hk.2) (.slice Ao21 t370.length co21)) (fun _ h_ => h_.1))) hb); have n2_ := Aside0.mk (Kd.V_lower (Kd.V_mono (ok' := fun k_ => k_ ≠ gb368 ∧ k_ ≠ gb373) ho0 (fun k_ hk_ => ⟨(Kd.freshB (g := gb368) (o := .cells #[.bool t364, .slice Ao16 t365.length co16] 55 (0, 0)) (by (with_reducible repeat (first | refine blk_drewN ?_ _ | refine blk_drew ?_ | refine blk_alloc ?_ _)); refine blk_far ?_ NB368_373.out _; (with_reducible repeat (first | refine blk_drewN ?_ _ | refine blk_drew ?_ | refine blk_alloc ?_ _)); refine blk_far ?_ NB368_373.out _; (with_reducible repeat (first | refine blk_drewN ?_ _ | refine blk_drew ?_ | refine blk_alloc ?_ _)); exact BK368.out) k_ hk_), (Kd.freshB (g := gb373) (o := .cells #[.bool t369, .slice Ao21 t370.length co21] 55 (0, 0)) (by (with_reducible repeat (first | refine blk_drewN ?_ _ | refine blk_drew ?_ | refine blk_alloc ?_ _)); refine blk_put (cs := #[.bool t369, .slice none 0 0]) ?_ 1 _ rfl; (with_reducible repeat (first | refine blk_drewN ?_ _ | refine blk_drew ?_ | refine blk_alloc ?_ _)); refine blk_put (cs := #[.bool false, .slice none 0 0]) ?_ 0 _ rfl; (with_reducible repeat (first | refine blk_drewN ?_ _ | refine blk_drew ?_ | refine blk_alloc ?_ _)); exact BK373.out) k_ hk_)⟩)) (below_size (by repeat (first | (with_reducible first | exact HB.out | apply below_alloc | apply pw_below_drewN | apply below_drew1 | refine below_set ?_ GE368.out | refine below_set ?_ GE373.out) | exact HB.out)))); have n3_ := Aside0.mk (blk_below (g := gb368) (o := .cells #[.bool t364, .slice Ao16 t365.length co16] 55 (0, 0)) (by (with_reducible repeat (first | refine blk_drewN ?_ _ | refine blk_drew ?_ | refine blk_alloc ?_ _)); refine blk_far ?_ NB368_373.out _; (with_reducible repeat (first | refine blk_drewN ?_ _ | refine blk_drew ?_ | refine blk_alloc ?_ _)); refine blk_far ?_ NB368_373.out _; (with_reducible repeat (first | refine blk_drewN ?_ _ | refine blk_drew ?_ | refine blk_alloc ?_ _)); exact BK368.out) hb); have n4_ := Aside0.mk (blk_below (g := gb373) (o := .cells #[.bool t369, .slice Ao21 t370.length co21] 55 (0, 0)) (by (with_reducible repeat (first | refine blk_drewN ?_ _ | refine blk_drew ?_ | refine blk_alloc ?_ _)); refine blk_put (cs := #[.bool t369, .slice none 0 0]) ?_ 1 _ rfl; (with_reducible repeat (first | refine blk_drewN ?_ _ | refine blk_drew ?_ | refine blk_alloc ?_ _)); refine blk_put (cs := #[.bool false, .slice none 0 0]) ?_ 0 _ rfl; (with_reducible repeat (first | refine blk_drewN ?_ _ | refine blk_drew ?_ | refine blk_alloc ?_ _)); exact BK373.out) hb); have n5_ := Aside0.mk (below_step (by repeat (first | (with_reducible first | exact HB.out | apply below_alloc | apply pw_below_drewN | apply below_drew1 | refine below_set ?_ GE368.out | refine below_set ?_ GE373.out) | exact HB.out)) hb); clear HO367; clear HO372; clear BK368; clear BK373; clear HB; have HO367 := n0_; have HO372 := n1_; have HO379 := n2_; have BK368 := n3_; have BK373 := n4_; have HB := n5_; clear n0_ n1_ n2_ n3_ n4_ n5_; (try clear hb); (try clear hb2); (try clear hk); (try clear hi); (try clear ho0); obtain ⟨Ao24, co24, eo24⟩ := Kd.V_slice HO379.out; subst eo24) | ((with_reducible refine gate_callee (f := 32) rfl ?_); refine goesL_ (some 29) rfl rfl Try.func32 (by kernel_rfl) rfl #[.agg #[.bool t376, .slice Ao24 t377.length co24]] rfl (by (try simp only [List.map_toArray, List.map_cons, List.map_nil]); first | done | rfl | (simp only [List.length_drop, List.length_take]; rfl)) ?_; (with_reducible refine (publicanref1_Int.calls k t376 _ _ t377 t380 t381 _ ?side1 ?side2 A10.out).mono ?_); (case side1 => repeat (first | exact (Kd.V_reads' HO379.out).2.2 | (with_reducible refine Kd.C_alloc ?_ _) | (with_reducible refine Kd.C_drewN ?_ _) | (with_reducible refine Kd.C_drew ?_))); (case side2 => exact (Kd.V_reads' HO379.out).2.1); rintro e w25 ⟨rfl, hb⟩; refine ⟨_, rfl, ?_⟩; have n0_ := Aside0.mk (Kd.V_below (by (with_reducible repeat (first | apply Kd.V_alloc | apply Kd.V_drewN | apply Kd.V_drew)); exact HO367.out) hb); have n1_ := Aside0.mk (Kd.V_below (by (with_reducible repeat (first | apply Kd.V_alloc | apply Kd.V_drewN | apply Kd.V_drew)); exact HO372.out) hb); have n2_ := Aside0.mk (Kd.V_below (by (with_reducible repeat (first | apply Kd.V_alloc | apply Kd.V_drewN | apply Kd.V_drew)); exact HO379.out) hb); have n3_ := Aside0.mk (blk_below (g := gb368) (o := .cells #[.bool t364, .slice Ao16 t365.length co16] 55 (0, 0)) (by (with_reducible repeat (first | refine blk_drewN ?_ _ | refine blk_drew ?_ | refine blk_alloc ?_ _)); exact BK368.out) hb); have n4_ := Aside0.mk (blk_below (g := gb373) (o := .cells #[.bool t369, .slice Ao21 t370.length co21] 55 (0, 0)) (by (with_reducible repeat (first | refine blk_drewN ?_ _ | refine blk_drew ?_ | refine blk_alloc ?_ _)); exact BK373.out) hb); have n5_ := Aside0.mk (below_step (by repeat (first | (with_reducible first | exact HB.out | apply below_alloc | apply pw_below_drewN | apply below_drew1 | refine below_set ?_ GE368.out | refine below_set ?_ GE373.out) | exact HB.out)) hb); clear HO367; clear HO372; clear HO379; clear BK368; clear BK373; clear HB; have HO367 := n0_; have HO372 := n1_; have HO379 := n2_; have BK368 := n3_; have BK373 := n4_; have HB := n5_; clear n0_ n1_ n2_ n3_ n4_ n5_; (try clear hb); (try clear hb2); (try clear hk); (try clear hi)))
  (try simp only [Act.put, List.setIfInBounds_toArray, List.set_cons_zero, List.set_cons_succ])
  go_cut [39] (fun v39 wc => ∃ (kq : Nat) (x39_10 : Bool), v39 = .bool x39_10 ∧ Aside0 (publicanlaw1_NumChecked.j0 kq a0 a1 a2 x39_10 t364 t365 t369 t370 = some r) ∧ Aside0 (kq ≤ k) ∧ Aside0 (Kd.V (Kd.int .u64) 46 wc w.heap.size (fun k_ => k_ ≠ gb368 ∧ k_ ≠ gb373) (.slice Ao16 t365.length co16) t365) ∧ Aside0 (Kd.V (Kd.int .u64) 46 wc w.heap.size (fun k_ => k_ ≠ gb368 ∧ k_ ≠ gb373) (.slice Ao21 t370.length co21) t370) ∧ Aside0 (wc.heap[gb368]? = some (.cells #[.bool t364, (.slice Ao16 t365.length co16)] 55 (0, 0))) ∧ Aside0 (wc.heap[gb373]? = some (.cells #[.bool t369, (.slice Ao21 t370.length co21)] 55 (0, 0))) ∧ Aside0 (Below w.heap.size w wc))
  case first =>
   have H := HC11.out
   clear HC11
   by_cases c26 : t374 = t380
   ·rw [if_pos c26] at H
    have c26b0 : (t374 == t380) = true := beq_iff_eq.mpr c26
    have c26b1 : (t374 != t380) = false := bne_eq_false_iff_eq.mpr c26
    clear c26
    (first | rw [c26b0] | (simp only [i64_w, i32_w]; rw [c26b0]) | skip)
    have H' := Aside0.mk H
    clear H
    go_wp2
    go_meet
    case rel => exact ⟨_, ((!(t375 == t381))), (by first | rfl | (simp; done) | (simp [*]; done)), H', ⟨by first | omega | exact Nat.le_refl _⟩, ⟨by (with_reducible repeat (first | apply Kd.V_alloc | apply Kd.V_drewN | apply Kd.V_drew)); exact Kd.V_mono HO367.out (fun _ hk => ⟨hk.1.2, hk.2⟩)⟩, ⟨by (with_reducible repeat (first | apply Kd.V_alloc | apply Kd.V_drewN | apply Kd.V_drew)); exact HO372.out⟩, ⟨by (with_reducible repeat (first | refine blk_drewN ?_ _ | refine blk_drew ?_ | refine blk_alloc ?_ _)); exact BK368.out⟩, ⟨by (with_reducible repeat (first | refine blk_drewN ?_ _ | refine blk_drew ?_ | refine blk_alloc ?_ _)); exact BK373.out⟩, ⟨by repeat (first | (with_reducible first | exact HB.out | apply below_alloc | apply pw_below_drewN | apply below_drew1 | refine below_set ?_ GE368.out | refine below_set ?_ GE373.out) | exact HB.out)⟩⟩
   ·rw [if_neg c26] at H
    have c26b0 : (t374 == t380) = false := beq_eq_false_iff_ne.mpr c26
    have c26b1 : (t374 != t380) = true := bne_iff_ne.mpr c26
    (first | rw [c26b0] | (simp only [i64_w, i32_w]; rw [c26b0]) | skip)
    have H' := Aside0.mk H
    clear H
    go_wp2
    go_meet
    case rel => exact ⟨_, (true), (by first | rfl | (simp; done) | (simp [*]; done)), H', ⟨by first | omega | exact Nat.le_refl _⟩, ⟨by (with_reducible repeat (first | apply Kd.V_alloc | apply Kd.V_drewN | apply Kd.V_drew)); exact Kd.V_mono HO367.out (fun _ hk => ⟨hk.1.2, hk.2⟩)⟩, ⟨by (with_reducible repeat (first | apply Kd.V_alloc | apply Kd.V_drewN | apply Kd.V_drew)); exact HO372.out⟩, ⟨by (with_reducible repeat (first | refine blk_drewN ?_ _ | refine blk_drew ?_ | refine blk_alloc ?_ _)); exact BK368.out⟩, ⟨by (with_reducible repeat (first | refine blk_drewN ?_ _ | refine blk_drew ?_ | refine blk_alloc ?_ _)); exact BK373.out⟩, ⟨by repeat (first | (with_reducible first | exact HB.out | apply below_alloc | apply pw_below_drewN | apply below_drew1 | refine below_set ?_ GE368.out | refine below_set ?_ GE373.out) | exact HB.out)⟩⟩
  case rest =>
   clear HC11
   try clear c1
   try clear c2
   try clear p2
   try clear c3
   try clear c5
   try clear c8
   try clear c19
   try clear c22
   try clear c23
   try clear c26
   try clear c26b0
   try clear c26b1
   try clear hcz15_0
   try clear hcz15_1
   try clear hcz20_0
   try clear hcz20_1
   try clear hcz22_0
   try clear hcz22_1
   try clear hfz15_0
   try clear hfz15_1
   try clear hfz20_0
   try clear hfz20_1
   try clear hfz22_0
   try clear hfz22_1
   obtain ⟨kq, x39_10, rfl, HA, HJ10, HO_369001, HO_374001, BK368, BK373, HB⟩ := hcut
   cases kq with
   | zero => exact absurd HA.out (by simp [publicanlaw1_NumChecked.j0])
   | succ kj10 =>
    have H := HA.out
    clear HA
    simp only [publicanlaw1_NumChecked.j0] at H
    by_cases c27 : x39_10 = true
    ·subst c27
     have H1 : (none) = some r := by rw [if_pos rfl] at H; exact H
     clear H
     have H := H1
     clear H1
     exact absurd H (by simp)
    ·replace c27 := Bool.eq_false_iff.mpr c27
     subst c27
     have H1 : ((num_Sub.f a0 a1).bind fun bt382 => ((publicanref1_Minus.f kj10 t369 t370).bind fun bt384 => ((publicanref1_Add.f kj10 t364 t365 bt384.1 bt384.2).bind fun bt388 => ((publicanref1_Int.f kj10 bt388.1 bt388.2).bind fun bt392 => (if bt382.1 = bt392.1 then (publicanlaw1_NumChecked.j1 kj10 a0 a1 a2 (!(bt382.2 == bt392.2)) t364 t365 t369 t370) else (publicanlaw1_NumChecked.j1 kj10 a0 a1 a2 true t364 t365 t369 t370)))))) = some r := by rw [if_neg (show ¬ (false = true) by decide)] at H; exact H
     clear H
     have H := H1
     clear H1
     replace H := Option.bind_eq_some_iff.mp H
     obtain ⟨⟨t382, t383⟩, A280, H⟩ := H
     replace H : ((publicanref1_Minus.f kj10 t369 t370).bind fun bt384 => ((publicanref1_Add.f kj10 t364 t365 bt384.1 bt384.2).bind fun bt388 => ((publicanref1_Int.f kj10 bt388.1 bt388.2).bind fun bt392 => (if t382 = bt392.1 then (publicanlaw1_NumChecked.j1 kj10 a0 a1 a2 (!(t383 == bt392.2)) t364 t365 t369 t370) else (publicanlaw1_NumChecked.j1 kj10 a0 a1 a2 true t364 t365 t369 t370))))) = some r := H
     have A28 := Aside0.mk A280
     clear A280
     replace H := Option.bind_eq_some_iff.mp H
     obtain ⟨⟨t384, t385⟩, A290, H⟩ := H
     replace H : ((publicanref1_Add.f kj10 t364 t365 t384 t385).bind fun bt388 => ((publicanref1_Int.f kj10 bt388.1 bt388.2).bind fun bt392 => (if t382 = bt392.1 then (publicanlaw1_NumChecked.j1 kj10 a0 a1 a2 (!(t383 == bt392.2)) t364 t365 t369 t370) else (publicanlaw1_NumChecked.j1 kj10 a0 a1 a2 true t364 t365 t369 t370)))) = some r := H
     have A29 := Aside0.mk A290
     clear A290
     replace H := Option.bind_eq_some_iff.mp H
     obtain ⟨⟨t388, t389⟩, A300, H⟩ := H
     replace H : ((publicanref1_Int.f kj10 t388 t389).bind fun bt392 => (if t382 = bt392.1 then (publicanlaw1_NumChecked.j1 kj10 a0 a1 a2 (!(t383 == bt392.2)) t364 t365 t369 t370) else (publicanlaw1_NumChecked.j1 kj10 a0 a1 a2 true t364 t365 t369 t370))) = some r := H
     have A30 := Aside0.mk A300
     clear A300
     replace H := Option.bind_eq_some_iff.mp H
     obtain ⟨⟨t392, t393⟩, A310, H⟩ := H
     replace H : (if t382 = t392 then (publicanlaw1_NumChecked.j1 kj10 a0 a1 a2 (!(t383 == t393)) t364 t365 t369 t370) else (publicanlaw1_NumChecked.j1 kj10 a0 a1 a2 true t364 t365 t369 t370)) = some r := H
     have A31 := Aside0.mk A310
     clear A310
     have HC32 := Aside0.mk H
     clear H
     try go_wp2_with (first | ((with_reducible refine gate_callee (f := 24) rfl ?_); refine goesL_ (some 43) rfl rfl Try.func24 (by kernel_rfl) rfl #[.int .i64 a0, .int .i64 a1] rfl (by (try simp only [List.map_toArray, List.map_cons, List.map_nil]); first | done | rfl | (simp only [List.length_drop, List.length_take]; rfl)) ?_; (with_reducible refine (num_Sub.calls a0 a1 t382 t383 _ A28.out).mono ?_); rintro e w' ⟨rfl, ⟨nd, rfl⟩⟩; refine ⟨_, rfl, ?_⟩))
     (try (rw [drewN_self wc]; generalize hq_ : World.drewN wc _ = wc; have n0_ : Aside0 (Kd.V (Kd.int .u64) 46 wc w.heap.size (fun k_ => k_ ≠ gb368 ∧ k_ ≠ gb373) (.slice Ao16 t365.length co16) t365) := ⟨by rw [← hq_]; exact (by (with_reducible repeat (first | apply Kd.V_alloc | apply Kd.V_drewN | apply Kd.V_drew)); exact HO_369001.out)⟩; have n1_ : Aside0 (Kd.V (Kd.int .u64) 46 wc w.heap.size (fun k_ => k_ ≠ gb368 ∧ k_ ≠ gb373) (.slice Ao21 t370.length co21) t370) := ⟨by rw [← hq_]; exact (by (with_reducible repeat (first | apply Kd.V_alloc | apply Kd.V_drewN | apply Kd.V_drew)); exact HO_374001.out)⟩; have n2_ : Aside0 (wc.heap[gb368]? = some (.cells #[.bool t364, .slice Ao16 t365.length co16] 55 (0, 0))) := ⟨by rw [← hq_]; exact (by (with_reducible repeat (first | refine blk_drewN ?_ _ | refine blk_drew ?_ | refine blk_alloc ?_ _)); exact BK368.out)⟩; have n3_ : Aside0 (wc.heap[gb373]? = some (.cells #[.bool t369, .slice Ao21 t370.length co21] 55 (0, 0))) := ⟨by rw [← hq_]; exact (by (with_reducible repeat (first | refine blk_drewN ?_ _ | refine blk_drew ?_ | refine blk_alloc ?_ _)); exact BK373.out)⟩; have n4_ : Aside0 (Below w.heap.size w wc) := ⟨by rw [← hq_]; exact (by repeat (first | (with_reducible first | exact HB.out | apply below_alloc | apply pw_below_drewN | apply below_drew1 | refine below_set ?_ GE368.out | refine below_set ?_ GE373.out) | exact HB.out))⟩; clear HO_369001 HO_374001 BK368 BK373 HB hq_; have HO_369001 := n0_; have HO_374001 := n1_; have BK368 := n2_; have BK373 := n3_; have HB := n4_; clear n0_ n1_ n2_ n3_ n4_))
     (try (have hcz33_0 : wc.cell? ⟨gb368, 0, none⟩ = some (.bool t364) := (blk_cell BK368.out 0).trans rfl))
     (try (have hcz33_1 : wc.cell? ⟨gb368, 1, none⟩ = some (.slice Ao16 t365.length co16) := (blk_cell BK368.out 1).trans rfl))
     (try (have hcz34_0 : wc.cell? ⟨gb373, 0, none⟩ = some (.bool t369) := (blk_cell BK373.out 0).trans rfl))
     (try (have hcz34_1 : wc.cell? ⟨gb373, 1, none⟩ = some (.slice Ao21 t370.length co21) := (blk_cell BK373.out 1).trans rfl))
     have n0_ := Aside0.mk (Kd.V_drew HO_369001.out)
     have n1_ := Aside0.mk (Kd.V_drew HO_374001.out)
     have n2_ := Aside0.mk (blk_drew BK368.out)
     have n3_ := Aside0.mk (blk_drew BK373.out)
     have n4_ := Aside0.mk (below_drew1 HB.out)
     clear HO_369001
     clear HO_374001
     clear BK368
     clear BK373
     clear HB
     have HO_369001 := n0_
     have HO_374001 := n1_
     have BK368 := n2_
     have BK373 := n3_
     have HB := n4_
     clear n0_ n1_ n2_ n3_ n4_
     refine start_ (n := 10) (S := fun w' => w'.cell? ⟨gb368, 0, none⟩ = some (.bool t364) ∧ w'.cell? ⟨gb368, 1, none⟩ = some (.slice Ao16 t365.length co16) ∧ w'.cell? ⟨gb373, 0, none⟩ = some (.bool t369) ∧ w'.cell? ⟨gb373, 1, none⟩ = some (.slice Ao21 t370.length co21)) (ds := []) #[false, false, false, false, false, false, false, false, false, false] (by kernel_rfl) rfl rfl ⟨(blk_cell BK368.out 0).trans rfl, (blk_cell BK368.out 1).trans rfl, (blk_cell BK373.out 0).trans rfl, (blk_cell BK373.out 1).trans rfl⟩ (fun hHeld => ?_); refine with_tabW publicanlaw1_NumChecked.tab10 publicanlaw1_NumChecked.bits10 (fun HT_ HW_ => ?_)
     generalize wc.drew = w35 at HO_369001 HO_374001 BK368 BK373 HB hHeld ⊢
     refine take_ (i := 0) (N := some 47) (v := ?_) (a' := ?_) #[true, false, false, false, false, false, false, false, false, false] rfl rfl (take_ofW HT_.out HW_.out (by kernel_rfl)) (fun _ _ _ h => h) (Or.inl ⟨by rfl, ?_⟩) hHeld ?_ ?_
     rotate_left
     ·rintro w' ⟨s0, s1, s2, s3⟩
      go_simp
      with_reducible rfl
     rotate_left
     ·simp only [Act.put, List.setIfInBounds_toArray, List.set_cons_zero, List.set_cons_succ, i64_w, i32_w]
      rfl
     refine take_ (i := 1) (N := some 48) (v := ?_) (a' := ?_) #[true, true, false, false, false, false, false, false, false, false] rfl rfl (take_ofW HT_.out HW_.out (by kernel_rfl)) (fun _ _ _ h => h) (Or.inl ⟨by rfl, ?_⟩) hHeld ?_ ?_
     rotate_left
     ·rintro w' ⟨s0, s1, s2, s3⟩
      go_simp
      with_reducible rfl
     rotate_left
     ·simp only [Act.put, List.setIfInBounds_toArray, List.set_cons_zero, List.set_cons_succ, i64_w, i32_w]
      rfl
     refine one_ (i := 2) (N := some 49) #[true, true, true, false, false, false, false, false, false, false] rfl rfl (one_of HT_.out (by kernel_rfl)) (by decide) (fun K hK => ?_)
     refine goes_ Try.func34 (by kernel_rfl) rfl #[.agg #[.bool t369, .slice Ao21 t370.length co21]] (by rfl) rfl rfl (by (try simp only [List.map_toArray, List.map_cons, List.map_nil]); first | done | rfl | (simp only [List.length_drop, List.length_take]; rfl)) ?_
     with_reducible refine (publicanref1_Minus.calls kj10 t369 (fun k_ => (k_ ≠ gb368 ∧ k_ ≠ gb373)) _ _ t370 t384 t385 _ ?side1 A29.out).mono ?_
     (case side1 => exact HO_374001.out)
     rintro e w36 ⟨v386, rfl, ho0, hb⟩
     refine ⟨_, rfl, ?_⟩
     have n0_ := Aside0.mk (Kd.V_below (by (with_reducible repeat (first | apply Kd.V_alloc | apply Kd.V_drewN | apply Kd.V_drew)); exact HO_369001.out) hb)
     have n1_ := Aside0.mk (Kd.V_below (by (with_reducible repeat (first | apply Kd.V_alloc | apply Kd.V_drewN | apply Kd.V_drew)); exact HO_374001.out) hb)
     have n2_ := Aside0.mk (Kd.V_lower (Kd.V_mono (ok' := fun k_ => k_ ≠ gb368 ∧ k_ ≠ gb373) ho0 (fun k_ hk_ => ⟨Or.elim hk_ (fun hs_ => hs_.1) (fun hn_ => (Kd.freshB (g := gb368) (o := .cells #[.bool t364, .slice Ao16 t365.length co16] 55 (0, 0)) (by (with_reducible repeat (first | refine blk_drewN ?_ _ | refine blk_drew ?_ | refine blk_alloc ?_ _)); exact BK368.out) k_ hn_)), Or.elim hk_ (fun hs_ => hs_.2) (fun hn_ => (Kd.freshB (g := gb373) (o := .cells #[.bool t369, .slice Ao21 t370.length co21] 55 (0, 0)) (by (with_reducible repeat (first | refine blk_drewN ?_ _ | refine blk_drew ?_ | refine blk_alloc ?_ _)); exact BK373.out) k_ hn_))⟩)) (below_size (by repeat (first | (with_reducible first | exact HB.out | apply below_alloc | apply pw_below_drewN | apply below_drew1 | refine below_set ?_ GE368.out | refine below_set ?_ GE373.out) | exact HB.out))))
     have n3_ := Aside0.mk (blk_below (g := gb368) (o := .cells #[.bool t364, .slice Ao16 t365.length co16] 55 (0, 0)) (by (with_reducible repeat (first | refine blk_drewN ?_ _ | refine blk_drew ?_ | refine blk_alloc ?_ _)); exact BK368.out) hb)
     have n4_ := Aside0.mk (blk_below (g := gb373) (o := .cells #[.bool t369, .slice Ao21 t370.length co21] 55 (0, 0)) (by (with_reducible repeat (first | refine blk_drewN ?_ _ | refine blk_drew ?_ | refine blk_alloc ?_ _)); exact BK373.out) hb)
     have n5_ := Aside0.mk (below_step (by repeat (first | (with_reducible first | exact HB.out | apply below_alloc | apply pw_below_drewN | apply below_drew1 | refine below_set ?_ GE368.out | refine below_set ?_ GE373.out) | exact HB.out)) hb)
     clear HO_369001
     clear HO_374001
     clear BK368
     clear BK373
     clear HB
     have HO_369001 := n0_
     have HO_374001 := n1_
     have HO387 := n2_
     have BK368 := n3_
     have BK373 := n4_
     have HB := n5_
     clear n0_ n1_ n2_ n3_ n4_ n5_
     (try clear hb)
     (try clear hb2)
     (try clear hk)
     (try clear hi)
     (try clear ho0)
     obtain ⟨Ao37, co37, eo37⟩ := Kd.V_slice HO387.out
     (first | subst eo37 | (injection eo37 with f1_ f2_ f3_; have f4_ := f1_.symm; have f5_ := f3_.symm; clear f1_ f2_ f3_; subst f4_; subst f5_))
     refine hK.out _ _ ⟨(blk_cell BK368.out 0).trans rfl, (blk_cell BK368.out 1).trans rfl, (blk_cell BK373.out 0).trans rfl, (blk_cell BK373.out 1).trans rfl⟩ (fun hHeld => ?_)
     clear hK K
     refine norm_ (a' := ?_) ?_ ?_
     rotate_left
     ·show Act.put _ (some 49) _ = _
      simp only [Act.put, List.setIfInBounds_toArray, List.set_cons_zero, List.set_cons_succ, i64_w, i32_w]
      rfl
     refine one_ (i := 3) (N := some 50) #[true, true, true, true, false, false, false, false, false, false] rfl rfl (one_of HT_.out (by kernel_rfl)) (by decide) (fun K hK => ?_)
     refine goes_ Try.func33 (by kernel_rfl) rfl #[.agg #[.bool t364, .slice Ao16 t365.length co16], .agg #[.bool t384, .slice Ao37 t385.length co37]] (by rfl) rfl rfl (by (try simp only [List.map_toArray, List.map_cons, List.map_nil]); first | done | rfl | (simp only [List.length_drop, List.length_take]; rfl)) ?_
     with_reducible refine (publicanref1_Add.calls kj10 t364 _ _ t365 t384 _ _ t385 t388 t389 _ ?side1 ?side2 ?side3 ?side4 A30.out).mono ?_
     (case side1 => repeat (first | exact (Kd.V_reads' HO_369001.out).2.2 | (with_reducible refine Kd.C_alloc ?_ _) | (with_reducible refine Kd.C_drewN ?_ _) | (with_reducible refine Kd.C_drew ?_)))
     (case side2 => exact (Kd.V_reads' HO_369001.out).2.1)
     (case side3 => repeat (first | exact (Kd.V_reads' HO387.out).2.2 | (with_reducible refine Kd.C_alloc ?_ _) | (with_reducible refine Kd.C_drewN ?_ _) | (with_reducible refine Kd.C_drew ?_)))
     (case side4 => exact (Kd.V_reads' HO387.out).2.1)
     rintro e w38 ⟨v390, rfl, ho0, hb⟩
     refine ⟨_, rfl, ?_⟩
     have n0_ := Aside0.mk (Kd.V_below (by (with_reducible repeat (first | apply Kd.V_alloc | apply Kd.V_drewN | apply Kd.V_drew)); exact HO_369001.out) hb)
     have n1_ := Aside0.mk (Kd.V_below (by (with_reducible repeat (first | apply Kd.V_alloc | apply Kd.V_drewN | apply Kd.V_drew)); exact HO_374001.out) hb)
     have n2_ := Aside0.mk (Kd.V_below (by (with_reducible repeat (first | apply Kd.V_alloc | apply Kd.V_drewN | apply Kd.V_drew)); exact HO387.out) hb)
     have n3_ := Aside0.mk (Kd.V_lower (Kd.V_mono (ok' := fun k_ => k_ ≠ gb368 ∧ k_ ≠ gb373) ho0 (fun k_ hk_ => ⟨(Kd.freshB (g := gb368) (o := .cells #[.bool t364, .slice Ao16 t365.length co16] 55 (0, 0)) (by (with_reducible repeat (first | refine blk_drewN ?_ _ | refine blk_drew ?_ | refine blk_alloc ?_ _)); exact BK368.out) k_ hk_), (Kd.freshB (g := gb373) (o := .cells #[.bool t369, .slice Ao21 t370.length co21] 55 (0, 0)) (by (with_reducible repeat (first | refine blk_drewN ?_ _ | refine blk_drew ?_ | refine blk_alloc ?_ _)); exact BK373.out) k_ hk_)⟩)) (below_size (by repeat (first | (with_reducible first | exact HB.out | apply below_alloc | apply pw_below_drewN | apply below_drew1 | refine below_set ?_ GE368.out | refine below_set ?_ GE373.out) | exact HB.out))))
     have n4_ := Aside0.mk (blk_below (g := gb368) (o := .cells #[.bool t364, .slice Ao16 t365.length co16] 55 (0, 0)) (by (with_reducible repeat (first | refine blk_drewN ?_ _ | refine blk_drew ?_ | refine blk_alloc ?_ _)); exact BK368.out) hb)
     have n5_ := Aside0.mk (blk_below (g := gb373) (o := .cells #[.bool t369, .slice Ao21 t370.length co21] 55 (0, 0)) (by (with_reducible repeat (first | refine blk_drewN ?_ _ | refine blk_drew ?_ | refine blk_alloc ?_ _)); exact BK373.out) hb)
     have n6_ := Aside0.mk (below_step (by repeat (first | (with_reducible first | exact HB.out | apply below_alloc | apply pw_below_drewN | apply below_drew1 | refine below_set ?_ GE368.out | refine below_set ?_ GE373.out) | exact HB.out)) hb)
     clear HO_369001
     clear HO_374001
     clear HO387
     clear BK368
     clear BK373
     clear HB
     have HO_369001 := n0_
     have HO_374001 := n1_
     have HO387 := n2_
     have HO391 := n3_
     have BK368 := n4_
     have BK373 := n5_
     have HB := n6_
     clear n0_ n1_ n2_ n3_ n4_ n5_ n6_
     (try clear hb)
     (try clear hb2)
     (try clear hk)
     (try clear hi)
     (try clear ho0)
     obtain ⟨Ao39, co39, eo39⟩ := Kd.V_slice HO391.out
     (first | subst eo39 | (injection eo39 with f1_ f2_ f3_; have f4_ := f1_.symm; have f5_ := f3_.symm; clear f1_ f2_ f3_; subst f4_; subst f5_))
     refine hK.out _ _ ⟨(blk_cell BK368.out 0).trans rfl, (blk_cell BK368.out 1).trans rfl, (blk_cell BK373.out 0).trans rfl, (blk_cell BK373.out 1).trans rfl⟩ (fun hHeld => ?_)
     clear hK K
     refine norm_ (a' := ?_) ?_ ?_
     rotate_left
     ·show Act.put _ (some 50) _ = _
      simp only [Act.put, List.setIfInBounds_toArray, List.set_cons_zero, List.set_cons_succ, i64_w, i32_w]
      rfl
     refine one_ (i := 4) (N := some 51) #[true, true, true, true, true, false, false, false, false, false] rfl rfl (one_of HT_.out (by kernel_rfl)) (by decide) (fun K hK => ?_)
     refine goes_ Try.func32 (by kernel_rfl) rfl #[.agg #[.bool t388, .slice Ao39 t389.length co39]] (by rfl) rfl rfl (by (try simp only [List.map_toArray, List.map_cons, List.map_nil]); first | done | rfl | (simp only [List.length_drop, List.length_take]; rfl)) ?_
     with_reducible refine (publicanref1_Int.calls kj10 t388 _ _ t389 t392 t393 _ ?side1 ?side2 A31.out).mono ?_
     (case side1 => repeat (first | exact (Kd.V_reads' HO391.out).2.2 | (with_reducible refine Kd.C_alloc ?_ _) | (with_reducible refine Kd.C_drewN ?_ _) | (with_reducible refine Kd.C_drew ?_)))
     (case side2 => exact (Kd.V_reads' HO391.out).2.1)
     rintro e w40 ⟨rfl, hb⟩
     refine ⟨_, rfl, ?_⟩
     have n0_ := Aside0.mk (Kd.V_below (by (with_reducible repeat (first | apply Kd.V_alloc | apply Kd.V_drewN | apply Kd.V_drew)); exact HO_369001.out) hb)
     have n1_ := Aside0.mk (Kd.V_below (by (with_reducible repeat (first | apply Kd.V_alloc | apply Kd.V_drewN | apply Kd.V_drew)); exact HO_374001.out) hb)
     have n2_ := Aside0.mk (Kd.V_below (by (with_reducible repeat (first | apply Kd.V_alloc | apply Kd.V_drewN | apply Kd.V_drew)); exact HO387.out) hb)
     have n3_ := Aside0.mk (Kd.V_below (by (with_reducible repeat (first | apply Kd.V_alloc | apply Kd.V_drewN | apply Kd.V_drew)); exact HO391.out) hb)
     have n4_ := Aside0.mk (blk_below (g := gb368) (o := .cells #[.bool t364, .slice Ao16 t365.length co16] 55 (0, 0)) (by (with_reducible repeat (first | refine blk_drewN ?_ _ | refine blk_drew ?_ | refine blk_alloc ?_ _)); exact BK368.out) hb)
     have n5_ := Aside0.mk (blk_below (g := gb373) (o := .cells #[.bool t369, .slice Ao21 t370.length co21] 55 (0, 0)) (by (with_reducible repeat (first | refine blk_drewN ?_ _ | refine blk_drew ?_ | refine blk_alloc ?_ _)); exact BK373.out) hb)
     have n6_ := Aside0.mk (below_step (by repeat (first | (with_reducible first | exact HB.out | apply below_alloc | apply pw_below_drewN | apply below_drew1 | refine below_set ?_ GE368.out | refine below_set ?_ GE373.out) | exact HB.out)) hb)
     clear HO_369001
     clear HO_374001
     clear HO387
     clear HO391
     clear BK368
     clear BK373
     clear HB
     have HO_369001 := n0_
     have HO_374001 := n1_
     have HO387 := n2_
     have HO391 := n3_
     have BK368 := n4_
     have BK373 := n5_
     have HB := n6_
     clear n0_ n1_ n2_ n3_ n4_ n5_ n6_
     (try clear hb)
     (try clear hb2)
     (try clear hk)
     (try clear hi)
     refine hK.out _ _ ⟨(blk_cell BK368.out 0).trans rfl, (blk_cell BK368.out 1).trans rfl, (blk_cell BK373.out 0).trans rfl, (blk_cell BK373.out 1).trans rfl⟩ (fun hHeld => ?_)
     clear hK K
     refine norm_ (a' := ?_) ?_ ?_
     rotate_left
     ·show Act.put _ (some 51) _ = _
      simp only [Act.put, List.setIfInBounds_toArray, List.set_cons_zero, List.set_cons_succ, i64_w, i32_w]
      rfl
     refine pure_ (i := 5) (N := some 46) (v := ?_) (a' := ?_) #[true, true, true, true, true, true, false, false, false, false] rfl rfl (any_of HT_.out (by kernel_rfl)) (fun _ _ _ h => h) (Or.inl ⟨by rfl, ?_⟩) ?_ ?_
     rotate_left
     ·intro w'
      go_simp
      with_reducible rfl
     rotate_left
     ·simp only [Act.put, List.setIfInBounds_toArray, List.set_cons_zero, List.set_cons_succ, i64_w, i32_w]
      rfl
     refine pure_ (i := 6) (N := some 52) (v := ?_) (a' := ?_) #[true, true, true, true, true, true, true, false, false, false] rfl rfl (any_of HT_.out (by kernel_rfl)) (fun _ _ _ h => h) (Or.inl ⟨by rfl, ?_⟩) ?_ ?_
     rotate_left
     ·intro w'
      go_simp
      with_reducible rfl
     rotate_left
     ·simp only [Act.put, List.setIfInBounds_toArray, List.set_cons_zero, List.set_cons_succ, i64_w, i32_w]
      rfl
     refine pure_ (i := 7) (N := some 53) (v := ?_) (a' := ?_) #[true, true, true, true, true, true, true, true, false, false] rfl rfl (any_of HT_.out (by kernel_rfl)) (fun _ _ _ h => h) (Or.inl ⟨by rfl, ?_⟩) ?_ ?_
     rotate_left
     ·intro w'
      go_simp
      with_reducible rfl
     rotate_left
     ·simp only [Act.put, List.setIfInBounds_toArray, List.set_cons_zero, List.set_cons_succ, i64_w, i32_w]
      rfl
     refine pure_ (i := 8) (N := some 11) (v := ?_) (a' := ?_) #[true, true, true, true, true, true, true, true, true, false] rfl rfl (any_of HT_.out (by kernel_rfl)) (fun _ _ _ h => h) (Or.inl ⟨by rfl, ?_⟩) ?_ ?_
     rotate_left
     ·intro w'
      go_simp
      with_reducible rfl
     rotate_left
     ·simp only [Act.put, List.setIfInBounds_toArray, List.set_cons_zero, List.set_cons_succ, i64_w, i32_w]
      rfl
     refine pure_ (i := 9) (N := some 12) (v := ?_) (a' := ?_) #[true, true, true, true, true, true, true, true, true, true] rfl rfl (any_of HT_.out (by kernel_rfl)) (fun _ _ _ h => h) (Or.inl ⟨by rfl, ?_⟩) ?_ ?_
     rotate_left
     ·intro w'
      go_simp
      with_reducible rfl
     rotate_left
     ·simp only [Act.put, List.setIfInBounds_toArray, List.set_cons_zero, List.set_cons_succ, i64_w, i32_w]
      rfl
     refine done_ (done_of HT_.out (by kernel_rfl)) ?_
     go_upto_region 11 with (fail)
     go_cut [61] (fun v61 wc => ∃ (kq : Nat) (x61_31 : Bool), v61 = .bool x61_31 ∧ Aside0 (publicanlaw1_NumChecked.j1 kq a0 a1 a2 x61_31 t364 t365 t369 t370 = some r) ∧ Aside0 (kq ≤ kj10) ∧ Aside0 (Kd.V (Kd.int .u64) 46 wc w.heap.size (fun k_ => k_ ≠ gb368 ∧ k_ ≠ gb373) (.slice Ao16 t365.length co16) t365) ∧ Aside0 (Kd.V (Kd.int .u64) 46 wc w.heap.size (fun k_ => k_ ≠ gb368 ∧ k_ ≠ gb373) (.slice Ao21 t370.length co21) t370) ∧ Aside0 (wc.heap[gb368]? = some (.cells #[.bool t364, (.slice Ao16 t365.length co16)] 55 (0, 0))) ∧ Aside0 (wc.heap[gb373]? = some (.cells #[.bool t369, (.slice Ao21 t370.length co21)] 55 (0, 0))) ∧ Aside0 (Below w.heap.size w wc))
     case first =>
      have H := HC32.out
      clear HC32
      by_cases c41 : t382 = t392
      ·rw [if_pos c41] at H
       have c41b0 : (t382 == t392) = true := beq_iff_eq.mpr c41
       have c41b1 : (t382 != t392) = false := bne_eq_false_iff_eq.mpr c41
       clear c41
       (first | rw [c41b0] | (simp only [i64_w, i32_w]; rw [c41b0]) | skip)
       have H' := Aside0.mk H
       clear H
       go_wp2
       go_meet
       case rel => exact ⟨_, ((!(t383 == t393))), (by first | rfl | (simp; done) | (simp [*]; done)), H', ⟨by have := HJ10.out; first | omega | exact Nat.le_refl _⟩, ⟨by (with_reducible repeat (first | apply Kd.V_alloc | apply Kd.V_drewN | apply Kd.V_drew)); exact HO_369001.out⟩, ⟨by (with_reducible repeat (first | apply Kd.V_alloc | apply Kd.V_drewN | apply Kd.V_drew)); exact HO_374001.out⟩, ⟨by (with_reducible repeat (first | refine blk_drewN ?_ _ | refine blk_drew ?_ | refine blk_alloc ?_ _)); exact BK368.out⟩, ⟨by (with_reducible repeat (first | refine blk_drewN ?_ _ | refine blk_drew ?_ | refine blk_alloc ?_ _)); exact BK373.out⟩, ⟨by repeat (first | (with_reducible first | exact HB.out | apply below_alloc | apply pw_below_drewN | apply below_drew1 | refine below_set ?_ GE368.out | refine below_set ?_ GE373.out) | exact HB.out)⟩⟩
      ·rw [if_neg c41] at H
       have c41b0 : (t382 == t392) = false := beq_eq_false_iff_ne.mpr c41
       have c41b1 : (t382 != t392) = true := bne_iff_ne.mpr c41
       (first | rw [c41b0] | (simp only [i64_w, i32_w]; rw [c41b0]) | skip)
       have H' := Aside0.mk H
       clear H
       go_wp2
       go_meet
       case rel => exact ⟨_, (true), (by first | rfl | (simp; done) | (simp [*]; done)), H', ⟨by have := HJ10.out; first | omega | exact Nat.le_refl _⟩, ⟨by (with_reducible repeat (first | apply Kd.V_alloc | apply Kd.V_drewN | apply Kd.V_drew)); exact HO_369001.out⟩, ⟨by (with_reducible repeat (first | apply Kd.V_alloc | apply Kd.V_drewN | apply Kd.V_drew)); exact HO_374001.out⟩, ⟨by (with_reducible repeat (first | refine blk_drewN ?_ _ | refine blk_drew ?_ | refine blk_alloc ?_ _)); exact BK368.out⟩, ⟨by (with_reducible repeat (first | refine blk_drewN ?_ _ | refine blk_drew ?_ | refine blk_alloc ?_ _)); exact BK373.out⟩, ⟨by repeat (first | (with_reducible first | exact HB.out | apply below_alloc | apply pw_below_drewN | apply below_drew1 | refine below_set ?_ GE368.out | refine below_set ?_ GE373.out) | exact HB.out)⟩⟩
     case rest =>
      clear HC32
      try clear c1
      try clear c2
      try clear p2
      try clear c3
      try clear c4
      try clear c5
      try clear c8
      try clear c19
      try clear c22
      try clear c23
      try clear c24
      try clear c26
      try clear c26b0
      try clear c26b1
      try clear c27
      try clear c31
      try clear c32
      try clear c33
      try clear c34
      try clear c41
      try clear c41b0
      try clear c41b1
      try clear hcz15_0
      try clear hcz15_1
      try clear hcz20_0
      try clear hcz20_1
      try clear hcz22_0
      try clear hcz22_1
      try clear hcz33_0
      try clear hcz33_1
      try clear hcz34_0
      try clear hcz34_1
      try clear hfz15_0
      try clear hfz15_1
      try clear hfz20_0
      try clear hfz20_1
      try clear hfz22_0
      try clear hfz22_1
      try clear p2
      obtain ⟨kq, x61_31, rfl, HA, HJ31, HO_369001, HO_374001, BK368, BK373, HB⟩ := hcut
      cases kq with
      | zero => exact absurd HA.out (by simp [publicanlaw1_NumChecked.j1])
      | succ kj31 =>
       have H := HA.out
       clear HA
       simp only [publicanlaw1_NumChecked.j1] at H
       by_cases c42 : x61_31 = true
       ·subst c42
        have H1 : (none) = some r := by rw [if_pos rfl] at H; exact H
        clear H
        have H := H1
        clear H1
        exact absurd H (by simp)
       ·replace c42 := Bool.eq_false_iff.mpr c42
        subst c42
        have H1 : ((num_Mul.f a0 a1).bind fun bt394 => ((publicanref1_Mul.f kj31 t364 t365 t369 t370).bind fun bt396 => ((publicanref1_Int.f kj31 bt396.1 bt396.2).bind fun bt400 => (if bt394.1 = bt400.1 then (publicanlaw1_NumChecked.j2 kj31 a0 a1 a2 (!(bt394.2 == bt400.2)) t364 t365 t369 t370) else (publicanlaw1_NumChecked.j2 kj31 a0 a1 a2 true t364 t365 t369 t370))))) = some r := by rw [if_neg (show ¬ (false = true) by decide)] at H; exact H
        clear H
        have H := H1
        clear H1
        replace H := Option.bind_eq_some_iff.mp H
        obtain ⟨⟨t394, t395⟩, A430, H⟩ := H
        replace H : ((publicanref1_Mul.f kj31 t364 t365 t369 t370).bind fun bt396 => ((publicanref1_Int.f kj31 bt396.1 bt396.2).bind fun bt400 => (if t394 = bt400.1 then (publicanlaw1_NumChecked.j2 kj31 a0 a1 a2 (!(t395 == bt400.2)) t364 t365 t369 t370) else (publicanlaw1_NumChecked.j2 kj31 a0 a1 a2 true t364 t365 t369 t370)))) = some r := H
        have A43 := Aside0.mk A430
        clear A430
        replace H := Option.bind_eq_some_iff.mp H
        obtain ⟨⟨t396, t397⟩, A440, H⟩ := H
        replace H : ((publicanref1_Int.f kj31 t396 t397).bind fun bt400 => (if t394 = bt400.1 then (publicanlaw1_NumChecked.j2 kj31 a0 a1 a2 (!(t395 == bt400.2)) t364 t365 t369 t370) else (publicanlaw1_NumChecked.j2 kj31 a0 a1 a2 true t364 t365 t369 t370))) = some r := H
        have A44 := Aside0.mk A440
        clear A440
        replace H := Option.bind_eq_some_iff.mp H
        obtain ⟨⟨t400, t401⟩, A450, H⟩ := H
        replace H : (if t394 = t400 then (publicanlaw1_NumChecked.j2 kj31 a0 a1 a2 (!(t395 == t401)) t364 t365 t369 t370) else (publicanlaw1_NumChecked.j2 kj31 a0 a1 a2 true t364 t365 t369 t370)) = some r := H
        have A45 := Aside0.mk A450
        clear A450
        have HC46 := Aside0.mk H
        clear H
        go_upto_region 15 with (first | ((with_reducible refine gate_callee (f := 25) rfl ?_); refine goesL_ (some 65) rfl rfl Try.func25 (by kernel_rfl) rfl #[.int .i64 a0, .int .i64 a1] rfl (by (try simp only [List.map_toArray, List.map_cons, List.map_nil]); first | done | rfl | (simp only [List.length_drop, List.length_take]; rfl)) ?_; (with_reducible refine (num_Mul.calls a0 a1 t394 t395 _ A43.out).mono ?_); rintro e w47 ⟨rfl, hb⟩; refine ⟨_, rfl, ?_⟩; have n0_ := Aside0.mk (Kd.V_below (by (with_reducible repeat (first | apply Kd.V_alloc | apply Kd.V_drewN | apply Kd.V_drew)); exact HO_369001.out) hb); have n1_ := Aside0.mk (Kd.V_below (by (with_reducible repeat (first | apply Kd.V_alloc | apply Kd.V_drewN | apply Kd.V_drew)); exact HO_374001.out) hb); have n2_ := Aside0.mk (blk_below (g := gb368) (o := .cells #[.bool t364, .slice Ao16 t365.length co16] 55 (0, 0)) (by (with_reducible repeat (first | refine blk_drewN ?_ _ | refine blk_drew ?_ | refine blk_alloc ?_ _)); exact BK368.out) hb); have n3_ := Aside0.mk (blk_below (g := gb373) (o := .cells #[.bool t369, .slice Ao21 t370.length co21] 55 (0, 0)) (by (with_reducible repeat (first | refine blk_drewN ?_ _ | refine blk_drew ?_ | refine blk_alloc ?_ _)); exact BK373.out) hb); have n4_ := Aside0.mk (below_step (by repeat (first | (with_reducible first | exact HB.out | apply below_alloc | apply pw_below_drewN | apply below_drew1 | refine below_set ?_ GE368.out | refine below_set ?_ GE373.out) | exact HB.out)) hb); clear HO_369001; clear HO_374001; clear BK368; clear BK373; clear HB; have HO_369001 := n0_; have HO_374001 := n1_; have BK368 := n2_; have BK373 := n3_; have HB := n4_; clear n0_ n1_ n2_ n3_ n4_; (try clear hb); (try clear hb2); (try clear hk); (try clear hi); have hnb48 := NB368_373.out; have hnc48 := NB373_368.out; have hcz49_0 : w47.cell? ⟨gb368, 0, none⟩ = some (.bool t364) := (blk_cell BK368.out 0).trans rfl; have hcz49_1 : w47.cell? ⟨gb368, 1, none⟩ = some (.slice Ao16 t365.length co16) := (blk_cell BK368.out 1).trans rfl; have hfz49_0 := blk_frozen BK368.out 0; have hfz49_1 := blk_frozen BK368.out 1; have hcz50_0 : w47.cell? ⟨gb373, 0, none⟩ = some (.bool t369) := (blk_cell BK373.out 0).trans rfl; have hcz50_1 : w47.cell? ⟨gb373, 1, none⟩ = some (.slice Ao21 t370.length co21) := (blk_cell BK373.out 1).trans rfl; have hfz50_0 := blk_frozen BK373.out 0; have hfz50_1 := blk_frozen BK373.out 1) | ((with_reducible refine gate_callee (f := 35) rfl ?_); refine goesL_ (some 71) rfl rfl Try.func35 (by kernel_rfl) rfl #[.agg #[.bool t364, .slice Ao16 t365.length co16], .agg #[.bool t369, .slice Ao21 t370.length co21]] rfl (by (try simp only [List.map_toArray, List.map_cons, List.map_nil]); first | done | rfl | (simp only [List.length_drop, List.length_take]; rfl)) ?_; (with_reducible refine (publicanref1_Mul.calls kj31 t364 _ _ t365 t369 _ _ t370 t396 t397 _ ?side1 ?side2 ?side3 ?side4 A44.out).mono ?_); (case side1 => repeat (first | exact (Kd.V_reads' HO_369001.out).2.2 | (with_reducible refine Kd.C_alloc ?_ _) | (with_reducible refine Kd.C_drewN ?_ _) | (with_reducible refine Kd.C_drew ?_))); (case side2 => exact (Kd.V_reads' HO_369001.out).2.1); (case side3 => repeat (first | exact (Kd.V_reads' HO_374001.out).2.2 | (with_reducible refine Kd.C_alloc ?_ _) | (with_reducible refine Kd.C_drewN ?_ _) | (with_reducible refine Kd.C_drew ?_))); (case side4 => exact (Kd.V_reads' HO_374001.out).2.1); rintro e w51 ⟨v398, rfl, ho0, hb⟩; refine ⟨_, rfl, ?_⟩; have n0_ := Aside0.mk (Kd.V_below (by (with_reducible repeat (first | apply Kd.V_alloc | apply Kd.V_drewN | apply Kd.V_drew)); exact HO_369001.out) hb); have n1_ := Aside0.mk (Kd.V_below (by (with_reducible repeat (first | apply Kd.V_alloc | apply Kd.V_drewN | apply Kd.V_drew)); exact HO_374001.out) hb); have n2_ := Aside0.mk (Kd.V_lower (Kd.V_mono (ok' := fun k_ => k_ ≠ gb368 ∧ k_ ≠ gb373) ho0 (fun k_ hk_ => ⟨(Kd.freshB (g := gb368) (o := .cells #[.bool t364, .slice Ao16 t365.length co16] 55 (0, 0)) (by (with_reducible repeat (first | refine blk_drewN ?_ _ | refine blk_drew ?_ | refine blk_alloc ?_ _)); exact BK368.out) k_ hk_), (Kd.freshB (g := gb373) (o := .cells #[.bool t369, .slice Ao21 t370.length co21] 55 (0, 0)) (by (with_reducible repeat (first | refine blk_drewN ?_ _ | refine blk_drew ?_ | refine blk_alloc ?_ _)); exact BK373.out) k_ hk_)⟩)) (below_size (by repeat (first | (with_reducible first | exact HB.out | apply below_alloc | apply pw_below_drewN | apply below_drew1 | refine below_set ?_ GE368.out | refine below_set ?_ GE373.out) | exact HB.out)))); have n3_ := Aside0.mk (blk_below (g := gb368) (o := .cells #[.bool t364, .slice Ao16 t365.length co16] 55 (0, 0)) (by (with_reducible repeat (first | refine blk_drewN ?_ _ | refine blk_drew ?_ | refine blk_alloc ?_ _)); exact BK368.out) hb); have n4_ := Aside0.mk (blk_below (g := gb373) (o := .cells #[.bool t369, .slice Ao21 t370.length co21] 55 (0, 0)) (by (with_reducible repeat (first | refine blk_drewN ?_ _ | refine blk_drew ?_ | refine blk_alloc ?_ _)); exact BK373.out) hb); have n5_ := Aside0.mk (below_step (by repeat (first | (with_reducible first | exact HB.out | apply below_alloc | apply pw_below_drewN | apply below_drew1 | refine below_set ?_ GE368.out | refine below_set ?_ GE373.out) | exact HB.out)) hb); clear HO_369001; clear HO_374001; clear BK368; clear BK373; clear HB; have HO_369001 := n0_; have HO_374001 := n1_; have HO399 := n2_; have BK368 := n3_; have BK373 := n4_; have HB := n5_; clear n0_ n1_ n2_ n3_ n4_ n5_; (try clear hb); (try clear hb2); (try clear hk); (try clear hi); (try clear ho0); obtain ⟨Ao52, co52, eo52⟩ := Kd.V_slice HO399.out; subst eo52) | ((with_reducible refine gate_callee (f := 32) rfl ?_); refine goesL_ (some 72) rfl rfl Try.func32 (by kernel_rfl) rfl #[.agg #[.bool t396, .slice Ao52 t397.length co52]] rfl (by (try simp only [List.map_toArray, List.map_cons, List.map_nil]); first | done | rfl | (simp only [List.length_drop, List.length_take]; rfl)) ?_; (with_reducible refine (publicanref1_Int.calls kj31 t396 _ _ t397 t400 t401 _ ?side1 ?side2 A45.out).mono ?_); (case side1 => repeat (first | exact (Kd.V_reads' HO399.out).2.2 | (with_reducible refine Kd.C_alloc ?_ _) | (with_reducible refine Kd.C_drewN ?_ _) | (with_reducible refine Kd.C_drew ?_))); (case side2 => exact (Kd.V_reads' HO399.out).2.1); rintro e w53 ⟨rfl, hb⟩; refine ⟨_, rfl, ?_⟩; have n0_ := Aside0.mk (Kd.V_below (by (with_reducible repeat (first | apply Kd.V_alloc | apply Kd.V_drewN | apply Kd.V_drew)); exact HO_369001.out) hb); have n1_ := Aside0.mk (Kd.V_below (by (with_reducible repeat (first | apply Kd.V_alloc | apply Kd.V_drewN | apply Kd.V_drew)); exact HO_374001.out) hb); have n2_ := Aside0.mk (Kd.V_below (by (with_reducible repeat (first | apply Kd.V_alloc | apply Kd.V_drewN | apply Kd.V_drew)); exact HO399.out) hb); have n3_ := Aside0.mk (blk_below (g := gb368) (o := .cells #[.bool t364, .slice Ao16 t365.length co16] 55 (0, 0)) (by (with_reducible repeat (first | refine blk_drewN ?_ _ | refine blk_drew ?_ | refine blk_alloc ?_ _)); exact BK368.out) hb); have n4_ := Aside0.mk (blk_below (g := gb373) (o := .cells #[.bool t369, .slice Ao21 t370.length co21] 55 (0, 0)) (by (with_reducible repeat (first | refine blk_drewN ?_ _ | refine blk_drew ?_ | refine blk_alloc ?_ _)); exact BK373.out) hb); have n5_ := Aside0.mk (below_step (by repeat (first | (with_reducible first | exact HB.out | apply below_alloc | apply pw_below_drewN | apply below_drew1 | refine below_set ?_ GE368.out | refine below_set ?_ GE373.out) | exact HB.out)) hb); clear HO_369001; clear HO_374001; clear HO399; clear BK368; clear BK373; clear HB; have HO_369001 := n0_; have HO_374001 := n1_; have HO399 := n2_; have BK368 := n3_; have BK373 := n4_; have HB := n5_; clear n0_ n1_ n2_ n3_ n4_ n5_; (try clear hb); (try clear hb2); (try clear hk); (try clear hi)))
        (try simp only [Act.put, List.setIfInBounds_toArray, List.set_cons_zero, List.set_cons_succ])
        go_cut [82] (fun v82 wc => ∃ (kq : Nat) (x82_45 : Bool), v82 = .bool x82_45 ∧ Aside0 (publicanlaw1_NumChecked.j2 kq a0 a1 a2 x82_45 t364 t365 t369 t370 = some r) ∧ Aside0 (kq ≤ kj31) ∧ Aside0 (Kd.V (Kd.int .u64) 46 wc w.heap.size (fun k_ => k_ ≠ gb368 ∧ k_ ≠ gb373) (.slice Ao16 t365.length co16) t365) ∧ Aside0 (Kd.V (Kd.int .u64) 46 wc w.heap.size (fun k_ => k_ ≠ gb368 ∧ k_ ≠ gb373) (.slice Ao21 t370.length co21) t370) ∧ Aside0 (wc.heap[gb368]? = some (.cells #[.bool t364, (.slice Ao16 t365.length co16)] 55 (0, 0))) ∧ Aside0 (wc.heap[gb373]? = some (.cells #[.bool t369, (.slice Ao21 t370.length co21)] 55 (0, 0))) ∧ Aside0 (Below w.heap.size w wc))
        case first =>
         have H := HC46.out
         clear HC46
         by_cases c54 : t394 = t400
         ·rw [if_pos c54] at H
          have c54b0 : (t394 == t400) = true := beq_iff_eq.mpr c54
          have c54b1 : (t394 != t400) = false := bne_eq_false_iff_eq.mpr c54
          clear c54
          (first | rw [c54b0] | (simp only [i64_w, i32_w]; rw [c54b0]) | skip)
          have H' := Aside0.mk H
          clear H
          go_wp2
          go_meet
          case rel => exact ⟨_, ((!(t395 == t401))), (by first | rfl | (simp; done) | (simp [*]; done)), H', ⟨by have := HJ10.out; have := HJ31.out; first | omega | exact Nat.le_refl _⟩, ⟨by (with_reducible repeat (first | apply Kd.V_alloc | apply Kd.V_drewN | apply Kd.V_drew)); exact HO_369001.out⟩, ⟨by (with_reducible repeat (first | apply Kd.V_alloc | apply Kd.V_drewN | apply Kd.V_drew)); exact HO_374001.out⟩, ⟨by (with_reducible repeat (first | refine blk_drewN ?_ _ | refine blk_drew ?_ | refine blk_alloc ?_ _)); exact BK368.out⟩, ⟨by (with_reducible repeat (first | refine blk_drewN ?_ _ | refine blk_drew ?_ | refine blk_alloc ?_ _)); exact BK373.out⟩, ⟨by repeat (first | (with_reducible first | exact HB.out | apply below_alloc | apply pw_below_drewN | apply below_drew1 | refine below_set ?_ GE368.out | refine below_set ?_ GE373.out) | exact HB.out)⟩⟩
         ·rw [if_neg c54] at H
          have c54b0 : (t394 == t400) = false := beq_eq_false_iff_ne.mpr c54
          have c54b1 : (t394 != t400) = true := bne_iff_ne.mpr c54
          (first | rw [c54b0] | (simp only [i64_w, i32_w]; rw [c54b0]) | skip)
          have H' := Aside0.mk H
          clear H
          go_wp2
          go_meet
          case rel => exact ⟨_, (true), (by first | rfl | (simp; done) | (simp [*]; done)), H', ⟨by have := HJ10.out; have := HJ31.out; first | omega | exact Nat.le_refl _⟩, ⟨by (with_reducible repeat (first | apply Kd.V_alloc | apply Kd.V_drewN | apply Kd.V_drew)); exact HO_369001.out⟩, ⟨by (with_reducible repeat (first | apply Kd.V_alloc | apply Kd.V_drewN | apply Kd.V_drew)); exact HO_374001.out⟩, ⟨by (with_reducible repeat (first | refine blk_drewN ?_ _ | refine blk_drew ?_ | refine blk_alloc ?_ _)); exact BK368.out⟩, ⟨by (with_reducible repeat (first | refine blk_drewN ?_ _ | refine blk_drew ?_ | refine blk_alloc ?_ _)); exact BK373.out⟩, ⟨by repeat (first | (with_reducible first | exact HB.out | apply below_alloc | apply pw_below_drewN | apply below_drew1 | refine below_set ?_ GE368.out | refine below_set ?_ GE373.out) | exact HB.out)⟩⟩
        case rest =>
         clear HC46
         try clear c1
         try clear c2
         try clear p2
         try clear c3
         try clear c4
         try clear c5
         try clear c8
         try clear c19
         try clear c22
         try clear c23
         try clear c24
         try clear c25
         try clear c26
         try clear c26b0
         try clear c26b1
         try clear c27
         try clear c31
         try clear c32
         try clear c33
         try clear c34
         try clear c35
         try clear c41
         try clear c41b0
         try clear c41b1
         try clear c42
         try clear c48
         try clear c54
         try clear c54b0
         try clear c54b1
         try clear hcz15_0
         try clear hcz15_1
         try clear hcz20_0
         try clear hcz20_1
         try clear hcz22_0
         try clear hcz22_1
         try clear hcz33_0
         try clear hcz33_1
         try clear hcz34_0
         try clear hcz34_1
         try clear hcz49_0
         try clear hcz49_1
         try clear hcz50_0
         try clear hcz50_1
         try clear hfz15_0
         try clear hfz15_1
         try clear hfz20_0
         try clear hfz20_1
         try clear hfz22_0
         try clear hfz22_1
         try clear hfz49_0
         try clear hfz49_1
         try clear hfz50_0
         try clear hfz50_1
         try clear p2
         obtain ⟨kq, x82_45, rfl, HA, HJ45, HO_369001, HO_374001, BK368, BK373, HB⟩ := hcut
         cases kq with
         | zero => exact absurd HA.out (by simp [publicanlaw1_NumChecked.j2])
         | succ kj45 =>
          have H := HA.out
          clear HA
          simp only [publicanlaw1_NumChecked.j2] at H
          by_cases c55 : x82_45 = true
          ·subst c55
           have H1 : (none) = some r := by rw [if_pos rfl] at H; exact H
           clear H
           have H := H1
           clear H1
           exact absurd H (by simp)
          ·replace c55 := Bool.eq_false_iff.mpr c55
           subst c55
           have H1 : ((num_Floor.f kj45 a0 a1).bind fun bt402 => (if a1 = 0 then (publicanlaw1_NumChecked.j3 kj45 a0 a1 a2 bt402.1 bt402.2 0 false t364 t365 t369 t370) else ((publicanref1_Floor.f kj45 t364 t365 t369 t370).bind fun bt404 => ((publicanref1_Int.f kj45 bt404.1 bt404.2).bind fun bt408 => (publicanlaw1_NumChecked.j3 kj45 a0 a1 a2 bt402.1 bt402.2 bt408.1 bt408.2 t364 t365 t369 t370))))) = some r := by rw [if_neg (show ¬ (false = true) by decide)] at H; exact H
           clear H
           have H := H1
           clear H1
           replace H := Option.bind_eq_some_iff.mp H
           obtain ⟨⟨t402, t403⟩, A560, H⟩ := H
           replace H : (if a1 = 0 then (publicanlaw1_NumChecked.j3 kj45 a0 a1 a2 t402 t403 0 false t364 t365 t369 t370) else ((publicanref1_Floor.f kj45 t364 t365 t369 t370).bind fun bt404 => ((publicanref1_Int.f kj45 bt404.1 bt404.2).bind fun bt408 => (publicanlaw1_NumChecked.j3 kj45 a0 a1 a2 t402 t403 bt408.1 bt408.2 t364 t365 t369 t370)))) = some r := H
           have A56 := Aside0.mk A560
           clear A560
           have HC57 := Aside0.mk H
           clear H
           go_upto_if 90 with (first | ((with_reducible refine gate_callee (f := 26) rfl ?_); refine goesL_ (some 86) rfl rfl Try.func26 (by kernel_rfl) rfl #[.int .i64 a0, .int .i64 a1] rfl (by (try simp only [List.map_toArray, List.map_cons, List.map_nil]); first | done | rfl | (simp only [List.length_drop, List.length_take]; rfl)) ?_; (with_reducible refine (num_Floor.calls kj45 a0 a1 t402 t403 _ A56.out).mono ?_); rintro e w' ⟨rfl, ⟨nd, rfl⟩⟩; refine ⟨_, rfl, ?_⟩))
           (try simp only [Act.put, List.setIfInBounds_toArray, List.set_cons_zero, List.set_cons_succ])
           go_cut [11, 12] (fun v11 v12 wc => ∃ (kq : Nat) (x11_56 : Int) (x12_56 : Bool), v11 = .int .i64 x11_56 ∧ v12 = .bool x12_56 ∧ Aside0 (publicanlaw1_NumChecked.j3 kq a0 a1 a2 t402 t403 x11_56 x12_56 t364 t365 t369 t370 = some r) ∧ Aside0 (kq ≤ kj45) ∧ Aside0 (Kd.V (Kd.int .u64) 46 wc w.heap.size (fun k_ => k_ ≠ gb368 ∧ k_ ≠ gb373) (.slice Ao16 t365.length co16) t365) ∧ Aside0 (Kd.V (Kd.int .u64) 46 wc w.heap.size (fun k_ => k_ ≠ gb368 ∧ k_ ≠ gb373) (.slice Ao21 t370.length co21) t370) ∧ Aside0 (wc.heap[gb368]? = some (.cells #[.bool t364, (.slice Ao16 t365.length co16)] 55 (0, 0))) ∧ Aside0 (wc.heap[gb373]? = some (.cells #[.bool t369, (.slice Ao21 t370.length co21)] 55 (0, 0))) ∧ Aside0 (Below w.heap.size w wc))
           case first =>
            have H := HC57.out
            clear HC57
            by_cases c58 : a1 = 0
            ·rw [if_pos c58] at H
             have c58b0 : (a1 == 0) = true := beq_iff_eq.mpr c58
             have c58b1 : (a1 != 0) = false := bne_eq_false_iff_eq.mpr c58
             clear c58
             (first | rw [c58b0] | (simp only [i64_w, i32_w]; rw [c58b0]) | skip)
             have H' := Aside0.mk H
             clear H
             go_wp2
             go_meet
             case rel => exact ⟨_, (0), (false), (by first | rfl | (simp; done) | (simp [*]; done)), (by first | rfl | (simp; done) | (simp [*]; done)), H', ⟨by have := HJ10.out; have := HJ31.out; have := HJ45.out; first | omega | exact Nat.le_refl _⟩, ⟨by (with_reducible repeat (first | apply Kd.V_alloc | apply Kd.V_drewN | apply Kd.V_drew)); exact HO_369001.out⟩, ⟨by (with_reducible repeat (first | apply Kd.V_alloc | apply Kd.V_drewN | apply Kd.V_drew)); exact HO_374001.out⟩, ⟨by (with_reducible repeat (first | refine blk_drewN ?_ _ | refine blk_drew ?_ | refine blk_alloc ?_ _)); exact BK368.out⟩, ⟨by (with_reducible repeat (first | refine blk_drewN ?_ _ | refine blk_drew ?_ | refine blk_alloc ?_ _)); exact BK373.out⟩, ⟨by repeat (first | (with_reducible first | exact HB.out | apply below_alloc | apply pw_below_drewN | apply below_drew1 | refine below_set ?_ GE368.out | refine below_set ?_ GE373.out) | exact HB.out)⟩⟩
            ·rw [if_neg c58] at H
             have c58b0 : (a1 == 0) = false := beq_eq_false_iff_ne.mpr c58
             have c58b1 : (a1 != 0) = true := bne_iff_ne.mpr c58
             (first | rw [c58b0] | (simp only [i64_w, i32_w]; rw [c58b0]) | skip)
             replace H := Option.bind_eq_some_iff.mp H
             obtain ⟨⟨t404, t405⟩, A590, H⟩ := H
             replace H : ((publicanref1_Int.f kj45 t404 t405).bind fun bt408 => (publicanlaw1_NumChecked.j3 kj45 a0 a1 a2 t402 t403 bt408.1 bt408.2 t364 t365 t369 t370)) = some r := H
             have A59 := Aside0.mk A590
             clear A590
             replace H := Option.bind_eq_some_iff.mp H
             obtain ⟨⟨t408, t409⟩, A600, H⟩ := H
             replace H : (publicanlaw1_NumChecked.j3 kj45 a0 a1 a2 t402 t403 t408 t409 t364 t365 t369 t370) = some r := H
             have A60 := Aside0.mk A600
             clear A600
             have H' := Aside0.mk H
             clear H
             have hnb61 := NB368_373.out
             have hnc61 := NB373_368.out
             have hcz62_0 : wc.cell? ⟨gb368, 0, none⟩ = some (.bool t364) := (blk_cell BK368.out 0).trans rfl
             have hcz62_1 : wc.cell? ⟨gb368, 1, none⟩ = some (.slice Ao16 t365.length co16) := (blk_cell BK368.out 1).trans rfl
             have hfz62_0 := blk_frozen BK368.out 0
             have hfz62_1 := blk_frozen BK368.out 1
             have hcz63_0 : wc.cell? ⟨gb373, 0, none⟩ = some (.bool t369) := (blk_cell BK373.out 0).trans rfl
             have hcz63_1 : wc.cell? ⟨gb373, 1, none⟩ = some (.slice Ao21 t370.length co21) := (blk_cell BK373.out 1).trans rfl
             have hfz63_0 := blk_frozen BK373.out 0
             have hfz63_1 := blk_frozen BK373.out 1
             go_wp2_with (first | ((with_reducible refine gate_callee (f := 36) rfl ?_); refine goesL_ (some 94) rfl rfl Try.func36 (by kernel_rfl) rfl #[.agg #[.bool t364, .slice Ao16 t365.length co16], .agg #[.bool t369, .slice Ao21 t370.length co21]] rfl (by (try simp only [List.map_toArray, List.map_cons, List.map_nil]); first | done | rfl | (simp only [List.length_drop, List.length_take]; rfl)) ?_; (with_reducible refine (publicanref1_Floor.calls kj45 t364 _ _ t365 t369 _ _ t370 t404 t405 _ ?side1 ?side2 ?side3 ?side4 A59.out).mono ?_); (case side1 => repeat (first | exact (Kd.V_reads' HO_369001.out).2.2 | (with_reducible refine Kd.C_alloc ?_ _) | (with_reducible refine Kd.C_drewN ?_ _) | (with_reducible refine Kd.C_drew ?_))); (case side2 => exact (Kd.V_reads' HO_369001.out).2.1); (case side3 => repeat (first | exact (Kd.V_reads' HO_374001.out).2.2 | (with_reducible refine Kd.C_alloc ?_ _) | (with_reducible refine Kd.C_drewN ?_ _) | (with_reducible refine Kd.C_drew ?_))); (case side4 => exact (Kd.V_reads' HO_374001.out).2.1); rintro e w64 ⟨v406, rfl, ho0, hb⟩; refine ⟨_, rfl, ?_⟩; have n0_ := Aside0.mk (Kd.V_below (by (with_reducible repeat (first | apply Kd.V_alloc | apply Kd.V_drewN | apply Kd.V_drew)); exact HO_369001.out) hb); have n1_ := Aside0.mk (Kd.V_below (by (with_reducible repeat (first | apply Kd.V_alloc | apply Kd.V_drewN | apply Kd.V_drew)); exact HO_374001.out) hb); have n2_ := Aside0.mk (Kd.V_lower (Kd.V_mono (ok' := fun k_ => k_ ≠ gb368 ∧ k_ ≠ gb373) ho0 (fun k_ hk_ => ⟨(Kd.freshB (g := gb368) (o := .cells #[.bool t364, .slice Ao16 t365.length co16] 55 (0, 0)) (by (with_reducible repeat (first | refine blk_drewN ?_ _ | refine blk_drew ?_ | refine blk_alloc ?_ _)); exact BK368.out) k_ hk_), (Kd.freshB (g := gb373) (o := .cells #[.bool t369, .slice Ao21 t370.length co21] 55 (0, 0)) (by (with_reducible repeat (first | refine blk_drewN ?_ _ | refine blk_drew ?_ | refine blk_alloc ?_ _)); exact BK373.out) k_ hk_)⟩)) (below_size (by repeat (first | (with_reducible first | exact HB.out | apply below_alloc | apply pw_below_drewN | apply below_drew1 | refine below_set ?_ GE368.out | refine below_set ?_ GE373.out) | exact HB.out)))); have n3_ := Aside0.mk (blk_below (g := gb368) (o := .cells #[.bool t364, .slice Ao16 t365.length co16] 55 (0, 0)) (by (with_reducible repeat (first | refine blk_drewN ?_ _ | refine blk_drew ?_ | refine blk_alloc ?_ _)); exact BK368.out) hb); have n4_ := Aside0.mk (blk_below (g := gb373) (o := .cells #[.bool t369, .slice Ao21 t370.length co21] 55 (0, 0)) (by (with_reducible repeat (first | refine blk_drewN ?_ _ | refine blk_drew ?_ | refine blk_alloc ?_ _)); exact BK373.out) hb); have n5_ := Aside0.mk (below_step (by repeat (first | (with_reducible first | exact HB.out | apply below_alloc | apply pw_below_drewN | apply below_drew1 | refine below_set ?_ GE368.out | refine below_set ?_ GE373.out) | exact HB.out)) hb); clear HO_369001; clear HO_374001; clear BK368; clear BK373; clear HB; have HO_369001 := n0_; have HO_374001 := n1_; have HO407 := n2_; have BK368 := n3_; have BK373 := n4_; have HB := n5_; clear n0_ n1_ n2_ n3_ n4_ n5_; (try clear hb); (try clear hb2); (try clear hk); (try clear hi); (try clear ho0); obtain ⟨Ao65, co65, eo65⟩ := Kd.V_slice HO407.out; subst eo65) | ((with_reducible refine gate_callee (f := 32) rfl ?_); refine goesL_ (some 95) rfl rfl Try.func32 (by kernel_rfl) rfl #[.agg #[.bool t404, .slice Ao65 t405.length co65]] rfl (by (try simp only [List.map_toArray, List.map_cons, List.map_nil]); first | done | rfl | (simp only [List.length_drop, List.length_take]; rfl)) ?_; (with_reducible refine (publicanref1_Int.calls kj45 t404 _ _ t405 t408 t409 _ ?side1 ?side2 A60.out).mono ?_); (case side1 => repeat (first | exact (Kd.V_reads' HO407.out).2.2 | (with_reducible refine Kd.C_alloc ?_ _) | (with_reducible refine Kd.C_drewN ?_ _) | (with_reducible refine Kd.C_drew ?_))); (case side2 => exact (Kd.V_reads' HO407.out).2.1); rintro e w66 ⟨rfl, hb⟩; refine ⟨_, rfl, ?_⟩; have n0_ := Aside0.mk (Kd.V_below (by (with_reducible repeat (first | apply Kd.V_alloc | apply Kd.V_drewN | apply Kd.V_drew)); exact HO_369001.out) hb); have n1_ := Aside0.mk (Kd.V_below (by (with_reducible repeat (first | apply Kd.V_alloc | apply Kd.V_drewN | apply Kd.V_drew)); exact HO_374001.out) hb); have n2_ := Aside0.mk (Kd.V_below (by (with_reducible repeat (first | apply Kd.V_alloc | apply Kd.V_drewN | apply Kd.V_drew)); exact HO407.out) hb); have n3_ := Aside0.mk (blk_below (g := gb368) (o := .cells #[.bool t364, .slice Ao16 t365.length co16] 55 (0, 0)) (by (with_reducible repeat (first | refine blk_drewN ?_ _ | refine blk_drew ?_ | refine blk_alloc ?_ _)); exact BK368.out) hb); have n4_ := Aside0.mk (blk_below (g := gb373) (o := .cells #[.bool t369, .slice Ao21 t370.length co21] 55 (0, 0)) (by (with_reducible repeat (first | refine blk_drewN ?_ _ | refine blk_drew ?_ | refine blk_alloc ?_ _)); exact BK373.out) hb); have n5_ := Aside0.mk (below_step (by repeat (first | (with_reducible first | exact HB.out | apply below_alloc | apply pw_below_drewN | apply below_drew1 | refine below_set ?_ GE368.out | refine below_set ?_ GE373.out) | exact HB.out)) hb); clear HO_369001; clear HO_374001; clear HO407; clear BK368; clear BK373; clear HB; have HO_369001 := n0_; have HO_374001 := n1_; have HO407 := n2_; have BK368 := n3_; have BK373 := n4_; have HB := n5_; clear n0_ n1_ n2_ n3_ n4_ n5_; (try clear hb); (try clear hb2); (try clear hk); (try clear hi)))
             go_meet
             case rel => exact ⟨_, (t408), (t409), (by first | rfl | (simp; done) | (simp [*]; done)), (by first | rfl | (simp; done) | (simp [*]; done)), H', ⟨by have := HJ10.out; have := HJ31.out; have := HJ45.out; first | omega | exact Nat.le_refl _⟩, ⟨by (with_reducible repeat (first | apply Kd.V_alloc | apply Kd.V_drewN | apply Kd.V_drew)); exact HO_369001.out⟩, ⟨by (with_reducible repeat (first | apply Kd.V_alloc | apply Kd.V_drewN | apply Kd.V_drew)); exact HO_374001.out⟩, ⟨by (with_reducible repeat (first | refine blk_drewN ?_ _ | refine blk_drew ?_ | refine blk_alloc ?_ _)); exact BK368.out⟩, ⟨by (with_reducible repeat (first | refine blk_drewN ?_ _ | refine blk_drew ?_ | refine blk_alloc ?_ _)); exact BK373.out⟩, ⟨by repeat (first | (with_reducible first | exact HB.out | apply below_alloc | apply pw_below_drewN | apply below_drew1 | refine below_set ?_ GE368.out | refine below_set ?_ GE373.out) | exact HB.out)⟩⟩
           case rest =>
            clear HC57
            try clear c1
            try clear c2
            try clear p2
            try clear c3
            try clear c4
            try clear c5
            try clear c6
            try clear c8
            try clear c19
            try clear c22
            try clear c23
            try clear c24
            try clear c25
            try clear c26
            try clear c26b0
            try clear c26b1
            try clear c27
            try clear c31
            try clear c32
            try clear c33
            try clear c34
            try clear c35
            try clear c36
            try clear c41
            try clear c41b0
            try clear c41b1
            try clear c42
            try clear c48
            try clear c54
            try clear c54b0
            try clear c54b1
            try clear c55
            try clear c58
            try clear c58b0
            try clear c58b1
            try clear c61
            try clear hcz15_0
            try clear hcz15_1
            try clear hcz20_0
            try clear hcz20_1
            try clear hcz22_0
            try clear hcz22_1
            try clear hcz33_0
            try clear hcz33_1
            try clear hcz34_0
            try clear hcz34_1
            try clear hcz49_0
            try clear hcz49_1
            try clear hcz50_0
            try clear hcz50_1
            try clear hcz62_0
            try clear hcz62_1
            try clear hcz63_0
            try clear hcz63_1
            try clear hfz15_0
            try clear hfz15_1
            try clear hfz20_0
            try clear hfz20_1
            try clear hfz22_0
            try clear hfz22_1
            try clear hfz49_0
            try clear hfz49_1
            try clear hfz50_0
            try clear hfz50_1
            try clear hfz62_0
            try clear hfz62_1
            try clear hfz63_0
            try clear hfz63_1
            try clear p2
            obtain ⟨kq, x11_56, x12_56, rfl, rfl, HA, HJ56, HO_369001, HO_374001, BK368, BK373, HB⟩ := hcut
            cases kq with
            | zero => exact absurd HA.out (by simp [publicanlaw1_NumChecked.j3])
            | succ kj56 =>
             have H := HA.out
             clear HA
             simp only [publicanlaw1_NumChecked.j3] at H
             have HC67 := Aside0.mk H
             clear H
             go_upto_region 21 with (fail)
             go_cut [105] (fun v105 wc => ∃ (kq : Nat) (x105_66 : Bool), v105 = .bool x105_66 ∧ Aside0 (publicanlaw1_NumChecked.j4 kq a0 a1 a2 x105_66 t364 t365 t369 t370 = some r) ∧ Aside0 (kq ≤ kj56) ∧ Aside0 (Kd.V (Kd.int .u64) 46 wc w.heap.size (fun k_ => k_ ≠ gb368 ∧ k_ ≠ gb373) (.slice Ao16 t365.length co16) t365) ∧ Aside0 (Kd.V (Kd.int .u64) 46 wc w.heap.size (fun k_ => k_ ≠ gb368 ∧ k_ ≠ gb373) (.slice Ao21 t370.length co21) t370) ∧ Aside0 (wc.heap[gb368]? = some (.cells #[.bool t364, (.slice Ao16 t365.length co16)] 55 (0, 0))) ∧ Aside0 (wc.heap[gb373]? = some (.cells #[.bool t369, (.slice Ao21 t370.length co21)] 55 (0, 0))) ∧ Aside0 (Below w.heap.size w wc))
             case first =>
              have H := HC67.out
              clear HC67
              by_cases c68 : t402 = x11_56
              ·rw [if_pos c68] at H
               have c68b0 : (t402 == x11_56) = true := beq_iff_eq.mpr c68
               have c68b1 : (t402 != x11_56) = false := bne_eq_false_iff_eq.mpr c68
               clear c68
               (first | rw [c68b0] | (simp only [i64_w, i32_w]; rw [c68b0]) | skip)
               have H' := Aside0.mk H
               clear H
               go_wp2
               go_meet
               case rel => exact ⟨_, ((!(t403 == x12_56))), (by first | rfl | (simp; done) | (simp [*]; done)), H', ⟨by have := HJ10.out; have := HJ31.out; have := HJ45.out; have := HJ56.out; first | omega | exact Nat.le_refl _⟩, ⟨by (with_reducible repeat (first | apply Kd.V_alloc | apply Kd.V_drewN | apply Kd.V_drew)); exact HO_369001.out⟩, ⟨by (with_reducible repeat (first | apply Kd.V_alloc | apply Kd.V_drewN | apply Kd.V_drew)); exact HO_374001.out⟩, ⟨by (with_reducible repeat (first | refine blk_drewN ?_ _ | refine blk_drew ?_ | refine blk_alloc ?_ _)); exact BK368.out⟩, ⟨by (with_reducible repeat (first | refine blk_drewN ?_ _ | refine blk_drew ?_ | refine blk_alloc ?_ _)); exact BK373.out⟩, ⟨by repeat (first | (with_reducible first | exact HB.out | apply below_alloc | apply pw_below_drewN | apply below_drew1 | refine below_set ?_ GE368.out | refine below_set ?_ GE373.out) | exact HB.out)⟩⟩
              ·rw [if_neg c68] at H
               have c68b0 : (t402 == x11_56) = false := beq_eq_false_iff_ne.mpr c68
               have c68b1 : (t402 != x11_56) = true := bne_iff_ne.mpr c68
               (first | rw [c68b0] | (simp only [i64_w, i32_w]; rw [c68b0]) | skip)
               have H' := Aside0.mk H
               clear H
               go_wp2
               go_meet
               case rel => exact ⟨_, (true), (by first | rfl | (simp; done) | (simp [*]; done)), H', ⟨by have := HJ10.out; have := HJ31.out; have := HJ45.out; have := HJ56.out; first | omega | exact Nat.le_refl _⟩, ⟨by (with_reducible repeat (first | apply Kd.V_alloc | apply Kd.V_drewN | apply Kd.V_drew)); exact HO_369001.out⟩, ⟨by (with_reducible repeat (first | apply Kd.V_alloc | apply Kd.V_drewN | apply Kd.V_drew)); exact HO_374001.out⟩, ⟨by (with_reducible repeat (first | refine blk_drewN ?_ _ | refine blk_drew ?_ | refine blk_alloc ?_ _)); exact BK368.out⟩, ⟨by (with_reducible repeat (first | refine blk_drewN ?_ _ | refine blk_drew ?_ | refine blk_alloc ?_ _)); exact BK373.out⟩, ⟨by repeat (first | (with_reducible first | exact HB.out | apply below_alloc | apply pw_below_drewN | apply below_drew1 | refine below_set ?_ GE368.out | refine below_set ?_ GE373.out) | exact HB.out)⟩⟩
             case rest =>
              clear HC67
              try clear c1
              try clear c2
              try clear p2
              try clear c3
              try clear c4
              try clear c5
              try clear c6
              try clear c8
              try clear c19
              try clear c22
              try clear c23
              try clear c24
              try clear c25
              try clear c26
              try clear c26b0
              try clear c26b1
              try clear c27
              try clear c31
              try clear c32
              try clear c33
              try clear c34
              try clear c35
              try clear c36
              try clear c41
              try clear c41b0
              try clear c41b1
              try clear c42
              try clear c48
              try clear c54
              try clear c54b0
              try clear c54b1
              try clear c55
              try clear c58
              try clear c58b0
              try clear c58b1
              try clear c61
              try clear c68
              try clear c68b0
              try clear c68b1
              try clear hcz15_0
              try clear hcz15_1
              try clear hcz20_0
              try clear hcz20_1
              try clear hcz22_0
              try clear hcz22_1
              try clear hcz33_0
              try clear hcz33_1
              try clear hcz34_0
              try clear hcz34_1
              try clear hcz49_0
              try clear hcz49_1
              try clear hcz50_0
              try clear hcz50_1
              try clear hcz62_0
              try clear hcz62_1
              try clear hcz63_0
              try clear hcz63_1
              try clear hfz15_0
              try clear hfz15_1
              try clear hfz20_0
              try clear hfz20_1
              try clear hfz22_0
              try clear hfz22_1
              try clear hfz49_0
              try clear hfz49_1
              try clear hfz50_0
              try clear hfz50_1
              try clear hfz62_0
              try clear hfz62_1
              try clear hfz63_0
              try clear hfz63_1
              try clear p2
              obtain ⟨kq, x105_66, rfl, HA, HJ66, HO_369001, HO_374001, BK368, BK373, HB⟩ := hcut
              cases kq with
              | zero => exact absurd HA.out (by simp [publicanlaw1_NumChecked.j4])
              | succ kj66 =>
               have H := HA.out
               clear HA
               simp only [publicanlaw1_NumChecked.j4] at H
               by_cases c69 : x105_66 = true
               ·subst c69
                have H1 : (none) = some r := by rw [if_pos rfl] at H; exact H
                clear H
                have H := H1
                clear H1
                exact absurd H (by simp)
               ·replace c69 := Bool.eq_false_iff.mpr c69
                subst c69
                have H1 : ((num_MulFloor.f kj66 a0 a1 a2).bind fun bt410 => (if a2 > 0 then ((publicanref1_Mul.f kj66 t364 t365 t369 t370).bind fun bt412 => ((publicanref1_Of.f kj66 a2).bind fun bt416 => ((publicanref1_Floor.f kj66 bt412.1 bt412.2 bt416.1 bt416.2).bind fun bt420 => ((publicanref1_Int.f kj66 bt420.1 bt420.2).bind fun bt424 => (if bt410.1 = bt424.1 then (some (bt410.2 == bt424.2)) else (none)))))) else (if bt410.1 = 0 then (some (bt410.2 == false)) else (none)))) = some r := by rw [if_neg (show ¬ (false = true) by decide)] at H; exact H
                clear H
                have H := H1
                clear H1
                replace H := Option.bind_eq_some_iff.mp H
                obtain ⟨⟨t410, t411⟩, A700, H⟩ := H
                replace H : (if a2 > 0 then ((publicanref1_Mul.f kj66 t364 t365 t369 t370).bind fun bt412 => ((publicanref1_Of.f kj66 a2).bind fun bt416 => ((publicanref1_Floor.f kj66 bt412.1 bt412.2 bt416.1 bt416.2).bind fun bt420 => ((publicanref1_Int.f kj66 bt420.1 bt420.2).bind fun bt424 => (if t410 = bt424.1 then (some (t411 == bt424.2)) else (none)))))) else (if t410 = 0 then (some (t411 == false)) else (none))) = some r := H
                have A70 := Aside0.mk A700
                clear A700
                by_cases c71 : a2 > 0
                ·rw [if_pos c71] at H
                 have c71b0 : decide (0 < a2) = true := decide_eq_true c71
                 clear c71
                 replace H := Option.bind_eq_some_iff.mp H
                 obtain ⟨⟨t412, t413⟩, A720, H⟩ := H
                 replace H : ((publicanref1_Of.f kj66 a2).bind fun bt416 => ((publicanref1_Floor.f kj66 t412 t413 bt416.1 bt416.2).bind fun bt420 => ((publicanref1_Int.f kj66 bt420.1 bt420.2).bind fun bt424 => (if t410 = bt424.1 then (some (t411 == bt424.2)) else (none))))) = some r := H
                 have A72 := Aside0.mk A720
                 clear A720
                 replace H := Option.bind_eq_some_iff.mp H
                 obtain ⟨⟨t416, t417⟩, A730, H⟩ := H
                 replace H : ((publicanref1_Floor.f kj66 t412 t413 t416 t417).bind fun bt420 => ((publicanref1_Int.f kj66 bt420.1 bt420.2).bind fun bt424 => (if t410 = bt424.1 then (some (t411 == bt424.2)) else (none)))) = some r := H
                 have A73 := Aside0.mk A730
                 clear A730
                 replace H := Option.bind_eq_some_iff.mp H
                 obtain ⟨⟨t420, t421⟩, A740, H⟩ := H
                 replace H : ((publicanref1_Int.f kj66 t420 t421).bind fun bt424 => (if t410 = bt424.1 then (some (t411 == bt424.2)) else (none))) = some r := H
                 have A74 := Aside0.mk A740
                 clear A740
                 replace H := Option.bind_eq_some_iff.mp H
                 obtain ⟨⟨t424, t425⟩, A750, H⟩ := H
                 replace H : (if t410 = t424 then (some (t411 == t425)) else (none)) = some r := H
                 have A75 := Aside0.mk A750
                 clear A750
                 by_cases c76 : t410 = t424
                 ·rw [if_pos c76] at H
                  have c76b0 : (t410 == t424) = true := beq_iff_eq.mpr c76
                  have c76b1 : (t410 != t424) = false := bne_eq_false_iff_eq.mpr c76
                  clear c76
                  obtain rfl := Option.some.inj H
                  go_wp2_with (first | ((with_reducible refine gate_callee (f := 27) rfl ?_); refine goesL_ (some 110) rfl rfl Try.func27 (by kernel_rfl) rfl #[.int .i64 a0, .int .i64 a1, .int .i64 a2] rfl (by (try simp only [List.map_toArray, List.map_cons, List.map_nil]); first | done | rfl | (simp only [List.length_drop, List.length_take]; rfl)) ?_; (with_reducible refine (num_MulFloor.calls kj66 a0 a1 a2 t410 t411 _ A70.out).mono ?_); rintro e w77 ⟨rfl, hb⟩; refine ⟨_, rfl, ?_⟩; have n0_ := Aside0.mk (Kd.V_below (by (with_reducible repeat (first | apply Kd.V_alloc | apply Kd.V_drewN | apply Kd.V_drew)); exact HO_369001.out) hb); have n1_ := Aside0.mk (Kd.V_below (by (with_reducible repeat (first | apply Kd.V_alloc | apply Kd.V_drewN | apply Kd.V_drew)); exact HO_374001.out) hb); have n2_ := Aside0.mk (blk_below (g := gb368) (o := .cells #[.bool t364, .slice Ao16 t365.length co16] 55 (0, 0)) (by (with_reducible repeat (first | refine blk_drewN ?_ _ | refine blk_drew ?_ | refine blk_alloc ?_ _)); exact BK368.out) hb); have n3_ := Aside0.mk (blk_below (g := gb373) (o := .cells #[.bool t369, .slice Ao21 t370.length co21] 55 (0, 0)) (by (with_reducible repeat (first | refine blk_drewN ?_ _ | refine blk_drew ?_ | refine blk_alloc ?_ _)); exact BK373.out) hb); have n4_ := Aside0.mk (below_step (by repeat (first | (with_reducible first | exact HB.out | apply below_alloc | apply pw_below_drewN | apply below_drew1 | refine below_set ?_ GE368.out | refine below_set ?_ GE373.out) | exact HB.out)) hb); clear HO_369001; clear HO_374001; clear BK368; clear BK373; clear HB; have HO_369001 := n0_; have HO_374001 := n1_; have BK368 := n2_; have BK373 := n3_; have HB := n4_; clear n0_ n1_ n2_ n3_ n4_; (try clear hb); (try clear hb2); (try clear hk); (try clear hi); have hnb78 := NB368_373.out; have hnc78 := NB373_368.out; have hcz79_0 : w77.cell? ⟨gb368, 0, none⟩ = some (.bool t364) := (blk_cell BK368.out 0).trans rfl; have hcz79_1 : w77.cell? ⟨gb368, 1, none⟩ = some (.slice Ao16 t365.length co16) := (blk_cell BK368.out 1).trans rfl; have hfz79_0 := blk_frozen BK368.out 0; have hfz79_1 := blk_frozen BK368.out 1; have hcz80_0 : w77.cell? ⟨gb373, 0, none⟩ = some (.bool t369) := (blk_cell BK373.out 0).trans rfl; have hcz80_1 : w77.cell? ⟨gb373, 1, none⟩ = some (.slice Ao21 t370.length co21) := (blk_cell BK373.out 1).trans rfl; have hfz80_0 := blk_frozen BK373.out 0; have hfz80_1 := blk_frozen BK373.out 1) | ((with_reducible refine gate_callee (f := 35) rfl ?_); refine goesL_ (some 118) rfl rfl Try.func35 (by kernel_rfl) rfl #[.agg #[.bool t364, .slice Ao16 t365.length co16], .agg #[.bool t369, .slice Ao21 t370.length co21]] rfl (by (try simp only [List.map_toArray, List.map_cons, List.map_nil]); first | done | rfl | (simp only [List.length_drop, List.length_take]; rfl)) ?_; (with_reducible refine (publicanref1_Mul.calls kj66 t364 _ _ t365 t369 _ _ t370 t412 t413 _ ?side1 ?side2 ?side3 ?side4 A72.out).mono ?_); (case side1 => repeat (first | exact (Kd.V_reads' HO_369001.out).2.2 | (with_reducible refine Kd.C_alloc ?_ _) | (with_reducible refine Kd.C_drewN ?_ _) | (with_reducible refine Kd.C_drew ?_))); (case side2 => exact (Kd.V_reads' HO_369001.out).2.1); (case side3 => repeat (first | exact (Kd.V_reads' HO_374001.out).2.2 | (with_reducible refine Kd.C_alloc ?_ _) | (with_reducible refine Kd.C_drewN ?_ _) | (with_reducible refine Kd.C_drew ?_))); (case side4 => exact (Kd.V_reads' HO_374001.out).2.1); rintro e w81 ⟨v414, rfl, ho0, hb⟩; refine ⟨_, rfl, ?_⟩; have n0_ := Aside0.mk (Kd.V_below (by (with_reducible repeat (first | apply Kd.V_alloc | apply Kd.V_drewN | apply Kd.V_drew)); exact HO_369001.out) hb); have n1_ := Aside0.mk (Kd.V_below (by (with_reducible repeat (first | apply Kd.V_alloc | apply Kd.V_drewN | apply Kd.V_drew)); exact HO_374001.out) hb); have n2_ := Aside0.mk (Kd.V_lower (Kd.V_mono (ok' := fun k_ => k_ ≠ gb368 ∧ k_ ≠ gb373) ho0 (fun k_ hk_ => ⟨(Kd.freshB (g := gb368) (o := .cells #[.bool t364, .slice Ao16 t365.length co16] 55 (0, 0)) (by (with_reducible repeat (first | refine blk_drewN ?_ _ | refine blk_drew ?_ | refine blk_alloc ?_ _)); exact BK368.out) k_ hk_), (Kd.freshB (g := gb373) (o := .cells #[.bool t369, .slice Ao21 t370.length co21] 55 (0, 0)) (by (with_reducible repeat (first | refine blk_drewN ?_ _ | refine blk_drew ?_ | refine blk_alloc ?_ _)); exact BK373.out) k_ hk_)⟩)) (below_size (by repeat (first | (with_reducible first | exact HB.out | apply below_alloc | apply pw_below_drewN | apply below_drew1 | refine below_set ?_ GE368.out | refine below_set ?_ GE373.out) | exact HB.out)))); have n3_ := Aside0.mk (blk_below (g := gb368) (o := .cells #[.bool t364, .slice Ao16 t365.length co16] 55 (0, 0)) (by (with_reducible repeat (first | refine blk_drewN ?_ _ | refine blk_drew ?_ | refine blk_alloc ?_ _)); exact BK368.out) hb); have n4_ := Aside0.mk (blk_below (g := gb373) (o := .cells #[.bool t369, .slice Ao21 t370.length co21] 55 (0, 0)) (by (with_reducible repeat (first | refine blk_drewN ?_ _ | refine blk_drew ?_ | refine blk_alloc ?_ _)); exact BK373.out) hb); have n5_ := Aside0.mk (below_step (by repeat (first | (with_reducible first | exact HB.out | apply below_alloc | apply pw_below_drewN | apply below_drew1 | refine below_set ?_ GE368.out | refine below_set ?_ GE373.out) | exact HB.out)) hb); clear HO_369001; clear HO_374001; clear BK368; clear BK373; clear HB; have HO_369001 := n0_; have HO_374001 := n1_; have HO415 := n2_; have BK368 := n3_; have BK373 := n4_; have HB := n5_; clear n0_ n1_ n2_ n3_ n4_ n5_; (try clear hb); (try clear hb2); (try clear hk); (try clear hi); (try clear ho0)) | ((with_reducible refine gate_callee (f := 31) rfl ?_); refine goesL_ (some 120) rfl rfl Try.func31 (by kernel_rfl) rfl #[.int .i64 a2] rfl (by (try simp only [List.map_toArray, List.map_cons, List.map_nil]); first | done | rfl | (simp only [List.length_drop, List.length_take]; rfl)) ?_; (with_reducible refine (publicanref1_Of.calls kj66 a2 t416 t417 _ A73.out).mono ?_); rintro e w82 ⟨v418, rfl, ho0, hb⟩; refine ⟨_, rfl, ?_⟩; have n0_ := Aside0.mk (Kd.V_below (by (with_reducible repeat (first | apply Kd.V_alloc | apply Kd.V_drewN | apply Kd.V_drew)); exact HO_369001.out) hb); have n1_ := Aside0.mk (Kd.V_below (by (with_reducible repeat (first | apply Kd.V_alloc | apply Kd.V_drewN | apply Kd.V_drew)); exact HO_374001.out) hb); have n2_ := Aside0.mk (Kd.V_below (by (with_reducible repeat (first | apply Kd.V_alloc | apply Kd.V_drewN | apply Kd.V_drew)); exact HO415.out) hb); have n3_ := Aside0.mk (Kd.V_lower (Kd.V_mono (ok' := fun k_ => k_ ≠ gb368 ∧ k_ ≠ gb373) ho0 (fun k_ hk_ => ⟨(Kd.freshB (g := gb368) (o := .cells #[.bool t364, .slice Ao16 t365.length co16] 55 (0, 0)) (by (with_reducible repeat (first | refine blk_drewN ?_ _ | refine blk_drew ?_ | refine blk_alloc ?_ _)); exact BK368.out) k_ hk_), (Kd.freshB (g := gb373) (o := .cells #[.bool t369, .slice Ao21 t370.length co21] 55 (0, 0)) (by (with_reducible repeat (first | refine blk_drewN ?_ _ | refine blk_drew ?_ | refine blk_alloc ?_ _)); exact BK373.out) k_ hk_)⟩)) (below_size (by repeat (first | (with_reducible first | exact HB.out | apply below_alloc | apply pw_below_drewN | apply below_drew1 | refine below_set ?_ GE368.out | refine below_set ?_ GE373.out) | exact HB.out)))); have n4_ := Aside0.mk (blk_below (g := gb368) (o := .cells #[.bool t364, .slice Ao16 t365.length co16] 55 (0, 0)) (by (with_reducible repeat (first | refine blk_drewN ?_ _ | refine blk_drew ?_ | refine blk_alloc ?_ _)); exact BK368.out) hb); have n5_ := Aside0.mk (blk_below (g := gb373) (o := .cells #[.bool t369, .slice Ao21 t370.length co21] 55 (0, 0)) (by (with_reducible repeat (first | refine blk_drewN ?_ _ | refine blk_drew ?_ | refine blk_alloc ?_ _)); exact BK373.out) hb); have n6_ := Aside0.mk (below_step (by repeat (first | (with_reducible first | exact HB.out | apply below_alloc | apply pw_below_drewN | apply below_drew1 | refine below_set ?_ GE368.out | refine below_set ?_ GE373.out) | exact HB.out)) hb); clear HO_369001; clear HO_374001; clear HO415; clear BK368; clear BK373; clear HB; have HO_369001 := n0_; have HO_374001 := n1_; have HO415 := n2_; have HO419 := n3_; have BK368 := n4_; have BK373 := n5_; have HB := n6_; clear n0_ n1_ n2_ n3_ n4_ n5_ n6_; (try clear hb); (try clear hb2); (try clear hk); (try clear hi); (try clear ho0); obtain ⟨Ao83, co83, eo83⟩ := Kd.V_slice HO415.out; subst eo83; obtain ⟨Ao84, co84, eo84⟩ := Kd.V_slice HO419.out; subst eo84) | ((with_reducible refine gate_callee (f := 36) rfl ?_); refine goesL_ (some 121) rfl rfl Try.func36 (by kernel_rfl) rfl #[.agg #[.bool t412, .slice Ao83 t413.length co83], .agg #[.bool t416, .slice Ao84 t417.length co84]] rfl (by (try simp only [List.map_toArray, List.map_cons, List.map_nil]); first | done | rfl | (simp only [List.length_drop, List.length_take]; rfl)) ?_; (with_reducible refine (publicanref1_Floor.calls kj66 t412 _ _ t413 t416 _ _ t417 t420 t421 _ ?side1 ?side2 ?side3 ?side4 A74.out).mono ?_); (case side1 => repeat (first | exact (Kd.V_reads' HO415.out).2.2 | (with_reducible refine Kd.C_alloc ?_ _) | (with_reducible refine Kd.C_drewN ?_ _) | (with_reducible refine Kd.C_drew ?_))); (case side2 => exact (Kd.V_reads' HO415.out).2.1); (case side3 => repeat (first | exact (Kd.V_reads' HO419.out).2.2 | (with_reducible refine Kd.C_alloc ?_ _) | (with_reducible refine Kd.C_drewN ?_ _) | (with_reducible refine Kd.C_drew ?_))); (case side4 => exact (Kd.V_reads' HO419.out).2.1); rintro e w85 ⟨v422, rfl, ho0, hb⟩; refine ⟨_, rfl, ?_⟩; have n0_ := Aside0.mk (Kd.V_below (by (with_reducible repeat (first | apply Kd.V_alloc | apply Kd.V_drewN | apply Kd.V_drew)); exact HO_369001.out) hb); have n1_ := Aside0.mk (Kd.V_below (by (with_reducible repeat (first | apply Kd.V_alloc | apply Kd.V_drewN | apply Kd.V_drew)); exact HO_374001.out) hb); have n2_ := Aside0.mk (Kd.V_below (by (with_reducible repeat (first | apply Kd.V_alloc | apply Kd.V_drewN | apply Kd.V_drew)); exact HO415.out) hb); have n3_ := Aside0.mk (Kd.V_below (by (with_reducible repeat (first | apply Kd.V_alloc | apply Kd.V_drewN | apply Kd.V_drew)); exact HO419.out) hb); have n4_ := Aside0.mk (Kd.V_lower (Kd.V_mono (ok' := fun k_ => k_ ≠ gb368 ∧ k_ ≠ gb373) ho0 (fun k_ hk_ => ⟨(Kd.freshB (g := gb368) (o := .cells #[.bool t364, .slice Ao16 t365.length co16] 55 (0, 0)) (by (with_reducible repeat (first | refine blk_drewN ?_ _ | refine blk_drew ?_ | refine blk_alloc ?_ _)); exact BK368.out) k_ hk_), (Kd.freshB (g := gb373) (o := .cells #[.bool t369, .slice Ao21 t370.length co21] 55 (0, 0)) (by (with_reducible repeat (first | refine blk_drewN ?_ _ | refine blk_drew ?_ | refine blk_alloc ?_ _)); exact BK373.out) k_ hk_)⟩)) (below_size (by repeat (first | (with_reducible first | exact HB.out | apply below_alloc | apply pw_below_drewN | apply below_drew1 | refine below_set ?_ GE368.out | refine below_set ?_ GE373.out) | exact HB.out)))); have n5_ := Aside0.mk (blk_below (g := gb368) (o := .cells #[.bool t364, .slice Ao16 t365.length co16] 55 (0, 0)) (by (with_reducible repeat (first | refine blk_drewN ?_ _ | refine blk_drew ?_ | refine blk_alloc ?_ _)); exact BK368.out) hb); have n6_ := Aside0.mk (blk_below (g := gb373) (o := .cells #[.bool t369, .slice Ao21 t370.length co21] 55 (0, 0)) (by (with_reducible repeat (first | refine blk_drewN ?_ _ | refine blk_drew ?_ | refine blk_alloc ?_ _)); exact BK373.out) hb); have n7_ := Aside0.mk (below_step (by repeat (first | (with_reducible first | exact HB.out | apply below_alloc | apply pw_below_drewN | apply below_drew1 | refine below_set ?_ GE368.out | refine below_set ?_ GE373.out) | exact HB.out)) hb); clear HO_369001; clear HO_374001; clear HO415; clear HO419; clear BK368; clear BK373; clear HB; have HO_369001 := n0_; have HO_374001 := n1_; have HO415 := n2_; have HO419 := n3_; have HO423 := n4_; have BK368 := n5_; have BK373 := n6_; have HB := n7_; clear n0_ n1_ n2_ n3_ n4_ n5_ n6_ n7_; (try clear hb); (try clear hb2); (try clear hk); (try clear hi); (try clear ho0); obtain ⟨Ao86, co86, eo86⟩ := Kd.V_slice HO423.out; subst eo86) | ((with_reducible refine gate_callee (f := 32) rfl ?_); refine goesL_ (some 122) rfl rfl Try.func32 (by kernel_rfl) rfl #[.agg #[.bool t420, .slice Ao86 t421.length co86]] rfl (by (try simp only [List.map_toArray, List.map_cons, List.map_nil]); first | done | rfl | (simp only [List.length_drop, List.length_take]; rfl)) ?_; (with_reducible refine (publicanref1_Int.calls kj66 t420 _ _ t421 t424 t425 _ ?side1 ?side2 A75.out).mono ?_); (case side1 => repeat (first | exact (Kd.V_reads' HO423.out).2.2 | (with_reducible refine Kd.C_alloc ?_ _) | (with_reducible refine Kd.C_drewN ?_ _) | (with_reducible refine Kd.C_drew ?_))); (case side2 => exact (Kd.V_reads' HO423.out).2.1); rintro e w87 ⟨rfl, hb⟩; refine ⟨_, rfl, ?_⟩; have n0_ := Aside0.mk (Kd.V_below (by (with_reducible repeat (first | apply Kd.V_alloc | apply Kd.V_drewN | apply Kd.V_drew)); exact HO_369001.out) hb); have n1_ := Aside0.mk (Kd.V_below (by (with_reducible repeat (first | apply Kd.V_alloc | apply Kd.V_drewN | apply Kd.V_drew)); exact HO_374001.out) hb); have n2_ := Aside0.mk (Kd.V_below (by (with_reducible repeat (first | apply Kd.V_alloc | apply Kd.V_drewN | apply Kd.V_drew)); exact HO415.out) hb); have n3_ := Aside0.mk (Kd.V_below (by (with_reducible repeat (first | apply Kd.V_alloc | apply Kd.V_drewN | apply Kd.V_drew)); exact HO419.out) hb); have n4_ := Aside0.mk (Kd.V_below (by (with_reducible repeat (first | apply Kd.V_alloc | apply Kd.V_drewN | apply Kd.V_drew)); exact HO423.out) hb); have n5_ := Aside0.mk (blk_below (g := gb368) (o := .cells #[.bool t364, .slice Ao16 t365.length co16] 55 (0, 0)) (by (with_reducible repeat (first | refine blk_drewN ?_ _ | refine blk_drew ?_ | refine blk_alloc ?_ _)); exact BK368.out) hb); have n6_ := Aside0.mk (blk_below (g := gb373) (o := .cells #[.bool t369, .slice Ao21 t370.length co21] 55 (0, 0)) (by (with_reducible repeat (first | refine blk_drewN ?_ _ | refine blk_drew ?_ | refine blk_alloc ?_ _)); exact BK373.out) hb); have n7_ := Aside0.mk (below_step (by repeat (first | (with_reducible first | exact HB.out | apply below_alloc | apply pw_below_drewN | apply below_drew1 | refine below_set ?_ GE368.out | refine below_set ?_ GE373.out) | exact HB.out)) hb); clear HO_369001; clear HO_374001; clear HO415; clear HO419; clear HO423; clear BK368; clear BK373; clear HB; have HO_369001 := n0_; have HO_374001 := n1_; have HO415 := n2_; have HO419 := n3_; have HO423 := n4_; have BK368 := n5_; have BK373 := n6_; have HB := n7_; clear n0_ n1_ n2_ n3_ n4_ n5_ n6_ n7_; (try clear hb); (try clear hb2); (try clear hk); (try clear hi)))
                  go_ret
                  exact ⟨by first | rfl | (simp [errW_none, errW_some] <;> rfl) | (simp [*, errW_none, errW_some] <;> rfl), by repeat (first | (with_reducible first | exact HB.out | apply below_alloc | apply pw_below_drewN | apply below_drew1 | refine below_set ?_ GE368.out | refine below_set ?_ GE373.out) | exact HB.out)⟩
                 ·rw [if_neg c76] at H
                  exact absurd H (by simp)
                ·rw [if_neg c71] at H
                 have c71b0 : decide (0 < a2) = false := decide_eq_false c71
                 clear c71
                 by_cases c88 : t410 = 0
                 ·rw [if_pos c88] at H
                  have c88b0 : (t410 == 0) = true := beq_iff_eq.mpr c88
                  have c88b1 : (t410 != 0) = false := bne_eq_false_iff_eq.mpr c88
                  clear c88
                  obtain rfl := Option.some.inj H
                  go_wp2_with (first | ((with_reducible refine gate_callee (f := 27) rfl ?_); refine goesL_ (some 110) rfl rfl Try.func27 (by kernel_rfl) rfl #[.int .i64 a0, .int .i64 a1, .int .i64 a2] rfl (by (try simp only [List.map_toArray, List.map_cons, List.map_nil]); first | done | rfl | (simp only [List.length_drop, List.length_take]; rfl)) ?_; (with_reducible refine (num_MulFloor.calls kj66 a0 a1 a2 t410 t411 _ A70.out).mono ?_); rintro e w89 ⟨rfl, hb⟩; refine ⟨_, rfl, ?_⟩; have n0_ := Aside0.mk (Kd.V_below (by (with_reducible repeat (first | apply Kd.V_alloc | apply Kd.V_drewN | apply Kd.V_drew)); exact HO_369001.out) hb); have n1_ := Aside0.mk (Kd.V_below (by (with_reducible repeat (first | apply Kd.V_alloc | apply Kd.V_drewN | apply Kd.V_drew)); exact HO_374001.out) hb); have n2_ := Aside0.mk (blk_below (g := gb368) (o := .cells #[.bool t364, .slice Ao16 t365.length co16] 55 (0, 0)) (by (with_reducible repeat (first | refine blk_drewN ?_ _ | refine blk_drew ?_ | refine blk_alloc ?_ _)); exact BK368.out) hb); have n3_ := Aside0.mk (blk_below (g := gb373) (o := .cells #[.bool t369, .slice Ao21 t370.length co21] 55 (0, 0)) (by (with_reducible repeat (first | refine blk_drewN ?_ _ | refine blk_drew ?_ | refine blk_alloc ?_ _)); exact BK373.out) hb); have n4_ := Aside0.mk (below_step (by repeat (first | (with_reducible first | exact HB.out | apply below_alloc | apply pw_below_drewN | apply below_drew1 | refine below_set ?_ GE368.out | refine below_set ?_ GE373.out) | exact HB.out)) hb); clear HO_369001; clear HO_374001; clear BK368; clear BK373; clear HB; have HO_369001 := n0_; have HO_374001 := n1_; have BK368 := n2_; have BK373 := n3_; have HB := n4_; clear n0_ n1_ n2_ n3_ n4_; (try clear hb); (try clear hb2); (try clear hk); (try clear hi)))
                  go_ret
                  exact ⟨by first | rfl | (simp [errW_none, errW_some] <;> rfl) | (simp [*, errW_none, errW_some] <;> rfl), by repeat (first | (with_reducible first | exact HB.out | apply below_alloc | apply pw_below_drewN | apply below_drew1 | refine below_set ?_ GE368.out | refine below_set ?_ GE373.out) | exact HB.out)⟩
                 ·rw [if_neg c88] at H
                  exact absurd H (by simp)
 ·replace c5 := Bool.eq_false_iff.mpr c5
  subst c5
  have H1 : (none) = some r := by rw [if_neg (show ¬ (false = true) by decide)] at H; exact H
  clear H
  have H := H1
  clear H1
  exact absurd H (by simp)
def publicanlaw1_NumChecked.Pure : Prop := ∀ (a0 : Int) (a1 : Int) (a2 : Int), (Lit.int .i64 a0).wf = true → (Lit.int .i64 a1).wf = true → (Lit.int .i64 a2).wf = true → ∃ k, publicanlaw1_NumChecked.f k a0 a1 a2 = some true
theorem publicanlaw1_NumChecked.walk (P : publicanlaw1_NumChecked.Pure) (a0 : Int) (a1 : Int) (a2 : Int) (w : World) (w0 : (Lit.int .i64 a0).wf = true) (w1 : (Lit.int .i64 a1).wf = true) (w2 : (Lit.int .i64 a2).wf = true) :
  Calls Try.prog 8 #[.int .i64 a0, .int .i64 a1, .int .i64 a2] w fun e w' => e = .returned (.bool true) ∧ Below w.heap.size w w' := by
 obtain ⟨k, h⟩ := P a0 a1 a2 w0 w1 w2
 refine (publicanlaw1_NumChecked.calls k a0 a1 a2 true w h).mono ?_
 rintro e w' ⟨rfl, hd⟩
 exact ⟨rfl, hd⟩
end Go.Proofs.Ythjhammjankekaa.PNum
