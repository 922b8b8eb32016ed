import Derived.Test.YthjhammjankekaaKPNum0
import Derived.Test.YthjhammjankekaaKPNum6
import Derived.Test.YthjhammjankekaaKPNum7
namespace Go.Proofs.Ythjhammjankekaa.PNum
open Go.RowKit Go.Proofs.YthjhammjankekaaW.PrintWords Go.Proofs.YthjhammjankekaaW.PrintLast Go.Proofs.YthjhammjankekaaW.PrintMore
attribute [local go_sem] max2_int min2_int max_two min_two max_three min_three max_four min_four
set_option linter.unusedVariables false
set_option linter.unusedSimpArgs false
mutual
def publicanref1_Floor.l0 : Nat → List Int → Int → Bool → List Int → Bool → List Int → Bool → List Int → Option (Bool × List Int)
 | 0, _, _, _, _, _, _, _, _ => none
 | k + 1, x5, x7, x324000, x324001, x325000, x325001, x327000, x327001 => if x7 ≥ 0 then ((publicanref1_Add.f k x327000 x327001 x327000 x327001).bind fun bt327 => (if 0 ≤ (wrap64 (Int.tdiv x7 16)) then (if (wrap64 (Int.tdiv x7 16)) < (x324001.length : Int) then (if 0 ≤ (IntKind.u64.wrap (Int.tmod x7 16)) then (if (Go.bits .and .u64 (shr .u64 (rd x324001 (wrap64 (Int.tdiv x7 16))) (IntKind.u64.wrap (Int.tmod x7 16))) 1) = 1 then ((publicanref1_Of.f k 1).bind fun bt332 => ((publicanref1_Add.f k bt327.1 bt327.2 bt332.1 bt332.2).bind fun bt336 => (publicanref1_Floor.j1 k x5 x7 x324000 x324001 x325000 x325001 bt336.1 bt336.2))) else (publicanref1_Floor.j1 k x5 x7 x324000 x324001 x325000 x325001 bt327.1 bt327.2)) else (none)) else (none)) else (none))) else ((publicanref1_trim.f k (!(x324000 == x325000)) x5).bind fun bt350 => (if (x324000 != x325000) = true then (publicanref1_Floor.j3 k (decide ((x327001.length : Int) > 0)) bt350.1 bt350.2) else (publicanref1_Floor.j3 k false bt350.1 bt350.2)))
def publicanref1_Floor.j1 : Nat → List Int → Int → Bool → List Int → Bool → List Int → Bool → List Int → Option (Bool × List Int)
 | 0, _, _, _, _, _, _, _, _ => none
 | k + 1, x5, x7, x324000, x324001, x325000, x325001, x327000, x327001 => publicanref1_Floor.l1 k x5 x7 x324000 x324001 x325000 x325001 x327000 x327001
def publicanref1_Floor.l1 : Nat → List Int → Int → Bool → List Int → Bool → List Int → Bool → List Int → Option (Bool × List Int)
 | 0, _, _, _, _, _, _, _, _ => none
 | k + 1, x5, x7, x324000, x324001, x325000, x325001, x327000, x327001 => if (x5.length : Int) ≤ (wrap64 (Int.tdiv x7 16)) then (if x5.length < 17592186044416 then (publicanref1_Floor.l1 k (x5 ++ [0]) x7 x324000 x324001 x325000 x325001 x327000 x327001) else (none)) else ((publicanref1_less.f k x327001 x325001).bind fun t343 => (if t343 = true then (publicanref1_Floor.l0 k x5 (wrap64 (x7 - 1)) x324000 x324001 x325000 x325001 x327000 x327001) else ((publicanref1_Add.f k x327000 x327001 true x325001).bind fun bt344 => (if 0 ≤ (wrap64 (Int.tdiv x7 16)) then (if (wrap64 (Int.tdiv x7 16)) < (x5.length : Int) then (if 0 ≤ (IntKind.u64.wrap (Int.tmod x7 16)) then (publicanref1_Floor.l0 k (x5.set ((wrap64 (Int.tdiv x7 16)) : Int).toNat (Go.bits .or .u64 (rd x5 (wrap64 (Int.tdiv x7 16))) (shl .u64 1 (IntKind.u64.wrap (Int.tmod x7 16))))) (wrap64 (x7 - 1)) x324000 x324001 x325000 x325001 bt344.1 bt344.2) else (none)) else (none)) else (none)))))
def publicanref1_Floor.j3 : Nat → Bool → Bool → List Int → Option (Bool × List Int)
 | 0, _, _, _ => none
 | k + 1, x88, x355000, x355001 => if x88 = true then ((publicanref1_Of.f k (-1)).bind fun bt355 => ((publicanref1_Add.f k x355000 x355001 bt355.1 bt355.2).bind fun bt359 => (some (bt359.1, bt359.2)))) else (some (x355000, x355001))
end
def publicanref1_Floor.f (k : Nat) (a0_0 : Bool) (l0_1 : List Int) (a1_0 : Bool) (l1_1 : List Int) : Option (Bool × List Int) := publicanref1_Floor.l0 k ([] : List Int) (wrap64 ((wrap64 (16 * (l0_1.length : Int))) - 1)) a0_0 l0_1 a1_0 l1_1 false ([] : List Int)
set_option maxHeartbeats 8000000 in
set_option maxRecDepth 100000 in
theorem publicanref1_Floor.calls (k : Nat) (a0_0 : Bool) (A0_1 : Option Addr) (c0_1 : Nat) (l0_1 : List Int) (a1_0 : Bool) (A1_1 : Option Addr) (c1_1 : Nat) (l1_1 : List Int) (r1 : Bool) (r2 : List Int) (w : World) (hr0_1 : Kd.C (Kd.int .u64) w A0_1 l0_1.length l0_1) (hc0_1 : l0_1.length ≤ c0_1) (hr1_1 : Kd.C (Kd.int .u64) w A1_1 l1_1.length l1_1) (hc1_1 : l1_1.length ≤ c1_1) (h : publicanref1_Floor.f k a0_0 l0_1 a1_0 l1_1 = some (r1, r2)) :
  Calls Try.prog 36 #[.agg #[.bool a0_0, .slice A0_1 l0_1.length c0_1], .agg #[.bool a1_0, .slice A1_1 l1_1.length c1_1]] w fun e w' => ∃ v1_ : Value, e = .returned (.agg #[.bool r1, v1_]) ∧ Kd.V (Kd.int .u64) 46 w' w.heap.size (fun k_ => (w.heap.size ≤ k_)) v1_ r2 ∧ Below w.heap.size w w' := by
 have hu55 := Try.underlying55
 have HR0_1 := Aside0.mk hr0_1
 have HC0_1 := Aside0.mk hc0_1
 clear hr0_1 hc0_1
 have HR1_1 := Aside0.mk hr1_1
 have HC1_1 := Aside0.mk hc1_1
 clear hr1_1 hc1_1
 have HB := Aside0.mk (Below.refl w.heap.size w)
 have H : (publicanref1_Floor.l0 k ([] : List Int) (wrap64 ((wrap64 (16 * (l0_1.length : Int))) - 1)) a0_0 l0_1 a1_0 l1_1 false ([] : List Int)) = some (r1, r2) := h
 clear h
 have H' := Aside0.mk H
 clear H
 go_enter Try.func36, Try.ntmps36
 go_wp2_with (first | ((with_reducible refine gate_dst (N := 2) rfl ?_); (try (refine gate_guard (by rfl) ?_; dsimp only)); refine box_event ?hg (N := 2) ?hd (cs := #[.bool a0_0, .slice A0_1 l0_1.length c0_1]) (t := 55) ?hr ?_; (case hd => rfl); (case hg => rfl); (case hr => first | (go_simp; done) | (go_simp; rfl)); intro gb323 hg w3 hbox hb; have n0_ := Aside0.mk (below_step (by repeat (first | (with_reducible first | exact HB.out | apply below_alloc | apply pw_below_drewN | apply below_drew1) | exact HB.out)) hb); have n1_ := Aside0.mk (hbox); have n2_ := Aside0.mk ((by rw [hg]; exact (below_size (by repeat (first | (with_reducible first | exact HB.out | apply below_alloc | apply pw_below_drewN | apply below_drew1) | exact HB.out))) : w.heap.size ≤ gb323)); have n3_ := Aside0.mk ((by rw [hg]; exact (below_size (by repeat (first | (with_reducible first | exact HB.out | apply below_alloc | apply pw_below_drewN | apply below_drew1) | exact HB.out))) : w.heap.size ≤ gb323)); clear HB; have HB := n0_; have BK323 := n1_; have GW323 := n2_; have GE323 := n3_; clear n0_ n1_ n2_ n3_; clear hb hbox hg) | ((with_reducible refine gate_dst (N := 3) rfl ?_); (try (refine gate_guard (by rfl) ?_; dsimp only)); refine box_event ?hg (N := 3) ?hd (cs := #[.bool a1_0, .slice A1_1 l1_1.length c1_1]) (t := 55) ?hr ?_; (case hd => rfl); (case hg => rfl); (case hr => first | (go_simp; done) | (go_simp; rfl)); intro gb324 hg w4 hbox hb; have n0_ := Aside0.mk (blk_below (g := gb323) (o := .cells #[.bool a0_0, .slice A0_1 l0_1.length c0_1] 55 (0, 0)) (by (with_reducible repeat (first | refine blk_drewN ?_ _ | refine blk_drew ?_ | refine blk_alloc ?_ _)); exact BK323.out) hb); have n1_ := Aside0.mk (below_step (by repeat (first | (with_reducible first | exact HB.out | apply below_alloc | apply pw_below_drewN | apply below_drew1 | refine below_set ?_ GE323.out) | exact HB.out)) hb); have n2_ := Aside0.mk (hbox); have n3_ := Aside0.mk ((by rw [hg]; exact (below_size (by repeat (first | (with_reducible first | exact HB.out | apply below_alloc | apply pw_below_drewN | apply below_drew1 | refine below_set ?_ GE323.out) | exact HB.out))) : w.heap.size ≤ gb324)); have n4_ := Aside0.mk ((by rw [hg]; exact (below_size (by repeat (first | (with_reducible first | exact HB.out | apply below_alloc | apply pw_below_drewN | apply below_drew1 | refine below_set ?_ GE323.out) | exact HB.out))) : w.heap.size ≤ gb324)); have n5_ := Aside0.mk ((by rw [hg]; exact Nat.ne_of_lt (blk_lt (g := gb323) (o := .cells #[.bool a0_0, .slice A0_1 l0_1.length c0_1] 55 (0, 0)) (by (with_reducible repeat (first | refine blk_drewN ?_ _ | refine blk_drew ?_ | refine blk_alloc ?_ _)); exact BK323.out)) : gb323 ≠ gb324)); have n6_ := Aside0.mk ((by rw [hg]; exact Nat.ne_of_gt (blk_lt (g := gb323) (o := .cells #[.bool a0_0, .slice A0_1 l0_1.length c0_1] 55 (0, 0)) (by (with_reducible repeat (first | refine blk_drewN ?_ _ | refine blk_drew ?_ | refine blk_alloc ?_ _)); exact BK323.out)) : gb324 ≠ gb323)); clear BK323; clear HB; have BK323 := n0_; have HB := n1_; have BK324 := n2_; have GW324 := n3_; have GE324 := n4_; have NB323_324 := n5_; have NB324_323 := n6_; clear n0_ n1_ n2_ n3_ n4_ n5_ n6_; clear hb hbox hg) | ((with_reducible refine gate_dst (N := 4) rfl ?_); (try (refine gate_guard (by rfl) ?_; dsimp only)); refine box_event ?hg (N := 4) ?hd (cs := #[.bool false, .slice none 0 0]) (t := 55) ?hr ?_; (case hd => rfl); (case hg => rfl); (case hr => first | (go_simp; done) | (go_simp; rfl)); intro gb325 hg w5 hbox hb; have n0_ := Aside0.mk (blk_below (g := gb323) (o := .cells #[.bool a0_0, .slice A0_1 l0_1.length c0_1] 55 (0, 0)) (by (with_reducible repeat (first | refine blk_drewN ?_ _ | refine blk_drew ?_ | refine blk_alloc ?_ _)); exact BK323.out) hb); have n1_ := Aside0.mk (blk_below (g := gb324) (o := .cells #[.bool a1_0, .slice A1_1 l1_1.length c1_1] 55 (0, 0)) (by (with_reducible repeat (first | refine blk_drewN ?_ _ | refine blk_drew ?_ | refine blk_alloc ?_ _)); exact BK324.out) hb); have n2_ := Aside0.mk (below_step (by repeat (first | (with_reducible first | exact HB.out | apply below_alloc | apply pw_below_drewN | apply below_drew1 | refine below_set ?_ GE323.out | refine below_set ?_ GE324.out) | exact HB.out)) hb); have n3_ := Aside0.mk (hbox); have n4_ := Aside0.mk ((by rw [hg]; exact (below_size (by repeat (first | (with_reducible first | exact HB.out | apply below_alloc | apply pw_below_drewN | apply below_drew1 | refine below_set ?_ GE323.out | refine below_set ?_ GE324.out) | exact HB.out))) : w.heap.size ≤ gb325)); have n5_ := Aside0.mk ((by rw [hg]; exact (below_size (by repeat (first | (with_reducible first | exact HB.out | apply below_alloc | apply pw_below_drewN | apply below_drew1 | refine below_set ?_ GE323.out | refine below_set ?_ GE324.out) | exact HB.out))) : w.heap.size ≤ gb325)); have n6_ := Aside0.mk ((by rw [hg]; exact Nat.ne_of_lt (blk_lt (g := gb323) (o := .cells #[.bool a0_0, .slice A0_1 l0_1.length c0_1] 55 (0, 0)) (by (with_reducible repeat (first | refine blk_drewN ?_ _ | refine blk_drew ?_ | refine blk_alloc ?_ _)); exact BK323.out)) : gb323 ≠ gb325)); have n7_ := Aside0.mk ((by rw [hg]; exact Nat.ne_of_gt (blk_lt (g := gb323) (o := .cells #[.bool a0_0, .slice A0_1 l0_1.length c0_1] 55 (0, 0)) (by (with_reducible repeat (first | refine blk_drewN ?_ _ | refine blk_drew ?_ | refine blk_alloc ?_ _)); exact BK323.out)) : gb325 ≠ gb323)); have n8_ := Aside0.mk ((by rw [hg]; exact Nat.ne_of_lt (blk_lt (g := gb324) (o := .cells #[.bool a1_0, .slice A1_1 l1_1.length c1_1] 55 (0, 0)) (by (with_reducible repeat (first | refine blk_drewN ?_ _ | refine blk_drew ?_ | refine blk_alloc ?_ _)); exact BK324.out)) : gb324 ≠ gb325)); have n9_ := Aside0.mk ((by rw [hg]; exact Nat.ne_of_gt (blk_lt (g := gb324) (o := .cells #[.bool a1_0, .slice A1_1 l1_1.length c1_1] 55 (0, 0)) (by (with_reducible repeat (first | refine blk_drewN ?_ _ | refine blk_drew ?_ | refine blk_alloc ?_ _)); exact BK324.out)) : gb325 ≠ gb324)); clear BK323; clear BK324; clear HB; have BK323 := n0_; have BK324 := n1_; have HB := n2_; have BK325 := n3_; have GW325 := n4_; have GE325 := n5_; have NB323_325 := n6_; have NB325_323 := n7_; have NB324_325 := n8_; have NB325_324 := n9_; clear n0_ n1_ n2_ n3_ n4_ n5_ n6_ n7_ n8_ n9_; clear hb hbox hg) | ((with_reducible refine gate_dst (N := 6) rfl ?_); (try (refine gate_guard (by rfl) ?_; dsimp only)); refine box_event ?hg (N := 6) ?hd (cs := #[.bool false, .slice none 0 0]) (t := 55) ?hr ?_; (case hd => rfl); (case hg => rfl); (case hr => first | (go_simp; done) | (go_simp; rfl)); intro gb326 hg w6 hbox hb; have n0_ := Aside0.mk (blk_below (g := gb323) (o := .cells #[.bool a0_0, .slice A0_1 l0_1.length c0_1] 55 (0, 0)) (by (with_reducible repeat (first | refine blk_drewN ?_ _ | refine blk_drew ?_ | refine blk_alloc ?_ _)); exact BK323.out) hb); have n1_ := Aside0.mk (blk_below (g := gb324) (o := .cells #[.bool a1_0, .slice A1_1 l1_1.length c1_1] 55 (0, 0)) (by (with_reducible repeat (first | refine blk_drewN ?_ _ | refine blk_drew ?_ | refine blk_alloc ?_ _)); exact BK324.out) hb); have n2_ := Aside0.mk (blk_below (g := gb325) (o := .cells #[.bool false, .slice none 0 0] 55 (0, 0)) (by (with_reducible repeat (first | refine blk_drewN ?_ _ | refine blk_drew ?_ | refine blk_alloc ?_ _)); exact BK325.out) hb); have n3_ := Aside0.mk (below_step (by repeat (first | (with_reducible first | exact HB.out | apply below_alloc | apply pw_below_drewN | apply below_drew1 | refine below_set ?_ GE323.out | refine below_set ?_ GE324.out | refine below_set ?_ GE325.out) | exact HB.out)) hb); have n4_ := Aside0.mk (hbox); have n5_ := Aside0.mk ((by rw [hg]; exact (below_size (by repeat (first | (with_reducible first | exact HB.out | apply below_alloc | apply pw_below_drewN | apply below_drew1 | refine below_set ?_ GE323.out | refine below_set ?_ GE324.out | refine below_set ?_ GE325.out) | exact HB.out))) : w.heap.size ≤ gb326)); have n6_ := Aside0.mk ((by rw [hg]; exact (below_size (by repeat (first | (with_reducible first | exact HB.out | apply below_alloc | apply pw_below_drewN | apply below_drew1 | refine below_set ?_ GE323.out | refine below_set ?_ GE324.out | refine below_set ?_ GE325.out) | exact HB.out))) : w.heap.size ≤ gb326)); have n7_ := Aside0.mk ((by rw [hg]; exact Nat.ne_of_lt (blk_lt (g := gb323) (o := .cells #[.bool a0_0, .slice A0_1 l0_1.length c0_1] 55 (0, 0)) (by (with_reducible repeat (first | refine blk_drewN ?_ _ | refine blk_drew ?_ | refine blk_alloc ?_ _)); exact BK323.out)) : gb323 ≠ gb326)); have n8_ := Aside0.mk ((by rw [hg]; exact Nat.ne_of_gt (blk_lt (g := gb323) (o := .cells #[.bool a0_0, .slice A0_1 l0_1.length c0_1] 55 (0, 0)) (by (with_reducible repeat (first | refine blk_drewN ?_ _ | refine blk_drew ?_ | refine blk_alloc ?_ _)); exact BK323.out)) : gb326 ≠ gb323)); have n9_ := Aside0.mk ((by rw [hg]; exact Nat.ne_of_lt (blk_lt (g := gb324) (o := .cells #[.bool a1_0, .slice A1_1 l1_1.length c1_1] 55 (0, 0)) (by (with_reducible repeat (first | refine blk_drewN ?_ _ | refine blk_drew ?_ | refine blk_alloc ?_ _)); exact BK324.out)) : gb324 ≠ gb326)); have n10_ := Aside0.mk ((by rw [hg]; exact Nat.ne_of_gt (blk_lt (g := gb324) (o := .cells #[.bool a1_0, .slice A1_1 l1_1.length c1_1] 55 (0, 0)) (by (with_reducible repeat (first | refine blk_drewN ?_ _ | refine blk_drew ?_ | refine blk_alloc ?_ _)); exact BK324.out)) : gb326 ≠ gb324)); have n11_ := Aside0.mk ((by rw [hg]; exact Nat.ne_of_lt (blk_lt (g := gb325) (o := .cells #[.bool false, .slice none 0 0] 55 (0, 0)) (by (with_reducible repeat (first | refine blk_drewN ?_ _ | refine blk_drew ?_ | refine blk_alloc ?_ _)); exact BK325.out)) : gb325 ≠ gb326)); have n12_ := Aside0.mk ((by rw [hg]; exact Nat.ne_of_gt (blk_lt (g := gb325) (o := .cells #[.bool false, .slice none 0 0] 55 (0, 0)) (by (with_reducible repeat (first | refine blk_drewN ?_ _ | refine blk_drew ?_ | refine blk_alloc ?_ _)); exact BK325.out)) : gb326 ≠ gb325)); clear BK323; clear BK324; clear BK325; clear HB; have BK323 := n0_; have BK324 := n1_; have BK325 := n2_; have HB := n3_; have BK326 := n4_; have GW326 := n5_; have GE326 := n6_; have NB323_326 := n7_; have NB326_323 := n8_; have NB324_326 := n9_; have NB326_324 := n10_; have NB325_326 := n11_; have NB326_325 := n12_; clear n0_ n1_ n2_ n3_ n4_ n5_ n6_ n7_ n8_ n9_ n10_ n11_ n12_; clear hb hbox hg; have hnb7 := NB326_323.out; have hnc7 := NB323_326.out; have hnb8 := NB326_324.out; have hnc8 := NB324_326.out; have hnb9 := NB326_325.out; have hnc9 := NB325_326.out; have hcz10_0 : w6.cell? ⟨gb326, 0, none⟩ = some (.bool false) := (blk_cell BK326.out 0).trans rfl; have hcz10_1 : w6.cell? ⟨gb326, 1, none⟩ = some (.slice none 0 0) := (blk_cell BK326.out 1).trans rfl; have hfz10_0 := blk_frozen BK326.out 0; have hfz10_1 := blk_frozen BK326.out 1; have hnb11 := NB323_324.out; have hnc11 := NB324_323.out; have hnb12 := NB323_325.out; have hnc12 := NB325_323.out; have hcz13_0 : w6.cell? ⟨gb323, 0, none⟩ = some (.bool a0_0) := (blk_cell BK323.out 0).trans rfl; have hcz13_1 : w6.cell? ⟨gb323, 1, none⟩ = some (.slice A0_1 l0_1.length c0_1) := (blk_cell BK323.out 1).trans rfl; have hfz13_0 := blk_frozen BK323.out 0; have hfz13_1 := blk_frozen BK323.out 1))
 go_loopg [5, 7] k (fun kq v5 v7 w' => ∃ (x5_1 : List Int) (x7_1 : Int) (x327000_1 : Bool) (x327001_1 : List Int) (u327001 : Value), v7 = .int .i64 x7_1 ∧ Aside0 (publicanref1_Floor.l0 kq x5_1 x7_1 a0_0 l0_1 a1_0 l1_1 x327000_1 x327001_1 = some (r1, r2)) ∧ Aside0 (kq ≤ k) ∧ Aside0 (Kd.R (Kd.int .u64) 46 w' w.heap.size (fun k_ => (w.heap.size ≤ k_)) v5 x5_1) ∧ Aside0 (Kd.V (Kd.int .u64) 46 w' w.heap.size (fun k_ => (w.heap.size ≤ k_) ∧ some k_ ≠ (v5 : Value).ownBlock ∧ k_ ≠ gb323 ∧ k_ ≠ gb324 ∧ k_ ≠ gb325 ∧ k_ ≠ gb326) u327001 x327001_1) ∧ Aside0 (w'.heap[gb323]? = some (.cells #[.bool a0_0, (.slice A0_1 l0_1.length c0_1)] 55 (0, 0))) ∧ Aside0 (w'.heap[gb324]? = some (.cells #[.bool a1_0, (.slice A1_1 l1_1.length c1_1)] 55 (0, 0))) ∧ Aside0 (w'.heap[gb325]? = some (.cells #[.bool false, (.slice none 0 0)] 55 (0, 0))) ∧ Aside0 (w'.heap[gb326]? = some (.cells #[.bool x327000_1, u327001] 55 (0, 0))) ∧ Aside0 (Below w.heap.size w w'))
 case atStart => exact ⟨(([] : List Int)), (wrap64 ((wrap64 (16 * (l0_1.length : Int))) - 1)), (false), (([] : List Int)), (.slice none 0 0), (by first | rfl | (simp; done) | (simp [*]; done)), H', ⟨Nat.le_refl _⟩, ⟨by first | exact Kd.R_nil _ _ _ _ _ | exact Kd.N_nil _ _ _ _ _ | exact Kd.V_nil _ _ _ _ _ | exact Kd.Q_nil _ _ _ _ _ | exact Kd.S_nil _ _ _ _ _⟩, ⟨Kd.V_nil _ _ _ _ _⟩, ⟨by (with_reducible repeat (first | refine blk_drewN ?_ _ | refine blk_drew ?_ | refine blk_alloc ?_ _)); refine blk_far ?_ NB323_326.out _; (with_reducible repeat (first | refine blk_drewN ?_ _ | refine blk_drew ?_ | refine blk_alloc ?_ _)); refine blk_far ?_ NB323_326.out _; (with_reducible repeat (first | refine blk_drewN ?_ _ | refine blk_drew ?_ | refine blk_alloc ?_ _)); exact BK323.out⟩, ⟨by (with_reducible repeat (first | refine blk_drewN ?_ _ | refine blk_drew ?_ | refine blk_alloc ?_ _)); refine blk_far ?_ NB324_326.out _; (with_reducible repeat (first | refine blk_drewN ?_ _ | refine blk_drew ?_ | refine blk_alloc ?_ _)); refine blk_far ?_ NB324_326.out _; (with_reducible repeat (first | refine blk_drewN ?_ _ | refine blk_drew ?_ | refine blk_alloc ?_ _)); exact BK324.out⟩, ⟨by (with_reducible repeat (first | refine blk_drewN ?_ _ | refine blk_drew ?_ | refine blk_alloc ?_ _)); refine blk_far ?_ NB325_326.out _; (with_reducible repeat (first | refine blk_drewN ?_ _ | refine blk_drew ?_ | refine blk_alloc ?_ _)); refine blk_far ?_ NB325_326.out _; (with_reducible repeat (first | refine blk_drewN ?_ _ | refine blk_drew ?_ | refine blk_alloc ?_ _)); exact BK325.out⟩, ⟨by (with_reducible repeat (first | refine blk_drewN ?_ _ | refine blk_drew ?_ | refine blk_alloc ?_ _)); refine blk_put (cs := #[.bool false, .slice none 0 0]) ?_ 1 _ rfl; (with_reducible repeat (first | refine blk_drewN ?_ _ | refine blk_drew ?_ | refine blk_alloc ?_ _)); refine blk_put (cs := #[.bool false, .slice none 0 0]) ?_ 0 _ rfl; (with_reducible repeat (first | refine blk_drewN ?_ _ | refine blk_drew ?_ | refine blk_alloc ?_ _)); exact BK326.out⟩, ⟨by repeat (first | (with_reducible first | exact HB.out | apply below_alloc | apply pw_below_drewN | apply below_drew1 | refine below_set ?_ GE323.out | refine below_set ?_ GE324.out | refine below_set ?_ GE325.out | refine below_set ?_ GE326.out) | exact HB.out)⟩⟩
 case round =>
  clear H'
  try clear c1
  try clear p2
  try clear c3
  try clear p6
  try clear c7
  try clear c8
  try clear c9
  try clear c11
  try clear c12
  try clear hcz10_0
  try clear hcz10_1
  try clear hcz13_0
  try clear hcz13_1
  try clear hfz10_0
  try clear hfz10_1
  try clear hfz13_0
  try clear hfz13_1
  try clear BK323
  try clear BK324
  try clear BK325
  try clear BK326
  obtain ⟨x5_1, x7_1, x327000_1, x327001_1, u327001, rfl, HA, HK1, HO_5, HO_327001, BK323, BK324, BK325, BK326, HB⟩ := hrel
  cases gk with
  | zero => exact absurd HA.out (by simp [publicanref1_Floor.l0])
  | succ k1 =>
   have H := HA.out
   clear HA
   simp only [publicanref1_Floor.l0] at H
   by_cases c14 : x7_1 ≥ 0
   ·rw [if_pos c14] at H
    have c14b0 : decide (0 ≤ x7_1) = true := decide_eq_true c14
    clear c14
    replace H := Option.bind_eq_some_iff.mp H
    obtain ⟨⟨t327, t328⟩, A150, H⟩ := H
    replace H : (if 0 ≤ (wrap64 (Int.tdiv x7_1 16)) then (if (wrap64 (Int.tdiv x7_1 16)) < (l0_1.length : Int) then (if 0 ≤ (IntKind.u64.wrap (Int.tmod x7_1 16)) then (if (Go.bits .and .u64 (shr .u64 (rd l0_1 (wrap64 (Int.tdiv x7_1 16))) (IntKind.u64.wrap (Int.tmod x7_1 16))) 1) = 1 then ((publicanref1_Of.f k1 1).bind fun bt332 => ((publicanref1_Add.f k1 t327 t328 bt332.1 bt332.2).bind fun bt336 => (publicanref1_Floor.j1 k1 x5_1 x7_1 a0_0 l0_1 a1_0 l1_1 bt336.1 bt336.2))) else (publicanref1_Floor.j1 k1 x5_1 x7_1 a0_0 l0_1 a1_0 l1_1 t327 t328)) else (none)) else (none)) else (none)) = some (r1, r2) := H
    have A15 := Aside0.mk A150
    clear A150
    obtain ⟨ji16, hji16⟩ : ∃ j_ : Int, (wrap64 (Int.tdiv x7_1 16)) = j_ := ⟨_, rfl⟩
    replace H : (if 0 ≤ (ji16) then (if (ji16) < (l0_1.length : Int) then (if 0 ≤ (IntKind.u64.wrap (Int.tmod x7_1 16)) then (if (Go.bits .and .u64 (shr .u64 (rd l0_1 (ji16)) (IntKind.u64.wrap (Int.tmod x7_1 16))) 1) = 1 then ((publicanref1_Of.f k1 1).bind fun bt332 => ((publicanref1_Add.f k1 t327 t328 bt332.1 bt332.2).bind fun bt336 => (publicanref1_Floor.j1 k1 x5_1 x7_1 a0_0 l0_1 a1_0 l1_1 bt336.1 bt336.2))) else (publicanref1_Floor.j1 k1 x5_1 x7_1 a0_0 l0_1 a1_0 l1_1 t327 t328)) else (none)) else (none)) else (none)) = some (r1, r2) := by first | (rw [hji16] at H; exact H) | (simp only [hji16] at H ⊢; exact H)
    (try rw [hji16] at A15)
    have hji16w : (IntKind.i64.wrap (Int.tdiv x7_1 16)) = ji16 := (i64_w _).trans hji16
    by_cases c17 : 0 ≤ (ji16)
    ·rw [if_pos c17] at H
     have c17b0 : decide (0 ≤ (ji16)) = true := decide_eq_true c17
     clear c17
     by_cases c18 : (ji16) < (l0_1.length : Int)
     ·rw [if_pos c18] at H
      have c18b0 : decide ((ji16) < (l0_1.length : Int)) = true := decide_eq_true c18
      clear c18
      obtain ⟨ji19, hji19⟩ : ∃ j_ : Int, (IntKind.u64.wrap (Int.tmod x7_1 16)) = j_ := ⟨_, rfl⟩
      replace H : (if 0 ≤ (ji19) then (if (Go.bits .and .u64 (shr .u64 (rd l0_1 (ji16)) (ji19)) 1) = 1 then ((publicanref1_Of.f k1 1).bind fun bt332 => ((publicanref1_Add.f k1 t327 t328 bt332.1 bt332.2).bind fun bt336 => (publicanref1_Floor.j1 k1 x5_1 x7_1 a0_0 l0_1 a1_0 l1_1 bt336.1 bt336.2))) else (publicanref1_Floor.j1 k1 x5_1 x7_1 a0_0 l0_1 a1_0 l1_1 t327 t328)) else (none)) = some (r1, r2) := by first | (rw [hji19] at H; exact H) | (simp only [hji19] at H ⊢; exact H)
      (try rw [hji19] at A15)
      by_cases c20 : 0 ≤ (ji19)
      ·rw [if_pos c20] at H
       have c20b0 := eq_true c20
       have c20b1 : decide (0 ≤ (ji19)) = true := decide_eq_true c20
       clear c20
       obtain ⟨ji21, hji21⟩ : ∃ j_ : Int, (shr .u64 (rd l0_1 (ji16)) (ji19)) = j_ := ⟨_, rfl⟩
       replace H : (if (Go.bits .and .u64 (ji21) 1) = 1 then ((publicanref1_Of.f k1 1).bind fun bt332 => ((publicanref1_Add.f k1 t327 t328 bt332.1 bt332.2).bind fun bt336 => (publicanref1_Floor.j1 k1 x5_1 x7_1 a0_0 l0_1 a1_0 l1_1 bt336.1 bt336.2))) else (publicanref1_Floor.j1 k1 x5_1 x7_1 a0_0 l0_1 a1_0 l1_1 t327 t328)) = some (r1, r2) := by first | (rw [hji21] at H; exact H) | (simp only [hji21] at H ⊢; exact H)
       (try rw [hji21] at A15)
       have hji21_ : ((rd l0_1 (ji16)) / 2 ^ min (ji19).toNat 64) = ji21 := hji21
       have hji21z : (ji19) ≤ 64 → ((rd l0_1 (ji16)) / 2 ^ (ji19).toNat) = ji21 := shr_small hji21
       have HC22 := Aside0.mk H
       clear H
       have hnb23 := NB326_323.out
       have hnc23 := NB323_326.out
       have hnb24 := NB326_324.out
       have hnc24 := NB324_326.out
       have hnb25 := NB326_325.out
       have hnc25 := NB325_326.out
       have hcz26_0 : wr.cell? ⟨gb326, 0, none⟩ = some (.bool x327000_1) := (blk_cell BK326.out 0).trans rfl
       have hcz26_1 : wr.cell? ⟨gb326, 1, none⟩ = some (u327001) := (blk_cell BK326.out 1).trans rfl
       have hfz26_0 := blk_frozen BK326.out 0
       have hfz26_1 := blk_frozen BK326.out 1
       obtain ⟨Ao27, co27, eo27⟩ := Kd.V_slice HO_327001.out
       subst eo27
       go_upto_if 33 with (first | ((with_reducible refine gate_callee (f := 33) rfl ?_); refine goesL_ (some 21) rfl rfl Try.func33 (by kernel_rfl) rfl #[.agg #[.bool x327000_1, .slice Ao27 x327001_1.length co27], .agg #[.bool x327000_1, .slice Ao27 x327001_1.length co27]] rfl (by (try simp only [List.map_toArray, List.map_cons, List.map_nil]); first | done | rfl | (simp only [List.length_drop, List.length_take]; rfl)) ?_; (with_reducible refine (publicanref1_Add.calls k1 x327000_1 _ _ x327001_1 x327000_1 _ _ x327001_1 t327 t328 _ ?side1 ?side2 ?side3 ?side4 A15.out).mono ?_); (case side1 => repeat (first | exact (Kd.V_reads' HO_327001.out).2.2 | (with_reducible refine Kd.C_alloc ?_ _) | (with_reducible refine Kd.C_drewN ?_ _) | (with_reducible refine Kd.C_drew ?_))); (case side2 => exact (Kd.V_reads' HO_327001.out).2.1); (case side3 => repeat (first | exact (Kd.V_reads' HO_327001.out).2.2 | (with_reducible refine Kd.C_alloc ?_ _) | (with_reducible refine Kd.C_drewN ?_ _) | (with_reducible refine Kd.C_drew ?_))); (case side4 => exact (Kd.V_reads' HO_327001.out).2.1); rintro e w28 ⟨v329, rfl, ho0, hb⟩; refine ⟨_, rfl, ?_⟩; have n0_ := Aside0.mk (Kd.R_below (by (with_reducible repeat (first | apply Kd.R_alloc | apply Kd.R_drewN | apply Kd.R_drew)); exact HO_5.out) hb); have n1_ := Aside0.mk (Kd.V_below (by (with_reducible repeat (first | apply Kd.V_alloc | apply Kd.V_drewN | apply Kd.V_drew)); exact HO_327001.out) hb); have n2_ := Aside0.mk (Kd.V_lower (Kd.V_mono (ok' := fun k_ => (w.heap.size ≤ k_) ∧ some k_ ≠ (u5 : Value).ownBlock ∧ k_ ≠ gb323 ∧ k_ ≠ gb324 ∧ k_ ≠ gb325 ∧ k_ ≠ gb326) ho0 (fun k_ hk_ => ⟨(Nat.le_trans (below_size (by repeat (first | (with_reducible first | exact HB.out | apply below_alloc | apply pw_below_drewN | apply below_drew1 | refine below_set ?_ GE323.out | refine below_set ?_ GE324.out | refine below_set ?_ GE325.out | refine below_set ?_ GE326.out) | exact HB.out))) hk_), (Kd.fresh' (Kd.R_lt (by (with_reducible repeat (first | apply Kd.R_alloc | apply Kd.R_drewN | apply Kd.R_drew)); exact HO_5.out)) k_ hk_), (Kd.freshB (g := gb323) (o := .cells #[.bool a0_0, .slice A0_1 l0_1.length c0_1] 55 (0, 0)) (by (with_reducible repeat (first | refine blk_drewN ?_ _ | refine blk_drew ?_ | refine blk_alloc ?_ _)); exact BK323.out) k_ hk_), (Kd.freshB (g := gb324) (o := .cells #[.bool a1_0, .slice A1_1 l1_1.length c1_1] 55 (0, 0)) (by (with_reducible repeat (first | refine blk_drewN ?_ _ | refine blk_drew ?_ | refine blk_alloc ?_ _)); exact BK324.out) k_ hk_), (Kd.freshB (g := gb325) (o := .cells #[.bool false, .slice none 0 0] 55 (0, 0)) (by (with_reducible repeat (first | refine blk_drewN ?_ _ | refine blk_drew ?_ | refine blk_alloc ?_ _)); exact BK325.out) k_ hk_), (Kd.freshB (g := gb326) (o := .cells #[.bool x327000_1, .slice Ao27 x327001_1.length co27] 55 (0, 0)) (by (with_reducible repeat (first | refine blk_drewN ?_ _ | refine blk_drew ?_ | refine blk_alloc ?_ _)); exact BK326.out) k_ hk_)⟩)) (below_size (by repeat (first | (with_reducible first | exact HB.out | apply below_alloc | apply pw_below_drewN | apply below_drew1 | refine below_set ?_ GE323.out | refine below_set ?_ GE324.out | refine below_set ?_ GE325.out | refine below_set ?_ GE326.out) | exact HB.out)))); have n3_ := Aside0.mk (blk_below (g := gb323) (o := .cells #[.bool a0_0, .slice A0_1 l0_1.length c0_1] 55 (0, 0)) (by (with_reducible repeat (first | refine blk_drewN ?_ _ | refine blk_drew ?_ | refine blk_alloc ?_ _)); exact BK323.out) hb); have n4_ := Aside0.mk (blk_below (g := gb324) (o := .cells #[.bool a1_0, .slice A1_1 l1_1.length c1_1] 55 (0, 0)) (by (with_reducible repeat (first | refine blk_drewN ?_ _ | refine blk_drew ?_ | refine blk_alloc ?_ _)); exact BK324.out) hb); have n5_ := Aside0.mk (blk_below (g := gb325) (o := .cells #[.bool false, .slice none 0 0] 55 (0, 0)) (by (with_reducible repeat (first | refine blk_drewN ?_ _ | refine blk_drew ?_ | refine blk_alloc ?_ _)); exact BK325.out) hb); have n6_ := Aside0.mk (blk_below (g := gb326) (o := .cells #[.bool x327000_1, .slice Ao27 x327001_1.length co27] 55 (0, 0)) (by (with_reducible repeat (first | refine blk_drewN ?_ _ | refine blk_drew ?_ | refine blk_alloc ?_ _)); exact BK326.out) hb); have n7_ := Aside0.mk (below_step (by repeat (first | (with_reducible first | exact HB.out | apply below_alloc | apply pw_below_drewN | apply below_drew1 | refine below_set ?_ GE323.out | refine below_set ?_ GE324.out | refine below_set ?_ GE325.out | refine below_set ?_ GE326.out) | exact HB.out)) hb); clear HO_5; clear HO_327001; clear BK323; clear BK324; clear BK325; clear BK326; clear HB; have HO_5 := n0_; have HO_327001 := n1_; have HO330 := n2_; have BK323 := n3_; have BK324 := n4_; have BK325 := n5_; have BK326 := n6_; have HB := n7_; clear n0_ n1_ n2_ n3_ n4_ n5_ n6_ n7_; (try clear hb); (try clear hb2); (try clear hk); (try clear hi); (try clear ho0); have hcz29_0 : w28.cell? ⟨gb326, 0, none⟩ = some (.bool x327000_1) := (blk_cell BK326.out 0).trans rfl; have hcz29_1 : w28.cell? ⟨gb326, 1, none⟩ = some (.slice Ao27 x327001_1.length co27) := (blk_cell BK326.out 1).trans rfl; have hfz29_0 := blk_frozen BK326.out 0; have hfz29_1 := blk_frozen BK326.out 1; obtain ⟨Ao30, co30, eo30⟩ := Kd.V_slice HO330.out; subst eo30; have hnb31 := NB323_324.out; have hnc31 := NB324_323.out; have hnb32 := NB323_325.out; have hnc32 := NB325_323.out; have hcz33_0 : w28.cell? ⟨gb323, 0, none⟩ = some (.bool a0_0) := (blk_cell BK323.out 0).trans rfl; have hcz33_1 : w28.cell? ⟨gb323, 1, none⟩ = some (.slice A0_1 l0_1.length c0_1) := (blk_cell BK323.out 1).trans rfl; have hfz33_0 := blk_frozen BK323.out 0; have hfz33_1 := blk_frozen BK323.out 1; have p331 : 0 ≤ ((ji16) : Int) := of_decide_eq_true (by first | (with_reducible assumption) | assumption); have q331 : (ji16) < (l0_1.length : Int) := of_decide_eq_true (by first | (with_reducible assumption) | assumption); obtain ⟨ad331, e331, hx331_0⟩ := Kd.at_int HR0_1.out (ji16) p331 q331; cases e331; have hn331_0 : ad331.block ≠ gb326 := Nat.ne_of_lt (Nat.lt_of_lt_of_le (by have := World.block_lt_of_cell? _ _ hx331_0; first | rwa [add_block] at this | exact this) GW326.out); have hn331_1 : ad331.block ≠ gb326 := Nat.ne_of_lt (Nat.lt_of_lt_of_le (by have := World.block_lt_of_cell? _ _ hx331_0; first | rwa [add_block] at this | exact this) GW326.out); replace hx331_0 := (HB.out.cell (World.block_lt_of_cell? w _ hx331_0)).trans hx331_0; replace hx331_0 := (cell_far (p := ⟨gb326, 0, none⟩) (by first | (rw [add_block]; exact hn331_0) | (show (Addr.add _ _).block ≠ _; rw [add_block]; exact hn331_0) | exact hn331_0) (.bool t327)).trans hx331_0; replace hx331_0 := (cell_far (p := ⟨gb326, 1, none⟩) (by first | (rw [add_block]; exact hn331_1) | (show (Addr.add _ _).block ≠ _; rw [add_block]; exact hn331_1) | exact hn331_1) (.slice Ao30 t328.length co30)).trans hx331_0; clear hn331_0; clear hn331_1; replace p331 := eq_true p331; replace q331 := eq_true q331))
       (try simp only [Act.put, List.setIfInBounds_toArray, List.set_cons_zero, List.set_cons_succ])
       go_cut [] (fun wc => ∃ (kq : Nat) (x327000_21 : Bool) (x327001_21 : List Int) (u327001 : Value), Aside0 (publicanref1_Floor.j1 kq x5_1 x7_1 a0_0 l0_1 a1_0 l1_1 x327000_21 x327001_21 = some (r1, r2)) ∧ Aside0 (kq ≤ k1) ∧ Aside0 (Kd.R (Kd.int .u64) 46 wc w.heap.size (fun k_ => (w.heap.size ≤ k_)) u5 x5_1) ∧ Aside0 (Kd.V (Kd.int .u64) 46 wc w.heap.size (fun k_ => (w.heap.size ≤ k_) ∧ some k_ ≠ (u5 : Value).ownBlock ∧ k_ ≠ gb323 ∧ k_ ≠ gb324 ∧ k_ ≠ gb325 ∧ k_ ≠ gb326) u327001 x327001_21) ∧ Aside0 (wc.heap[gb323]? = some (.cells #[.bool a0_0, (.slice (some ad331) l0_1.length c0_1)] 55 (0, 0))) ∧ Aside0 (wc.heap[gb324]? = some (.cells #[.bool a1_0, (.slice A1_1 l1_1.length c1_1)] 55 (0, 0))) ∧ Aside0 (wc.heap[gb325]? = some (.cells #[.bool false, (.slice none 0 0)] 55 (0, 0))) ∧ Aside0 (wc.heap[gb326]? = some (.cells #[.bool x327000_21, u327001] 55 (0, 0))) ∧ Aside0 (Below w.heap.size w wc))
       case first =>
        have H := HC22.out
        clear HC22
        by_cases c34 : (Go.bits .and .u64 (ji21) 1) = 1
        ·rw [if_pos c34] at H
         have c34b0 : ((Go.bits .and .u64 (ji21) 1) == 1) = true := beq_iff_eq.mpr c34
         have c34b1 : ((Go.bits .and .u64 (ji21) 1) != 1) = false := bne_eq_false_iff_eq.mpr c34
         clear c34
         (first | rw [c34b0] | (simp only [i64_w, i32_w]; rw [c34b0]) | skip)
         replace H := Option.bind_eq_some_iff.mp H
         obtain ⟨⟨t332, t333⟩, A350, H⟩ := H
         replace H : ((publicanref1_Add.f k1 t327 t328 t332 t333).bind fun bt336 => (publicanref1_Floor.j1 k1 x5_1 x7_1 a0_0 l0_1 a1_0 l1_1 bt336.1 bt336.2)) = some (r1, r2) := H
         have A35 := Aside0.mk A350
         clear A350
         replace H := Option.bind_eq_some_iff.mp H
         obtain ⟨⟨t336, t337⟩, A360, H⟩ := H
         replace H : (publicanref1_Floor.j1 k1 x5_1 x7_1 a0_0 l0_1 a1_0 l1_1 t336 t337) = some (r1, r2) := H
         have A36 := Aside0.mk A360
         clear A360
         have H' := Aside0.mk H
         clear H
         try go_wp2
         have n0_ : Aside0 (Kd.R (Kd.int .u64) 46 ((w28.setCell ⟨gb326, 0, none⟩ (.bool t327)).setCell ⟨gb326, 1, none⟩ (.slice Ao30 t328.length co30)) w.heap.size (fun k_ => (w.heap.size ≤ k_)) u5 x5_1) := ⟨by (with_reducible repeat (first | apply Kd.R_alloc | apply Kd.R_drewN | apply Kd.R_drew)); exact Kd.R_mono (Kd.R_far (p := ⟨gb326, 1, none⟩) (Kd.R_far (p := ⟨gb326, 0, none⟩) (Kd.R_types HO_5.out BK326.out (by decide)) (fun _ hk => hk.2) (.bool t327)) (fun _ hk => hk.2) (.slice Ao30 t328.length co30)) (fun _ hk => hk.1)⟩
         have n1_ : Aside0 (Kd.V (Kd.int .u64) 46 ((w28.setCell ⟨gb326, 0, none⟩ (.bool t327)).setCell ⟨gb326, 1, none⟩ (.slice Ao30 t328.length co30)) w.heap.size (fun k_ => (w.heap.size ≤ k_) ∧ some k_ ≠ (u5 : Value).ownBlock ∧ k_ ≠ gb323 ∧ k_ ≠ gb324 ∧ k_ ≠ gb325 ∧ k_ ≠ gb326) (.slice Ao27 x327001_1.length co27) x327001_1) := ⟨by (with_reducible repeat (first | apply Kd.V_alloc | apply Kd.V_drewN | apply Kd.V_drew)); exact Kd.V_mono (Kd.V_far (p := ⟨gb326, 1, none⟩) (Kd.V_far (p := ⟨gb326, 0, none⟩) (Kd.V_mono HO_327001.out (fun k_ hk => (⟨hk, hk.2.2.2.2.2⟩ : _ ∧ k_ ≠ gb326))) (fun _ hk => hk.2) (.bool t327)) (fun _ hk => hk.2) (.slice Ao30 t328.length co30)) (fun _ hk => ⟨hk.1.1, ⟨hk.1.2.1, ⟨hk.1.2.2.1, ⟨hk.1.2.2.2.1, ⟨hk.1.2.2.2.2.1, hk.1.2.2.2.2.2⟩⟩⟩⟩⟩)⟩
         have n2_ : Aside0 (Kd.V (Kd.int .u64) 46 ((w28.setCell ⟨gb326, 0, none⟩ (.bool t327)).setCell ⟨gb326, 1, none⟩ (.slice Ao30 t328.length co30)) w.heap.size (fun k_ => (w.heap.size ≤ k_) ∧ some k_ ≠ (u5 : Value).ownBlock ∧ k_ ≠ gb323 ∧ k_ ≠ gb324 ∧ k_ ≠ gb325 ∧ k_ ≠ gb326) (.slice Ao30 t328.length co30) t328) := ⟨by (with_reducible repeat (first | apply Kd.V_alloc | apply Kd.V_drewN | apply Kd.V_drew)); exact Kd.V_mono (Kd.V_far (p := ⟨gb326, 1, none⟩) (Kd.V_far (p := ⟨gb326, 0, none⟩) (Kd.V_mono HO330.out (fun k_ hk => (⟨hk, hk.2.2.2.2.2⟩ : _ ∧ k_ ≠ gb326))) (fun _ hk => hk.2) (.bool t327)) (fun _ hk => hk.2) (.slice Ao30 t328.length co30)) (fun _ hk => ⟨hk.1.1, ⟨hk.1.2.1, ⟨hk.1.2.2.1, ⟨hk.1.2.2.2.1, ⟨hk.1.2.2.2.2.1, hk.1.2.2.2.2.2⟩⟩⟩⟩⟩)⟩
         have n3_ : Aside0 (((w28.setCell ⟨gb326, 0, none⟩ (.bool t327)).setCell ⟨gb326, 1, none⟩ (.slice Ao30 t328.length co30)).heap[gb323]? = some (.cells #[.bool a0_0, .slice (some ad331) l0_1.length c0_1] 55 (0, 0))) := ⟨by (with_reducible repeat (first | refine blk_drewN ?_ _ | refine blk_drew ?_ | refine blk_alloc ?_ _)); refine blk_far ?_ NB323_326.out _; (with_reducible repeat (first | refine blk_drewN ?_ _ | refine blk_drew ?_ | refine blk_alloc ?_ _)); refine blk_far ?_ NB323_326.out _; (with_reducible repeat (first | refine blk_drewN ?_ _ | refine blk_drew ?_ | refine blk_alloc ?_ _)); exact BK323.out⟩
         have n4_ : Aside0 (((w28.setCell ⟨gb326, 0, none⟩ (.bool t327)).setCell ⟨gb326, 1, none⟩ (.slice Ao30 t328.length co30)).heap[gb324]? = some (.cells #[.bool a1_0, .slice A1_1 l1_1.length c1_1] 55 (0, 0))) := ⟨by (with_reducible repeat (first | refine blk_drewN ?_ _ | refine blk_drew ?_ | refine blk_alloc ?_ _)); refine blk_far ?_ NB324_326.out _; (with_reducible repeat (first | refine blk_drewN ?_ _ | refine blk_drew ?_ | refine blk_alloc ?_ _)); refine blk_far ?_ NB324_326.out _; (with_reducible repeat (first | refine blk_drewN ?_ _ | refine blk_drew ?_ | refine blk_alloc ?_ _)); exact BK324.out⟩
         have n5_ : Aside0 (((w28.setCell ⟨gb326, 0, none⟩ (.bool t327)).setCell ⟨gb326, 1, none⟩ (.slice Ao30 t328.length co30)).heap[gb325]? = some (.cells #[.bool false, .slice none 0 0] 55 (0, 0))) := ⟨by (with_reducible repeat (first | refine blk_drewN ?_ _ | refine blk_drew ?_ | refine blk_alloc ?_ _)); refine blk_far ?_ NB325_326.out _; (with_reducible repeat (first | refine blk_drewN ?_ _ | refine blk_drew ?_ | refine blk_alloc ?_ _)); refine blk_far ?_ NB325_326.out _; (with_reducible repeat (first | refine blk_drewN ?_ _ | refine blk_drew ?_ | refine blk_alloc ?_ _)); exact BK325.out⟩
         have n6_ : Aside0 (((w28.setCell ⟨gb326, 0, none⟩ (.bool t327)).setCell ⟨gb326, 1, none⟩ (.slice Ao30 t328.length co30)).heap[gb326]? = some (.cells #[.bool t327, .slice Ao30 t328.length co30] 55 (0, 0))) := ⟨by (with_reducible repeat (first | refine blk_drewN ?_ _ | refine blk_drew ?_ | refine blk_alloc ?_ _)); refine blk_put (cs := #[.bool t327, .slice Ao27 x327001_1.length co27]) ?_ 1 _ rfl; (with_reducible repeat (first | refine blk_drewN ?_ _ | refine blk_drew ?_ | refine blk_alloc ?_ _)); refine blk_put (cs := #[.bool x327000_1, .slice Ao27 x327001_1.length co27]) ?_ 0 _ rfl; (with_reducible repeat (first | refine blk_drewN ?_ _ | refine blk_drew ?_ | refine blk_alloc ?_ _)); exact BK326.out⟩
         have n7_ : Aside0 (Below w.heap.size w ((w28.setCell ⟨gb326, 0, none⟩ (.bool t327)).setCell ⟨gb326, 1, none⟩ (.slice Ao30 t328.length co30))) := ⟨by repeat (first | (with_reducible first | exact HB.out | apply below_alloc | apply pw_below_drewN | apply below_drew1 | refine below_set ?_ GE323.out | refine below_set ?_ GE324.out | refine below_set ?_ GE325.out | refine below_set ?_ GE326.out) | exact HB.out)⟩
         (try clear HO_5)
         (try clear HO_327001)
         (try clear HO330)
         (try clear BK323)
         (try clear BK324)
         (try clear BK325)
         (try clear BK326)
         (try clear HB)
         generalize ((w28.setCell ⟨gb326, 0, none⟩ (.bool t327)).setCell ⟨gb326, 1, none⟩ (.slice Ao30 t328.length co30)) = w37 at n0_ n1_ n2_ n3_ n4_ n5_ n6_ n7_ ⊢
         have HO_5 := n0_
         have HO_327001 := n1_
         have HO330 := n2_
         have BK323 := n3_
         have BK324 := n4_
         have BK325 := n5_
         have BK326 := n6_
         have HB := n7_
         clear n0_ n1_ n2_ n3_ n4_ n5_ n6_ n7_
         have n0_ := Aside0.mk (Kd.R_drew HO_5.out)
         have n1_ := Aside0.mk (Kd.V_drew HO_327001.out)
         have n2_ := Aside0.mk (Kd.V_drew HO330.out)
         have n3_ := Aside0.mk (blk_drew BK323.out)
         have n4_ := Aside0.mk (blk_drew BK324.out)
         have n5_ := Aside0.mk (blk_drew BK325.out)
         have n6_ := Aside0.mk (blk_drew BK326.out)
         have n7_ := Aside0.mk (below_drew1 HB.out)
         clear HO_5
         clear HO_327001
         clear HO330
         clear BK323
         clear BK324
         clear BK325
         clear BK326
         clear HB
         have HO_5 := n0_
         have HO_327001 := n1_
         have HO330 := n2_
         have BK323 := n3_
         have BK324 := n4_
         have BK325 := n5_
         have BK326 := n6_
         have HB := n7_
         clear n0_ n1_ n2_ n3_ n4_ n5_ n6_ n7_
         refine start_ (n := 4) (S := fun w' => w'.cell? ⟨gb326, 0, none⟩ = some (.bool t327) ∧ w'.cell? ⟨gb326, 1, none⟩ = some (.slice Ao30 t328.length co30)) (ds := [3]) #[false, false, false, false] (by kernel_rfl) rfl rfl ⟨(blk_cell BK326.out 0).trans rfl, (blk_cell BK326.out 1).trans rfl⟩ (fun hHeld => ?_)
         generalize w37.drew = w38 at HO_5 HO_327001 HO330 BK323 BK324 BK325 BK326 HB hHeld ⊢
         refine take_ (i := 0) (N := some 34) (v := ?_) (a' := ?_) #[true, false, false, false] rfl rfl (by kernel_rfl) (fun _ _ _ h => h) (Or.inl ⟨by rfl, ?_⟩) hHeld ?_ ?_
         rotate_left
         ·rintro w' ⟨s0, s1⟩
          go_simp
          with_reducible rfl
         rotate_left
         ·simp only [Act.put, List.setIfInBounds_toArray, List.set_cons_zero, List.set_cons_succ, i64_w, i32_w]
          rfl
         refine one_ (i := 1) (N := some 35) #[true, true, false, false] rfl rfl (by kernel_rfl) (by decide) (fun K hK => ?_)
         refine goes_ Try.func31 (by kernel_rfl) rfl #[.int .i64 1] (by rfl) rfl rfl (by (try simp only [List.map_toArray, List.map_cons, List.map_nil]); first | done | rfl | (simp only [List.length_drop, List.length_take]; rfl)) ?_
         with_reducible refine (publicanref1_Of.calls k1 1 t332 t333 _ A35.out).mono ?_
         rintro e w39 ⟨v334, rfl, ho0, hb⟩
         refine ⟨_, rfl, ?_⟩
         have n0_ := Aside0.mk (Kd.R_below (by (with_reducible repeat (first | apply Kd.R_alloc | apply Kd.R_drewN | apply Kd.R_drew)); exact HO_5.out) hb)
         have n1_ := Aside0.mk (Kd.V_below (by (with_reducible repeat (first | apply Kd.V_alloc | apply Kd.V_drewN | apply Kd.V_drew)); exact HO_327001.out) hb)
         have n2_ := Aside0.mk (Kd.V_below (by (with_reducible repeat (first | apply Kd.V_alloc | apply Kd.V_drewN | apply Kd.V_drew)); exact HO330.out) hb)
         have n3_ := Aside0.mk (Kd.V_lower (Kd.V_mono (ok' := fun k_ => (w.heap.size ≤ k_) ∧ some k_ ≠ (u5 : Value).ownBlock ∧ k_ ≠ gb323 ∧ k_ ≠ gb324 ∧ k_ ≠ gb325 ∧ k_ ≠ gb326) ho0 (fun k_ hk_ => ⟨(Nat.le_trans (below_size (by repeat (first | (with_reducible first | exact HB.out | apply below_alloc | apply pw_below_drewN | apply below_drew1 | refine below_set ?_ GE323.out | refine below_set ?_ GE324.out | refine below_set ?_ GE325.out | refine below_set ?_ GE326.out) | exact HB.out))) hk_), (Kd.fresh' (Kd.R_lt (by (with_reducible repeat (first | apply Kd.R_alloc | apply Kd.R_drewN | apply Kd.R_drew)); exact HO_5.out)) k_ hk_), (Kd.freshB (g := gb323) (o := .cells #[.bool a0_0, .slice (some ad331) l0_1.length c0_1] 55 (0, 0)) (by (with_reducible repeat (first | refine blk_drewN ?_ _ | refine blk_drew ?_ | refine blk_alloc ?_ _)); exact BK323.out) k_ hk_), (Kd.freshB (g := gb324) (o := .cells #[.bool a1_0, .slice A1_1 l1_1.length c1_1] 55 (0, 0)) (by (with_reducible repeat (first | refine blk_drewN ?_ _ | refine blk_drew ?_ | refine blk_alloc ?_ _)); exact BK324.out) k_ hk_), (Kd.freshB (g := gb325) (o := .cells #[.bool false, .slice none 0 0] 55 (0, 0)) (by (with_reducible repeat (first | refine blk_drewN ?_ _ | refine blk_drew ?_ | refine blk_alloc ?_ _)); exact BK325.out) k_ hk_), (Kd.freshB (g := gb326) (o := .cells #[.bool t327, .slice Ao30 t328.length co30] 55 (0, 0)) (by (with_reducible repeat (first | refine blk_drewN ?_ _ | refine blk_drew ?_ | refine blk_alloc ?_ _)); exact BK326.out) k_ hk_)⟩)) (below_size (by repeat (first | (with_reducible first | exact HB.out | apply below_alloc | apply pw_below_drewN | apply below_drew1 | refine below_set ?_ GE323.out | refine below_set ?_ GE324.out | refine below_set ?_ GE325.out | refine below_set ?_ GE326.out) | exact HB.out))))
         have n4_ := Aside0.mk (blk_below (g := gb323) (o := .cells #[.bool a0_0, .slice (some ad331) l0_1.length c0_1] 55 (0, 0)) (by (with_reducible repeat (first | refine blk_drewN ?_ _ | refine blk_drew ?_ | refine blk_alloc ?_ _)); exact BK323.out) hb)
         have n5_ := Aside0.mk (blk_below (g := gb324) (o := .cells #[.bool a1_0, .slice A1_1 l1_1.length c1_1] 55 (0, 0)) (by (with_reducible repeat (first | refine blk_drewN ?_ _ | refine blk_drew ?_ | refine blk_alloc ?_ _)); exact BK324.out) hb)
         have n6_ := Aside0.mk (blk_below (g := gb325) (o := .cells #[.bool false, .slice none 0 0] 55 (0, 0)) (by (with_reducible repeat (first | refine blk_drewN ?_ _ | refine blk_drew ?_ | refine blk_alloc ?_ _)); exact BK325.out) hb)
         have n7_ := Aside0.mk (blk_below (g := gb326) (o := .cells #[.bool t327, .slice Ao30 t328.length co30] 55 (0, 0)) (by (with_reducible repeat (first | refine blk_drewN ?_ _ | refine blk_drew ?_ | refine blk_alloc ?_ _)); exact BK326.out) hb)
         have n8_ := Aside0.mk (below_step (by repeat (first | (with_reducible first | exact HB.out | apply below_alloc | apply pw_below_drewN | apply below_drew1 | refine below_set ?_ GE323.out | refine below_set ?_ GE324.out | refine below_set ?_ GE325.out | refine below_set ?_ GE326.out) | exact HB.out)) hb)
         clear HO_5
         clear HO_327001
         clear HO330
         clear BK323
         clear BK324
         clear BK325
         clear BK326
         clear HB
         have HO_5 := n0_
         have HO_327001 := n1_
         have HO330 := n2_
         have HO335 := n3_
         have BK323 := n4_
         have BK324 := n5_
         have BK325 := n6_
         have BK326 := n7_
         have HB := n8_
         clear n0_ n1_ n2_ n3_ n4_ n5_ n6_ n7_ n8_
         (try clear hb)
         (try clear hb2)
         (try clear hk)
         (try clear hi)
         (try clear ho0)
         obtain ⟨Ao40, co40, eo40⟩ := Kd.V_slice HO335.out
         (first | subst eo40 | (injection eo40 with f1_ f2_ f3_; have f4_ := f1_.symm; have f5_ := f3_.symm; clear f1_ f2_ f3_; subst f4_; subst f5_))
         refine hK.out _ _ ⟨(blk_cell BK326.out 0).trans rfl, (blk_cell BK326.out 1).trans rfl⟩ (fun hHeld => ?_)
         clear hK K
         refine norm_ (a' := ?_) ?_ ?_
         rotate_left
         ·show Act.put _ (some 35) _ = _
          simp only [Act.put, List.setIfInBounds_toArray, List.set_cons_zero, List.set_cons_succ, i64_w, i32_w]
          rfl
         refine one_ (i := 2) (N := some 36) #[true, true, true, false] rfl rfl (by kernel_rfl) (by decide) (fun K hK => ?_)
         refine goes_ Try.func33 (by kernel_rfl) rfl #[.agg #[.bool t327, .slice Ao30 t328.length co30], .agg #[.bool t332, .slice Ao40 t333.length co40]] (by rfl) rfl rfl (by (try simp only [List.map_toArray, List.map_cons, List.map_nil]); first | done | rfl | (simp only [List.length_drop, List.length_take]; rfl)) ?_
         with_reducible refine (publicanref1_Add.calls k1 t327 _ _ t328 t332 _ _ t333 t336 t337 _ ?side1 ?side2 ?side3 ?side4 A36.out).mono ?_
         (case side1 => repeat (first | exact (Kd.V_reads' HO330.out).2.2 | (with_reducible refine Kd.C_alloc ?_ _) | (with_reducible refine Kd.C_drewN ?_ _) | (with_reducible refine Kd.C_drew ?_)))
         (case side2 => exact (Kd.V_reads' HO330.out).2.1)
         (case side3 => repeat (first | exact (Kd.V_reads' HO335.out).2.2 | (with_reducible refine Kd.C_alloc ?_ _) | (with_reducible refine Kd.C_drewN ?_ _) | (with_reducible refine Kd.C_drew ?_)))
         (case side4 => exact (Kd.V_reads' HO335.out).2.1)
         rintro e w41 ⟨v338, rfl, ho0, hb⟩
         refine ⟨_, rfl, ?_⟩
         have n0_ := Aside0.mk (Kd.R_below (by (with_reducible repeat (first | apply Kd.R_alloc | apply Kd.R_drewN | apply Kd.R_drew)); exact HO_5.out) hb)
         have n1_ := Aside0.mk (Kd.V_below (by (with_reducible repeat (first | apply Kd.V_alloc | apply Kd.V_drewN | apply Kd.V_drew)); exact HO_327001.out) hb)
         have n2_ := Aside0.mk (Kd.V_below (by (with_reducible repeat (first | apply Kd.V_alloc | apply Kd.V_drewN | apply Kd.V_drew)); exact HO330.out) hb)
         have n3_ := Aside0.mk (Kd.V_below (by (with_reducible repeat (first | apply Kd.V_alloc | apply Kd.V_drewN | apply Kd.V_drew)); exact HO335.out) hb)
         have n4_ := Aside0.mk (Kd.V_lower (Kd.V_mono (ok' := fun k_ => (w.heap.size ≤ k_) ∧ some k_ ≠ (u5 : Value).ownBlock ∧ k_ ≠ gb323 ∧ k_ ≠ gb324 ∧ k_ ≠ gb325 ∧ k_ ≠ gb326) ho0 (fun k_ hk_ => ⟨(Nat.le_trans (below_size (by repeat (first | (with_reducible first | exact HB.out | apply below_alloc | apply pw_below_drewN | apply below_drew1 | refine below_set ?_ GE323.out | refine below_set ?_ GE324.out | refine below_set ?_ GE325.out | refine below_set ?_ GE326.out) | exact HB.out))) hk_), (Kd.fresh' (Kd.R_lt (by (with_reducible repeat (first | apply Kd.R_alloc | apply Kd.R_drewN | apply Kd.R_drew)); exact HO_5.out)) k_ hk_), (Kd.freshB (g := gb323) (o := .cells #[.bool a0_0, .slice (some ad331) l0_1.length c0_1] 55 (0, 0)) (by (with_reducible repeat (first | refine blk_drewN ?_ _ | refine blk_drew ?_ | refine blk_alloc ?_ _)); exact BK323.out) k_ hk_), (Kd.freshB (g := gb324) (o := .cells #[.bool a1_0, .slice A1_1 l1_1.length c1_1] 55 (0, 0)) (by (with_reducible repeat (first | refine blk_drewN ?_ _ | refine blk_drew ?_ | refine blk_alloc ?_ _)); exact BK324.out) k_ hk_), (Kd.freshB (g := gb325) (o := .cells #[.bool false, .slice none 0 0] 55 (0, 0)) (by (with_reducible repeat (first | refine blk_drewN ?_ _ | refine blk_drew ?_ | refine blk_alloc ?_ _)); exact BK325.out) k_ hk_), (Kd.freshB (g := gb326) (o := .cells #[.bool t327, .slice Ao30 t328.length co30] 55 (0, 0)) (by (with_reducible repeat (first | refine blk_drewN ?_ _ | refine blk_drew ?_ | refine blk_alloc ?_ _)); exact BK326.out) k_ hk_)⟩)) (below_size (by repeat (first | (with_reducible first | exact HB.out | apply below_alloc | apply pw_below_drewN | apply below_drew1 | refine below_set ?_ GE323.out | refine below_set ?_ GE324.out | refine below_set ?_ GE325.out | refine below_set ?_ GE326.out) | exact HB.out))))
         have n5_ := Aside0.mk (blk_below (g := gb323) (o := .cells #[.bool a0_0, .slice (some ad331) l0_1.length c0_1] 55 (0, 0)) (by (with_reducible repeat (first | refine blk_drewN ?_ _ | refine blk_drew ?_ | refine blk_alloc ?_ _)); exact BK323.out) hb)
         have n6_ := Aside0.mk (blk_below (g := gb324) (o := .cells #[.bool a1_0, .slice A1_1 l1_1.length c1_1] 55 (0, 0)) (by (with_reducible repeat (first | refine blk_drewN ?_ _ | refine blk_drew ?_ | refine blk_alloc ?_ _)); exact BK324.out) hb)
         have n7_ := Aside0.mk (blk_below (g := gb325) (o := .cells #[.bool false, .slice none 0 0] 55 (0, 0)) (by (with_reducible repeat (first | refine blk_drewN ?_ _ | refine blk_drew ?_ | refine blk_alloc ?_ _)); exact BK325.out) hb)
         have n8_ := Aside0.mk (blk_below (g := gb326) (o := .cells #[.bool t327, .slice Ao30 t328.length co30] 55 (0, 0)) (by (with_reducible repeat (first | refine blk_drewN ?_ _ | refine blk_drew ?_ | refine blk_alloc ?_ _)); exact BK326.out) hb)
         have n9_ := Aside0.mk (below_step (by repeat (first | (with_reducible first | exact HB.out | apply below_alloc | apply pw_below_drewN | apply below_drew1 | refine below_set ?_ GE323.out | refine below_set ?_ GE324.out | refine below_set ?_ GE325.out | refine below_set ?_ GE326.out) | exact HB.out)) hb)
         clear HO_5
         clear HO_327001
         clear HO330
         clear HO335
         clear BK323
         clear BK324
         clear BK325
         clear BK326
         clear HB
         have HO_5 := n0_
         have HO_327001 := n1_
         have HO330 := n2_
         have HO335 := n3_
         have HO339 := n4_
         have BK323 := n5_
         have BK324 := n6_
         have BK325 := n7_
         have BK326 := n8_
         have HB := n9_
         clear n0_ n1_ n2_ n3_ n4_ n5_ n6_ n7_ n8_ n9_
         (try clear hb)
         (try clear hb2)
         (try clear hk)
         (try clear hi)
         (try clear ho0)
         obtain ⟨Ao43, co43, eo43⟩ := Kd.V_slice HO339.out
         (first | subst eo43 | (injection eo43 with f1_ f2_ f3_; have f4_ := f1_.symm; have f5_ := f3_.symm; clear f1_ f2_ f3_; subst f4_; subst f5_))
         refine hK.out _ _ ⟨(blk_cell BK326.out 0).trans rfl, (blk_cell BK326.out 1).trans rfl⟩ (fun hHeld => ?_)
         clear hK K
         refine norm_ (a' := ?_) ?_ ?_
         rotate_left
         ·show Act.put _ (some 36) _ = _
          simp only [Act.put, List.setIfInBounds_toArray, List.set_cons_zero, List.set_cons_succ, i64_w, i32_w]
          rfl
         refine last_ (i := 3) (N := none) #[true, true, true, true] rfl rfl (by kernel_rfl) (by decide) (fun K hK => ?_)
         have hs42 : w41.cell? ⟨gb326, 0, none⟩ = some (.bool t327) := (blk_cell BK326.out 0).trans rfl
         have hfs42 := blk_frozen BK326.out 0
         have hns42_0 := NB323_326.out
         have hns42_1 := NB324_326.out
         have hns42_2 := NB325_326.out
         have hms42_0 := NB326_323.out
         have hms42_1 := NB326_324.out
         have hms42_2 := NB326_325.out
         have hs44 : w41.cell? ⟨gb326, 1, none⟩ = some (.slice Ao30 t328.length co30) := (blk_cell BK326.out 1).trans rfl
         have hfs44 := blk_frozen BK326.out 1
         have hns44_0 := NB323_326.out
         have hns44_1 := NB324_326.out
         have hns44_2 := NB325_326.out
         have hms44_0 := NB326_323.out
         have hms44_1 := NB326_324.out
         have hms44_2 := NB326_325.out
         refine skip_ (w1 := ?_) (by rfl) rfl ?_ ?_
         rotate_left
         ·go_simp
          rfl
         refine hK.out _ _ ?_
         clear hK K
         refine done_ (by kernel_rfl) ?_
         try go_wp2
         go_meet
         case rel => exact ⟨_, (t336), (t337), (.slice Ao43 t337.length co43), H', ⟨by have := HK1.out; first | omega | exact Nat.le_refl _⟩, ⟨by (with_reducible repeat (first | apply Kd.R_alloc | apply Kd.R_drewN | apply Kd.R_drew)); exact Kd.R_mono (Kd.R_far (p := ⟨gb326, 1, none⟩) (Kd.R_far (p := ⟨gb326, 0, none⟩) (Kd.R_types HO_5.out BK326.out (by decide)) (fun _ hk => hk.2) (.bool t336)) (fun _ hk => hk.2) (.slice Ao43 t337.length co43)) (fun _ hk => hk.1)⟩, ⟨by (with_reducible repeat (first | apply Kd.V_alloc | apply Kd.V_drewN | apply Kd.V_drew)); exact Kd.V_mono (Kd.V_far (p := ⟨gb326, 1, none⟩) (Kd.V_far (p := ⟨gb326, 0, none⟩) (Kd.V_mono HO339.out (fun k_ hk => (⟨hk, hk.2.2.2.2.2⟩ : _ ∧ k_ ≠ gb326))) (fun _ hk => hk.2) (.bool t336)) (fun _ hk => hk.2) (.slice Ao43 t337.length co43)) (fun _ hk => ⟨hk.1.1, ⟨hk.1.2.1, ⟨hk.1.2.2.1, ⟨hk.1.2.2.2.1, ⟨hk.1.2.2.2.2.1, hk.1.2.2.2.2.2⟩⟩⟩⟩⟩)⟩, ⟨by (with_reducible repeat (first | refine blk_drewN ?_ _ | refine blk_drew ?_ | refine blk_alloc ?_ _)); refine blk_far ?_ NB323_326.out _; (with_reducible repeat (first | refine blk_drewN ?_ _ | refine blk_drew ?_ | refine blk_alloc ?_ _)); refine blk_far ?_ NB323_326.out _; (with_reducible repeat (first | refine blk_drewN ?_ _ | refine blk_drew ?_ | refine blk_alloc ?_ _)); exact BK323.out⟩, ⟨by (with_reducible repeat (first | refine blk_drewN ?_ _ | refine blk_drew ?_ | refine blk_alloc ?_ _)); refine blk_far ?_ NB324_326.out _; (with_reducible repeat (first | refine blk_drewN ?_ _ | refine blk_drew ?_ | refine blk_alloc ?_ _)); refine blk_far ?_ NB324_326.out _; (with_reducible repeat (first | refine blk_drewN ?_ _ | refine blk_drew ?_ | refine blk_alloc ?_ _)); exact BK324.out⟩, ⟨by (with_reducible repeat (first | refine blk_drewN ?_ _ | refine blk_drew ?_ | refine blk_alloc ?_ _)); refine blk_far ?_ NB325_326.out _; (with_reducible repeat (first | refine blk_drewN ?_ _ | refine blk_drew ?_ | refine blk_alloc ?_ _)); refine blk_far ?_ NB325_326.out _; (with_reducible repeat (first | refine blk_drewN ?_ _ | refine blk_drew ?_ | refine blk_alloc ?_ _)); exact BK325.out⟩, ⟨by (with_reducible repeat (first | refine blk_drewN ?_ _ | refine blk_drew ?_ | refine blk_alloc ?_ _)); refine blk_put (cs := #[.bool t336, .slice Ao30 t328.length co30]) ?_ 1 _ rfl; (with_reducible repeat (first | refine blk_drewN ?_ _ | refine blk_drew ?_ | refine blk_alloc ?_ _)); refine blk_put (cs := #[.bool t327, .slice Ao30 t328.length co30]) ?_ 0 _ rfl; (with_reducible repeat (first | refine blk_drewN ?_ _ | refine blk_drew ?_ | refine blk_alloc ?_ _)); exact BK326.out⟩, ⟨by repeat (first | (with_reducible first | exact HB.out | apply below_alloc | apply pw_below_drewN | apply below_drew1 | refine below_set ?_ GE323.out | refine below_set ?_ GE324.out | refine below_set ?_ GE325.out | refine below_set ?_ GE326.out) | exact HB.out)⟩⟩
        ·rw [if_neg c34] at H
         have c34b0 : ((Go.bits .and .u64 (ji21) 1) == 1) = false := beq_eq_false_iff_ne.mpr c34
         have c34b1 : ((Go.bits .and .u64 (ji21) 1) != 1) = true := bne_iff_ne.mpr c34
         (first | rw [c34b0] | (simp only [i64_w, i32_w]; rw [c34b0]) | skip)
         have H' := Aside0.mk H
         clear H
         go_wp2
         go_meet
         case rel => exact ⟨_, (t327), (t328), (.slice Ao30 t328.length co30), H', ⟨by have := HK1.out; first | omega | exact Nat.le_refl _⟩, ⟨by (with_reducible repeat (first | apply Kd.R_alloc | apply Kd.R_drewN | apply Kd.R_drew)); exact Kd.R_mono (Kd.R_far (p := ⟨gb326, 1, none⟩) (Kd.R_far (p := ⟨gb326, 0, none⟩) (Kd.R_types HO_5.out BK326.out (by decide)) (fun _ hk => hk.2) (.bool t327)) (fun _ hk => hk.2) (.slice Ao30 t328.length co30)) (fun _ hk => hk.1)⟩, ⟨by (with_reducible repeat (first | apply Kd.V_alloc | apply Kd.V_drewN | apply Kd.V_drew)); exact Kd.V_mono (Kd.V_far (p := ⟨gb326, 1, none⟩) (Kd.V_far (p := ⟨gb326, 0, none⟩) (Kd.V_mono HO330.out (fun k_ hk => (⟨hk, hk.2.2.2.2.2⟩ : _ ∧ k_ ≠ gb326))) (fun _ hk => hk.2) (.bool t327)) (fun _ hk => hk.2) (.slice Ao30 t328.length co30)) (fun _ hk => ⟨hk.1.1, ⟨hk.1.2.1, ⟨hk.1.2.2.1, ⟨hk.1.2.2.2.1, ⟨hk.1.2.2.2.2.1, hk.1.2.2.2.2.2⟩⟩⟩⟩⟩)⟩, ⟨by (with_reducible repeat (first | refine blk_drewN ?_ _ | refine blk_drew ?_ | refine blk_alloc ?_ _)); refine blk_far ?_ NB323_326.out _; (with_reducible repeat (first | refine blk_drewN ?_ _ | refine blk_drew ?_ | refine blk_alloc ?_ _)); refine blk_far ?_ NB323_326.out _; (with_reducible repeat (first | refine blk_drewN ?_ _ | refine blk_drew ?_ | refine blk_alloc ?_ _)); exact BK323.out⟩, ⟨by (with_reducible repeat (first | refine blk_drewN ?_ _ | refine blk_drew ?_ | refine blk_alloc ?_ _)); refine blk_far ?_ NB324_326.out _; (with_reducible repeat (first | refine blk_drewN ?_ _ | refine blk_drew ?_ | refine blk_alloc ?_ _)); refine blk_far ?_ NB324_326.out _; (with_reducible repeat (first | refine blk_drewN ?_ _ | refine blk_drew ?_ | refine blk_alloc ?_ _)); exact BK324.out⟩, ⟨by (with_reducible repeat (first | refine blk_drewN ?_ _ | refine blk_drew ?_ | refine blk_alloc ?_ _)); refine blk_far ?_ NB325_326.out _; (with_reducible repeat (first | refine blk_drewN ?_ _ | refine blk_drew ?_ | refine blk_alloc ?_ _)); refine blk_far ?_ NB325_326.out _; (with_reducible repeat (first | refine blk_drewN ?_ _ | refine blk_drew ?_ | refine blk_alloc ?_ _)); exact BK325.out⟩, ⟨by (with_reducible repeat (first | refine blk_drewN ?_ _ | refine blk_drew ?_ | refine blk_alloc ?_ _)); refine blk_put (cs := #[.bool t327, .slice Ao27 x327001_1.length co27]) ?_ 1 _ rfl; (with_reducible repeat (first | refine blk_drewN ?_ _ | refine blk_drew ?_ | refine blk_alloc ?_ _)); refine blk_put (cs := #[.bool x327000_1, .slice Ao27 x327001_1.length co27]) ?_ 0 _ rfl; (with_reducible repeat (first | refine blk_drewN ?_ _ | refine blk_drew ?_ | refine blk_alloc ?_ _)); exact BK326.out⟩, ⟨by repeat (first | (with_reducible first | exact HB.out | apply below_alloc | apply pw_below_drewN | apply below_drew1 | refine below_set ?_ GE323.out | refine below_set ?_ GE324.out | refine below_set ?_ GE325.out | refine below_set ?_ GE326.out) | exact HB.out)⟩⟩
       case rest =>
        clear HC22
        try clear c1
        try clear c2
        try clear p2
        try clear c3
        try clear p3
        try clear q3
        try clear hx3
        try clear p6
        try clear c7
        try clear c8
        try clear c9
        try clear c11
        try clear c12
        try clear c14
        try clear c14b0
        try clear c17
        try clear c17b0
        try clear c18
        try clear c18b0
        try clear c20
        try clear c20b0
        try clear c20b1
        try clear c23
        try clear c24
        try clear c25
        try clear c31
        try clear c32
        try clear c33
        try clear p33
        try clear q33
        try clear hx33
        try clear c34
        try clear c34b0
        try clear c34b1
        try clear c36
        try clear hcz10_0
        try clear hcz10_1
        try clear hcz13_0
        try clear hcz13_1
        try clear hcz26_0
        try clear hcz26_1
        try clear hcz29_0
        try clear hcz29_1
        try clear hcz33_0
        try clear hcz33_1
        try clear hfz10_0
        try clear hfz10_1
        try clear hfz13_0
        try clear hfz13_1
        try clear hfz26_0
        try clear hfz26_1
        try clear hfz29_0
        try clear hfz29_1
        try clear hfz33_0
        try clear hfz33_1
        try clear hx331_0
        try clear p2
        try clear p331
        try clear p6
        try clear q331
        obtain ⟨kq, x327000_21, x327001_21, u327001, HA, HJ21, HO_5, HO_327001, BK323, BK324, BK325, BK326, HB⟩ := hcut
        cases kq with
        | zero => exact absurd HA.out (by simp [publicanref1_Floor.j1])
        | succ kj21 =>
         have H := HA.out
         clear HA
         simp only [publicanref1_Floor.j1] at H
         have H' := Aside0.mk H
         clear H
         go_wp2
         go_loopg [5] kj21 (fun kq v5 w' => ∃ (x5_3 : List Int), Aside0 (publicanref1_Floor.l1 kq x5_3 x7_1 a0_0 l0_1 a1_0 l1_1 x327000_21 x327001_21 = some (r1, r2)) ∧ Aside0 (kq ≤ kj21) ∧ Aside0 (Kd.R (Kd.int .u64) 46 w' w.heap.size (fun k_ => (w.heap.size ≤ k_)) v5 x5_3) ∧ Aside0 (Kd.V (Kd.int .u64) 46 w' w.heap.size (fun k_ => (w.heap.size ≤ k_) ∧ some k_ ≠ (v5 : Value).ownBlock ∧ k_ ≠ gb323 ∧ k_ ≠ gb324 ∧ k_ ≠ gb325 ∧ k_ ≠ gb326) u327001 x327001_21) ∧ Aside0 (w'.heap[gb323]? = some (.cells #[.bool a0_0, (.slice (some ad331) l0_1.length c0_1)] 55 (0, 0))) ∧ Aside0 (w'.heap[gb324]? = some (.cells #[.bool a1_0, (.slice A1_1 l1_1.length c1_1)] 55 (0, 0))) ∧ Aside0 (w'.heap[gb325]? = some (.cells #[.bool false, (.slice none 0 0)] 55 (0, 0))) ∧ Aside0 (w'.heap[gb326]? = some (.cells #[.bool x327000_21, u327001] 55 (0, 0))) ∧ Aside0 (Below w.heap.size w w'))
         case atStart => exact ⟨(x5_1), H', ⟨Nat.le_refl _⟩, ⟨by (with_reducible repeat (first | apply Kd.R_alloc | apply Kd.R_drewN | apply Kd.R_drew)); exact HO_5.out⟩, ⟨by (with_reducible repeat (first | apply Kd.V_alloc | apply Kd.V_drewN | apply Kd.V_drew)); exact HO_327001.out⟩, ⟨by (with_reducible repeat (first | refine blk_drewN ?_ _ | refine blk_drew ?_ | refine blk_alloc ?_ _)); exact BK323.out⟩, ⟨by (with_reducible repeat (first | refine blk_drewN ?_ _ | refine blk_drew ?_ | refine blk_alloc ?_ _)); exact BK324.out⟩, ⟨by (with_reducible repeat (first | refine blk_drewN ?_ _ | refine blk_drew ?_ | refine blk_alloc ?_ _)); exact BK325.out⟩, ⟨by (with_reducible repeat (first | refine blk_drewN ?_ _ | refine blk_drew ?_ | refine blk_alloc ?_ _)); exact BK326.out⟩, ⟨by repeat (first | (with_reducible first | exact HB.out | apply below_alloc | apply pw_below_drewN | apply below_drew1 | refine below_set ?_ GE323.out | refine below_set ?_ GE324.out | refine below_set ?_ GE325.out | refine below_set ?_ GE326.out) | exact HB.out)⟩⟩
         case round =>
          clear H'
          try clear c1
          try clear c2
          try clear p2
          try clear c3
          try clear p3
          try clear q3
          try clear hx3
          try clear p6
          try clear c7
          try clear c8
          try clear c9
          try clear c11
          try clear c12
          try clear c14
          try clear c14b0
          try clear c17
          try clear c17b0
          try clear c18
          try clear c18b0
          try clear c20
          try clear c20b0
          try clear c20b1
          try clear c23
          try clear c24
          try clear c25
          try clear c31
          try clear c32
          try clear c33
          try clear p33
          try clear q33
          try clear hx33
          try clear c34
          try clear c34b0
          try clear c34b1
          try clear c36
          try clear hcz10_0
          try clear hcz10_1
          try clear hcz13_0
          try clear hcz13_1
          try clear hcz26_0
          try clear hcz26_1
          try clear hcz29_0
          try clear hcz29_1
          try clear hcz33_0
          try clear hcz33_1
          try clear hfz10_0
          try clear hfz10_1
          try clear hfz13_0
          try clear hfz13_1
          try clear hfz26_0
          try clear hfz26_1
          try clear hfz29_0
          try clear hfz29_1
          try clear hfz33_0
          try clear hfz33_1
          try clear hx331_0
          try clear p2
          try clear p3
          try clear p33
          try clear p331
          try clear p6
          try clear q3
          try clear q33
          try clear q331
          try clear BK323
          try clear BK324
          try clear BK325
          try clear BK326
          obtain ⟨x5_3, HA, HK3, HO_5, HO_327001, BK323, BK324, BK325, BK326, HB⟩ := hrel
          cases gk with
          | zero => exact absurd HA.out (by simp [publicanref1_Floor.l1])
          | succ k3 =>
           have H := HA.out
           clear HA
           simp only [publicanref1_Floor.l1] at H
           by_cases c45 : (x5_3.length : Int) ≤ (wrap64 (Int.tdiv x7_1 16))
           ·rw [if_pos c45] at H
            have c45b0 : decide ((x5_3.length : Int) ≤ (wrap64 (Int.tdiv x7_1 16))) = true := decide_eq_true c45
            clear c45
            (try simp only [hji16] at c45b0)
            by_cases c46 : x5_3.length < 17592186044416
            ·rw [if_pos c46] at H
             have LMc46 := Aside0.mk c46
             clear c46
             obtain ⟨y340, hy340⟩ : ∃ y_ : List Int, y_ = (x5_3 ++ [0]) := ⟨_, rfl⟩
             replace H : (publicanref1_Floor.l1 k3 y340 x7_1 a0_0 l0_1 a1_0 l1_1 x327000_21 x327001_21) = some (r1, r2) := by first | (rw [hy340]; with_reducible exact H) | (have H2_ := (Option.bind_some _ _).symm.trans H; rw [hy340]; with_reducible exact H2_) | (have H2_ := (Option.bind_some _ _).symm.trans H; with_reducible exact H2_) | with_reducible exact H | (rw [hy340]; exact H) | exact H
             have Ny340 := Aside0.mk hy340
             clear hy340
             have H' := Aside0.mk H
             clear H
             obtain ⟨Ao47, co47, eo47⟩ := Kd.R_slice HO_5.out
             subst eo47
             go_wp2_with (first | ((with_reducible refine gate_builtin (b := .append) (xs := #[.tmp 42, .tmp 43]) rfl ?_); (try (refine gate_guard (by rfl) ?_; dsimp only)); at_builtin; refine Kd.R_append (Kd.int .u64) (w0 := w) w.heap.size rfl (.tmp 42) (.tmp 43) 53 46 (.int .u64 0) 8 rfl Try.underlying53 info46 rfl (by decide) (by omega) (.slice Ao47 x5_3.length co47) x5_3 0 [.int .u64 0] (fun k_ => (w.heap.size ≤ k_)) (fun _ => False) rfl rfl ?aP (fun _ hk => hk.elim) ?aF ?aO ?aB ?aS ?aL ?_; (case aP => exact rfl); (case aB => exact (by repeat (first | (with_reducible first | exact HB.out | apply below_alloc | apply pw_below_drewN | apply below_drew1 | refine below_set ?_ GE323.out | refine below_set ?_ GE324.out | refine below_set ?_ GE325.out | refine below_set ?_ GE326.out) | exact HB.out))); (case aF => exact (fun k_ hk => (Nat.le_trans (below_size (by repeat (first | (with_reducible first | exact HB.out | apply below_alloc | apply pw_below_drewN | apply below_drew1 | refine below_set ?_ GE323.out | refine below_set ?_ GE324.out | refine below_set ?_ GE325.out | refine below_set ?_ GE326.out) | exact HB.out))) hk))); (case aO => exact (by (with_reducible repeat (first | apply Kd.R_alloc | apply Kd.R_drewN | apply Kd.R_drew)); exact HO_5.out)); (case aS => exact (below_size (by repeat (first | (with_reducible first | exact HB.out | apply below_alloc | apply pw_below_drewN | apply below_drew1 | refine below_set ?_ GE323.out | refine below_set ?_ GE324.out | refine below_set ?_ GE325.out | refine below_set ?_ GE326.out) | exact HB.out)))); (case aL => have := LMc46.out; omega); intro v341 w48 ho hb hg hat; rw [← Ny340.out] at ho; have n0_ := Aside0.mk (Kd.V_afterv (ok := (fun k_ => (w.heap.size ≤ k_) ∧ k_ ≠ gb323 ∧ k_ ≠ gb324 ∧ k_ ≠ gb325 ∧ k_ ≠ gb326)) (by (with_reducible repeat (first | apply Kd.V_alloc | apply Kd.V_drewN | apply Kd.V_drew)); exact Kd.V_mono HO_327001.out (fun _ hk => ⟨⟨hk.1, ⟨hk.2.2.1, ⟨hk.2.2.2.1, ⟨hk.2.2.2.2.1, hk.2.2.2.2.2⟩⟩⟩⟩, hk.2.1⟩)) hg hat); have n1_ := Aside0.mk (blk_grown (g := gb323) (o := .cells #[.bool a0_0, .slice (some ad331) l0_1.length c0_1] 55 (0, 0)) (by (with_reducible repeat (first | refine blk_drewN ?_ _ | refine blk_drew ?_ | refine blk_alloc ?_ _)); exact BK323.out) hg (Kd.R_ne HO_5.out BK323.out (by decide))); have n2_ := Aside0.mk (blk_grown (g := gb324) (o := .cells #[.bool a1_0, .slice A1_1 l1_1.length c1_1] 55 (0, 0)) (by (with_reducible repeat (first | refine blk_drewN ?_ _ | refine blk_drew ?_ | refine blk_alloc ?_ _)); exact BK324.out) hg (Kd.R_ne HO_5.out BK324.out (by decide))); have n3_ := Aside0.mk (blk_grown (g := gb325) (o := .cells #[.bool false, .slice none 0 0] 55 (0, 0)) (by (with_reducible repeat (first | refine blk_drewN ?_ _ | refine blk_drew ?_ | refine blk_alloc ?_ _)); exact BK325.out) hg (Kd.R_ne HO_5.out BK325.out (by decide))); have n4_ := Aside0.mk (blk_grown (g := gb326) (o := .cells #[.bool x327000_21, u327001] 55 (0, 0)) (by (with_reducible repeat (first | refine blk_drewN ?_ _ | refine blk_drew ?_ | refine blk_alloc ?_ _)); exact BK326.out) hg (Kd.R_ne HO_5.out BK326.out (by decide))); have n5_ := Aside0.mk (hb); have n6_ := Aside0.mk (ho); clear HO_327001; clear BK323; clear BK324; clear BK325; clear BK326; clear HB; clear HO_5; have HO_327001 := n0_; have BK323 := n1_; have BK324 := n2_; have BK325 := n3_; have BK326 := n4_; have HB := n5_; have HO342 := n6_; clear n0_ n1_ n2_ n3_ n4_ n5_ n6_; clear ho hb hg hat))
             go_roundg k3
             case measure => have := HK1.out; have := HJ21.out; have := HK3.out; omega
             case rel => exact ⟨(y340), H', ⟨by have := HK1.out; have := HJ21.out; have := HK3.out; omega⟩, ⟨by (with_reducible repeat (first | apply Kd.R_alloc | apply Kd.R_drewN | apply Kd.R_drew)); exact HO342.out⟩, ⟨by (with_reducible repeat (first | apply Kd.V_alloc | apply Kd.V_drewN | apply Kd.V_drew)); exact Kd.V_mono HO_327001.out (fun _ hk => ⟨hk.1.1, ⟨hk.2, ⟨hk.1.2.1, ⟨hk.1.2.2.1, ⟨hk.1.2.2.2.1, hk.1.2.2.2.2⟩⟩⟩⟩⟩)⟩, ⟨by (with_reducible repeat (first | refine blk_drewN ?_ _ | refine blk_drew ?_ | refine blk_alloc ?_ _)); exact BK323.out⟩, ⟨by (with_reducible repeat (first | refine blk_drewN ?_ _ | refine blk_drew ?_ | refine blk_alloc ?_ _)); exact BK324.out⟩, ⟨by (with_reducible repeat (first | refine blk_drewN ?_ _ | refine blk_drew ?_ | refine blk_alloc ?_ _)); exact BK325.out⟩, ⟨by (with_reducible repeat (first | refine blk_drewN ?_ _ | refine blk_drew ?_ | refine blk_alloc ?_ _)); exact BK326.out⟩, ⟨by repeat (first | (with_reducible first | exact HB.out | apply below_alloc | apply pw_below_drewN | apply below_drew1 | refine below_set ?_ GE323.out | refine below_set ?_ GE324.out | refine below_set ?_ GE325.out | refine below_set ?_ GE326.out) | exact HB.out)⟩⟩
            ·rw [if_neg c46] at H
             exact absurd H (by simp)
           ·rw [if_neg c45] at H
            have c45b0 : decide ((x5_3.length : Int) ≤ (wrap64 (Int.tdiv x7_1 16))) = false := decide_eq_false c45
            clear c45
            (try simp only [hji16] at c45b0)
            replace H := Option.bind_eq_some_iff.mp H
            obtain ⟨t343, A490, H⟩ := H
            replace H : (if t343 = true then (publicanref1_Floor.l0 k3 x5_3 (wrap64 (x7_1 - 1)) a0_0 l0_1 a1_0 l1_1 x327000_21 x327001_21) else ((publicanref1_Add.f k3 x327000_21 x327001_21 true l1_1).bind fun bt344 => (if 0 ≤ (wrap64 (Int.tdiv x7_1 16)) then (if (wrap64 (Int.tdiv x7_1 16)) < (x5_3.length : Int) then (if 0 ≤ (IntKind.u64.wrap (Int.tmod x7_1 16)) then (publicanref1_Floor.l0 k3 (x5_3.set ((wrap64 (Int.tdiv x7_1 16)) : Int).toNat (Go.bits .or .u64 (rd x5_3 (wrap64 (Int.tdiv x7_1 16))) (shl .u64 1 (IntKind.u64.wrap (Int.tmod x7_1 16))))) (wrap64 (x7_1 - 1)) a0_0 l0_1 a1_0 l1_1 bt344.1 bt344.2) else (none)) else (none)) else (none)))) = some (r1, r2) := H
            have A49 := Aside0.mk A490
            clear A490
            by_cases c50 : t343 = true
            ·subst c50
             have H1 : (publicanref1_Floor.l0 k3 x5_3 (wrap64 (x7_1 - 1)) a0_0 l0_1 a1_0 l1_1 x327000_21 x327001_21) = some (r1, r2) := by rw [if_pos rfl] at H; exact H
             clear H
             have H := H1
             clear H1
             have H' := Aside0.mk H
             clear H
             obtain ⟨Ao51, co51, eo51⟩ := Kd.R_slice HO_5.out
             subst eo51
             have hnb52 := NB326_323.out
             have hnc52 := NB323_326.out
             have hnb53 := NB326_324.out
             have hnc53 := NB324_326.out
             have hnb54 := NB326_325.out
             have hnc54 := NB325_326.out
             have hcz55_0 : wr.cell? ⟨gb326, 0, none⟩ = some (.bool x327000_21) := (blk_cell BK326.out 0).trans rfl
             have hcz55_1 : wr.cell? ⟨gb326, 1, none⟩ = some (u327001) := (blk_cell BK326.out 1).trans rfl
             have hfz55_0 := blk_frozen BK326.out 0
             have hfz55_1 := blk_frozen BK326.out 1
             have hnb56 := NB324_323.out
             have hnc56 := NB323_324.out
             have hnb57 := NB324_325.out
             have hnc57 := NB325_324.out
             have hcz58_0 : wr.cell? ⟨gb324, 0, none⟩ = some (.bool a1_0) := (blk_cell BK324.out 0).trans rfl
             have hcz58_1 : wr.cell? ⟨gb324, 1, none⟩ = some (.slice A1_1 l1_1.length c1_1) := (blk_cell BK324.out 1).trans rfl
             have hfz58_0 := blk_frozen BK324.out 0
             have hfz58_1 := blk_frozen BK324.out 1
             obtain ⟨Ao59, co59, eo59⟩ := Kd.V_slice HO_327001.out
             subst eo59
             go_wp2_with (first | ((with_reducible refine gate_callee (f := 53) rfl ?_); refine goesL_ (some 49) rfl rfl Try.func53 (by kernel_rfl) rfl #[.slice Ao59 x327001_21.length co59, .slice A1_1 l1_1.length c1_1] rfl (by (try simp only [List.map_toArray, List.map_cons, List.map_nil]); first | done | rfl | (simp only [List.length_drop, List.length_take]; rfl)) ?_; (with_reducible refine (publicanref1_less.calls k3 _ _ x327001_21 _ _ l1_1 true _ ?side1 ?side2 ?side3 ?side4 A49.out).mono ?_); (case side1 => repeat (first | exact (Kd.V_reads' HO_327001.out).2.2 | (with_reducible refine Kd.C_alloc ?_ _) | (with_reducible refine Kd.C_drewN ?_ _) | (with_reducible refine Kd.C_drew ?_))); (case side2 => exact (Kd.V_reads' HO_327001.out).2.1); (case side3 => repeat (first | exact (Kd.C_below HR1_1.out HB.out) | (with_reducible refine Kd.C_alloc ?_ _) | (with_reducible refine Kd.C_drewN ?_ _) | (with_reducible refine Kd.C_drew ?_))); (case side4 => exact HC1_1.out); rintro e w' ⟨rfl, ⟨nd, rfl⟩⟩; refine ⟨_, rfl, ?_⟩))
             go_roundg k3
             case measure => have := HK1.out; have := HJ21.out; have := HK3.out; omega
             case rel => exact ⟨(x5_3), (wrap64 (x7_1 - 1)), (x327000_21), (x327001_21), (.slice Ao59 x327001_21.length co59), (by first | rfl | (simp; done) | (simp [*]; done)), H', ⟨by have := HK1.out; have := HJ21.out; have := HK3.out; omega⟩, ⟨by (with_reducible repeat (first | apply Kd.R_alloc | apply Kd.R_drewN | apply Kd.R_drew)); exact HO_5.out⟩, ⟨by (with_reducible repeat (first | apply Kd.V_alloc | apply Kd.V_drewN | apply Kd.V_drew)); exact HO_327001.out⟩, ⟨by (with_reducible repeat (first | refine blk_drewN ?_ _ | refine blk_drew ?_ | refine blk_alloc ?_ _)); exact BK323.out⟩, ⟨by (with_reducible repeat (first | refine blk_drewN ?_ _ | refine blk_drew ?_ | refine blk_alloc ?_ _)); exact BK324.out⟩, ⟨by (with_reducible repeat (first | refine blk_drewN ?_ _ | refine blk_drew ?_ | refine blk_alloc ?_ _)); exact BK325.out⟩, ⟨by (with_reducible repeat (first | refine blk_drewN ?_ _ | refine blk_drew ?_ | refine blk_alloc ?_ _)); exact BK326.out⟩, ⟨by repeat (first | (with_reducible first | exact HB.out | apply below_alloc | apply pw_below_drewN | apply below_drew1 | refine below_set ?_ GE323.out | refine below_set ?_ GE324.out | refine below_set ?_ GE325.out | refine below_set ?_ GE326.out) | exact HB.out)⟩⟩
            ·replace c50 := Bool.eq_false_iff.mpr c50
             subst c50
             have H1 : ((publicanref1_Add.f k3 x327000_21 x327001_21 true l1_1).bind fun bt344 => (if 0 ≤ (wrap64 (Int.tdiv x7_1 16)) then (if (wrap64 (Int.tdiv x7_1 16)) < (x5_3.length : Int) then (if 0 ≤ (IntKind.u64.wrap (Int.tmod x7_1 16)) then (publicanref1_Floor.l0 k3 (x5_3.set ((wrap64 (Int.tdiv x7_1 16)) : Int).toNat (Go.bits .or .u64 (rd x5_3 (wrap64 (Int.tdiv x7_1 16))) (shl .u64 1 (IntKind.u64.wrap (Int.tmod x7_1 16))))) (wrap64 (x7_1 - 1)) a0_0 l0_1 a1_0 l1_1 bt344.1 bt344.2) else (none)) else (none)) else (none))) = some (r1, r2) := by rw [if_neg (show ¬ (false = true) by decide)] at H; exact H
             clear H
             have H := H1
             clear H1
             replace H := Option.bind_eq_some_iff.mp H
             obtain ⟨⟨t344, t345⟩, A600, H⟩ := H
             replace H : (if 0 ≤ (wrap64 (Int.tdiv x7_1 16)) then (if (wrap64 (Int.tdiv x7_1 16)) < (x5_3.length : Int) then (if 0 ≤ (IntKind.u64.wrap (Int.tmod x7_1 16)) then (publicanref1_Floor.l0 k3 (x5_3.set ((wrap64 (Int.tdiv x7_1 16)) : Int).toNat (Go.bits .or .u64 (rd x5_3 (wrap64 (Int.tdiv x7_1 16))) (shl .u64 1 (IntKind.u64.wrap (Int.tmod x7_1 16))))) (wrap64 (x7_1 - 1)) a0_0 l0_1 a1_0 l1_1 t344 t345) else (none)) else (none)) else (none)) = some (r1, r2) := H
             have A60 := Aside0.mk A600
             clear A600
             replace H : (if 0 ≤ (ji16) then (if (ji16) < (x5_3.length : Int) then (if 0 ≤ (IntKind.u64.wrap (Int.tmod x7_1 16)) then (publicanref1_Floor.l0 k3 (x5_3.set ((ji16) : Int).toNat (Go.bits .or .u64 (rd x5_3 (ji16)) (shl .u64 1 (IntKind.u64.wrap (Int.tmod x7_1 16))))) (wrap64 (x7_1 - 1)) a0_0 l0_1 a1_0 l1_1 t344 t345) else (none)) else (none)) else (none)) = some (r1, r2) := by first | (rw [hji16] at H; exact H) | (simp only [hji16] at H ⊢; exact H)
             (try rw [hji16] at c45b0)
             (try rw [hji16] at A49)
             (try rw [hji16] at A60)
             have hji16w : (IntKind.i64.wrap (Int.tdiv x7_1 16)) = ji16 := (i64_w _).trans hji16
             by_cases c61 : 0 ≤ (ji16)
             ·rw [if_pos c61] at H
              have c61b0 : decide (0 ≤ (ji16)) = true := decide_eq_true c61
              clear c61
              by_cases c62 : (ji16) < (x5_3.length : Int)
              ·rw [if_pos c62] at H
               have c62b0 : decide ((ji16) < (x5_3.length : Int)) = true := decide_eq_true c62
               clear c62
               replace H : (if 0 ≤ (ji19) then (publicanref1_Floor.l0 k3 (x5_3.set ((ji16) : Int).toNat (Go.bits .or .u64 (rd x5_3 (ji16)) (shl .u64 1 (ji19)))) (wrap64 (x7_1 - 1)) a0_0 l0_1 a1_0 l1_1 t344 t345) else (none)) = some (r1, r2) := by first | (rw [hji19] at H; exact H) | (simp only [hji19] at H ⊢; exact H)
               (try rw [hji19] at A49)
               (try rw [hji19] at A60)
               by_cases c63 : 0 ≤ (ji19)
               ·rw [if_pos c63] at H
                have c63b0 := eq_true c63
                have c63b1 : decide (0 ≤ (ji19)) = true := decide_eq_true c63
                clear c63
                obtain ⟨ji64, hji64⟩ : ∃ j_ : Int, (shl .u64 1 (ji19)) = j_ := ⟨_, rfl⟩
                replace H : (publicanref1_Floor.l0 k3 (x5_3.set ((ji16) : Int).toNat (Go.bits .or .u64 (rd x5_3 (ji16)) (ji64))) (wrap64 (x7_1 - 1)) a0_0 l0_1 a1_0 l1_1 t344 t345) = some (r1, r2) := by first | (rw [hji64] at H; exact H) | (simp only [hji64] at H ⊢; exact H)
                (try rw [hji64] at A49)
                (try rw [hji64] at A60)
                have hji64_ : (IntKind.u64.wrap (1 * 2 ^ min (ji19).toNat 64)) = ji64 := hji64
                have hji64z : (ji19) ≤ 64 → (IntKind.u64.wrap (1 * 2 ^ (ji19).toNat)) = ji64 := shl_small hji64
                have hji64u : (IntKind.u64.wrap (2 ^ min (ji19).toNat 64)) = ji64 := by have h_ := hji64_; rw [Int.one_mul] at h_; exact h_
                have hji64v : (ji19) ≤ 64 → (IntKind.u64.wrap (2 ^ (ji19).toNat)) = ji64 := fun hle_ => by have h_ := hji64z hle_; rw [Int.one_mul] at h_; exact h_
                obtain ⟨y349, hy349⟩ : ∃ y_ : List Int, y_ = (x5_3.set ((ji16) : Int).toNat (Go.bits .or .u64 (rd x5_3 (ji16)) (ji64))) := ⟨_, rfl⟩
                replace H : (publicanref1_Floor.l0 k3 y349 (wrap64 (x7_1 - 1)) a0_0 l0_1 a1_0 l1_1 t344 t345) = some (r1, r2) := by first | (rw [hy349]; with_reducible exact H) | (have H2_ := (Option.bind_some _ _).symm.trans H; rw [hy349]; with_reducible exact H2_) | (have H2_ := (Option.bind_some _ _).symm.trans H; with_reducible exact H2_) | with_reducible exact H | (rw [hy349]; exact H) | exact H
                have Ny349 := Aside0.mk hy349
                clear hy349
                have H' := Aside0.mk H
                clear H
                obtain ⟨Ao66, co66, eo66⟩ := Kd.R_slice HO_5.out
                subst eo66
                have hnb67 := NB326_323.out
                have hnc67 := NB323_326.out
                have hnb68 := NB326_324.out
                have hnc68 := NB324_326.out
                have hnb69 := NB326_325.out
                have hnc69 := NB325_326.out
                have hcz70_0 : wr.cell? ⟨gb326, 0, none⟩ = some (.bool x327000_21) := (blk_cell BK326.out 0).trans rfl
                have hcz70_1 : wr.cell? ⟨gb326, 1, none⟩ = some (u327001) := (blk_cell BK326.out 1).trans rfl
                have hfz70_0 := blk_frozen BK326.out 0
                have hfz70_1 := blk_frozen BK326.out 1
                have hnb71 := NB324_323.out
                have hnc71 := NB323_324.out
                have hnb72 := NB324_325.out
                have hnc72 := NB325_324.out
                have hcz73_0 : wr.cell? ⟨gb324, 0, none⟩ = some (.bool a1_0) := (blk_cell BK324.out 0).trans rfl
                have hcz73_1 : wr.cell? ⟨gb324, 1, none⟩ = some (.slice A1_1 l1_1.length c1_1) := (blk_cell BK324.out 1).trans rfl
                have hfz73_0 := blk_frozen BK324.out 0
                have hfz73_1 := blk_frozen BK324.out 1
                obtain ⟨Ao74, co74, eo74⟩ := Kd.V_slice HO_327001.out
                subst eo74
                go_wp2_with (first | ((with_reducible refine gate_callee (f := 53) rfl ?_); refine goesL_ (some 49) rfl rfl Try.func53 (by kernel_rfl) rfl #[.slice Ao74 x327001_21.length co74, .slice A1_1 l1_1.length c1_1] rfl (by (try simp only [List.map_toArray, List.map_cons, List.map_nil]); first | done | rfl | (simp only [List.length_drop, List.length_take]; rfl)) ?_; (with_reducible refine (publicanref1_less.calls k3 _ _ x327001_21 _ _ l1_1 false _ ?side1 ?side2 ?side3 ?side4 A49.out).mono ?_); (case side1 => repeat (first | exact (Kd.V_reads' HO_327001.out).2.2 | (with_reducible refine Kd.C_alloc ?_ _) | (with_reducible refine Kd.C_drewN ?_ _) | (with_reducible refine Kd.C_drew ?_))); (case side2 => exact (Kd.V_reads' HO_327001.out).2.1); (case side3 => repeat (first | exact (Kd.C_below HR1_1.out HB.out) | (with_reducible refine Kd.C_alloc ?_ _) | (with_reducible refine Kd.C_drewN ?_ _) | (with_reducible refine Kd.C_drew ?_))); (case side4 => exact HC1_1.out); rintro e w' ⟨rfl, ⟨nd, rfl⟩⟩; refine ⟨_, rfl, ?_⟩; (try (rw [drewN_self wr]; generalize hq_ : World.drewN wr _ = wr; have n0_ : Aside0 (Kd.V (Kd.int .u64) 46 wr w.heap.size (fun k_ => (w.heap.size ≤ k_) ∧ some k_ ≠ (.slice Ao66 x5_3.length co66 : Value).ownBlock ∧ k_ ≠ gb323 ∧ k_ ≠ gb324 ∧ k_ ≠ gb325 ∧ k_ ≠ gb326) (.slice Ao74 x327001_21.length co74) x327001_21) := ⟨by rw [← hq_]; exact (by (with_reducible repeat (first | apply Kd.V_alloc | apply Kd.V_drewN | apply Kd.V_drew)); exact HO_327001.out)⟩; have n1_ : Aside0 (Kd.R (Kd.int .u64) 46 wr w.heap.size (fun k_ => (w.heap.size ≤ k_)) (.slice Ao66 x5_3.length co66) x5_3) := ⟨by rw [← hq_]; exact (by (with_reducible repeat (first | apply Kd.R_alloc | apply Kd.R_drewN | apply Kd.R_drew)); exact HO_5.out)⟩; have n2_ : Aside0 (wr.heap[gb323]? = some (.cells #[.bool a0_0, .slice (some ad331) l0_1.length c0_1] 55 (0, 0))) := ⟨by rw [← hq_]; exact (by (with_reducible repeat (first | refine blk_drewN ?_ _ | refine blk_drew ?_ | refine blk_alloc ?_ _)); exact BK323.out)⟩; have n3_ : Aside0 (wr.heap[gb324]? = some (.cells #[.bool a1_0, .slice A1_1 l1_1.length c1_1] 55 (0, 0))) := ⟨by rw [← hq_]; exact (by (with_reducible repeat (first | refine blk_drewN ?_ _ | refine blk_drew ?_ | refine blk_alloc ?_ _)); exact BK324.out)⟩; have n4_ : Aside0 (wr.heap[gb325]? = some (.cells #[.bool false, .slice none 0 0] 55 (0, 0))) := ⟨by rw [← hq_]; exact (by (with_reducible repeat (first | refine blk_drewN ?_ _ | refine blk_drew ?_ | refine blk_alloc ?_ _)); exact BK325.out)⟩; have n5_ : Aside0 (wr.heap[gb326]? = some (.cells #[.bool x327000_21, .slice Ao74 x327001_21.length co74] 55 (0, 0))) := ⟨by rw [← hq_]; exact (by (with_reducible repeat (first | refine blk_drewN ?_ _ | refine blk_drew ?_ | refine blk_alloc ?_ _)); exact BK326.out)⟩; have n6_ : Aside0 (Below w.heap.size w wr) := ⟨by rw [← hq_]; exact (by repeat (first | (with_reducible first | exact HB.out | apply below_alloc | apply pw_below_drewN | apply below_drew1 | refine below_set ?_ GE323.out | refine below_set ?_ GE324.out | refine below_set ?_ GE325.out | refine below_set ?_ GE326.out) | exact HB.out))⟩; clear HO_327001 HO_5 BK323 BK324 BK325 BK326 HB hq_; have HO_327001 := n0_; have HO_5 := n1_; have BK323 := n2_; have BK324 := n3_; have BK325 := n4_; have BK326 := n5_; have HB := n6_; clear n0_ n1_ n2_ n3_ n4_ n5_ n6_)); (try (have hcz75_0 : wr.cell? ⟨gb323, 0, none⟩ = some (.bool a0_0) := (blk_cell BK323.out 0).trans rfl)); (try (have hcz75_1 : wr.cell? ⟨gb323, 1, none⟩ = some (.slice (some ad331) l0_1.length c0_1) := (blk_cell BK323.out 1).trans rfl)); (try (have hcz76_0 : wr.cell? ⟨gb324, 0, none⟩ = some (.bool a1_0) := (blk_cell BK324.out 0).trans rfl)); (try (have hcz76_1 : wr.cell? ⟨gb324, 1, none⟩ = some (.slice A1_1 l1_1.length c1_1) := (blk_cell BK324.out 1).trans rfl)); (try (have hcz77_0 : wr.cell? ⟨gb325, 0, none⟩ = some (.bool false) := (blk_cell BK325.out 0).trans rfl)); (try (have hcz77_1 : wr.cell? ⟨gb325, 1, none⟩ = some (.slice none 0 0) := (blk_cell BK325.out 1).trans rfl)); (try (have hcz78_0 : wr.cell? ⟨gb326, 0, none⟩ = some (.bool x327000_21) := (blk_cell BK326.out 0).trans rfl)); (try (have hcz78_1 : wr.cell? ⟨gb326, 1, none⟩ = some (.slice Ao74 x327001_21.length co74) := (blk_cell BK326.out 1).trans rfl))) | ((with_reducible refine gate_callee (f := 33) rfl ?_); refine goesL_ (some 55) rfl rfl Try.func33 (by kernel_rfl) rfl #[.agg #[.bool x327000_21, .slice Ao74 x327001_21.length co74], .agg #[.bool true, .slice A1_1 l1_1.length c1_1]] rfl (by (try simp only [List.map_toArray, List.map_cons, List.map_nil]); first | done | rfl | (simp only [List.length_drop, List.length_take]; rfl)) ?_; (with_reducible refine (publicanref1_Add.calls k3 x327000_21 _ _ x327001_21 true _ _ l1_1 t344 t345 _ ?side1 ?side2 ?side3 ?side4 A60.out).mono ?_); (case side1 => repeat (first | exact (Kd.V_reads' HO_327001.out).2.2 | (with_reducible refine Kd.C_alloc ?_ _) | (with_reducible refine Kd.C_drewN ?_ _) | (with_reducible refine Kd.C_drew ?_))); (case side2 => exact (Kd.V_reads' HO_327001.out).2.1); (case side3 => repeat (first | exact (Kd.C_below HR1_1.out HB.out) | (with_reducible refine Kd.C_alloc ?_ _) | (with_reducible refine Kd.C_drewN ?_ _) | (with_reducible refine Kd.C_drew ?_))); (case side4 => exact HC1_1.out); rintro e w79 ⟨v346, rfl, ho0, hb⟩; refine ⟨_, rfl, ?_⟩; have n0_ := Aside0.mk (Kd.R_below (by (with_reducible repeat (first | apply Kd.R_alloc | apply Kd.R_drewN | apply Kd.R_drew)); exact HO_5.out) hb); have n1_ := Aside0.mk (Kd.V_below (by (with_reducible repeat (first | apply Kd.V_alloc | apply Kd.V_drewN | apply Kd.V_drew)); exact HO_327001.out) hb); have n2_ := Aside0.mk (Kd.V_lower (Kd.V_mono (ok' := fun k_ => (w.heap.size ≤ k_) ∧ some k_ ≠ (.slice Ao66 x5_3.length co66 : Value).ownBlock ∧ k_ ≠ gb323 ∧ k_ ≠ gb324 ∧ k_ ≠ gb325 ∧ k_ ≠ gb326) ho0 (fun k_ hk_ => ⟨(Nat.le_trans (below_size (by repeat (first | (with_reducible first | exact HB.out | apply below_alloc | apply pw_below_drewN | apply below_drew1 | refine below_set ?_ GE323.out | refine below_set ?_ GE324.out | refine below_set ?_ GE325.out | refine below_set ?_ GE326.out) | exact HB.out))) hk_), (Kd.fresh' (Kd.R_lt (by (with_reducible repeat (first | apply Kd.R_alloc | apply Kd.R_drewN | apply Kd.R_drew)); exact HO_5.out)) k_ hk_), (Kd.freshB (g := gb323) (o := .cells #[.bool a0_0, .slice (some ad331) l0_1.length c0_1] 55 (0, 0)) (by (with_reducible repeat (first | refine blk_drewN ?_ _ | refine blk_drew ?_ | refine blk_alloc ?_ _)); exact BK323.out) k_ hk_), (Kd.freshB (g := gb324) (o := .cells #[.bool a1_0, .slice A1_1 l1_1.length c1_1] 55 (0, 0)) (by (with_reducible repeat (first | refine blk_drewN ?_ _ | refine blk_drew ?_ | refine blk_alloc ?_ _)); exact BK324.out) k_ hk_), (Kd.freshB (g := gb325) (o := .cells #[.bool false, .slice none 0 0] 55 (0, 0)) (by (with_reducible repeat (first | refine blk_drewN ?_ _ | refine blk_drew ?_ | refine blk_alloc ?_ _)); exact BK325.out) k_ hk_), (Kd.freshB (g := gb326) (o := .cells #[.bool x327000_21, .slice Ao74 x327001_21.length co74] 55 (0, 0)) (by (with_reducible repeat (first | refine blk_drewN ?_ _ | refine blk_drew ?_ | refine blk_alloc ?_ _)); exact BK326.out) k_ hk_)⟩)) (below_size (by repeat (first | (with_reducible first | exact HB.out | apply below_alloc | apply pw_below_drewN | apply below_drew1 | refine below_set ?_ GE323.out | refine below_set ?_ GE324.out | refine below_set ?_ GE325.out | refine below_set ?_ GE326.out) | exact HB.out)))); have n3_ := Aside0.mk (blk_below (g := gb323) (o := .cells #[.bool a0_0, .slice (some ad331) l0_1.length c0_1] 55 (0, 0)) (by (with_reducible repeat (first | refine blk_drewN ?_ _ | refine blk_drew ?_ | refine blk_alloc ?_ _)); exact BK323.out) hb); have n4_ := Aside0.mk (blk_below (g := gb324) (o := .cells #[.bool a1_0, .slice A1_1 l1_1.length c1_1] 55 (0, 0)) (by (with_reducible repeat (first | refine blk_drewN ?_ _ | refine blk_drew ?_ | refine blk_alloc ?_ _)); exact BK324.out) hb); have n5_ := Aside0.mk (blk_below (g := gb325) (o := .cells #[.bool false, .slice none 0 0] 55 (0, 0)) (by (with_reducible repeat (first | refine blk_drewN ?_ _ | refine blk_drew ?_ | refine blk_alloc ?_ _)); exact BK325.out) hb); have n6_ := Aside0.mk (blk_below (g := gb326) (o := .cells #[.bool x327000_21, .slice Ao74 x327001_21.length co74] 55 (0, 0)) (by (with_reducible repeat (first | refine blk_drewN ?_ _ | refine blk_drew ?_ | refine blk_alloc ?_ _)); exact BK326.out) hb); have n7_ := Aside0.mk (below_step (by repeat (first | (with_reducible first | exact HB.out | apply below_alloc | apply pw_below_drewN | apply below_drew1 | refine below_set ?_ GE323.out | refine below_set ?_ GE324.out | refine below_set ?_ GE325.out | refine below_set ?_ GE326.out) | exact HB.out)) hb); clear HO_5; clear HO_327001; clear BK323; clear BK324; clear BK325; clear BK326; clear HB; have HO_5 := n0_; have HO_327001 := n1_; have HO347 := n2_; have BK323 := n3_; have BK324 := n4_; have BK325 := n5_; have BK326 := n6_; have HB := n7_; clear n0_ n1_ n2_ n3_ n4_ n5_ n6_ n7_; (try clear hb); (try clear hb2); (try clear hk); (try clear hi); (try clear ho0); have hcz80_0 : w79.cell? ⟨gb326, 0, none⟩ = some (.bool x327000_21) := (blk_cell BK326.out 0).trans rfl; have hcz80_1 : w79.cell? ⟨gb326, 1, none⟩ = some (.slice Ao74 x327001_21.length co74) := (blk_cell BK326.out 1).trans rfl; have hfz80_0 := blk_frozen BK326.out 0; have hfz80_1 := blk_frozen BK326.out 1; obtain ⟨Ao81, co81, eo81⟩ := Kd.V_slice HO347.out; subst eo81) | ((with_reducible refine gate_store (t := 55) (p := 6) rfl ?_); refine store_event (t := 55) (p := 6) (v := ?vo_w82) (w1 := ((w79.setCell ⟨gb326, 0, none⟩ (.bool t344)).setCell ⟨gb326, 1, none⟩ (.slice Ao81 t345.length co81))) ?hg ?ho ?hn ?hr ?_; (case ho => rfl); (case hg => rfl); (case hn => rfl); (case hr => first | (go_simp; done) | (go_simp; rfl)); intro w82 hw; have n0_ : Aside0 (Kd.R (Kd.int .u64) 46 w82 w.heap.size (fun k_ => (w.heap.size ≤ k_)) (.slice Ao66 x5_3.length co66) x5_3) := ⟨(by rw [hw]; exact (by (with_reducible repeat (first | apply Kd.R_alloc | apply Kd.R_drewN | apply Kd.R_drew)); exact Kd.R_mono (Kd.R_far (p := ⟨gb326, 1, none⟩) (Kd.R_far (p := ⟨gb326, 0, none⟩) (Kd.R_types HO_5.out BK326.out (by decide)) (fun _ hk => hk.2) (.bool t344)) (fun _ hk => hk.2) (.slice Ao81 t345.length co81)) (fun _ hk => hk.1)))⟩; have n1_ : Aside0 (Kd.V (Kd.int .u64) 46 w82 w.heap.size (fun k_ => (w.heap.size ≤ k_) ∧ some k_ ≠ (.slice Ao66 x5_3.length co66 : Value).ownBlock ∧ k_ ≠ gb323 ∧ k_ ≠ gb324 ∧ k_ ≠ gb325 ∧ k_ ≠ gb326) (.slice Ao74 x327001_21.length co74) x327001_21) := ⟨(by rw [hw]; exact (by (with_reducible repeat (first | apply Kd.V_alloc | apply Kd.V_drewN | apply Kd.V_drew)); exact Kd.V_mono (Kd.V_far (p := ⟨gb326, 1, none⟩) (Kd.V_far (p := ⟨gb326, 0, none⟩) (Kd.V_mono HO_327001.out (fun k_ hk => (⟨hk, hk.2.2.2.2.2⟩ : _ ∧ k_ ≠ gb326))) (fun _ hk => hk.2) (.bool t344)) (fun _ hk => hk.2) (.slice Ao81 t345.length co81)) (fun _ hk => ⟨hk.1.1, ⟨hk.1.2.1, ⟨hk.1.2.2.1, ⟨hk.1.2.2.2.1, ⟨hk.1.2.2.2.2.1, hk.1.2.2.2.2.2⟩⟩⟩⟩⟩)))⟩; have n2_ : Aside0 (Kd.V (Kd.int .u64) 46 w82 w.heap.size (fun k_ => (w.heap.size ≤ k_) ∧ some k_ ≠ (.slice Ao66 x5_3.length co66 : Value).ownBlock ∧ k_ ≠ gb323 ∧ k_ ≠ gb324 ∧ k_ ≠ gb325 ∧ k_ ≠ gb326) (.slice Ao81 t345.length co81) t345) := ⟨(by rw [hw]; exact (by (with_reducible repeat (first | apply Kd.V_alloc | apply Kd.V_drewN | apply Kd.V_drew)); exact Kd.V_mono (Kd.V_far (p := ⟨gb326, 1, none⟩) (Kd.V_far (p := ⟨gb326, 0, none⟩) (Kd.V_mono HO347.out (fun k_ hk => (⟨hk, hk.2.2.2.2.2⟩ : _ ∧ k_ ≠ gb326))) (fun _ hk => hk.2) (.bool t344)) (fun _ hk => hk.2) (.slice Ao81 t345.length co81)) (fun _ hk => ⟨hk.1.1, ⟨hk.1.2.1, ⟨hk.1.2.2.1, ⟨hk.1.2.2.2.1, ⟨hk.1.2.2.2.2.1, hk.1.2.2.2.2.2⟩⟩⟩⟩⟩)))⟩; have n3_ : Aside0 (w82.heap[gb323]? = some (.cells #[.bool a0_0, .slice (some ad331) l0_1.length c0_1] 55 (0, 0))) := ⟨(by rw [hw]; exact (by (with_reducible repeat (first | refine blk_drewN ?_ _ | refine blk_drew ?_ | refine blk_alloc ?_ _)); refine blk_far ?_ NB323_326.out _; (with_reducible repeat (first | refine blk_drewN ?_ _ | refine blk_drew ?_ | refine blk_alloc ?_ _)); refine blk_far ?_ NB323_326.out _; (with_reducible repeat (first | refine blk_drewN ?_ _ | refine blk_drew ?_ | refine blk_alloc ?_ _)); exact BK323.out))⟩; have n4_ : Aside0 (w82.heap[gb324]? = some (.cells #[.bool a1_0, .slice A1_1 l1_1.length c1_1] 55 (0, 0))) := ⟨(by rw [hw]; exact (by (with_reducible repeat (first | refine blk_drewN ?_ _ | refine blk_drew ?_ | refine blk_alloc ?_ _)); refine blk_far ?_ NB324_326.out _; (with_reducible repeat (first | refine blk_drewN ?_ _ | refine blk_drew ?_ | refine blk_alloc ?_ _)); refine blk_far ?_ NB324_326.out _; (with_reducible repeat (first | refine blk_drewN ?_ _ | refine blk_drew ?_ | refine blk_alloc ?_ _)); exact BK324.out))⟩; have n5_ : Aside0 (w82.heap[gb325]? = some (.cells #[.bool false, .slice none 0 0] 55 (0, 0))) := ⟨(by rw [hw]; exact (by (with_reducible repeat (first | refine blk_drewN ?_ _ | refine blk_drew ?_ | refine blk_alloc ?_ _)); refine blk_far ?_ NB325_326.out _; (with_reducible repeat (first | refine blk_drewN ?_ _ | refine blk_drew ?_ | refine blk_alloc ?_ _)); refine blk_far ?_ NB325_326.out _; (with_reducible repeat (first | refine blk_drewN ?_ _ | refine blk_drew ?_ | refine blk_alloc ?_ _)); exact BK325.out))⟩; have n6_ : Aside0 (w82.heap[gb326]? = some (.cells #[.bool t344, .slice Ao81 t345.length co81] 55 (0, 0))) := ⟨(by rw [hw]; exact (by (with_reducible repeat (first | refine blk_drewN ?_ _ | refine blk_drew ?_ | refine blk_alloc ?_ _)); refine blk_put (cs := #[.bool t344, .slice Ao74 x327001_21.length co74]) ?_ 1 _ rfl; (with_reducible repeat (first | refine blk_drewN ?_ _ | refine blk_drew ?_ | refine blk_alloc ?_ _)); refine blk_put (cs := #[.bool x327000_21, .slice Ao74 x327001_21.length co74]) ?_ 0 _ rfl; (with_reducible repeat (first | refine blk_drewN ?_ _ | refine blk_drew ?_ | refine blk_alloc ?_ _)); exact BK326.out))⟩; have n7_ : Aside0 (Below w.heap.size w w82) := ⟨(by rw [hw]; exact (by repeat (first | (with_reducible first | exact HB.out | apply below_alloc | apply pw_below_drewN | apply below_drew1 | refine below_set ?_ GE323.out | refine below_set ?_ GE324.out | refine below_set ?_ GE325.out | refine below_set ?_ GE326.out) | exact HB.out)))⟩; clear hw; clear HO_5; clear HO_327001; clear HO347; clear BK323; clear BK324; clear BK325; clear BK326; clear HB; have HO_5 := n0_; have HO_327001 := n1_; have HO347 := n2_; have BK323 := n3_; have BK324 := n4_; have BK325 := n5_; have BK326 := n6_; have HB := n7_; clear n0_ n1_ n2_ n3_ n4_ n5_ n6_ n7_; have p348 : 0 ≤ ((ji16) : Int) := of_decide_eq_true (by first | (with_reducible assumption) | assumption); have q348 : (ji16) < (x5_3.length : Int) := of_decide_eq_true (by first | (with_reducible assumption) | assumption); obtain ⟨ad348, e348, hx348_0⟩ := Kd.at_int (Kd.R_reads' HO_5.out).2.2 (ji16) p348 q348; cases e348; replace p348 := eq_true p348; replace q348 := eq_true q348; have p65 : 0 ≤ ((ji16) : Int) := of_decide_eq_true (by first | (with_reducible assumption) | assumption); have q65 : ((ji16) : Int) < ((x5_3.length : Int) : Int) := of_decide_eq_true (by first | (with_reducible assumption) | assumption); obtain ⟨go65, co65, eo65, gb65, gl65, cl65, HG65⟩ := Kd.R_form HO_5.out (by omega); (first | cases eo65 | (injection eo65 with ea_ en_ ec_; (first | subst ea_ | (injection ea_ with ea_; subst ea_)); subst ec_; clear en_)); have GB65 := Aside0.mk gb65; have GG65 := Aside0.mk HG65; clear gb65 gl65 HG65; (first | simp only [add_plain] at hx348_0 | skip); obtain ⟨hx65_0, hf65_0⟩ := Kd.R_celln 0 HO_5.out ((ji16) : Int) p65 q65; replace p65 := eq_true p65; replace q65 := eq_true q65; obtain ⟨hy83_, hz83_⟩ := Kd.R_celln 0 HO_5.out ((ji16) : Int) (of_decide_eq_true (by first | (with_reducible assumption) | assumption)) (of_decide_eq_true (by first | (with_reducible assumption) | assumption)); have HP83 := Kd.R_putg HO_5.out ((ji16) : Int) (Go.bits .or .u64 (rd x5_3 (ji16)) (ji64))) | ((with_reducible refine gate_store (t := 46) (p := 69) rfl ?_); refine store_event (t := 46) (p := 69) (v := ?vo_w84) (w1 := (w82.setCell ⟨go65, ((ji16) : Int).toNat, none⟩ (.int .u64 (Go.bits .or .u64 (rd x5_3 (ji16)) (ji64))))) ?hg ?ho ?hn ?hr ?_; (case ho => rfl); (case hg => rfl); (case hn => rfl); (case hr => first | (go_simp; done) | (go_simp; rfl)); intro w84 hw; have hg : w82.grownBy w84 (some go65) := (by rw [hw]; exact HP83.2); have hp_ : Kd.R (Kd.int .u64) 46 w84 w.heap.size (fun k_ => (w.heap.size ≤ k_)) (.slice (some ⟨go65, 0, none⟩) x5_3.length co66) y349 := (by rw [hw, Ny349.out]; exact HP83.1); clear HP83; have n0_ := Aside0.mk (hp_); have n1_ := Aside0.mk (Kd.V_afterv (v := (.slice (some ⟨go65, 0, none⟩) x5_3.length co66)) (v1 := (.slice (some ⟨go65, 0, none⟩) x5_3.length co66)) (ok := (fun k_ => (w.heap.size ≤ k_) ∧ k_ ≠ gb323 ∧ k_ ≠ gb324 ∧ k_ ≠ gb325 ∧ k_ ≠ gb326)) (by (with_reducible repeat (first | apply Kd.V_alloc | apply Kd.V_drewN | apply Kd.V_drew)); exact Kd.V_mono HO_327001.out (fun _ hk => ⟨⟨hk.1, ⟨hk.2.2.1, ⟨hk.2.2.2.1, ⟨hk.2.2.2.2.1, hk.2.2.2.2.2⟩⟩⟩⟩, hk.2.1⟩)) hg (.inl rfl)); have n2_ := Aside0.mk (blk_grown (g := gb323) (o := .cells #[.bool a0_0, .slice (some ad331) l0_1.length c0_1] 55 (0, 0)) (by (with_reducible repeat (first | refine blk_drewN ?_ _ | refine blk_drew ?_ | refine blk_alloc ?_ _)); exact BK323.out) hg (Kd.R_ne HO_5.out BK323.out (by decide))); have n3_ := Aside0.mk (blk_grown (g := gb324) (o := .cells #[.bool a1_0, .slice A1_1 l1_1.length c1_1] 55 (0, 0)) (by (with_reducible repeat (first | refine blk_drewN ?_ _ | refine blk_drew ?_ | refine blk_alloc ?_ _)); exact BK324.out) hg (Kd.R_ne HO_5.out BK324.out (by decide))); have n4_ := Aside0.mk (blk_grown (g := gb325) (o := .cells #[.bool false, .slice none 0 0] 55 (0, 0)) (by (with_reducible repeat (first | refine blk_drewN ?_ _ | refine blk_drew ?_ | refine blk_alloc ?_ _)); exact BK325.out) hg (Kd.R_ne HO_5.out BK325.out (by decide))); have n5_ := Aside0.mk (blk_grown (g := gb326) (o := .cells #[.bool t344, .slice Ao81 t345.length co81] 55 (0, 0)) (by (with_reducible repeat (first | refine blk_drewN ?_ _ | refine blk_drew ?_ | refine blk_alloc ?_ _)); exact BK326.out) hg (Kd.R_ne HO_5.out BK326.out (by decide))); have n6_ := Aside0.mk (Kd.V_afterv (v := (.slice (some ⟨go65, 0, none⟩) x5_3.length co66)) (v1 := (.slice (some ⟨go65, 0, none⟩) x5_3.length co66)) (ok := (fun k_ => (w.heap.size ≤ k_) ∧ k_ ≠ gb323 ∧ k_ ≠ gb324 ∧ k_ ≠ gb325 ∧ k_ ≠ gb326)) (by (with_reducible repeat (first | apply Kd.V_alloc | apply Kd.V_drewN | apply Kd.V_drew)); exact Kd.V_mono HO347.out (fun _ hk => ⟨⟨hk.1, ⟨hk.2.2.1, ⟨hk.2.2.2.1, ⟨hk.2.2.2.2.1, hk.2.2.2.2.2⟩⟩⟩⟩, hk.2.1⟩)) hg (.inl rfl)); have n7_ := Aside0.mk ((by rw [hw]; exact below_set (HB.out) GB65.out : Below w.heap.size w w84)); clear HO_5; clear HO_327001; clear BK323; clear BK324; clear BK325; clear BK326; clear HO347; clear HB; have HO_5 := n0_; have HO_327001 := n1_; have BK323 := n2_; have BK324 := n3_; have BK325 := n4_; have BK326 := n5_; have HO347 := n6_; have HB := n7_; clear n0_ n1_ n2_ n3_ n4_ n5_ n6_ n7_; clear hg hw hp_))
                go_roundg k3
                case measure => have := HK1.out; have := HJ21.out; have := HK3.out; omega
                case rel => exact ⟨(y349), (wrap64 (x7_1 - 1)), (t344), (t345), (.slice Ao81 t345.length co81), (by first | rfl | (simp; done) | (simp [*]; done)), H', ⟨by have := HK1.out; have := HJ21.out; have := HK3.out; omega⟩, ⟨by (with_reducible repeat (first | apply Kd.R_alloc | apply Kd.R_drewN | apply Kd.R_drew)); exact HO_5.out⟩, ⟨by (with_reducible repeat (first | apply Kd.V_alloc | apply Kd.V_drewN | apply Kd.V_drew)); exact Kd.V_mono HO347.out (fun _ hk => ⟨hk.1.1, ⟨hk.2, ⟨hk.1.2.1, ⟨hk.1.2.2.1, ⟨hk.1.2.2.2.1, hk.1.2.2.2.2⟩⟩⟩⟩⟩)⟩, ⟨by (with_reducible repeat (first | refine blk_drewN ?_ _ | refine blk_drew ?_ | refine blk_alloc ?_ _)); exact BK323.out⟩, ⟨by (with_reducible repeat (first | refine blk_drewN ?_ _ | refine blk_drew ?_ | refine blk_alloc ?_ _)); exact BK324.out⟩, ⟨by (with_reducible repeat (first | refine blk_drewN ?_ _ | refine blk_drew ?_ | refine blk_alloc ?_ _)); exact BK325.out⟩, ⟨by (with_reducible repeat (first | refine blk_drewN ?_ _ | refine blk_drew ?_ | refine blk_alloc ?_ _)); exact BK326.out⟩, ⟨by repeat (first | (with_reducible first | exact HB.out | apply below_alloc | apply pw_below_drewN | apply below_drew1 | refine below_set ?_ GE323.out | refine below_set ?_ GE324.out | refine below_set ?_ GE325.out | refine below_set ?_ GE326.out) | exact HB.out)⟩⟩
               ·rw [if_neg c63] at H
                exact absurd H (by simp)
              ·rw [if_neg c62] at H
               exact absurd H (by simp)
             ·rw [if_neg c61] at H
              exact absurd H (by simp)
      ·rw [if_neg c20] at H
       exact absurd H (by simp)
     ·rw [if_neg c18] at H
      exact absurd H (by simp)
    ·rw [if_neg c17] at H
     exact absurd H (by simp)
   ·rw [if_neg c14] at H
    have c14b0 : decide (0 ≤ x7_1) = false := decide_eq_false c14
    clear c14
    replace H := Option.bind_eq_some_iff.mp H
    obtain ⟨⟨t350, t351⟩, A850, H⟩ := H
    replace H : (if (a0_0 != a1_0) = true then (publicanref1_Floor.j3 k1 (decide ((x327001_1.length : Int) > 0)) t350 t351) else (publicanref1_Floor.j3 k1 false t350 t351)) = some (r1, r2) := H
    have A85 := Aside0.mk A850
    clear A850
    have HC86 := Aside0.mk H
    clear H
    have hnb87 := NB323_324.out
    have hnc87 := NB324_323.out
    have hnb88 := NB323_325.out
    have hnc88 := NB325_323.out
    have hnb89 := NB323_326.out
    have hnc89 := NB326_323.out
    have hcz90_0 : wr.cell? ⟨gb323, 0, none⟩ = some (.bool a0_0) := (blk_cell BK323.out 0).trans rfl
    have hcz90_1 : wr.cell? ⟨gb323, 1, none⟩ = some (.slice A0_1 l0_1.length c0_1) := (blk_cell BK323.out 1).trans rfl
    have hfz90_0 := blk_frozen BK323.out 0
    have hfz90_1 := blk_frozen BK323.out 1
    have hnb91 := NB324_325.out
    have hnc91 := NB325_324.out
    have hnb92 := NB324_326.out
    have hnc92 := NB326_324.out
    have hcz93_0 : wr.cell? ⟨gb324, 0, none⟩ = some (.bool a1_0) := (blk_cell BK324.out 0).trans rfl
    have hcz93_1 : wr.cell? ⟨gb324, 1, none⟩ = some (.slice A1_1 l1_1.length c1_1) := (blk_cell BK324.out 1).trans rfl
    have hfz93_0 := blk_frozen BK324.out 0
    have hfz93_1 := blk_frozen BK324.out 1
    obtain ⟨Ao94, co94, eo94⟩ := Kd.R_slice HO_5.out
    subst eo94
    go_upto_region 15 with (first | ((with_reducible refine gate_callee (f := 55) rfl ?_); refine goesL_ (some 77) rfl rfl Try.func55 (by kernel_rfl) rfl #[.agg #[.bool (!(a0_0 == a1_0)), .slice Ao94 x5_1.length co94]] rfl (by (try simp only [List.map_toArray, List.map_cons, List.map_nil]); first | done | rfl | (simp only [List.length_drop, List.length_take]; rfl)) ?_; (with_reducible refine (publicanref1_trim.calls k1 (!(a0_0 == a1_0)) (fun k_ => some k_ = (.slice Ao94 x5_1.length co94 : Value).ownBlock) _ _ x5_1 t350 t351 _ ?side1 A85.out).mono ?_); (case side1 => exact Kd.R_V (Kd.R_tight rfl (Kd.R_types (Kd.R_types (Kd.R_types (Kd.R_types (HO_5.out) BK323.out (by decide)) BK324.out (by decide)) BK325.out (by decide)) BK326.out (by decide)))); rintro e w95 ⟨v352, rfl, ho0, hb⟩; refine ⟨_, rfl, ?_⟩; have n0_ := Aside0.mk (Kd.R_below (by (with_reducible repeat (first | apply Kd.R_alloc | apply Kd.R_drewN | apply Kd.R_drew)); exact HO_5.out) hb); have n1_ := Aside0.mk (Kd.V_below (by (with_reducible repeat (first | apply Kd.V_alloc | apply Kd.V_drewN | apply Kd.V_drew)); exact HO_327001.out) hb); have n2_ := Aside0.mk (Kd.V_lower (Kd.V_mono (ok' := fun k_ => (w.heap.size ≤ k_) ∧ k_ ≠ gb323 ∧ k_ ≠ gb324 ∧ k_ ≠ gb325 ∧ k_ ≠ gb326) ho0 (fun k_ hk_ => ⟨Or.elim hk_ (fun hs_ => ((Kd.R_types (Kd.R_types (Kd.R_types (Kd.R_types (HO_5.out) BK323.out (by decide)) BK324.out (by decide)) BK325.out (by decide)) BK326.out (by decide)).1 k_ hs_.symm).1.1.1.1) (fun hn_ => (Nat.le_trans (below_size (by repeat (first | (with_reducible first | exact HB.out | apply below_alloc | apply pw_below_drewN | apply below_drew1 | refine below_set ?_ GE323.out | refine below_set ?_ GE324.out | refine below_set ?_ GE325.out | refine below_set ?_ GE326.out) | exact HB.out))) hn_)), Or.elim hk_ (fun hs_ => ((Kd.R_types (Kd.R_types (Kd.R_types (Kd.R_types (HO_5.out) BK323.out (by decide)) BK324.out (by decide)) BK325.out (by decide)) BK326.out (by decide)).1 k_ hs_.symm).1.1.1.2) (fun hn_ => (Kd.freshB (g := gb323) (o := .cells #[.bool a0_0, .slice A0_1 l0_1.length c0_1] 55 (0, 0)) (by (with_reducible repeat (first | refine blk_drewN ?_ _ | refine blk_drew ?_ | refine blk_alloc ?_ _)); exact BK323.out) k_ hn_)), Or.elim hk_ (fun hs_ => ((Kd.R_types (Kd.R_types (Kd.R_types (Kd.R_types (HO_5.out) BK323.out (by decide)) BK324.out (by decide)) BK325.out (by decide)) BK326.out (by decide)).1 k_ hs_.symm).1.1.2) (fun hn_ => (Kd.freshB (g := gb324) (o := .cells #[.bool a1_0, .slice A1_1 l1_1.length c1_1] 55 (0, 0)) (by (with_reducible repeat (first | refine blk_drewN ?_ _ | refine blk_drew ?_ | refine blk_alloc ?_ _)); exact BK324.out) k_ hn_)), Or.elim hk_ (fun hs_ => ((Kd.R_types (Kd.R_types (Kd.R_types (Kd.R_types (HO_5.out) BK323.out (by decide)) BK324.out (by decide)) BK325.out (by decide)) BK326.out (by decide)).1 k_ hs_.symm).1.2) (fun hn_ => (Kd.freshB (g := gb325) (o := .cells #[.bool false, .slice none 0 0] 55 (0, 0)) (by (with_reducible repeat (first | refine blk_drewN ?_ _ | refine blk_drew ?_ | refine blk_alloc ?_ _)); exact BK325.out) k_ hn_)), Or.elim hk_ (fun hs_ => ((Kd.R_types (Kd.R_types (Kd.R_types (Kd.R_types (HO_5.out) BK323.out (by decide)) BK324.out (by decide)) BK325.out (by decide)) BK326.out (by decide)).1 k_ hs_.symm).2) (fun hn_ => (Kd.freshB (g := gb326) (o := .cells #[.bool x327000_1, u327001] 55 (0, 0)) (by (with_reducible repeat (first | refine blk_drewN ?_ _ | refine blk_drew ?_ | refine blk_alloc ?_ _)); exact BK326.out) k_ hn_))⟩)) (below_size (by repeat (first | (with_reducible first | exact HB.out | apply below_alloc | apply pw_below_drewN | apply below_drew1 | refine below_set ?_ GE323.out | refine below_set ?_ GE324.out | refine below_set ?_ GE325.out | refine below_set ?_ GE326.out) | exact HB.out)))); have n3_ := Aside0.mk (blk_below (g := gb323) (o := .cells #[.bool a0_0, .slice A0_1 l0_1.length c0_1] 55 (0, 0)) (by (with_reducible repeat (first | refine blk_drewN ?_ _ | refine blk_drew ?_ | refine blk_alloc ?_ _)); exact BK323.out) hb); have n4_ := Aside0.mk (blk_below (g := gb324) (o := .cells #[.bool a1_0, .slice A1_1 l1_1.length c1_1] 55 (0, 0)) (by (with_reducible repeat (first | refine blk_drewN ?_ _ | refine blk_drew ?_ | refine blk_alloc ?_ _)); exact BK324.out) hb); have n5_ := Aside0.mk (blk_below (g := gb325) (o := .cells #[.bool false, .slice none 0 0] 55 (0, 0)) (by (with_reducible repeat (first | refine blk_drewN ?_ _ | refine blk_drew ?_ | refine blk_alloc ?_ _)); exact BK325.out) hb); have n6_ := Aside0.mk (blk_below (g := gb326) (o := .cells #[.bool x327000_1, u327001] 55 (0, 0)) (by (with_reducible repeat (first | refine blk_drewN ?_ _ | refine blk_drew ?_ | refine blk_alloc ?_ _)); exact BK326.out) hb); have n7_ := Aside0.mk (below_step (by repeat (first | (with_reducible first | exact HB.out | apply below_alloc | apply pw_below_drewN | apply below_drew1 | refine below_set ?_ GE323.out | refine below_set ?_ GE324.out | refine below_set ?_ GE325.out | refine below_set ?_ GE326.out) | exact HB.out)) hb); clear HO_5; clear HO_327001; clear BK323; clear BK324; clear BK325; clear BK326; clear HB; have HO_5 := n0_; have HO_327001 := n1_; have HO353 := n2_; have BK323 := n3_; have BK324 := n4_; have BK325 := n5_; have BK326 := n6_; have HB := n7_; clear n0_ n1_ n2_ n3_ n4_ n5_ n6_ n7_; (try clear hb); (try clear hb2); (try clear hk); (try clear hi); (try clear ho0)) | ((with_reducible refine gate_dst (N := 8) rfl ?_); (try (refine gate_guard (by rfl) ?_; dsimp only)); refine box_event ?hg (N := 8) ?hd (cs := #[.bool false, .slice none 0 0]) (t := 55) ?hr ?_; (case hd => rfl); (case hg => rfl); (case hr => first | (go_simp; done) | (go_simp; rfl)); intro gb354 hg w96 hbox hb; have n0_ := Aside0.mk (Kd.R_below (by (with_reducible repeat (first | apply Kd.R_alloc | apply Kd.R_drewN | apply Kd.R_drew)); exact HO_5.out) hb); have n1_ := Aside0.mk (Kd.V_below (Kd.V_elderB (by (with_reducible repeat (first | apply Kd.V_alloc | apply Kd.V_drewN | apply Kd.V_drew)); exact HO_327001.out) gb354 (Nat.le_of_eq hg.symm)) hb); have n2_ := Aside0.mk (Kd.V_below (Kd.V_elderB (by (with_reducible repeat (first | apply Kd.V_alloc | apply Kd.V_drewN | apply Kd.V_drew)); exact HO353.out) gb354 (Nat.le_of_eq hg.symm)) hb); have n3_ := Aside0.mk (blk_below (g := gb323) (o := .cells #[.bool a0_0, .slice A0_1 l0_1.length c0_1] 55 (0, 0)) (by (with_reducible repeat (first | refine blk_drewN ?_ _ | refine blk_drew ?_ | refine blk_alloc ?_ _)); exact BK323.out) hb); have n4_ := Aside0.mk (blk_below (g := gb324) (o := .cells #[.bool a1_0, .slice A1_1 l1_1.length c1_1] 55 (0, 0)) (by (with_reducible repeat (first | refine blk_drewN ?_ _ | refine blk_drew ?_ | refine blk_alloc ?_ _)); exact BK324.out) hb); have n5_ := Aside0.mk (blk_below (g := gb325) (o := .cells #[.bool false, .slice none 0 0] 55 (0, 0)) (by (with_reducible repeat (first | refine blk_drewN ?_ _ | refine blk_drew ?_ | refine blk_alloc ?_ _)); exact BK325.out) hb); have n6_ := Aside0.mk (blk_below (g := gb326) (o := .cells #[.bool x327000_1, u327001] 55 (0, 0)) (by (with_reducible repeat (first | refine blk_drewN ?_ _ | refine blk_drew ?_ | refine blk_alloc ?_ _)); exact BK326.out) hb); have n7_ := Aside0.mk (below_step (by repeat (first | (with_reducible first | exact HB.out | apply below_alloc | apply pw_below_drewN | apply below_drew1 | refine below_set ?_ GE323.out | refine below_set ?_ GE324.out | refine below_set ?_ GE325.out | refine below_set ?_ GE326.out) | exact HB.out)) hb); have n8_ := Aside0.mk (hbox); have n9_ := Aside0.mk ((by rw [hg]; exact (below_size (by repeat (first | (with_reducible first | exact HB.out | apply below_alloc | apply pw_below_drewN | apply below_drew1 | refine below_set ?_ GE323.out | refine below_set ?_ GE324.out | refine below_set ?_ GE325.out | refine below_set ?_ GE326.out) | exact HB.out))) : w.heap.size ≤ gb354)); have n10_ := Aside0.mk ((by rw [hg]; exact (below_size (by repeat (first | (with_reducible first | exact HB.out | apply below_alloc | apply pw_below_drewN | apply below_drew1 | refine below_set ?_ GE323.out | refine below_set ?_ GE324.out | refine below_set ?_ GE325.out | refine below_set ?_ GE326.out) | exact HB.out))) : w.heap.size ≤ gb354)); have n11_ := Aside0.mk ((by rw [hg]; exact Nat.ne_of_lt (blk_lt (g := gb323) (o := .cells #[.bool a0_0, .slice A0_1 l0_1.length c0_1] 55 (0, 0)) (by (with_reducible repeat (first | refine blk_drewN ?_ _ | refine blk_drew ?_ | refine blk_alloc ?_ _)); exact BK323.out)) : gb323 ≠ gb354)); have n12_ := Aside0.mk ((by rw [hg]; exact Nat.ne_of_gt (blk_lt (g := gb323) (o := .cells #[.bool a0_0, .slice A0_1 l0_1.length c0_1] 55 (0, 0)) (by (with_reducible repeat (first | refine blk_drewN ?_ _ | refine blk_drew ?_ | refine blk_alloc ?_ _)); exact BK323.out)) : gb354 ≠ gb323)); have n13_ := Aside0.mk ((by rw [hg]; exact Nat.ne_of_lt (blk_lt (g := gb324) (o := .cells #[.bool a1_0, .slice A1_1 l1_1.length c1_1] 55 (0, 0)) (by (with_reducible repeat (first | refine blk_drewN ?_ _ | refine blk_drew ?_ | refine blk_alloc ?_ _)); exact BK324.out)) : gb324 ≠ gb354)); have n14_ := Aside0.mk ((by rw [hg]; exact Nat.ne_of_gt (blk_lt (g := gb324) (o := .cells #[.bool a1_0, .slice A1_1 l1_1.length c1_1] 55 (0, 0)) (by (with_reducible repeat (first | refine blk_drewN ?_ _ | refine blk_drew ?_ | refine blk_alloc ?_ _)); exact BK324.out)) : gb354 ≠ gb324)); have n15_ := Aside0.mk ((by rw [hg]; exact Nat.ne_of_lt (blk_lt (g := gb325) (o := .cells #[.bool false, .slice none 0 0] 55 (0, 0)) (by (with_reducible repeat (first | refine blk_drewN ?_ _ | refine blk_drew ?_ | refine blk_alloc ?_ _)); exact BK325.out)) : gb325 ≠ gb354)); have n16_ := Aside0.mk ((by rw [hg]; exact Nat.ne_of_gt (blk_lt (g := gb325) (o := .cells #[.bool false, .slice none 0 0] 55 (0, 0)) (by (with_reducible repeat (first | refine blk_drewN ?_ _ | refine blk_drew ?_ | refine blk_alloc ?_ _)); exact BK325.out)) : gb354 ≠ gb325)); have n17_ := Aside0.mk ((by rw [hg]; exact Nat.ne_of_lt (blk_lt (g := gb326) (o := .cells #[.bool x327000_1, u327001] 55 (0, 0)) (by (with_reducible repeat (first | refine blk_drewN ?_ _ | refine blk_drew ?_ | refine blk_alloc ?_ _)); exact BK326.out)) : gb326 ≠ gb354)); have n18_ := Aside0.mk ((by rw [hg]; exact Nat.ne_of_gt (blk_lt (g := gb326) (o := .cells #[.bool x327000_1, u327001] 55 (0, 0)) (by (with_reducible repeat (first | refine blk_drewN ?_ _ | refine blk_drew ?_ | refine blk_alloc ?_ _)); exact BK326.out)) : gb354 ≠ gb326)); clear HO_5; clear HO_327001; clear HO353; clear BK323; clear BK324; clear BK325; clear BK326; clear HB; have HO_5 := n0_; have HO_327001 := n1_; have HO353 := n2_; have BK323 := n3_; have BK324 := n4_; have BK325 := n5_; have BK326 := n6_; have HB := n7_; have BK354 := n8_; have GW354 := n9_; have GE354 := n10_; have NB323_354 := n11_; have NB354_323 := n12_; have NB324_354 := n13_; have NB354_324 := n14_; have NB325_354 := n15_; have NB354_325 := n16_; have NB326_354 := n17_; have NB354_326 := n18_; clear n0_ n1_ n2_ n3_ n4_ n5_ n6_ n7_ n8_ n9_ n10_ n11_ n12_ n13_ n14_ n15_ n16_ n17_ n18_; clear hb hbox hg; have hnb97 := NB354_323.out; have hnc97 := NB323_354.out; have hnb98 := NB354_324.out; have hnc98 := NB324_354.out; have hnb99 := NB354_325.out; have hnc99 := NB325_354.out; have hnb100 := NB354_326.out; have hnc100 := NB326_354.out; have hcz101_0 : w96.cell? ⟨gb354, 0, none⟩ = some (.bool false) := (blk_cell BK354.out 0).trans rfl; have hcz101_1 : w96.cell? ⟨gb354, 1, none⟩ = some (.slice none 0 0) := (blk_cell BK354.out 1).trans rfl; have hfz101_0 := blk_frozen BK354.out 0; have hfz101_1 := blk_frozen BK354.out 1; obtain ⟨Ao102, co102, eo102⟩ := Kd.V_slice HO353.out; subst eo102))
    (try simp only [Act.put, List.setIfInBounds_toArray, List.set_cons_zero, List.set_cons_succ])
    go_cut [88] (fun v88 wc => ∃ (kq : Nat) (x88_85 : Bool), v88 = .bool x88_85 ∧ Aside0 (publicanref1_Floor.j3 kq x88_85 t350 t351 = some (r1, r2)) ∧ Aside0 (kq ≤ k1) ∧ Aside0 (Kd.V (Kd.int .u64) 46 wc w.heap.size (fun k_ => (w.heap.size ≤ k_) ∧ k_ ≠ gb323 ∧ k_ ≠ gb324 ∧ k_ ≠ gb325 ∧ k_ ≠ gb326 ∧ k_ ≠ gb354) u327001 x327001_1) ∧ Aside0 (Kd.V (Kd.int .u64) 46 wc w.heap.size (fun k_ => (w.heap.size ≤ k_) ∧ k_ ≠ gb323 ∧ k_ ≠ gb324 ∧ k_ ≠ gb325 ∧ k_ ≠ gb326 ∧ k_ ≠ gb354) (.slice Ao102 t351.length co102) t351) ∧ Aside0 (wc.heap[gb323]? = some (.cells #[.bool a0_0, (.slice A0_1 l0_1.length c0_1)] 55 (0, 0))) ∧ Aside0 (wc.heap[gb324]? = some (.cells #[.bool a1_0, (.slice A1_1 l1_1.length c1_1)] 55 (0, 0))) ∧ Aside0 (wc.heap[gb325]? = some (.cells #[.bool false, (.slice none 0 0)] 55 (0, 0))) ∧ Aside0 (wc.heap[gb326]? = some (.cells #[.bool x327000_1, u327001] 55 (0, 0))) ∧ Aside0 (wc.heap[gb354]? = some (.cells #[.bool t350, (.slice Ao102 t351.length co102)] 55 (0, 0))) ∧ Aside0 (Below w.heap.size w wc))
    case first =>
     have H := HC86.out
     clear HC86
     by_cases c103 : (a0_0 != a1_0) = true
     ·rw [if_pos c103] at H
      have c103b0 : (a0_0 != a1_0) = true := c103
      (try (have c103b1 : decide (a0_0 = a1_0) = false := by simpa using c103))
      (try (have c103b2 : (a0_0 == a1_0) = false := by simpa using c103))
      (try (have c103b3 : ¬ (a0_0 = a1_0) := by simpa using c103))
      clear c103
      (first | rw [c103b0] | (simp only [i64_w, i32_w]; rw [c103b0]) | skip)
      have H' := Aside0.mk H
      clear H
      have hnb104 := NB323_324.out
      have hnc104 := NB324_323.out
      have hnb105 := NB323_325.out
      have hnc105 := NB325_323.out
      have hnb106 := NB323_326.out
      have hnc106 := NB326_323.out
      have hnb107 := NB323_354.out
      have hnc107 := NB354_323.out
      have hcz108_0 : w96.cell? ⟨gb323, 0, none⟩ = some (.bool a0_0) := (blk_cell BK323.out 0).trans rfl
      have hcz108_1 : w96.cell? ⟨gb323, 1, none⟩ = some (.slice A0_1 l0_1.length c0_1) := (blk_cell BK323.out 1).trans rfl
      have hfz108_0 := blk_frozen BK323.out 0
      have hfz108_1 := blk_frozen BK323.out 1
      have hnb109 := NB324_325.out
      have hnc109 := NB325_324.out
      have hnb110 := NB324_326.out
      have hnc110 := NB326_324.out
      have hnb111 := NB324_354.out
      have hnc111 := NB354_324.out
      have hcz112_0 : w96.cell? ⟨gb324, 0, none⟩ = some (.bool a1_0) := (blk_cell BK324.out 0).trans rfl
      have hcz112_1 : w96.cell? ⟨gb324, 1, none⟩ = some (.slice A1_1 l1_1.length c1_1) := (blk_cell BK324.out 1).trans rfl
      have hfz112_0 := blk_frozen BK324.out 0
      have hfz112_1 := blk_frozen BK324.out 1
      have hnb113 := NB326_325.out
      have hnc113 := NB325_326.out
      have hnb114 := NB326_354.out
      have hnc114 := NB354_326.out
      have hcz115_0 : w96.cell? ⟨gb326, 0, none⟩ = some (.bool x327000_1) := (blk_cell BK326.out 0).trans rfl
      have hcz115_1 : w96.cell? ⟨gb326, 1, none⟩ = some (u327001) := (blk_cell BK326.out 1).trans rfl
      have hfz115_0 := blk_frozen BK326.out 0
      have hfz115_1 := blk_frozen BK326.out 1
      obtain ⟨Ao116, co116, eo116⟩ := Kd.V_slice HO_327001.out
      subst eo116
      go_wp2
      go_meet
      case rel => exact ⟨_, (decide ((x327001_1.length : Int) > 0)), (by first | rfl | (simp; done) | (simp [*]; done)), H', ⟨by have := HK1.out; first | omega | exact Nat.le_refl _⟩, ⟨by (with_reducible repeat (first | apply Kd.V_alloc | apply Kd.V_drewN | apply Kd.V_drew)); exact Kd.V_mono (Kd.V_far (p := ⟨gb354, 1, none⟩) (Kd.V_far (p := ⟨gb354, 0, none⟩) (Kd.V_mono HO_327001.out (fun k_ hk => (⟨hk, hk.2⟩ : _ ∧ k_ ≠ gb354))) (fun _ hk => hk.2) (.bool t350)) (fun _ hk => hk.2) (.slice Ao102 t351.length co102)) (fun _ hk => ⟨hk.1.1.1, ⟨hk.1.1.2.2.1, ⟨hk.1.1.2.2.2.1, ⟨hk.1.1.2.2.2.2.1, ⟨hk.1.1.2.2.2.2.2, hk.1.2⟩⟩⟩⟩⟩)⟩, ⟨by (with_reducible repeat (first | apply Kd.V_alloc | apply Kd.V_drewN | apply Kd.V_drew)); exact Kd.V_mono (Kd.V_far (p := ⟨gb354, 1, none⟩) (Kd.V_far (p := ⟨gb354, 0, none⟩) (Kd.V_mono HO353.out (fun k_ hk => (⟨hk, hk.2⟩ : _ ∧ k_ ≠ gb354))) (fun _ hk => hk.2) (.bool t350)) (fun _ hk => hk.2) (.slice Ao102 t351.length co102)) (fun _ hk => ⟨hk.1.1.1, ⟨hk.1.1.2.1, ⟨hk.1.1.2.2.1, ⟨hk.1.1.2.2.2.1, ⟨hk.1.1.2.2.2.2, hk.1.2⟩⟩⟩⟩⟩)⟩, ⟨by (with_reducible repeat (first | refine blk_drewN ?_ _ | refine blk_drew ?_ | refine blk_alloc ?_ _)); refine blk_far ?_ NB323_354.out _; (with_reducible repeat (first | refine blk_drewN ?_ _ | refine blk_drew ?_ | refine blk_alloc ?_ _)); refine blk_far ?_ NB323_354.out _; (with_reducible repeat (first | refine blk_drewN ?_ _ | refine blk_drew ?_ | refine blk_alloc ?_ _)); exact BK323.out⟩, ⟨by (with_reducible repeat (first | refine blk_drewN ?_ _ | refine blk_drew ?_ | refine blk_alloc ?_ _)); refine blk_far ?_ NB324_354.out _; (with_reducible repeat (first | refine blk_drewN ?_ _ | refine blk_drew ?_ | refine blk_alloc ?_ _)); refine blk_far ?_ NB324_354.out _; (with_reducible repeat (first | refine blk_drewN ?_ _ | refine blk_drew ?_ | refine blk_alloc ?_ _)); exact BK324.out⟩, ⟨by (with_reducible repeat (first | refine blk_drewN ?_ _ | refine blk_drew ?_ | refine blk_alloc ?_ _)); refine blk_far ?_ NB325_354.out _; (with_reducible repeat (first | refine blk_drewN ?_ _ | refine blk_drew ?_ | refine blk_alloc ?_ _)); refine blk_far ?_ NB325_354.out _; (with_reducible repeat (first | refine blk_drewN ?_ _ | refine blk_drew ?_ | refine blk_alloc ?_ _)); exact BK325.out⟩, ⟨by (with_reducible repeat (first | refine blk_drewN ?_ _ | refine blk_drew ?_ | refine blk_alloc ?_ _)); refine blk_far ?_ NB326_354.out _; (with_reducible repeat (first | refine blk_drewN ?_ _ | refine blk_drew ?_ | refine blk_alloc ?_ _)); refine blk_far ?_ NB326_354.out _; (with_reducible repeat (first | refine blk_drewN ?_ _ | refine blk_drew ?_ | refine blk_alloc ?_ _)); exact BK326.out⟩, ⟨by (with_reducible repeat (first | refine blk_drewN ?_ _ | refine blk_drew ?_ | refine blk_alloc ?_ _)); refine blk_put (cs := #[.bool t350, .slice none 0 0]) ?_ 1 _ rfl; (with_reducible repeat (first | refine blk_drewN ?_ _ | refine blk_drew ?_ | refine blk_alloc ?_ _)); refine blk_put (cs := #[.bool false, .slice none 0 0]) ?_ 0 _ rfl; (with_reducible repeat (first | refine blk_drewN ?_ _ | refine blk_drew ?_ | refine blk_alloc ?_ _)); exact BK354.out⟩, ⟨by repeat (first | (with_reducible first | exact HB.out | apply below_alloc | apply pw_below_drewN | apply below_drew1 | refine below_set ?_ GE323.out | refine below_set ?_ GE324.out | refine below_set ?_ GE325.out | refine below_set ?_ GE326.out | refine below_set ?_ GE354.out) | exact HB.out)⟩⟩
     ·rw [if_neg c103] at H
      have c103b0 : (a0_0 != a1_0) = false := by simpa using c103
      (try (have c103b1 : decide (a0_0 = a1_0) = true := by simpa using c103))
      (try (have c103b2 : (a0_0 == a1_0) = true := by simpa using c103))
      clear c103
      (first | rw [c103b0] | (simp only [i64_w, i32_w]; rw [c103b0]) | skip)
      have H' := Aside0.mk H
      clear H
      have hnb117 := NB323_324.out
      have hnc117 := NB324_323.out
      have hnb118 := NB323_325.out
      have hnc118 := NB325_323.out
      have hnb119 := NB323_326.out
      have hnc119 := NB326_323.out
      have hnb120 := NB323_354.out
      have hnc120 := NB354_323.out
      have hcz121_0 : w96.cell? ⟨gb323, 0, none⟩ = some (.bool a0_0) := (blk_cell BK323.out 0).trans rfl
      have hcz121_1 : w96.cell? ⟨gb323, 1, none⟩ = some (.slice A0_1 l0_1.length c0_1) := (blk_cell BK323.out 1).trans rfl
      have hfz121_0 := blk_frozen BK323.out 0
      have hfz121_1 := blk_frozen BK323.out 1
      have hnb122 := NB324_325.out
      have hnc122 := NB325_324.out
      have hnb123 := NB324_326.out
      have hnc123 := NB326_324.out
      have hnb124 := NB324_354.out
      have hnc124 := NB354_324.out
      have hcz125_0 : w96.cell? ⟨gb324, 0, none⟩ = some (.bool a1_0) := (blk_cell BK324.out 0).trans rfl
      have hcz125_1 : w96.cell? ⟨gb324, 1, none⟩ = some (.slice A1_1 l1_1.length c1_1) := (blk_cell BK324.out 1).trans rfl
      have hfz125_0 := blk_frozen BK324.out 0
      have hfz125_1 := blk_frozen BK324.out 1
      go_wp2
      go_meet
      case rel => exact ⟨_, (false), (by first | rfl | (simp; done) | (simp [*]; done)), H', ⟨by have := HK1.out; first | omega | exact Nat.le_refl _⟩, ⟨by (with_reducible repeat (first | apply Kd.V_alloc | apply Kd.V_drewN | apply Kd.V_drew)); exact Kd.V_mono (Kd.V_far (p := ⟨gb354, 1, none⟩) (Kd.V_far (p := ⟨gb354, 0, none⟩) (Kd.V_mono HO_327001.out (fun k_ hk => (⟨hk, hk.2⟩ : _ ∧ k_ ≠ gb354))) (fun _ hk => hk.2) (.bool t350)) (fun _ hk => hk.2) (.slice Ao102 t351.length co102)) (fun _ hk => ⟨hk.1.1.1, ⟨hk.1.1.2.2.1, ⟨hk.1.1.2.2.2.1, ⟨hk.1.1.2.2.2.2.1, ⟨hk.1.1.2.2.2.2.2, hk.1.2⟩⟩⟩⟩⟩)⟩, ⟨by (with_reducible repeat (first | apply Kd.V_alloc | apply Kd.V_drewN | apply Kd.V_drew)); exact Kd.V_mono (Kd.V_far (p := ⟨gb354, 1, none⟩) (Kd.V_far (p := ⟨gb354, 0, none⟩) (Kd.V_mono HO353.out (fun k_ hk => (⟨hk, hk.2⟩ : _ ∧ k_ ≠ gb354))) (fun _ hk => hk.2) (.bool t350)) (fun _ hk => hk.2) (.slice Ao102 t351.length co102)) (fun _ hk => ⟨hk.1.1.1, ⟨hk.1.1.2.1, ⟨hk.1.1.2.2.1, ⟨hk.1.1.2.2.2.1, ⟨hk.1.1.2.2.2.2, hk.1.2⟩⟩⟩⟩⟩)⟩, ⟨by (with_reducible repeat (first | refine blk_drewN ?_ _ | refine blk_drew ?_ | refine blk_alloc ?_ _)); refine blk_far ?_ NB323_354.out _; (with_reducible repeat (first | refine blk_drewN ?_ _ | refine blk_drew ?_ | refine blk_alloc ?_ _)); refine blk_far ?_ NB323_354.out _; (with_reducible repeat (first | refine blk_drewN ?_ _ | refine blk_drew ?_ | refine blk_alloc ?_ _)); exact BK323.out⟩, ⟨by (with_reducible repeat (first | refine blk_drewN ?_ _ | refine blk_drew ?_ | refine blk_alloc ?_ _)); refine blk_far ?_ NB324_354.out _; (with_reducible repeat (first | refine blk_drewN ?_ _ | refine blk_drew ?_ | refine blk_alloc ?_ _)); refine blk_far ?_ NB324_354.out _; (with_reducible repeat (first | refine blk_drewN ?_ _ | refine blk_drew ?_ | refine blk_alloc ?_ _)); exact BK324.out⟩, ⟨by (with_reducible repeat (first | refine blk_drewN ?_ _ | refine blk_drew ?_ | refine blk_alloc ?_ _)); refine blk_far ?_ NB325_354.out _; (with_reducible repeat (first | refine blk_drewN ?_ _ | refine blk_drew ?_ | refine blk_alloc ?_ _)); refine blk_far ?_ NB325_354.out _; (with_reducible repeat (first | refine blk_drewN ?_ _ | refine blk_drew ?_ | refine blk_alloc ?_ _)); exact BK325.out⟩, ⟨by (with_reducible repeat (first | refine blk_drewN ?_ _ | refine blk_drew ?_ | refine blk_alloc ?_ _)); refine blk_far ?_ NB326_354.out _; (with_reducible repeat (first | refine blk_drewN ?_ _ | refine blk_drew ?_ | refine blk_alloc ?_ _)); refine blk_far ?_ NB326_354.out _; (with_reducible repeat (first | refine blk_drewN ?_ _ | refine blk_drew ?_ | refine blk_alloc ?_ _)); exact BK326.out⟩, ⟨by (with_reducible repeat (first | refine blk_drewN ?_ _ | refine blk_drew ?_ | refine blk_alloc ?_ _)); refine blk_put (cs := #[.bool t350, .slice none 0 0]) ?_ 1 _ rfl; (with_reducible repeat (first | refine blk_drewN ?_ _ | refine blk_drew ?_ | refine blk_alloc ?_ _)); refine blk_put (cs := #[.bool false, .slice none 0 0]) ?_ 0 _ rfl; (with_reducible repeat (first | refine blk_drewN ?_ _ | refine blk_drew ?_ | refine blk_alloc ?_ _)); exact BK354.out⟩, ⟨by repeat (first | (with_reducible first | exact HB.out | apply below_alloc | apply pw_below_drewN | apply below_drew1 | refine below_set ?_ GE323.out | refine below_set ?_ GE324.out | refine below_set ?_ GE325.out | refine below_set ?_ GE326.out | refine below_set ?_ GE354.out) | exact HB.out)⟩⟩
    case rest =>
     clear HC86
     try clear c1
     try clear c2
     try clear p2
     try clear c3
     try clear p3
     try clear q3
     try clear hx3
     try clear c4
     try clear c5
     try clear c6
     try clear p6
     try clear q6
     try clear hx6
     try clear hf6
     try clear c7
     try clear c8
     try clear c9
     try clear c10
     try clear c11
     try clear c12
     try clear c14
     try clear c14b0
     try clear c17
     try clear c17b0
     try clear c18
     try clear c18b0
     try clear c20
     try clear c20b0
     try clear c20b1
     try clear c23
     try clear c24
     try clear c25
     try clear c31
     try clear c32
     try clear c33
     try clear p33
     try clear q33
     try clear hx33
     try clear c34
     try clear c34b0
     try clear c34b1
     try clear p34
     try clear q34
     try clear hx34
     try clear c36
     try clear c45
     try clear c45b0
     try clear c46
     try clear c50
     try clear c52
     try clear c53
     try clear c54
     try clear c55
     try clear c56
     try clear c57
     try clear c61
     try clear c61b0
     try clear c62
     try clear c62b0
     try clear c63
     try clear c63b0
     try clear c63b1
     try clear p64
     try clear p65
     try clear q65
     try clear hx65
     try clear hf65
     try clear c67
     try clear c68
     try clear c69
     try clear c71
     try clear c72
     try clear c87
     try clear c88
     try clear c89
     try clear c91
     try clear c92
     try clear c97
     try clear c98
     try clear c99
     try clear c100
     try clear c103
     try clear c103b0
     try clear c103b1
     try clear c103b2
     try clear c104
     try clear c105
     try clear c106
     try clear c107
     try clear c109
     try clear c110
     try clear c111
     try clear c113
     try clear c114
     try clear c117
     try clear c118
     try clear c119
     try clear c120
     try clear c122
     try clear c123
     try clear c124
     try clear hcz101_0
     try clear hcz101_1
     try clear hcz108_0
     try clear hcz108_1
     try clear hcz10_0
     try clear hcz10_1
     try clear hcz112_0
     try clear hcz112_1
     try clear hcz115_0
     try clear hcz115_1
     try clear hcz121_0
     try clear hcz121_1
     try clear hcz125_0
     try clear hcz125_1
     try clear hcz13_0
     try clear hcz13_1
     try clear hcz26_0
     try clear hcz26_1
     try clear hcz29_0
     try clear hcz29_1
     try clear hcz33_0
     try clear hcz33_1
     try clear hcz55_0
     try clear hcz55_1
     try clear hcz58_0
     try clear hcz58_1
     try clear hcz70_0
     try clear hcz70_1
     try clear hcz73_0
     try clear hcz73_1
     try clear hcz75_0
     try clear hcz75_1
     try clear hcz76_0
     try clear hcz76_1
     try clear hcz77_0
     try clear hcz77_1
     try clear hcz78_0
     try clear hcz78_1
     try clear hcz80_0
     try clear hcz80_1
     try clear hcz90_0
     try clear hcz90_1
     try clear hcz93_0
     try clear hcz93_1
     try clear hfz101_0
     try clear hfz101_1
     try clear hfz108_0
     try clear hfz108_1
     try clear hfz10_0
     try clear hfz10_1
     try clear hfz112_0
     try clear hfz112_1
     try clear hfz115_0
     try clear hfz115_1
     try clear hfz121_0
     try clear hfz121_1
     try clear hfz125_0
     try clear hfz125_1
     try clear hfz13_0
     try clear hfz13_1
     try clear hfz26_0
     try clear hfz26_1
     try clear hfz29_0
     try clear hfz29_1
     try clear hfz33_0
     try clear hfz33_1
     try clear hfz55_0
     try clear hfz55_1
     try clear hfz58_0
     try clear hfz58_1
     try clear hfz70_0
     try clear hfz70_1
     try clear hfz73_0
     try clear hfz73_1
     try clear hfz80_0
     try clear hfz80_1
     try clear hfz90_0
     try clear hfz90_1
     try clear hfz93_0
     try clear hfz93_1
     try clear hx331_0
     try clear hx348_0
     try clear hx65_0
     try clear p2
     try clear p3
     try clear p33
     try clear p331
     try clear p348
     try clear p6
     try clear p65
     try clear q3
     try clear q33
     try clear q331
     try clear q348
     try clear q65
     obtain ⟨kq, x88_85, rfl, HA, HJ85, HO_327001, HO_355001, BK323, BK324, BK325, BK326, BK354, HB⟩ := hcut
     cases kq with
     | zero => exact absurd HA.out (by simp [publicanref1_Floor.j3])
     | succ kj85 =>
      have H := HA.out
      clear HA
      simp only [publicanref1_Floor.j3] at H
      by_cases c126 : x88_85 = true
      ·subst c126
       have H1 : ((publicanref1_Of.f kj85 (-1)).bind fun bt355 => ((publicanref1_Add.f kj85 t350 t351 bt355.1 bt355.2).bind fun bt359 => (some (bt359.1, bt359.2)))) = some (r1, r2) := by rw [if_pos rfl] at H; exact H
       clear H
       have H := H1
       clear H1
       replace H := Option.bind_eq_some_iff.mp H
       obtain ⟨⟨t355, t356⟩, A1270, H⟩ := H
       replace H : ((publicanref1_Add.f kj85 t350 t351 t355 t356).bind fun bt359 => (some (bt359.1, bt359.2))) = some (r1, r2) := H
       have A127 := Aside0.mk A1270
       clear A1270
       replace H := Option.bind_eq_some_iff.mp H
       obtain ⟨⟨t359, t360⟩, A1280, H⟩ := H
       replace H : (some (t359, t360)) = some (r1, r2) := H
       have A128 := Aside0.mk A1280
       clear A1280
       simp only [Option.some.injEq, Prod.mk.injEq] at H
       obtain ⟨rfl, rfl⟩ := H
       try go_wp2
       have n0_ := Aside0.mk (Kd.V_drew HO_327001.out)
       have n1_ := Aside0.mk (Kd.V_drew HO_355001.out)
       have n2_ := Aside0.mk (blk_drew BK323.out)
       have n3_ := Aside0.mk (blk_drew BK324.out)
       have n4_ := Aside0.mk (blk_drew BK325.out)
       have n5_ := Aside0.mk (blk_drew BK326.out)
       have n6_ := Aside0.mk (blk_drew BK354.out)
       have n7_ := Aside0.mk (below_drew1 HB.out)
       clear HO_327001
       clear HO_355001
       clear BK323
       clear BK324
       clear BK325
       clear BK326
       clear BK354
       clear HB
       have HO_327001 := n0_
       have HO_355001 := n1_
       have BK323 := n2_
       have BK324 := n3_
       have BK325 := n4_
       have BK326 := n5_
       have BK354 := n6_
       have HB := n7_
       clear n0_ n1_ n2_ n3_ n4_ n5_ n6_ n7_
       refine start_ (n := 4) (S := fun w' => w'.cell? ⟨gb354, 0, none⟩ = some (.bool t350) ∧ w'.cell? ⟨gb354, 1, none⟩ = some (.slice Ao102 t351.length co102)) (ds := [3]) #[false, false, false, false] (by kernel_rfl) rfl rfl ⟨(blk_cell BK354.out 0).trans rfl, (blk_cell BK354.out 1).trans rfl⟩ (fun hHeld => ?_)
       generalize wc.drew = w129 at HO_327001 HO_355001 BK323 BK324 BK325 BK326 BK354 HB hHeld ⊢
       refine take_ (i := 0) (N := some 89) (v := ?_) (a' := ?_) #[true, false, false, false] rfl rfl (by kernel_rfl) (fun _ _ _ h => h) (Or.inl ⟨by rfl, ?_⟩) hHeld ?_ ?_
       rotate_left
       ·rintro w' ⟨s0, s1⟩
        go_simp
        with_reducible rfl
       rotate_left
       ·simp only [Act.put, List.setIfInBounds_toArray, List.set_cons_zero, List.set_cons_succ, i64_w, i32_w]
        rfl
       refine one_ (i := 1) (N := some 90) #[true, true, false, false] rfl rfl (by kernel_rfl) (by decide) (fun K hK => ?_)
       refine goes_ Try.func31 (by kernel_rfl) rfl #[.int .i64 (-1)] (by rfl) rfl rfl (by (try simp only [List.map_toArray, List.map_cons, List.map_nil]); first | done | rfl | (simp only [List.length_drop, List.length_take]; rfl)) ?_
       with_reducible refine (publicanref1_Of.calls kj85 (-1) t355 t356 _ A127.out).mono ?_
       rintro e w130 ⟨v357, rfl, ho0, hb⟩
       refine ⟨_, rfl, ?_⟩
       have n0_ := Aside0.mk (Kd.V_below (by (with_reducible repeat (first | apply Kd.V_alloc | apply Kd.V_drewN | apply Kd.V_drew)); exact HO_327001.out) hb)
       have n1_ := Aside0.mk (Kd.V_below (by (with_reducible repeat (first | apply Kd.V_alloc | apply Kd.V_drewN | apply Kd.V_drew)); exact HO_355001.out) hb)
       have n2_ := Aside0.mk (Kd.V_lower (Kd.V_mono (ok' := fun k_ => (w.heap.size ≤ k_) ∧ k_ ≠ gb323 ∧ k_ ≠ gb324 ∧ k_ ≠ gb325 ∧ k_ ≠ gb326 ∧ k_ ≠ gb354) ho0 (fun k_ hk_ => ⟨(Nat.le_trans (below_size (by repeat (first | (with_reducible first | exact HB.out | apply below_alloc | apply pw_below_drewN | apply below_drew1 | refine below_set ?_ GE323.out | refine below_set ?_ GE324.out | refine below_set ?_ GE325.out | refine below_set ?_ GE326.out | refine below_set ?_ GE354.out) | exact HB.out))) hk_), (Kd.freshB (g := gb323) (o := .cells #[.bool a0_0, .slice A0_1 l0_1.length c0_1] 55 (0, 0)) (by (with_reducible repeat (first | refine blk_drewN ?_ _ | refine blk_drew ?_ | refine blk_alloc ?_ _)); exact BK323.out) k_ hk_), (Kd.freshB (g := gb324) (o := .cells #[.bool a1_0, .slice A1_1 l1_1.length c1_1] 55 (0, 0)) (by (with_reducible repeat (first | refine blk_drewN ?_ _ | refine blk_drew ?_ | refine blk_alloc ?_ _)); exact BK324.out) k_ hk_), (Kd.freshB (g := gb325) (o := .cells #[.bool false, .slice none 0 0] 55 (0, 0)) (by (with_reducible repeat (first | refine blk_drewN ?_ _ | refine blk_drew ?_ | refine blk_alloc ?_ _)); exact BK325.out) k_ hk_), (Kd.freshB (g := gb326) (o := .cells #[.bool x327000_1, u327001] 55 (0, 0)) (by (with_reducible repeat (first | refine blk_drewN ?_ _ | refine blk_drew ?_ | refine blk_alloc ?_ _)); exact BK326.out) k_ hk_), (Kd.freshB (g := gb354) (o := .cells #[.bool t350, .slice Ao102 t351.length co102] 55 (0, 0)) (by (with_reducible repeat (first | refine blk_drewN ?_ _ | refine blk_drew ?_ | refine blk_alloc ?_ _)); exact BK354.out) k_ hk_)⟩)) (below_size (by repeat (first | (with_reducible first | exact HB.out | apply below_alloc | apply pw_below_drewN | apply below_drew1 | refine below_set ?_ GE323.out | refine below_set ?_ GE324.out | refine below_set ?_ GE325.out | refine below_set ?_ GE326.out | refine below_set ?_ GE354.out) | exact HB.out))))
       have n3_ := Aside0.mk (blk_below (g := gb323) (o := .cells #[.bool a0_0, .slice A0_1 l0_1.length c0_1] 55 (0, 0)) (by (with_reducible repeat (first | refine blk_drewN ?_ _ | refine blk_drew ?_ | refine blk_alloc ?_ _)); exact BK323.out) hb)
       have n4_ := Aside0.mk (blk_below (g := gb324) (o := .cells #[.bool a1_0, .slice A1_1 l1_1.length c1_1] 55 (0, 0)) (by (with_reducible repeat (first | refine blk_drewN ?_ _ | refine blk_drew ?_ | refine blk_alloc ?_ _)); exact BK324.out) hb)
       have n5_ := Aside0.mk (blk_below (g := gb325) (o := .cells #[.bool false, .slice none 0 0] 55 (0, 0)) (by (with_reducible repeat (first | refine blk_drewN ?_ _ | refine blk_drew ?_ | refine blk_alloc ?_ _)); exact BK325.out) hb)
       have n6_ := Aside0.mk (blk_below (g := gb326) (o := .cells #[.bool x327000_1, u327001] 55 (0, 0)) (by (with_reducible repeat (first | refine blk_drewN ?_ _ | refine blk_drew ?_ | refine blk_alloc ?_ _)); exact BK326.out) hb)
       have n7_ := Aside0.mk (blk_below (g := gb354) (o := .cells #[.bool t350, .slice Ao102 t351.length co102] 55 (0, 0)) (by (with_reducible repeat (first | refine blk_drewN ?_ _ | refine blk_drew ?_ | refine blk_alloc ?_ _)); exact BK354.out) hb)
       have n8_ := Aside0.mk (below_step (by repeat (first | (with_reducible first | exact HB.out | apply below_alloc | apply pw_below_drewN | apply below_drew1 | refine below_set ?_ GE323.out | refine below_set ?_ GE324.out | refine below_set ?_ GE325.out | refine below_set ?_ GE326.out | refine below_set ?_ GE354.out) | exact HB.out)) hb)
       clear HO_327001
       clear HO_355001
       clear BK323
       clear BK324
       clear BK325
       clear BK326
       clear BK354
       clear HB
       have HO_327001 := n0_
       have HO_355001 := n1_
       have HO358 := n2_
       have BK323 := n3_
       have BK324 := n4_
       have BK325 := n5_
       have BK326 := n6_
       have BK354 := n7_
       have HB := n8_
       clear n0_ n1_ n2_ n3_ n4_ n5_ n6_ n7_ n8_
       (try clear hb)
       (try clear hb2)
       (try clear hk)
       (try clear hi)
       (try clear ho0)
       obtain ⟨Ao131, co131, eo131⟩ := Kd.V_slice HO358.out
       (first | subst eo131 | (injection eo131 with f1_ f2_ f3_; have f4_ := f1_.symm; have f5_ := f3_.symm; clear f1_ f2_ f3_; subst f4_; subst f5_))
       refine hK.out _ _ ⟨(blk_cell BK354.out 0).trans rfl, (blk_cell BK354.out 1).trans rfl⟩ (fun hHeld => ?_)
       clear hK K
       refine norm_ (a' := ?_) ?_ ?_
       rotate_left
       ·show Act.put _ (some 90) _ = _
        simp only [Act.put, List.setIfInBounds_toArray, List.set_cons_zero, List.set_cons_succ, i64_w, i32_w]
        rfl
       refine one_ (i := 2) (N := some 91) #[true, true, true, false] rfl rfl (by kernel_rfl) (by decide) (fun K hK => ?_)
       refine goes_ Try.func33 (by kernel_rfl) rfl #[.agg #[.bool t350, .slice Ao102 t351.length co102], .agg #[.bool t355, .slice Ao131 t356.length co131]] (by rfl) rfl rfl (by (try simp only [List.map_toArray, List.map_cons, List.map_nil]); first | done | rfl | (simp only [List.length_drop, List.length_take]; rfl)) ?_
       with_reducible refine (publicanref1_Add.calls kj85 t350 _ _ t351 t355 _ _ t356 t359 t360 _ ?side1 ?side2 ?side3 ?side4 A128.out).mono ?_
       (case side1 => repeat (first | exact (Kd.V_reads' HO_355001.out).2.2 | (with_reducible refine Kd.C_alloc ?_ _) | (with_reducible refine Kd.C_drewN ?_ _) | (with_reducible refine Kd.C_drew ?_)))
       (case side2 => exact (Kd.V_reads' HO_355001.out).2.1)
       (case side3 => repeat (first | exact (Kd.V_reads' HO358.out).2.2 | (with_reducible refine Kd.C_alloc ?_ _) | (with_reducible refine Kd.C_drewN ?_ _) | (with_reducible refine Kd.C_drew ?_)))
       (case side4 => exact (Kd.V_reads' HO358.out).2.1)
       rintro e w132 ⟨v361, rfl, ho0, hb⟩
       refine ⟨_, rfl, ?_⟩
       have n0_ := Aside0.mk (Kd.V_below (by (with_reducible repeat (first | apply Kd.V_alloc | apply Kd.V_drewN | apply Kd.V_drew)); exact HO_327001.out) hb)
       have n1_ := Aside0.mk (Kd.V_below (by (with_reducible repeat (first | apply Kd.V_alloc | apply Kd.V_drewN | apply Kd.V_drew)); exact HO_355001.out) hb)
       have n2_ := Aside0.mk (Kd.V_below (by (with_reducible repeat (first | apply Kd.V_alloc | apply Kd.V_drewN | apply Kd.V_drew)); exact HO358.out) hb)
       have n3_ := Aside0.mk (Kd.V_lower (Kd.V_mono (ok' := fun k_ => (w.heap.size ≤ k_) ∧ k_ ≠ gb323 ∧ k_ ≠ gb324 ∧ k_ ≠ gb325 ∧ k_ ≠ gb326 ∧ k_ ≠ gb354) ho0 (fun k_ hk_ => ⟨(Nat.le_trans (below_size (by repeat (first | (with_reducible first | exact HB.out | apply below_alloc | apply pw_below_drewN | apply below_drew1 | refine below_set ?_ GE323.out | refine below_set ?_ GE324.out | refine below_set ?_ GE325.out | refine below_set ?_ GE326.out | refine below_set ?_ GE354.out) | exact HB.out))) hk_), (Kd.freshB (g := gb323) (o := .cells #[.bool a0_0, .slice A0_1 l0_1.length c0_1] 55 (0, 0)) (by (with_reducible repeat (first | refine blk_drewN ?_ _ | refine blk_drew ?_ | refine blk_alloc ?_ _)); exact BK323.out) k_ hk_), (Kd.freshB (g := gb324) (o := .cells #[.bool a1_0, .slice A1_1 l1_1.length c1_1] 55 (0, 0)) (by (with_reducible repeat (first | refine blk_drewN ?_ _ | refine blk_drew ?_ | refine blk_alloc ?_ _)); exact BK324.out) k_ hk_), (Kd.freshB (g := gb325) (o := .cells #[.bool false, .slice none 0 0] 55 (0, 0)) (by (with_reducible repeat (first | refine blk_drewN ?_ _ | refine blk_drew ?_ | refine blk_alloc ?_ _)); exact BK325.out) k_ hk_), (Kd.freshB (g := gb326) (o := .cells #[.bool x327000_1, u327001] 55 (0, 0)) (by (with_reducible repeat (first | refine blk_drewN ?_ _ | refine blk_drew ?_ | refine blk_alloc ?_ _)); exact BK326.out) k_ hk_), (Kd.freshB (g := gb354) (o := .cells #[.bool t350, .slice Ao102 t351.length co102] 55 (0, 0)) (by (with_reducible repeat (first | refine blk_drewN ?_ _ | refine blk_drew ?_ | refine blk_alloc ?_ _)); exact BK354.out) k_ hk_)⟩)) (below_size (by repeat (first | (with_reducible first | exact HB.out | apply below_alloc | apply pw_below_drewN | apply below_drew1 | refine below_set ?_ GE323.out | refine below_set ?_ GE324.out | refine below_set ?_ GE325.out | refine below_set ?_ GE326.out | refine below_set ?_ GE354.out) | exact HB.out))))
       have n4_ := Aside0.mk (blk_below (g := gb323) (o := .cells #[.bool a0_0, .slice A0_1 l0_1.length c0_1] 55 (0, 0)) (by (with_reducible repeat (first | refine blk_drewN ?_ _ | refine blk_drew ?_ | refine blk_alloc ?_ _)); exact BK323.out) hb)
       have n5_ := Aside0.mk (blk_below (g := gb324) (o := .cells #[.bool a1_0, .slice A1_1 l1_1.length c1_1] 55 (0, 0)) (by (with_reducible repeat (first | refine blk_drewN ?_ _ | refine blk_drew ?_ | refine blk_alloc ?_ _)); exact BK324.out) hb)
       have n6_ := Aside0.mk (blk_below (g := gb325) (o := .cells #[.bool false, .slice none 0 0] 55 (0, 0)) (by (with_reducible repeat (first | refine blk_drewN ?_ _ | refine blk_drew ?_ | refine blk_alloc ?_ _)); exact BK325.out) hb)
       have n7_ := Aside0.mk (blk_below (g := gb326) (o := .cells #[.bool x327000_1, u327001] 55 (0, 0)) (by (with_reducible repeat (first | refine blk_drewN ?_ _ | refine blk_drew ?_ | refine blk_alloc ?_ _)); exact BK326.out) hb)
       have n8_ := Aside0.mk (blk_below (g := gb354) (o := .cells #[.bool t350, .slice Ao102 t351.length co102] 55 (0, 0)) (by (with_reducible repeat (first | refine blk_drewN ?_ _ | refine blk_drew ?_ | refine blk_alloc ?_ _)); exact BK354.out) hb)
       have n9_ := Aside0.mk (below_step (by repeat (first | (with_reducible first | exact HB.out | apply below_alloc | apply pw_below_drewN | apply below_drew1 | refine below_set ?_ GE323.out | refine below_set ?_ GE324.out | refine below_set ?_ GE325.out | refine below_set ?_ GE326.out | refine below_set ?_ GE354.out) | exact HB.out)) hb)
       clear HO_327001
       clear HO_355001
       clear HO358
       clear BK323
       clear BK324
       clear BK325
       clear BK326
       clear BK354
       clear HB
       have HO_327001 := n0_
       have HO_355001 := n1_
       have HO358 := n2_
       have HO362 := n3_
       have BK323 := n4_
       have BK324 := n5_
       have BK325 := n6_
       have BK326 := n7_
       have BK354 := n8_
       have HB := n9_
       clear n0_ n1_ n2_ n3_ n4_ n5_ n6_ n7_ n8_ n9_
       (try clear hb)
       (try clear hb2)
       (try clear hk)
       (try clear hi)
       (try clear ho0)
       obtain ⟨Ao134, co134, eo134⟩ := Kd.V_slice HO362.out
       (first | subst eo134 | (injection eo134 with f1_ f2_ f3_; have f4_ := f1_.symm; have f5_ := f3_.symm; clear f1_ f2_ f3_; subst f4_; subst f5_))
       refine hK.out _ _ ⟨(blk_cell BK354.out 0).trans rfl, (blk_cell BK354.out 1).trans rfl⟩ (fun hHeld => ?_)
       clear hK K
       refine norm_ (a' := ?_) ?_ ?_
       rotate_left
       ·show Act.put _ (some 91) _ = _
        simp only [Act.put, List.setIfInBounds_toArray, List.set_cons_zero, List.set_cons_succ, i64_w, i32_w]
        rfl
       refine last_ (i := 3) (N := none) #[true, true, true, true] rfl rfl (by kernel_rfl) (by decide) (fun K hK => ?_)
       have hs133 : w132.cell? ⟨gb354, 0, none⟩ = some (.bool t350) := (blk_cell BK354.out 0).trans rfl
       have hfs133 := blk_frozen BK354.out 0
       have hns133_0 := NB323_354.out
       have hns133_1 := NB324_354.out
       have hns133_2 := NB325_354.out
       have hns133_3 := NB326_354.out
       have hms133_0 := NB354_323.out
       have hms133_1 := NB354_324.out
       have hms133_2 := NB354_325.out
       have hms133_3 := NB354_326.out
       have hs135 : w132.cell? ⟨gb354, 1, none⟩ = some (.slice Ao102 t351.length co102) := (blk_cell BK354.out 1).trans rfl
       have hfs135 := blk_frozen BK354.out 1
       have hns135_0 := NB323_354.out
       have hns135_1 := NB324_354.out
       have hns135_2 := NB325_354.out
       have hns135_3 := NB326_354.out
       have hms135_0 := NB354_323.out
       have hms135_1 := NB354_324.out
       have hms135_2 := NB354_325.out
       have hms135_3 := NB354_326.out
       refine skip_ (w1 := ?_) (by rfl) rfl ?_ ?_
       rotate_left
       ·go_simp
        rfl
       refine hK.out _ _ ?_
       clear hK K
       refine done_ (by kernel_rfl) ?_
       have hnb136 := NB354_323.out
       have hnc136 := NB323_354.out
       have hnb137 := NB354_324.out
       have hnc137 := NB324_354.out
       have hnb138 := NB354_325.out
       have hnc138 := NB325_354.out
       have hnb139 := NB354_326.out
       have hnc139 := NB326_354.out
       have hcz140_0 : w132.cell? ⟨gb354, 0, none⟩ = some (.bool t350) := (blk_cell BK354.out 0).trans rfl
       have hcz140_1 : w132.cell? ⟨gb354, 1, none⟩ = some (.slice Ao102 t351.length co102) := (blk_cell BK354.out 1).trans rfl
       have hfz140_0 := blk_frozen BK354.out 0
       have hfz140_1 := blk_frozen BK354.out 1
       have hnb141 := NB325_323.out
       have hnc141 := NB323_325.out
       have hnb142 := NB325_324.out
       have hnc142 := NB324_325.out
       have hnb143 := NB325_326.out
       have hnc143 := NB326_325.out
       have hcz144_0 : w132.cell? ⟨gb325, 0, none⟩ = some (.bool false) := (blk_cell BK325.out 0).trans rfl
       have hcz144_1 : w132.cell? ⟨gb325, 1, none⟩ = some (.slice none 0 0) := (blk_cell BK325.out 1).trans rfl
       have hfz144_0 := blk_frozen BK325.out 0
       have hfz144_1 := blk_frozen BK325.out 1
       try go_wp2
       refine bodyPost_ret (results_cell_row rfl _ _ gb325 55 #[.bool t359, .slice Ao134 t360.length co134] (0, 0) _ rfl (by (with_reducible repeat (first | refine blk_drewN ?_ _ | refine blk_drew ?_ | refine blk_alloc ?_ _)); refine blk_put (cs := #[.bool t359, .slice none 0 0]) ?_ 1 _ rfl; (with_reducible repeat (first | refine blk_drewN ?_ _ | refine blk_drew ?_ | refine blk_alloc ?_ _)); refine blk_put (cs := #[.bool false, .slice none 0 0]) ?_ 0 _ rfl; (with_reducible repeat (first | refine blk_drewN ?_ _ | refine blk_drew ?_ | refine blk_alloc ?_ _)); refine blk_far ?_ NB325_354.out _; (with_reducible repeat (first | refine blk_drewN ?_ _ | refine blk_drew ?_ | refine blk_alloc ?_ _)); refine blk_far ?_ NB325_354.out _; (with_reducible repeat (first | refine blk_drewN ?_ _ | refine blk_drew ?_ | refine blk_alloc ?_ _)); exact BK325.out) Try.underlying55 rfl (by kernel_rfl)) rfl ?_
       exact ⟨_, by first | rfl | (simp [errW_none, errW_some] <;> rfl) | (simp [*, errW_none, errW_some] <;> rfl), by (with_reducible repeat (first | apply Kd.V_alloc | apply Kd.V_drewN | apply Kd.V_drew)); exact Kd.V_mono (Kd.V_far (p := ⟨gb325, 1, none⟩) (Kd.V_far (p := ⟨gb325, 0, none⟩) (Kd.V_far (p := ⟨gb354, 1, none⟩) (Kd.V_far (p := ⟨gb354, 0, none⟩) (Kd.V_mono (Kd.V_mono HO362.out (fun k_ hk => (⟨hk, hk.2.2.2.2.2⟩ : _ ∧ k_ ≠ gb354))) (fun k_ hk => (⟨hk, hk.1.2.2.2.1⟩ : _ ∧ k_ ≠ gb325))) (fun _ hk => hk.1.2) (.bool t359)) (fun _ hk => hk.1.2) (.slice Ao134 t360.length co134)) (fun _ hk => hk.2) (.bool t359)) (fun _ hk => hk.2) (.slice Ao134 t360.length co134)) (fun _ hk => hk.1.1.1), by repeat (first | (with_reducible first | exact HB.out | apply below_alloc | apply pw_below_drewN | apply below_drew1 | refine below_set ?_ GE323.out | refine below_set ?_ GE324.out | refine below_set ?_ GE325.out | refine below_set ?_ GE326.out | refine below_set ?_ GE354.out) | exact HB.out)⟩
      ·replace c126 := Bool.eq_false_iff.mpr c126
       subst c126
       have H1 : (some (t350, t351)) = some (r1, r2) := by rw [if_neg (show ¬ (false = true) by decide)] at H; exact H
       clear H
       have H := H1
       clear H1
       simp only [Option.some.injEq, Prod.mk.injEq] at H
       obtain ⟨rfl, rfl⟩ := H
       have hnb145 := NB354_323.out
       have hnc145 := NB323_354.out
       have hnb146 := NB354_324.out
       have hnc146 := NB324_354.out
       have hnb147 := NB354_325.out
       have hnc147 := NB325_354.out
       have hnb148 := NB354_326.out
       have hnc148 := NB326_354.out
       have hcz149_0 : wc.cell? ⟨gb354, 0, none⟩ = some (.bool t350) := (blk_cell BK354.out 0).trans rfl
       have hcz149_1 : wc.cell? ⟨gb354, 1, none⟩ = some (.slice Ao102 t351.length co102) := (blk_cell BK354.out 1).trans rfl
       have hfz149_0 := blk_frozen BK354.out 0
       have hfz149_1 := blk_frozen BK354.out 1
       have hnb150 := NB325_323.out
       have hnc150 := NB323_325.out
       have hnb151 := NB325_324.out
       have hnc151 := NB324_325.out
       have hnb152 := NB325_326.out
       have hnc152 := NB326_325.out
       have hcz153_0 : wc.cell? ⟨gb325, 0, none⟩ = some (.bool false) := (blk_cell BK325.out 0).trans rfl
       have hcz153_1 : wc.cell? ⟨gb325, 1, none⟩ = some (.slice none 0 0) := (blk_cell BK325.out 1).trans rfl
       have hfz153_0 := blk_frozen BK325.out 0
       have hfz153_1 := blk_frozen BK325.out 1
       go_wp2
       refine bodyPost_ret (results_cell_row rfl _ _ gb325 55 #[.bool t350, .slice Ao102 t351.length co102] (0, 0) _ rfl (by (with_reducible repeat (first | refine blk_drewN ?_ _ | refine blk_drew ?_ | refine blk_alloc ?_ _)); refine blk_put (cs := #[.bool t350, .slice none 0 0]) ?_ 1 _ rfl; (with_reducible repeat (first | refine blk_drewN ?_ _ | refine blk_drew ?_ | refine blk_alloc ?_ _)); refine blk_put (cs := #[.bool false, .slice none 0 0]) ?_ 0 _ rfl; (with_reducible repeat (first | refine blk_drewN ?_ _ | refine blk_drew ?_ | refine blk_alloc ?_ _)); exact BK325.out) Try.underlying55 rfl (by kernel_rfl)) rfl ?_
       exact ⟨_, by first | rfl | (simp [errW_none, errW_some] <;> rfl) | (simp [*, errW_none, errW_some] <;> rfl), by (with_reducible repeat (first | apply Kd.V_alloc | apply Kd.V_drewN | apply Kd.V_drew)); exact Kd.V_mono (Kd.V_far (p := ⟨gb325, 1, none⟩) (Kd.V_far (p := ⟨gb325, 0, none⟩) (Kd.V_mono HO_355001.out (fun k_ hk => (⟨hk, hk.2.2.2.1⟩ : _ ∧ k_ ≠ gb325))) (fun _ hk => hk.2) (.bool t350)) (fun _ hk => hk.2) (.slice Ao102 t351.length co102)) (fun _ hk => hk.1.1), by repeat (first | (with_reducible first | exact HB.out | apply below_alloc | apply pw_below_drewN | apply below_drew1 | refine below_set ?_ GE323.out | refine below_set ?_ GE324.out | refine below_set ?_ GE325.out | refine below_set ?_ GE326.out | refine below_set ?_ GE354.out) | exact HB.out)⟩
end Go.Proofs.Ythjhammjankekaa.PNum
