import Derived.Test.YthjhammjankekaaKBigE
namespace Go.Proofs.Ythjhammjankekaa.PNum
open Go.RowKit Go.Proofs.YthjhammjankekaaW.PrintWords Go.Proofs.YthjhammjankekaaW.PrintLast Go.Proofs.YthjhammjankekaaW.PrintMore
set_option linter.unusedVariables false
set_option linter.unusedSimpArgs false
attribute [local irreducible] pw bv dgt
def flo (x y : Int) : Int := if 0 < y then x / y else (-x) / (-y)
theorem flos_flo (x y : Int) (hy : y ≠ 0) : flos (decide (x < 0) == decide (y < 0)) (if x < 0 then -x else x) (if y < 0 then -y else y) = flo x y := by
  unfold flos flo
  by_cases h1 : x < 0 <;> by_cases h2 : y < 0
  · simp only [if_pos h1, if_pos h2, decide_eq_true h1, decide_eq_true h2]
    rw [if_pos (show (true == true) = true from rfl), if_neg (show ¬ 0 < y by omega)]
  · simp only [if_pos h1, if_neg h2, decide_eq_true h1, decide_eq_false h2]
    rw [if_neg (show ¬ (true == false) = true by decide), if_pos (show 0 < y by omega)]
    have := bneg_ediv (-x) y (by omega) (by omega)
    rw [Int.neg_neg] at this
    exact this.symm
  · simp only [if_neg h1, if_pos h2, decide_eq_false h1, decide_eq_true h2]
    rw [if_neg (show ¬ (false == true) = true by decide), if_neg (show ¬ 0 < y by omega)]
    exact (bneg_ediv x (-y) (by omega) (by omega)).symm
  · simp only [if_neg h1, if_neg h2, decide_eq_false h1, decide_eq_false h2]
    rw [if_pos (show (false == false) = true from rfl), if_pos (show 0 < y by omega)]
def Half (v : Int) : Prop := -pw 500 < v ∧ v < pw 500
theorem half_lit {v : Int} (h0 : -2135987035920910082395021706169552114602704522356652769947041607822219725780640550022962086936576 < v) (h1 : v < 2135987035920910082395021706169552114602704522356652769947041607822219725780640550022962086936576) : Half v := by
  have := pw_mono (show 20 ≤ 500 by decide)
  rw [pw_20] at this
  exact ⟨by omega, by omega⟩
theorem Floor_big {x y : Int} (hx : Half x) (hy : Half y) (h0 : y ≠ 0) : Ev (fun k => publicanref1_Floor.f k (big x).1 (big x).2 (big y).1 (big y).2) (big (flo x y)) := by
  have ix := big_is x
  have iy := big_is y
  have lx : (big x).2.length ≤ 500 := ix.len hx.1 hx.2
  have ly : (big y).2.length ≤ 500 := iy.len hy.1 hy.2
  have ax := ix.abs
  have ay := iy.abs
  have gx := ix.neg
  have gy := iy.neg
  have nx := (bv_bd _ ix.dg)
  have hz : bv (big x).2 / 2 ^ (16 * (big x).2.length) = 0 := by
    apply Int.ediv_eq_zero_of_lt nx.1
    rw [← pw_two]; exact nx.2
  have ev := Floor_l0_ev (na := (big x).1) (nb := (big y).1) ix.dg iy.dg iy.norm lx ly (by rw [ay]; split <;> omega) (16 * (big x).2.length) (Nat.le_refl _) [] (fun x hx => absurd hx (List.not_mem_nil)) (Nat.zero_le _) (by rw [hz, Int.zero_ediv, Int.zero_mul]; exact bv_nil)
  rw [hz, Int.zero_emod, big_zero, ax, ay, gx, gy, flos_flo x y h0] at ev
  refine Ev.congr (fun k => ?_) ev
  simp only [publicanref1_Floor.f]
  have e : wrap64 (wrap64 (16 * ((big x).2.length : Int)) - 1) = ((16 * (big x).2.length : Nat) : Int) - 1 := by rw [bw64, bw64]; omega
  rw [e, gx, gy]
theorem or16 (u d : Int) (hu : 0 ≤ u ∧ u * 65536 < 18446744073709551616) (hd : 0 ≤ d ∧ d < 65536) : Go.bits .or .u64 (IntKind.u64.wrap (u * 65536)) d = u * 65536 + d := by
  have e : IntKind.u64.wrap (u * 65536) = u * 65536 := by rw [bu64w]; omega
  rw [e]
  exact bits_join .u64 64 (by decide) bwraps_u64 16 (u * 65536) d (by omega) (by omega) (by omega) hd.1 (by omega) (by omega)
theorem Int_l0_ev (neg : Bool) (a : List Int) (ha : Dg a) (la : a.length ≤ 1000) (hv : bv a < 18446744073709551616) (n : Nat) : n ≤ a.length → Ev (fun k => publicanref1_Int.l0 k (bv (a.drop n)) ((n : Int) - 1) neg a) (if neg = true then wrap64 (IntKind.u64.wrap (-(bv a))) else wrap64 (bv a), true) := by
  induction n with
  | zero =>
    intro _
    rw [List.drop_zero]
    refine Ev.step (f := fun _ => some (if neg = true then wrap64 (IntKind.u64.wrap (-(bv a))) else wrap64 (bv a), true)) (fun k => ?_) (Ev.now _)
    simp only [publicanref1_Int.l0]
    rw [if_neg (by omega)]
    cases neg <;> rfl
  | succ n ih =>
    intro hn
    refine Ev.step (f := fun k => publicanref1_Int.l0 k (bv (a.drop n)) ((n : Int) - 1) neg a) (fun k => ?_) (ih (by omega))
    have hd := bv_drop a n (by omega)
    have hb := bv_bd _ (ha.drop (n + 1))
    have hs := bv_split a n
    have hT := (bv_bd _ (ha.take n)).1
    have hp := pw_pos n
    have hg := dgt_bd ha n
    have hle : bv (a.drop n) ≤ bv a := by
      have h0 := (bv_bd _ (ha.drop n)).1
      have : 1 * bv (a.drop n) ≤ pw n * bv (a.drop n) := Int.mul_le_mul_of_nonneg_right (by omega) h0
      omega
    have hn1 : ((n + 1 : Nat) : Int) - 1 = (n : Int) := by omega
    have ho := or16 (bv (a.drop (n + 1))) (dgt a n) ⟨hb.1, by omega⟩ hg
    simp only [publicanref1_Int.l0]
    rw [hn1, if_pos (by omega), if_pos (by omega), if_pos (by omega), rd_dgt, ho]
    have e1 : bv (a.drop (n + 1)) * 65536 + dgt a n = bv (a.drop n) := by omega
    have e2 : wrap64 ((n : Int) - 1) = (n : Int) - 1 := by rw [bw64]; omega
    rw [e1, e2]
def asInt (x : Int) : Int × Bool := if -9223372036854775808 ≤ x ∧ x ≤ 9223372036854775807 then (x, true) else (0, false)
theorem Int_big {x : Int} (hx : Few x) : Ev (fun k => publicanref1_Int.f k (big x).1 (big x).2) (asInt x) := by
  have o1 := Of_big (-9223372036854775808) (by decide) (by decide)
  have o2 := Of_big 9223372036854775807 (by decide) (by decide)
  have c1 := Cmp_big hx (few_lit (v := -9223372036854775808) (by decide) (by decide))
  have c2 := Cmp_big hx (few_lit (v := 9223372036854775807) (by decide) (by decide))
  have out : Ev (fun k => publicanref1_Int.j0 k true (big x).1 (big x).2) (0, false) := Ev.step (f := fun _ => some (0, false)) (fun k => by simp only [publicanref1_Int.j0]; rw [if_pos trivial]) (Ev.now _)
  refine Ev.congr (f := fun k => (publicanref1_Of.f k (-9223372036854775808)).bind fun o => (publicanref1_Cmp.f k (big x).1 (big x).2 o.1 o.2).bind fun t => if t < 0 then publicanref1_Int.j0 k true (big x).1 (big x).2 else (publicanref1_Of.f k 9223372036854775807).bind fun p => (publicanref1_Cmp.f k (big x).1 (big x).2 p.1 p.2).bind fun t => publicanref1_Int.j0 k (decide (t > 0)) (big x).1 (big x).2) (fun k => by simp only [publicanref1_Int.f]) (Ev.bind o1 (Ev.bind c1 ?_))
  unfold asInt
  by_cases h1 : x < -9223372036854775808
  · rw [if_neg (show ¬ (-9223372036854775808 ≤ x ∧ x ≤ 9223372036854775807) by omega)]
    exact Ev.congr (fun k => by rw [if_pos (by rw [if_neg (by omega), if_pos h1]; decide)]) out
  · refine Ev.congr (fun k => by rw [if_neg (by split <;> (try split) <;> omega)]) (Ev.bind o2 (Ev.bind c2 ?_))
    by_cases h2 : 9223372036854775807 < x
    · rw [if_neg (show ¬ (-9223372036854775808 ≤ x ∧ x ≤ 9223372036854775807) by omega)]
      exact Ev.congr (fun k => by rw [decide_eq_true (by rw [if_neg (by omega), if_neg (by omega)]; decide)]) out
    · rw [if_pos (show (-9223372036854775808 ≤ x ∧ x ≤ 9223372036854775807) by omega)]
      have ix := big_is x
      have ax := ix.abs
      have gx := ix.neg
      have ln := hx.small
      unfold Small at ln
      have ev := Int_l0_ev (big x).1 (big x).2 ix.dg ln (by rw [ax]; split <;> omega) (big x).2.length (Nat.le_refl _)
      rw [List.drop_length, bv_nil] at ev
      have er : (if (big x).1 = true then wrap64 (IntKind.u64.wrap (-(bv (big x).2))) else wrap64 (bv (big x).2), true) = (x, true) := by
        congr 1
        rw [gx, ax, bw64, bw64, bu64w]
        by_cases h3 : x < 0
        · rw [if_pos (decide_eq_true h3), if_pos h3]; omega
        · rw [if_neg (by rw [decide_eq_false h3]; decide), if_neg h3]; omega
      rw [er] at ev
      refine Ev.congr (f := fun k => publicanref1_Int.j0 k false (big x).1 (big x).2) (fun k => by rw [decide_eq_false (by split <;> (try split) <;> omega)]) ?_
      refine Ev.step (fun k => ?_) ev
      simp only [publicanref1_Int.j0]
      rw [if_neg (by decide)]
      congr 1
      rw [bw64]; omega
end Go.Proofs.Ythjhammjankekaa.PNum
