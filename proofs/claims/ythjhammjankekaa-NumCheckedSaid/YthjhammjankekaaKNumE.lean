import Derived.Test.YthjhammjankekaaKNumD
namespace Go.Proofs.Ythjhammjankekaa.PNum
open Go.RowKit Go.Proofs.YthjhammjankekaaW.PrintWords Go.Proofs.YthjhammjankekaaW.PrintLast Go.Proofs.YthjhammjankekaaW.PrintMore
set_option linter.unusedVariables false
set_option linter.unusedSimpArgs false
def fit (q : Int) : Int × Bool := if -9223372036854775808 ≤ q ∧ q ≤ 9223372036854775807 then (q, true) else (0, false)
theorem narrow_fit (h l : Int) (l0 : 0 ≤ l) (l1 : l < 18446744073709551616) : num_narrow.f h l = some (fit (wv h l)) := by
  rw [narrow_f h l l0 l1]
  unfold fit wv
  split <;> rfl
theorem neg_ediv (S c : Int) (hS : 0 ≤ S) (hc : 0 < c) : -S / c = if S % c = 0 then -(S / c) else -(S / c) - 1 := by
  have e := Int.mul_ediv_add_emod S c
  have e2 := Int.emod_nonneg S (Int.ne_of_gt hc)
  have e3 := Int.emod_lt_of_pos S hc
  have ev : ∀ q : Int, q * c ≤ -S → -S < (q + 1) * c → -S / c = q := fun q h1 h2 => FloorIs.one (floorIs_pos (-S) c hc) (.inl ⟨hc, h1, h2⟩)
  rw [Int.mul_comm] at e
  split
  · apply ev
    · rw [Int.neg_mul]; omega
    · rw [Int.add_mul, Int.neg_mul]; omega
  · apply ev
    · rw [Int.sub_mul, Int.neg_mul]; omega
    · rw [Int.add_mul, Int.sub_mul, Int.neg_mul]; omega
theorem wide_floor_ev (a b c : Int) (hw : WOk a b) (c0 : -9223372036854775808 ≤ c) (c1 : c ≤ 9223372036854775807) :
    Ev (fun k => num_Wide_Floor.f k a b c) (if c < 1 then (0, false) else fit (wv a b / c)) := by
  by_cases hc : c < 1
  · refine Ev.congr (f := fun _ => some (if c < 1 then (0, false) else fit (wv a b / c))) (fun k => ?_) (Ev.now _)
    simp only [num_Wide_Floor.f]
    rw [if_pos hc, if_pos hc]
  · rw [if_neg hc]
    have uc : IntKind.u64.wrap c = c := by rw [u64w]; omega
    have wb : -170141183460469231731687303715884105728 ≤ wv a b ∧ wv a b < 170141183460469231731687303715884105728 := by
      obtain ⟨a0, a1, b0, b1⟩ := hw; unfold wv; omega
    have core : ∀ h l : Int, 0 ≤ l → l < 18446744073709551616 → (S : Int) → S = IntKind.u64.wrap h * 18446744073709551616 + l → 0 ≤ S → (a < 0 → wv a b = -S) → (¬ a < 0 → wv a b = S) →
        Ev (fun k => num_Wide_Floor.j0 k c a b h l) (fit (wv a b / c)) := by
      intro h l l0 l1 S eS S0 neg pos
      have uh0 : 0 ≤ IntKind.u64.wrap h ∧ IntKind.u64.wrap h < 18446744073709551616 := u64_in h
      by_cases hge : IntKind.u64.wrap h ≥ c
      · refine Ev.step (f := fun _ => some (fit (wv a b / c))) (fun k => ?_) (Ev.now _)
        simp only [num_Wide_Floor.j0]
        rw [uc, if_pos hge]
        have big : 18446744073709551616 ≤ S / c := by
          apply (Int.le_ediv_iff_mul_le (by omega)).mpr
          omega
        unfold fit
        rw [if_neg]
        by_cases ha : a < 0
        · rw [neg ha, neg_ediv S c S0 (by omega)]
          split <;> omega
        · rw [pos ha]; omega
      · have dv := div64_ev (IntKind.u64.wrap h) l c uh0.1 (by omega) (by omega) l0 l1
        rw [← eS] at dv
        have q0 : 0 ≤ S / c := Int.ediv_nonneg S0 (by omega)
        have q1 : S / c < 18446744073709551616 := Int.ediv_lt_of_lt_mul (by omega) (by
          have : (IntKind.u64.wrap h + 1) * 18446744073709551616 ≤ c * 18446744073709551616 := Int.mul_le_mul_of_nonneg_right (by omega) (by omega)
          rw [Int.mul_comm 18446744073709551616 c]
          omega)
        have r0 := Int.emod_nonneg S (show c ≠ 0 by omega)
        refine Ev.step (f := fun k => (bits_Div64.f k (IntKind.u64.wrap h) l c).bind fun bt => if a ≥ 0 then ((num_narrow.f 0 bt.1).bind fun t => some (t.1, t.2)) else ((num_Wide_turned.f 0 bt.1).bind fun t => if bt.2 > 0 then ((num_Of.f (-1)).bind fun o => ((num_Wide_Plus.f t.1 t.2 o.1 o.2).bind fun p => ((num_narrow.f p.1 p.2.1).bind fun n => some (n.1, n.2)))) else ((num_narrow.f t.1 t.2).bind fun n => some (n.1, n.2)))) (fun k => ?_) ?_
        · simp only [num_Wide_Floor.j0]
          rw [uc, if_neg hge]
        · refine Ev.bind dv (Ev.congr (f := fun _ => some (fit (wv a b / c))) (fun k => ?_) (Ev.now _))
          simp only []
          by_cases ha : a < 0
          · have okq : WOk 0 (S / c) := by unfold WOk; omega
            have wq : wv 0 (S / c) = S / c := by unfold wv; omega
            rw [if_neg (by omega), turned_f 0 (S / c) okq (by rw [wq]; omega), wq]
            simp only [Option.bind_some]
            by_cases hr : S % c > 0
            · rw [if_pos hr, of_f (-1) (by decide) (by decide)]
              simp only [Option.bind_some]
              rw [plus_f _ _ _ _ (wok_split _ (by omega) (by omega)) (of_ok (-1) (by decide) (by decide)), wv_split, wv_split, if_pos (by omega)]
              simp only [Option.bind_some]
              rw [narrow_fit _ _ (by omega) (by omega), wv_split, neg ha, neg_ediv S c S0 (by omega), if_neg (by omega)]
              rfl
            · rw [if_neg hr, narrow_fit _ _ (by omega) (by omega), wv_split, neg ha, neg_ediv S c S0 (by omega), if_pos (by omega)]
              rfl
          · have wq : wv 0 (S / c) = S / c := by unfold wv; omega
            rw [if_pos (by omega), narrow_fit _ _ q0 q1, wq, pos ha]
            rfl
    obtain ⟨a0, a1, b0, b1⟩ := hw
    by_cases ha : a < 0
    · by_cases hm : wv a b = -170141183460469231731687303715884105728
      · have ea : a = -9223372036854775808 := by unfold wv at hm; omega
        have eb : b = 0 := by unfold wv at hm; omega
        have ht : num_Wide_turned.f a b = some (-9223372036854775808, 0) := by rw [ea, eb]; decide +kernel
        refine Ev.congr (f := fun k => num_Wide_Floor.j0 k c a b (-9223372036854775808) 0) (fun k => ?_) (core _ _ (by decide) (by decide) 170141183460469231731687303715884105728 (by rw [u64w]; decide) (by decide) (fun _ => hm) (fun h => absurd ha h))
        simp only [num_Wide_Floor.f]
        rw [if_neg hc, if_pos ha, ht]
        rfl
      · refine Ev.congr (f := fun k => num_Wide_Floor.j0 k c a b (-(wv a b) / 18446744073709551616) (-(wv a b) % 18446744073709551616)) (fun k => ?_) (core _ _ (by omega) (by omega) (-(wv a b)) (by rw [u64w]; unfold wv at *; omega) (by unfold wv; omega) (fun _ => by omega) (fun h => absurd ha h))
        simp only [num_Wide_Floor.f]
        rw [if_neg hc, if_pos ha, turned_f a b ⟨a0, a1, b0, b1⟩ hm]
        rfl
    · refine Ev.congr (f := fun k => num_Wide_Floor.j0 k c a b a b) (fun k => ?_) (core a b b0 b1 (wv a b) (by rw [u64w]; unfold wv; omega) (by unfold wv; omega) (fun h => absurd h ha) (fun _ => rfl))
      simp only [num_Wide_Floor.f]
      rw [if_neg hc, if_neg ha]
theorem mulfloor_ev (a b c : Int) (a0 : -9223372036854775808 ≤ a) (a1 : a ≤ 9223372036854775807) (b0 : -9223372036854775808 ≤ b) (b1 : b ≤ 9223372036854775807) (c0 : -9223372036854775808 ≤ c) (c1 : c ≤ 9223372036854775807) :
    Ev (fun k => num_MulFloor.f k a b c) (if c < 1 then (0, false) else fit (a * b / c)) := by
  have hp := mul_i64 a b a0 a1 b0 b1
  have h := wide_floor_ev _ _ c (wok_split (a * b) (by omega) (by omega)) c0 c1
  rw [wv_split] at h
  refine Ev.congr (f := fun k => (num_Wide_Floor.f k (a * b / 18446744073709551616) (a * b % 18446744073709551616) c).bind fun t => some (t.1, t.2)) (fun k => ?_) (Ev.bind h (Ev.now _))
  simp only [num_MulFloor.f]
  rw [product_f a b a0 a1 b0 b1]
  rfl
theorem wf64 {a : Int} (h : (Lit.int .i64 a).wf = true) : -9223372036854775808 ≤ a ∧ a ≤ 9223372036854775807 := by
  simp [Lit.wf, IntKind.min, IntKind.max, IntKind.bits, IntKind.signed] at h
  omega
theorem awake_ev : Ev (fun k => publicanlaw1_awake.f k) true := Ev.of (fun k => publicanlaw1_awake.mono k) (k := 8) (by decide +kernel)
end Go.Proofs.Ythjhammjankekaa.PNum
