import Derived.Test.YthjhammjankekaaKNumC
namespace Go.Proofs.Ythjhammjankekaa.PNum
open Go.RowKit Go.Proofs.YthjhammjankekaaW.PrintWords Go.Proofs.YthjhammjankekaaW.PrintLast Go.Proofs.YthjhammjankekaaW.PrintMore
set_option linter.unusedVariables false
set_option linter.unusedSimpArgs false
theorem bitLen_lt (x : Nat) (h : x < 2 ^ 64) : ∀ f, x < 2 ^ f → f ≤ 64 → x < 2 ^ Go.Lib.bitLen x ∧ (x ≠ 0 → 2 ^ (Go.Lib.bitLen x - 1) ≤ x) := by
  intro f
  induction f generalizing x with
  | zero =>
    intro hf _
    obtain rfl : x = 0 := by simp at hf; omega
    exact ⟨by decide, fun h => absurd rfl h⟩
  | succ f ih =>
    intro hf hle
    by_cases h0 : x = 0
    · subst h0; exact ⟨by decide, fun h => absurd rfl h⟩
    · obtain ⟨h1, h2⟩ := ih (x / 2) (by omega) (by rw [Nat.pow_succ] at hf; omega) (by omega)
      rw [Go.Lib.bitLen_half x h0 h]
      constructor
      · rw [Nat.add_comm, Nat.pow_succ]; omega
      · intro _
        by_cases h3 : x / 2 = 0
        · rw [h3]
          have : Go.Lib.bitLen 0 = 0 := by decide
          rw [this]
          simp
          omega
        · have h4 := h2 h3
          have h5 : 1 ≤ Go.Lib.bitLen (x / 2) := by
            cases hb : Go.Lib.bitLen (x / 2) with
            | zero => rw [hb] at h1; simp at h1; omega
            | succ n => omega
          have : 1 + Go.Lib.bitLen (x / 2) - 1 = (Go.Lib.bitLen (x / 2) - 1) + 1 := by omega
          rw [this, Nat.pow_succ]
          omega
theorem wraps_u64 (n : Int) (h0 : 0 ≤ n) (h1 : n < 2 ^ 64) : IntKind.u64.wrap n = n := by rw [u64w]; omega
theorem u64_mask32 (x : Int) (h0 : 0 ≤ x) (h1 : x < 18446744073709551616) : Go.bits .and .u64 x 4294967295 = x % 4294967296 :=
  bits_mask .u64 64 (by decide) wraps_u64 32 (by decide) x h0 (by omega)
theorem pow_int (s : Nat) : ((2 ^ s : Nat) : Int) = (2 : Int) ^ s := by simp
theorem shr_nat (L B : Nat) (hB : B ≤ 64) : shr .u64 (L : Int) (B : Int) = ((L / 2 ^ B : Nat) : Int) := by
  have e : min B IntKind.u64.bits = B := Nat.min_eq_left (by simp [IntKind.bits]; omega)
  unfold shr
  rw [Int.toNat_natCast, e, Int.natCast_ediv, pow_int]
theorem div_mul_int (N Y s : Nat) : ((N * 2 ^ s : Nat) : Int) / ((Y * 2 ^ s : Nat) : Int) = (N : Int) / (Y : Int) := by
  rw [← Int.natCast_ediv, ← Int.natCast_ediv, Nat.mul_div_mul_right _ _ (Nat.two_pow_pos s)]
theorem mod_mul_int (N Y s : Nat) : ((N * 2 ^ s : Nat) : Int) % ((Y * 2 ^ s : Nat) : Int) = ((N % Y * 2 ^ s : Nat) : Int) := by
  rw [← Int.natCast_emod, Nat.mul_mod_mul_right]
theorem mod_pow_int (H s : Nat) : ((H * 2 ^ s : Nat) : Int) % (2 : Int) ^ s = 0 := by
  rw [← pow_int, ← Int.natCast_emod, Nat.mul_mod_left]; rfl
theorem div64_ev (hi lo y : Int) (h0 : 0 ≤ hi) (h1 : hi < y) (h2 : y < 18446744073709551616) (l0 : 0 ≤ lo) (l1 : lo < 18446744073709551616) :
    Ev (fun k => bits_Div64.f k hi lo y) ((hi * 18446744073709551616 + lo) / y, (hi * 18446744073709551616 + lo) % y) := by
  have hy0 : 0 < y := by omega
  by_cases hz : hi = 0
  · subst hz
    refine Ev.congr (f := fun _ => some ((0 * 18446744073709551616 + lo) / y, (0 * 18446744073709551616 + lo) % y)) (fun k => ?_) (Ev.now _)
    simp only [bits_Div64.f, u64w]
    rw [if_neg (by omega), if_neg (by omega), if_pos trivial, Int.tdiv_eq_ediv_of_nonneg l0, Int.tmod_eq_emod_of_nonneg l0]
    have a := Int.ediv_nonneg l0 (by omega : 0 ≤ y)
    have b : lo / y ≤ lo := Int.ediv_le_self y l0
    have e : 0 * 18446744073709551616 + lo = lo := by omega
    rw [e]
    have e2 : lo / y % 18446744073709551616 = lo / y := by omega
    rw [e2]
  · obtain ⟨b1, b2⟩ := bitLen_lt y.toNat (by omega) 64 (by omega) (by omega)
    have b3 := b2 (by omega)
    have b4 : Go.Lib.bitLen y.toNat ≤ 64 := Go.Lib.bitLen_le y.toNat 64 (by omega) (by omega)
    have b5 : 1 ≤ Go.Lib.bitLen y.toNat := by
      cases hb : Go.Lib.bitLen y.toNat with
      | zero => rw [hb] at b1; simp at b1; omega
      | succ n => omega
    generalize hB : Go.Lib.bitLen y.toNat = B at *
    obtain ⟨s, hs⟩ : ∃ s : Nat, B + s = 64 := ⟨64 - B, by omega⟩
    have pw : (2 : Nat) ^ B * 2 ^ s = 18446744073709551616 := by rw [← Nat.pow_add, hs]
    have pw1 : (2 : Nat) ^ (B - 1) * 2 = 2 ^ B := by rw [← Nat.pow_succ]; congr 1; omega
    have ps : 0 < (2 : Nat) ^ s := Nat.two_pow_pos s
    have c1 : y.toNat * 2 ^ s < 18446744073709551616 := by rw [← pw]; exact (Nat.mul_lt_mul_right ps).mpr b1
    have c2 : 9223372036854775808 ≤ y.toNat * 2 ^ s := by
      have := Nat.mul_le_mul_right (2 ^ s) b3
      have e : 2 ^ (B - 1) * 2 ^ s * 2 = 18446744073709551616 := by rw [Nat.mul_right_comm, pw1, pw]
      omega
    obtain ⟨Y, rfl⟩ := Int.eq_ofNat_of_zero_le (by omega : 0 ≤ y)
    obtain ⟨H, rfl⟩ := Int.eq_ofNat_of_zero_le h0
    obtain ⟨L, rfl⟩ := Int.eq_ofNat_of_zero_le l0
    rw [Int.toNat_natCast] at c1 c2 b1 b3 hB
    have d1 : H * 2 ^ s < 18446744073709551616 := Nat.lt_trans ((Nat.mul_lt_mul_right ps).mpr (by omega : H < Y)) c1
    have d2 : (H + 1) * 2 ^ s ≤ Y * 2 ^ s := Nat.mul_le_mul_right _ (by omega)
    have d3 : L / 2 ^ B < 2 ^ s := by
      apply Nat.div_lt_of_lt_mul
      rw [pw]; omega
    have d4 : L * 2 ^ s = L / 2 ^ B * 18446744073709551616 + L % 2 ^ B * 2 ^ s := by
      have := Nat.div_add_mod L (2 ^ B)
      calc L * 2 ^ s = (2 ^ B * (L / 2 ^ B) + L % 2 ^ B) * 2 ^ s := by rw [this]
        _ = _ := by rw [Nat.add_mul, Nat.mul_right_comm, pw, Nat.mul_comm]
    have d5 : L % 2 ^ B * 2 ^ s < 18446744073709551616 := by
      rw [← pw]; exact (Nat.mul_lt_mul_right ps).mpr (Nat.mod_lt _ (Nat.two_pow_pos B))
    have d6 : (H + 1) * 2 ^ s = H * 2 ^ s + 2 ^ s := by rw [Nat.add_mul, Nat.one_mul]
    have es : IntKind.u64.wrap (64 - (B : Int)) = (s : Int) := by rw [u64w]; omega
    have eb : IntKind.u64.wrap (64 - (s : Int)) = (B : Int) := by rw [u64w]; omega
    have sh : ∀ X : Nat, shl .u64 (X : Int) (s : Int) = ((X * 2 ^ s % 18446744073709551616 : Nat) : Int) := by
      intro X
      unfold shl
      rw [u64w, Int.toNat_natCast, Nat.min_eq_left (by simp [IntKind.bits]; omega)]
      simp
    have sr : shr .u64 (L : Int) (B : Int) = ((L / 2 ^ B : Nat) : Int) := shr_nat L B b4
    have srx : ∀ X : Nat, shr .u64 (X : Int) (s : Int) = ((X / 2 ^ s : Nat) : Int) := fun X => shr_nat X s (by omega)
    have eor : Go.bits .or .u64 ((H * 2 ^ s % 18446744073709551616 : Nat) : Int) ((L / 2 ^ B : Nat) : Int) = ((H * 2 ^ s + L / 2 ^ B : Nat) : Int) := by
      rw [Nat.mod_eq_of_lt d1, bits_join .u64 64 (by decide) wraps_u64 s _ _ (Int.natCast_nonneg _) ?_ (by omega) (Int.natCast_nonneg _) (by exact_mod_cast d3) (by omega)]
      · rw [Int.natCast_add]
      · exact mod_pow_int H s
    have um : L * 2 ^ s % 18446744073709551616 = L % 2 ^ B * 2 ^ s := by
      rw [d4, Nat.add_comm, Nat.add_mul_mod_self_right, Nat.mod_eq_of_lt d5]
    have main := div_norm ((Y * 2 ^ s : Nat) : Int) (s : Int) ((H * 2 ^ s + L / 2 ^ B : Nat) : Int) (((L % 2 ^ B * 2 ^ s) / 4294967296 : Nat) : Int) (((L % 2 ^ B * 2 ^ s) % 4294967296 : Nat) : Int) (by omega) (by omega) (by omega) (by omega) (by omega) (by omega) (by omega) (by omega) (by omega)
    have eN : ((H * 2 ^ s + L / 2 ^ B : Nat) : Int) * 18446744073709551616 + (((L % 2 ^ B * 2 ^ s) / 4294967296 : Nat) : Int) * 4294967296 + (((L % 2 ^ B * 2 ^ s) % 4294967296 : Nat) : Int) = (((H * 18446744073709551616 + L) * 2 ^ s : Nat) : Int) := by
      have : (H * 18446744073709551616 + L) * 2 ^ s = H * 2 ^ s * 18446744073709551616 + L * 2 ^ s := by rw [Nat.add_mul, Nat.mul_right_comm]
      rw [this, d4]
      omega
    rw [eN] at main
    have eNN : ((H : Int) * 18446744073709551616 + L) = ((H * 18446744073709551616 + L : Nat) : Int) := by omega
    have eq1 : (((H * 18446744073709551616 + L) * 2 ^ s : Nat) : Int) / ((Y * 2 ^ s : Nat) : Int) = ((H : Int) * 18446744073709551616 + L) / (Y : Int) := by
      rw [div_mul_int, eNN]
    have eq2 : shr .u64 ((((H * 18446744073709551616 + L) * 2 ^ s : Nat) : Int) % ((Y * 2 ^ s : Nat) : Int)) (s : Int) = ((H : Int) * 18446744073709551616 + L) % (Y : Int) := by
      rw [mod_mul_int, srx, Nat.mul_div_cancel _ ps, Int.natCast_emod, eNN]
    rw [eq1, eq2] at main
    refine Ev.congr (fun k => ?_) main
    have hl : bits_LeadingZeros64.f (Y : Int) = some (64 - (B : Int)) := by
      unfold bits_LeadingZeros64.f
      rw [if_pos (by omega), if_pos (by omega), Int.toNat_natCast, hB]
    simp only [bits_Div64.f]
    rw [if_neg (by omega), if_neg (by omega), if_neg hz, hl]
    simp only [Option.bind_some]
    rw [es, eb, if_pos (by omega), if_pos (by omega), sh Y, sh H, sh L, sr, eor, um, Nat.mod_eq_of_lt c1, if_neg (by omega), u64_mask32 _ (by omega) (by omega), u64_mask32 _ (by omega) (by omega), Int.tdiv_eq_ediv_of_nonneg (by omega)]
    generalize hU : H * 2 ^ s + L / 2 ^ B = U at *
    generalize hYs : Y * 2 ^ s = Ys at *
    generalize hu : L % 2 ^ B * 2 ^ s = u at *
    have st := Seek.start (y1 := (Ys : Int) / 4294967296) (y0 := (Ys : Int) % 4294967296) (U := (U : Int)) (u := 0) (by omega) (by omega) (by omega) (by omega) (by omega) (by omega) (by omega) (by omega)
    have qa := st.qa; have qb := st.qb; have ra := st.ra; have rb := st.rb
    generalize (U : Int) / ((Ys : Int) / 4294967296) = q at *
    have e6 : IntKind.u64.wrap q = q := by rw [u64w]; omega
    rw [e6]
    generalize hP : q * ((Ys : Int) / 4294967296) = P at *
    have e7 : IntKind.u64.wrap ((U : Int) - IntKind.u64.wrap P) = (U : Int) - P := by rw [u64w, u64w]; omega
    rw [e7]
    rfl
end Go.Proofs.Ythjhammjankekaa.PNum
