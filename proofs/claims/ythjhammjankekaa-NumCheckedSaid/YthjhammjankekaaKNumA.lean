import Derived.Test.YthjhammjankekaaKPNum5
namespace Go.Proofs.Ythjhammjankekaa.PNum
open Go.RowKit Go.Proofs.YthjhammjankekaaW.PrintWords Go.Proofs.YthjhammjankekaaW.PrintLast Go.Proofs.YthjhammjankekaaW.PrintMore
set_option linter.unusedVariables false
set_option linter.unusedSimpArgs false
theorem u64w (x : Int) : IntKind.u64.wrap x = x % 18446744073709551616 := by
  simp [IntKind.wrap, IntKind.bits, IntKind.signed]
theorem w64 (x : Int) : wrap64 x = (x + 9223372036854775808) % 18446744073709551616 - 9223372036854775808 := by unfold wrap64; rfl
theorem add_f (a b : Int) (a0 : -9223372036854775808 ≤ a) (a1 : a ≤ 9223372036854775807) (b0 : -9223372036854775808 ≤ b) (b1 : b ≤ 9223372036854775807) :
    num_Add.f a b = if -9223372036854775808 ≤ a + b ∧ a + b ≤ 9223372036854775807 then some (a + b, true) else some (0, false) := by
  unfold num_Add.f
  have e : wrap64 (a + b) = (a + b + 9223372036854775808) % 18446744073709551616 - 9223372036854775808 := w64 _
  by_cases h1 : wrap64 (a + b) < a <;> by_cases h2 : b < 0 <;> simp only [h1, h2, decide_true, decide_false, bne_self_eq_false, Bool.false_bne, Bool.true_bne, Bool.not_false, if_true, if_false, Bool.false_eq_true]
  · rw [if_pos (by omega), e]
    congr 2
    omega
  · rw [if_neg (by omega)]
  · rw [if_neg (by omega)]
  · rw [if_pos (by omega), e]
    congr 2
    omega
theorem sub_f (a b : Int) (a0 : -9223372036854775808 ≤ a) (a1 : a ≤ 9223372036854775807) (b0 : -9223372036854775808 ≤ b) (b1 : b ≤ 9223372036854775807) :
    num_Sub.f a b = if -9223372036854775808 ≤ a - b ∧ a - b ≤ 9223372036854775807 then some (a - b, true) else some (0, false) := by
  unfold num_Sub.f
  have e : wrap64 (a - b) = (a - b + 9223372036854775808) % 18446744073709551616 - 9223372036854775808 := w64 _
  by_cases h1 : wrap64 (a - b) > a <;> by_cases h2 : b < 0 <;> simp only [h1, h2, decide_true, decide_false, bne_self_eq_false, Bool.false_bne, Bool.true_bne, Bool.not_false, if_true, if_false, Bool.false_eq_true]
  · rw [if_pos (by omega), e]
    congr 2
    omega
  · rw [if_neg (by omega)]
  · rw [if_neg (by omega)]
  · rw [if_pos (by omega), e]
    congr 2
    omega
theorem narrow_f (h l : Int) (l0 : 0 ≤ l) (l1 : l < 18446744073709551616) :
    num_narrow.f h l = if -9223372036854775808 ≤ h * 18446744073709551616 + l ∧ h * 18446744073709551616 + l ≤ 9223372036854775807 then some (h * 18446744073709551616 + l, true) else some (0, false) := by
  unfold num_narrow.f
  have e : wrap64 l = (l + 9223372036854775808) % 18446744073709551616 - 9223372036854775808 := w64 _
  by_cases h1 : h = wrap64 l / 9223372036854775808
  · rw [if_pos h1, if_pos (by omega)]
    congr 2
    omega
  · rw [if_neg h1, if_neg (by omega)]
theorem mul_bd {a b A : Int} (a0 : -A ≤ a) (a1 : a ≤ A) (b0 : -A ≤ b) (b1 : b ≤ A) : -(A * A) ≤ a * b ∧ a * b ≤ A * A := by
  have h1 : a.natAbs ≤ A.natAbs := by omega
  have h2 : b.natAbs ≤ A.natAbs := by omega
  have h3 := Nat.mul_le_mul h1 h2
  rw [← Int.natAbs_mul, ← Int.natAbs_mul] at h3
  have h4 : 0 ≤ A * A := Int.mul_nonneg (by omega) (by omega)
  omega
theorem mul_i64 (a b : Int) (a0 : -9223372036854775808 ≤ a) (a1 : a ≤ 9223372036854775807) (b0 : -9223372036854775808 ≤ b) (b1 : b ≤ 9223372036854775807) :
    -85070591730234615865843651857942052864 ≤ a * b ∧ a * b ≤ 85070591730234615865843651857942052864 := by
  have := mul_bd (A := 9223372036854775808) a0 (by omega) b0 (by omega)
  omega
theorem product_f (a b : Int) (a0 : -9223372036854775808 ≤ a) (a1 : a ≤ 9223372036854775807) (b0 : -9223372036854775808 ≤ b) (b1 : b ≤ 9223372036854775807) :
    num_product.f a b = some (a * b / 18446744073709551616, a * b % 18446744073709551616) := by
  unfold num_product.f bits_Mul64.f
  simp only [u64w]
  rw [if_pos (by omega)]
  simp only [Option.bind_some]
  have hp := mul_i64 a b a0 a1 b0 b1
  by_cases ha : a < 0 <;> by_cases hb : b < 0
  · have ea : a % 18446744073709551616 = a + 18446744073709551616 := by omega
    have eb : b % 18446744073709551616 = b + 18446744073709551616 := by omega
    have ep : (a + 18446744073709551616) * (b + 18446744073709551616) = a * b + 18446744073709551616 * b + 18446744073709551616 * a + 340282366920938463463374607431768211456 := by
      rw [Int.add_mul, Int.mul_add, Int.mul_add]; omega
    rw [if_pos ha, if_pos hb, ea, eb, ep]
    simp only [w64]
    congr 2 <;> omega
  · have ea : a % 18446744073709551616 = a + 18446744073709551616 := by omega
    have eb : b % 18446744073709551616 = b := by omega
    have ep : (a + 18446744073709551616) * b = a * b + 18446744073709551616 * b := by rw [Int.add_mul]
    rw [if_pos ha, if_neg hb, ea, eb, ep]
    simp only [w64]
    congr 2 <;> omega
  · have ea : a % 18446744073709551616 = a := by omega
    have eb : b % 18446744073709551616 = b + 18446744073709551616 := by omega
    have ep : a * (b + 18446744073709551616) = a * b + 18446744073709551616 * a := by rw [Int.mul_add]; omega
    rw [if_neg ha, if_pos hb, ea, eb, ep]
    simp only [w64]
    congr 2 <;> omega
  · have ea : a % 18446744073709551616 = a := by omega
    have eb : b % 18446744073709551616 = b := by omega
    rw [if_neg ha, if_neg hb, ea, eb]
    simp only [w64]
    congr 2 <;> omega
theorem mul_f (a b : Int) (a0 : -9223372036854775808 ≤ a) (a1 : a ≤ 9223372036854775807) (b0 : -9223372036854775808 ≤ b) (b1 : b ≤ 9223372036854775807) :
    num_Mul.f a b = if -9223372036854775808 ≤ a * b ∧ a * b ≤ 9223372036854775807 then some (a * b, true) else some (0, false) := by
  unfold num_Mul.f
  rw [product_f a b a0 a1 b0 b1]
  simp only [Option.bind_some]
  rw [narrow_f _ _ (by omega) (by omega)]
  have e : a * b / 18446744073709551616 * 18446744073709551616 + a * b % 18446744073709551616 = a * b := by omega
  rw [e]
  split <;> rfl
def FloorIs (q a b : Int) : Prop := (0 < b ∧ q * b ≤ a ∧ a < (q + 1) * b) ∨ (b < 0 ∧ a ≤ q * b ∧ (q + 1) * b < a)
theorem FloorIs.one {q p a b : Int} (h : FloorIs q a b) (h' : FloorIs p a b) : q = p := by
  rcases h with ⟨h0, h1, h2⟩ | ⟨h0, h1, h2⟩ <;> rcases h' with ⟨g0, g1, g2⟩ | ⟨g0, g1, g2⟩
  · have k1 : q < p + 1 := Int.lt_of_mul_lt_mul_right (Int.lt_of_le_of_lt h1 g2) (Int.le_of_lt h0)
    have k2 : p < q + 1 := Int.lt_of_mul_lt_mul_right (Int.lt_of_le_of_lt g1 h2) (Int.le_of_lt h0)
    omega
  · omega
  · omega
  · have n1 : (p + 1) * (-b) > q * (-b) := by rw [Int.mul_neg, Int.mul_neg]; omega
    have n2 : (q + 1) * (-b) > p * (-b) := by rw [Int.mul_neg, Int.mul_neg]; omega
    have k1 : q < p + 1 := Int.lt_of_mul_lt_mul_right n1 (by omega)
    have k2 : p < q + 1 := Int.lt_of_mul_lt_mul_right n2 (by omega)
    omega
theorem floorIs_pos (a b : Int) (hb : 0 < b) : FloorIs (a / b) a b := by
  refine .inl ⟨hb, ?_, ?_⟩
  · have := Int.mul_ediv_add_emod a b; have := Int.emod_nonneg a (Int.ne_of_gt hb); rw [Int.mul_comm]; omega
  · have := Int.mul_ediv_add_emod a b; have := Int.emod_lt_of_pos a hb; rw [Int.add_mul, Int.mul_comm]; omega
theorem tdiv_floor (a b : Int) (hb : b ≠ 0) : FloorIs (if Int.tmod a b = 0 then Int.tdiv a b else if (a < 0 ↔ b < 0) then Int.tdiv a b else Int.tdiv a b - 1) a b := by
  have e := Int.mul_tdiv_add_tmod a b
  have s : (Int.tmod a b).natAbs < b.natAbs := by
    rw [Int.natAbs_tmod]; exact Nat.mod_lt _ (by omega)
  have sg : (0 ≤ a → 0 ≤ Int.tmod a b) ∧ (a ≤ 0 → Int.tmod a b ≤ 0) := by
    constructor
    · intro h; exact Int.tmod_nonneg b h
    · intro h
      have h1 := Int.tmod_nonneg (a := -a) b (by omega)
      rw [Int.neg_tmod] at h1
      omega
  generalize hq : Int.tdiv a b = q at *
  generalize hr : Int.tmod a b = r at *
  rw [Int.mul_comm] at e
  have ea : a = q * b + r := by omega
  by_cases hb0 : 0 < b
  · refine .inl ⟨hb0, ?_⟩
    by_cases h0 : r = 0
    · rw [if_pos h0]; rw [Int.add_mul]; omega
    · rw [if_neg h0]
      by_cases h1 : a < 0 ↔ b < 0
      · rw [if_pos h1]; rw [Int.add_mul]; omega
      · rw [if_neg h1, Int.sub_mul, Int.sub_add_cancel]; omega
  · refine .inr ⟨by omega, ?_⟩
    by_cases h0 : r = 0
    · rw [if_pos h0]; rw [Int.add_mul]; omega
    · rw [if_neg h0]
      by_cases h1 : a < 0 ↔ b < 0
      · rw [if_pos h1]; rw [Int.add_mul]; omega
      · rw [if_neg h1, Int.sub_mul, Int.sub_add_cancel]; omega
theorem FloorIs.le {q a b : Int} (h : FloorIs q a b) (hb : b ≠ 0) (A : Int) (hA : 0 ≤ A) (a0 : -A ≤ a) (a1 : a ≤ A) : -A ≤ q ∧ q ≤ A := by
  rcases h with ⟨h0, h1, h2⟩ | ⟨h0, h1, h2⟩
  · constructor
    · by_cases hq : q < -A
      · have : (q + 1) * b ≤ (-A) * b := Int.mul_le_mul_of_nonneg_right (by omega) (by omega)
        have h3 : A * 1 ≤ A * b := Int.mul_le_mul_of_nonneg_left (by omega) hA
        rw [Int.neg_mul] at this
        omega
      · omega
    · by_cases hq : A < q
      · have : (A + 1) * 1 ≤ q * b := Int.mul_le_mul (by omega) (by omega) (by omega) (by omega)
        omega
      · omega
  · constructor
    · by_cases hq : q < -A
      · have : (A + 1) * 1 ≤ (-q) * (-b) := Int.mul_le_mul (by omega) (by omega) (by omega) (by omega)
        rw [Int.neg_mul_neg] at this
        have e : (q + 1) * b = q * b + b := by rw [Int.add_mul]; omega
        have : A * 1 ≤ (-(q + 1)) * (-b) := Int.mul_le_mul (by omega) (by omega) (by omega) (by omega)
        rw [Int.neg_mul_neg] at this
        omega
      · omega
    · by_cases hq : A < q
      · have : (A + 1) * 1 ≤ q * (-b) := Int.mul_le_mul (by omega) (by omega) (by omega) (by omega)
        rw [Int.mul_neg] at this
        omega
      · omega
theorem floor_ev (a b : Int) (a0 : -9223372036854775808 ≤ a) (a1 : a ≤ 9223372036854775807) (b0 : -9223372036854775808 ≤ b) (b1 : b ≤ 9223372036854775807) :
    ∃ q ok, Ev (fun k => num_Floor.f k a b) (q, ok) ∧ ((ok = true ∧ b ≠ 0 ∧ FloorIs q a b ∧ -9223372036854775808 ≤ q ∧ q ≤ 9223372036854775807) ∨ (ok = false ∧ q = 0 ∧ (b = 0 ∨ FloorIs 9223372036854775808 a b))) := by
  by_cases h0 : b = 0
  · refine ⟨0, false, ⟨1, fun k hk => ?_⟩, .inr ⟨rfl, rfl, .inl h0⟩⟩
    obtain ⟨k, rfl⟩ : ∃ m, k = m + 1 := ⟨k - 1, by omega⟩
    unfold num_Floor.f
    simp only [num_Floor.j0]
    rw [if_pos h0]
    rfl
  · by_cases h1 : a = -9223372036854775808 ∧ b = -1
    · refine ⟨0, false, ⟨1, fun k hk => ?_⟩, .inr ⟨rfl, rfl, .inr ?_⟩⟩
      · obtain ⟨k, rfl⟩ : ∃ m, k = m + 1 := ⟨k - 1, by omega⟩
        unfold num_Floor.f
        simp only [num_Floor.j0]
        rw [if_neg h0, if_pos h1.1, h1.2]
        rfl
      · rw [h1.1, h1.2]; exact .inr ⟨by decide, by decide, by decide⟩
    · have hf := tdiv_floor a b h0
      have hl := hf.le h0 9223372036854775808 (by decide) a0 (by omega)
      have hne : (if Int.tmod a b = 0 then Int.tdiv a b else if (a < 0 ↔ b < 0) then Int.tdiv a b else Int.tdiv a b - 1) ≠ 9223372036854775808 := by
        intro he
        rw [he] at hf
        rcases hf with ⟨g0, g1, g2⟩ | ⟨g0, g1, g2⟩
        · have : 9223372036854775808 * 1 ≤ 9223372036854775808 * b := Int.mul_le_mul_of_nonneg_left (by omega) (by decide)
          omega
        · omega
      refine ⟨_, true, ⟨1, fun k hk => ?_⟩, .inl ⟨rfl, h0, hf, hl.1, by omega⟩⟩
      obtain ⟨k, rfl⟩ : ∃ m, k = m + 1 := ⟨k - 1, by omega⟩
      have key : num_Floor.j0 (k + 1) a b false = some ((if Int.tmod a b = 0 then Int.tdiv a b else if (a < 0 ↔ b < 0) then Int.tdiv a b else Int.tdiv a b - 1), true) := by
        simp only [num_Floor.j0]
        rw [if_neg (by decide), if_neg h0]
        have bd : (Int.tdiv a b).natAbs ≤ a.natAbs := by rw [Int.natAbs_tdiv]; exact Nat.div_le_self _ _
        by_cases h2 : Int.tmod a b = 0
        · rw [if_pos h2] at hl hne ⊢
          rw [if_pos h2]
          congr 2
          unfold wrap64
          omega
        · rw [if_neg h2] at hl hne ⊢
          rw [if_neg h2]
          simp only [bne_iff_ne, ne_eq, decide_eq_decide]
          by_cases h3 : a < 0 ↔ b < 0
          · rw [if_pos h3] at hl hne ⊢
            rw [if_neg (by simpa using h3)]
            congr 2
            unfold wrap64
            omega
          · rw [if_neg h3] at hl hne ⊢
            rw [if_pos h3]
            congr 2
            unfold wrap64
            omega
      unfold num_Floor.f
      simp only []
      rw [if_neg h0]
      by_cases h4 : a = -9223372036854775808
      · rw [if_pos h4]
        have : (b == (-1)) = false := by
          rw [beq_eq_false_iff_ne]; intro h5; exact h1 ⟨h4, h5⟩
        rw [this]
        exact key
      · rw [if_neg h4]; exact key
end Go.Proofs.Ythjhammjankekaa.PNum
