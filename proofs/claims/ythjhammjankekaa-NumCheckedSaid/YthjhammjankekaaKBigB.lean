import Derived.Test.YthjhammjankekaaKBigA
namespace Go.Proofs.Ythjhammjankekaa.PNum
open Go.RowKit Go.Proofs.YthjhammjankekaaW.PrintWords Go.Proofs.YthjhammjankekaaW.PrintLast Go.Proofs.YthjhammjankekaaW.PrintMore
set_option linter.unusedVariables false
set_option linter.unusedSimpArgs false
theorem bu64w (x : Int) : IntKind.u64.wrap x = x % 18446744073709551616 := by
  simp [IntKind.wrap, IntKind.bits, IntKind.signed]
theorem bw64 (x : Int) : wrap64 x = (x + 9223372036854775808) % 18446744073709551616 - 9223372036854775808 := by unfold wrap64; rfl
theorem bwraps_u64 (n : Int) (h0 : 0 ≤ n) (h1 : n < 2 ^ 64) : IntKind.u64.wrap n = n := by rw [bu64w]; omega
theorem mask16 (x : Int) (h0 : 0 ≤ x) (h1 : x < 18446744073709551616) : Go.bits .and .u64 x 65535 = x % 65536 :=
  bits_mask .u64 64 (by decide) bwraps_u64 16 (by decide) x h0 (by omega)
theorem len_sub (n : Nat) (h0 : 0 < n) (h : n ≤ 1000000) : wrap64 ((n : Int) - 1) = ((n - 1 : Nat) : Int) := by rw [bw64]; omega
theorem idx_succ (i : Nat) (h : i ≤ 2000000) : wrap64 ((i : Int) + 1) = ((i + 1 : Nat) : Int) := by rw [bw64]; omega
theorem digit_f (l : List Int) (i : Nat) : publicanref1_digit.f l (i : Int) = some (dgt l i) := by
  unfold publicanref1_digit.f
  by_cases h : i < l.length
  · rw [if_pos (by omega), if_pos (by omega), rd_dgt]
  · rw [if_neg (by omega), dgt_above (by omega)]
theorem trim_ev (neg : Bool) (n : Nat) : ∀ l : List Int, l.length = n → Dg l → n ≤ 1000000 → ∀ d : List Int, ∃ r : Bool × List Int, Ev (fun k => publicanref1_trim.l0 k l neg d) r ∧ Is r (sg neg l) := by
  induction n with
  | zero =>
    intro l hl hd hn d
    obtain rfl := List.eq_nil_of_length_eq_zero hl
    refine ⟨(false, []), Ev.step (f := fun _ => some (false, [])) (fun k => ?_) (Ev.now _), ?_⟩
    · simp only [publicanref1_trim.l0]
      rw [if_neg (by simp)]
      cases neg <;> rfl
    · have : sg neg [] = 0 := by cases neg <;> rfl
      rw [this]; exact Is.zero
  | succ n ih =>
    intro l hl hd hn d
    have e1 : wrap64 ((l.length : Int) - 1) = (n : Int) := by rw [len_sub l.length (by omega) (by omega)]; omega
    by_cases hz : dgt l n = 0
    · have hlen : (l.take n).length = n := by rw [List.length_take]; omega
      obtain ⟨r, hr, hi⟩ := ih (l.take n) hlen (hd.take n) (by omega) d
      have hv : sg neg (l.take n) = sg neg l := by
        have : bv (l.take n) = bv l := by
          have h1 := bv_take_succ l n
          rw [List.take_of_length_le (by omega), hz] at h1
          omega
        unfold sg; rw [this]
      refine ⟨r, Ev.step (f := fun k => publicanref1_trim.l0 k (l.take n) neg d) (fun k => ?_) hr, hv ▸ hi⟩
      simp only [publicanref1_trim.l0]
      rw [e1, if_pos (by omega), if_pos (by omega), if_pos (by omega), rd_dgt, if_pos hz, if_pos (by omega), Int.toNat_natCast]
    · have hne : l ≠ [] := by rintro rfl; simp at hl
      refine ⟨(neg, l), Ev.step (f := fun _ => some (neg, l)) (fun k => ?_) (Ev.now _), hd, .inr (by rw [hl]; exact hz), fun h => absurd h hne, rfl⟩
      simp only [publicanref1_trim.l0]
      rw [e1, if_pos (by omega), if_pos (by omega), if_pos (by omega), rd_dgt, if_neg hz]
      cases neg <;> rfl
theorem trim_f_ev (neg : Bool) (l : List Int) (hd : Dg l) (hn : l.length ≤ 1000000) : ∃ r : Bool × List Int, Ev (fun k => publicanref1_trim.f k neg l) r ∧ Is r (sg neg l) := by
  obtain ⟨r, hr, hi⟩ := trim_ev neg l.length l rfl hd hn l
  exact ⟨r, Ev.congr (fun k => by simp only [publicanref1_trim.f]) hr, hi⟩
theorem U_l0_ev (neg : Bool) (n : Nat) : ∀ (u : Int) (acc : List Int), 0 ≤ u → u < pw n → u < 18446744073709551616 → Dg acc → acc.length + n ≤ 1000000 → ∃ r : Bool × List Int, Ev (fun k => publicanref1_U.l0 k u neg acc) r ∧ Is r (if neg = true then -(bv acc + pw acc.length * u) else bv acc + pw acc.length * u) := by
  induction n with
  | zero =>
    intro u acc h0 h1 h2 hd hn
    have hu : u = 0 := by have : pw 0 = 1 := rfl; omega
    subst hu
    obtain ⟨r, hr, hi⟩ := trim_f_ev neg acc hd (by omega)
    refine ⟨r, Ev.step (f := fun k => (publicanref1_trim.f k neg acc).bind fun b => some (b.1, b.2)) (fun k => ?_) (Ev.bind hr (Ev.now _)), ?_⟩
    · simp only [publicanref1_U.l0]
      rw [if_neg (by omega)]
    · have e : bv acc + pw acc.length * 0 = bv acc := by omega
      rw [e]; exact hi
  | succ n ih =>
    intro u acc h0 h1 h2 hd hn
    by_cases hu : u > 0
    · have hm := mask16 u h0 h2
      have hdig : Dg (acc ++ [u % 65536]) := hd.append (Dg.one (by omega))
      obtain ⟨r, hr, hi⟩ := ih (u / 65536) (acc ++ [u % 65536]) (by omega) (by have : pw (n + 1) = 65536 * pw n := rfl; omega) (by omega) hdig (by rw [List.length_append]; simp; omega)
      refine ⟨r, Ev.step (f := fun k => publicanref1_U.l0 k (u / 65536) neg (acc ++ [u % 65536])) (fun k => ?_) hr, ?_⟩
      · simp only [publicanref1_U.l0]
        rw [if_pos hu, if_pos (by omega), hm]
      · have e : bv (acc ++ [u % 65536]) + pw (acc ++ [u % 65536]).length * (u / 65536) = bv acc + pw acc.length * u := by
          rw [bv_append, List.length_append, pw_add]
          have e1 : pw [u % 65536].length = 65536 := rfl
          have e2 : bv [u % 65536] = u % 65536 := by simp [bv]
          rw [e1, e2, Int.mul_assoc, Int.add_assoc, ← Int.mul_add]
          have : u % 65536 + 65536 * (u / 65536) = u := by omega
          rw [this]
        rw [e] at hi
        exact hi
    · have hu : u = 0 := by omega
      subst hu
      obtain ⟨r, hr, hi⟩ := trim_f_ev neg acc hd (by omega)
      refine ⟨r, Ev.step (f := fun k => (publicanref1_trim.f k neg acc).bind fun b => some (b.1, b.2)) (fun k => ?_) (Ev.bind hr (Ev.now _)), ?_⟩
      · simp only [publicanref1_U.l0]
        rw [if_neg (by omega)]
      · have e : bv acc + pw acc.length * 0 = bv acc := by omega
        rw [e]; exact hi
theorem U_ev (u : Int) (neg : Bool) (h0 : 0 ≤ u) (h1 : u < 18446744073709551616) : ∃ r, Ev (fun k => publicanref1_U.f k u neg) r ∧ Is r (if neg = true then -u else u) := by
  obtain ⟨r, hr, hi⟩ := U_l0_ev neg 4 u [] h0 (by have : pw 4 = 18446744073709551616 := rfl; omega) h1 (fun x hx => absurd hx (List.not_mem_nil)) (by simp)
  refine ⟨r, Ev.congr (fun k => by simp only [publicanref1_U.f]) hr, ?_⟩
  have e : bv [] + pw ([] : List Int).length * u = u := by simp [bv, pw]
  rw [e] at hi
  exact hi
theorem Of_ev (v : Int) (h0 : -9223372036854775808 ≤ v) (h1 : v ≤ 9223372036854775807) : ∃ r, Ev (fun k => publicanref1_Of.f k v) r ∧ Is r v := by
  by_cases h : v < 0
  · obtain ⟨r, hr, hi⟩ := U_ev (-v) true (by omega) (by omega)
    rw [if_pos rfl, Int.neg_neg] at hi
    refine ⟨r, Ev.congr (f := fun k => (publicanref1_U.f k (-v) true).bind fun b => some (b.1, b.2)) (fun k => ?_) (Ev.bind hr (Ev.now _)), hi⟩
    simp only [publicanref1_Of.f, bu64w]
    rw [if_pos h]
    have e : -(v % 18446744073709551616) % 18446744073709551616 = -v := by omega
    rw [e]
  · obtain ⟨r, hr, hi⟩ := U_ev v false (by omega) (by omega)
    rw [if_neg (by decide)] at hi
    refine ⟨r, Ev.congr (f := fun k => (publicanref1_U.f k v false).bind fun b => some (b.1, b.2)) (fun k => ?_) (Ev.bind hr (Ev.now _)), hi⟩
    simp only [publicanref1_Of.f, bu64w]
    rw [if_neg h]
    have e : v % 18446744073709551616 = v := by omega
    rw [e]
theorem less_l0_ev (a b : List Int) (hl : a.length = b.length) (ha : Dg a) (hb : Dg b) (hn : a.length ≤ 1000000) (n : Nat) : n ≤ a.length → a.drop n = b.drop n → Ev (fun k => publicanref1_less.l0 k a b ((n : Int) - 1)) (decide (bv a < bv b)) := by
  induction n with
  | zero =>
    intro _ hd
    rw [List.drop_zero, List.drop_zero] at hd
    subst hd
    have : decide (bv a < bv a) = false := decide_eq_false (by omega)
    rw [this]
    exact Ev.step (f := fun _ => some false) (fun k => by simp only [publicanref1_less.l0]; rw [if_neg (by omega)]) (Ev.now _)
  | succ n ih =>
    intro hle hd
    have ei : (((n + 1 : Nat) : Int) - 1) = (n : Int) := by omega
    have ea := drop_dgt a n (by omega)
    have eb := drop_dgt b n (by omega)
    by_cases he : dgt a n = dgt b n
    · refine Ev.step (f := fun k => publicanref1_less.l0 k a b ((n : Int) - 1)) (fun k => ?_) (ih (by omega) (by rw [ea, eb, hd, he]))
      simp only [publicanref1_less.l0]
      rw [ei, if_pos (by omega), if_pos (by omega), if_pos (by omega), if_pos (by omega), rd_dgt, rd_dgt, if_pos he]
      congr 1
      rw [bw64]; omega
    · have key : decide (bv a < bv b) = decide (dgt a n < dgt b n) := by
        have sa := bv_split a n
        have sb := bv_split b n
        rw [bv_drop a n (by omega)] at sa
        rw [bv_drop b n (by omega), ← hd] at sb
        have ta := bv_bd _ (ha.take n)
        have tb := bv_bd _ (hb.take n)
        rw [List.length_take, Nat.min_eq_left (by omega)] at ta tb
        have hp := pw_pos n
        generalize bv (a.drop (n + 1)) = X at *
        rw [decide_eq_decide, sa, sb, Int.mul_add, Int.mul_add]
        generalize pw n * (65536 * X) = Y at *
        constructor
        · intro hlt
          by_cases h : dgt a n < dgt b n
          · exact h
          · have : pw n * (dgt b n + 1) ≤ pw n * dgt a n := Int.mul_le_mul_of_nonneg_left (by omega) (by omega)
            rw [Int.mul_add] at this
            omega
        · intro h
          have : pw n * (dgt a n + 1) ≤ pw n * dgt b n := Int.mul_le_mul_of_nonneg_left (by omega) (by omega)
          rw [Int.mul_add] at this
          omega
      rw [key]
      refine Ev.step (f := fun _ => some (decide (dgt a n < dgt b n))) (fun k => ?_) (Ev.now _)
      simp only [publicanref1_less.l0]
      rw [ei, if_pos (by omega), if_pos (by omega), if_pos (by omega), if_pos (by omega), rd_dgt, rd_dgt, if_neg he]
theorem less_ev (a b : List Int) (ha : Dg a) (hb : Dg b) (na : Norm a) (nb : Norm b) (hn : a.length ≤ 1000000) (hm : b.length ≤ 1000000) : Ev (fun k => publicanref1_less.f k a b) (decide (bv a < bv b)) := by
  by_cases hl : a.length = b.length
  · have h := less_l0_ev a b hl ha hb hn a.length (Nat.le_refl _) (by rw [List.drop_length, hl, List.drop_length])
    refine Ev.congr (fun k => ?_) h
    simp only [publicanref1_less.f]
    rw [if_pos (by omega)]
    congr 1
    rw [bw64]; omega
  · have key : decide (bv a < bv b) = decide ((a.length : Int) < (b.length : Int)) := by
      rw [decide_eq_decide]
      have ba := bv_bd a ha
      have bb := bv_bd b hb
      constructor
      · intro h
        have := norm_len ha na (m := b.length) (by omega)
        omega
      · intro h
        rcases Nat.lt_or_ge (bv a).toNat (bv b).toNat with h2 | h2
        · omega
        · have := norm_len hb nb (m := a.length) (by omega)
          omega
    rw [key]
    refine Ev.congr (f := fun _ => some (decide ((a.length : Int) < (b.length : Int)))) (fun k => ?_) (Ev.now _)
    simp only [publicanref1_less.f]
    rw [if_neg (by omega)]
end Go.Proofs.Ythjhammjankekaa.PNum
