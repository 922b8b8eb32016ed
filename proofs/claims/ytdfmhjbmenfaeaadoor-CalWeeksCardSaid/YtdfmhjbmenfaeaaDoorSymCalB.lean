import Derived.Test.YtdfmhjbmenfaeaaDoorSymCal
namespace Go.Proofs.YtdfmhjbmenfaeaaDoor.AbsCalO
open Go Go.Abs Go.Proofs
set_option maxRecDepth 100000
set_option linter.unusedVariables false
set_option linter.unusedSimpArgs false
/-! the calendar, plain -/
theorem year_len (y : Int) (h1 : 1900 ≤ y) (h2 : y ≤ 2199) : beforeF (y + 1) = beforeF y + sumTo y 12 := by
  obtain ⟨k, hk⟩ := Int.eq_ofNat_of_zero_le (show 0 ≤ y - 1900 by omega)
  have hyk : y = 1900 + (k : Int) := by omega
  have := years k (by omega)
  rwa [← hyk] at this
theorem before_mono (a b : Int) (h1 : 1900 ≤ a) (h : a ≤ b) : beforeF a ≤ beforeF b := by unfold beforeF; omega
theorem sum_mono (y : Int) : ∀ (k j : Nat), k + j ≤ 12 → sumTo y k ≤ sumTo y (k + j)
  | k, 0, _ => Int.le_refl _
  | k, j + 1, h => by
    have h1 := sum_mono y k j (by omega)
    have h2 := (days_in y (((k + j : Nat) : Int) + 1) (by omega) (by omega)).1
    have e : sumTo y (k + (j + 1)) = sumTo y (k + j) + daysF y (((k + j : Nat) : Int) + 1) := rfl
    omega
theorem IsDate.unique {n y a d c : Int} {k j : Nat} (h : IsDate n y k d) (h' : IsDate n a j c) : y = a ∧ k = j ∧ d = c := by
  obtain ⟨p1, p2, p3, p4, p5, p6⟩ := h
  obtain ⟨q1, q2, q3, q4, q5, q6⟩ := h'
  have less : ∀ (y : Int) (k : Nat) (d : Int), k ≤ 11 → d ≤ daysF y ((k : Int) + 1) → sumTo y k + d ≤ sumTo y 12 := by
    intro y k d hk hd
    have e : sumTo y (k + 1) = sumTo y k + daysF y ((k : Int) + 1) := rfl
    have := sum_mono y (k + 1) (11 - k) (by omega)
    rw [show k + 1 + (11 - k) = 12 by omega] at this
    omega
  have l1 := less y k d p3 p5
  have l2 := less a j c q3 q5
  have pos : ∀ (y : Int) (k : Nat), k ≤ 12 → 0 ≤ sumTo y k := fun y k hk => by
    have := sum_mono y 0 k (by omega)
    rw [Nat.zero_add] at this
    exact this
  have s1 := pos y k (by omega)
  have s2 := pos a j (by omega)
  have ya : y = a := by
    rcases Int.lt_trichotomy y a with h | h | h
    · have := before_mono (y + 1) a (by omega) (by omega)
      rw [year_len y p1 p2] at this
      omega
    · exact h
    · have := before_mono (a + 1) y (by omega) (by omega)
      rw [year_len a q1 q2] at this
      omega
  subst ya
  have kj : k = j := by
    rcases Nat.lt_trichotomy k j with h | h | h
    · have e : sumTo y (k + 1) = sumTo y k + daysF y ((k : Int) + 1) := rfl
      have := sum_mono y (k + 1) (j - (k + 1)) (by omega)
      rw [show k + 1 + (j - (k + 1)) = j by omega] at this
      omega
    · exact h
    · have e : sumTo y (j + 1) = sumTo y j + daysF y ((j : Int) + 1) := rfl
      have := sum_mono y (j + 1) (k - (j + 1)) (by omega)
      rw [show j + 1 + (k - (j + 1)) = k by omega] at this
      omega
  subst kj
  exact ⟨rfl, rfl, by omega⟩
/-- the next day's date -/
theorem IsDate.next {n y d : Int} {k : Nat} (h : IsDate n y k d) (hn : n < 109572) :
    (d < daysF y ((k : Int) + 1) ∧ IsDate (n + 1) y k (d + 1)) ∨ (d = daysF y ((k : Int) + 1) ∧ k < 11 ∧ IsDate (n + 1) y (k + 1) 1) ∨ (d = daysF y ((k : Int) + 1) ∧ k = 11 ∧ IsDate (n + 1) (y + 1) 0 1) := by
  obtain ⟨p1, p2, p3, p4, p5, p6⟩ := h
  have e : sumTo y (k + 1) = sumTo y k + daysF y ((k : Int) + 1) := rfl
  by_cases hd : d < daysF y ((k : Int) + 1)
  · exact .inl ⟨hd, p1, p2, p3, by omega, by omega, by omega⟩
  · right
    by_cases hk : k < 11
    · have := (days_in y (((k + 1 : Nat) : Int) + 1) (by omega) (by omega)).1
      exact .inl ⟨by omega, hk, p1, p2, by omega, by omega, by omega, by omega⟩
    · have hk11 : k = 11 := by omega
      subst hk11
      have hy := year_len y p1 p2
      have e12 : sumTo y 12 = sumTo y 11 + daysF y (((11 : Nat) : Int) + 1) := rfl
      refine .inr ⟨by omega, rfl, by omega, ?_, by omega, by omega, ?_, ?_⟩
      · by_cases h : y = 2199
        · exfalso
          have e3 : beforeF (y + 1) = 109573 := by rw [h]; decide
          omega
        · omega
      · have := (days_in (y + 1) (((0 : Nat) : Int) + 1) (by omega) (by omega)).1; omega
      · have e0 : sumTo (y + 1) 0 = 0 := rfl
        omega
end Go.Proofs.YtdfmhjbmenfaeaaDoor.AbsCalO
