import Derived.Test.YtdfmhjbmenfaeaaDoorSymG
import Derived.Test.YtdfmhjbmenfaeaaDoorAbsYT
import Derived.Test.YtdfmhjbmenfaeaaDoorAbsZH
namespace Go.Proofs.YtdfmhjbmenfaeaaDoor.AbsCalD
open Go Go.Abs Go.Proofs
set_option maxRecDepth 100000
set_option linter.unusedVariables false
set_option linter.unusedSimpArgs false
noncomputable def E : Env := ⟨fns, itoaK 31 noKnown⟩
theorem IsDate.range {n y d : Int} {k : Nat} (h : IsDate n y k d) : 0 ≤ n ∧ n ≤ 109572 := by
  obtain ⟨p1, p2, p3, p4, p5, p6⟩ := h
  have h1 := sum_nn y k (by omega)
  have h2 := before_in y p1 (by omega)
  have e : sumTo y (k + 1) = sumTo y k + daysF y ((k : Int) + 1) := rfl
  have h3 := sum_mono y (k + 1) (11 - k) (by omega)
  rw [show k + 1 + (11 - k) = 12 by omega] at h3
  have h4 := year_len y p1 p2
  have h5 := before_mono (y + 1) 2200 (by omega) (by omega)
  have h6 : beforeF 2200 = 109573 := by decide
  omega
theorem e22 (N : Nat) (y : Int) (s : St) : callN E (N + 1) 22 [.int .i64 y] s = some (.bool (leapF y), s) := leap (callN E N) N y s
theorem e26 (N : Nat) (y : Int) (s : St) (h1 : 1900 ≤ y) (h2 : y ≤ 2300) : callN E (N + 1) 26 [.int .i64 y] s = some (.int .i64 (beforeF y), s) := before (callN E N) N y s h1 h2
theorem e17 (N : Nat) (y m : Int) (s : St) : callN E (N + 2) 17 [.int .i64 y, .int .i64 m] s = some (.int .i64 (daysF y m), s) := days (callN E (N + 1)) (N + 1) y m s (fun y s => e22 N y s)
theorem e28 (N : Nat) (n : Int) (s : St) : callN E (N + 1) 28 [.int .i64 n] s = some (.bool (decide (0 ≤ n) && decide (n ≤ 109572)), s) := day (callN E N) N n s
theorem e14x (N : Nat) (n : Int) (s : St) (h0 : 0 ≤ n) (h1 : n ≤ 109572) : ∃ y k d, callN E (N + 500) 14 [.int .i64 n] s = some (dateV y k d, s) ∧ IsDate n y k d :=
  date_in (callN E (N + 499)) (N + 499) (by omega) (fun n s => e28 (N + 498) n s) (fun y s => e26 (N + 498) y s) (fun y m s => e17 (N + 497) y m s) n s h0 h1
theorem e14 (N : Nat) (n y d : Int) (k : Nat) (s : St) (h : IsDate n y k d) : callN E (N + 500) 14 [.int .i64 n] s = some (dateV y k d, s) := by
  obtain ⟨y', k', d', h1, h2⟩ := e14x N n s h.range.1 h.range.2
  obtain ⟨rfl, rfl, rfl⟩ := h.unique h2
  exact h1
theorem e14o (N : Nat) (n : Int) (s : St) (h : ¬ (0 ≤ n ∧ n ≤ 109572)) : callN E (N + 500) 14 [.int .i64 n] s = some (dateN, s) :=
  date_out (callN E (N + 499)) (N + 499) (fun n s => e28 (N + 498) n s) n s h
theorem date_ex (n : Int) (h0 : 0 ≤ n) (h1 : n ≤ 109572) : ∃ y k d, IsDate n y k d := by
  obtain ⟨y, k, d, _, h⟩ := e14x 0 n ⟨.nil, 0, 0, 0⟩ h0 h1
  exact ⟨y, k, d, h⟩
theorem e11 (N : Nat) (y d : Int) (k : Nat) (s : St) (h1 : 1900 ≤ y) (h2 : y ≤ 2199) (h3 : k ≤ 11) (h4 : 1 ≤ d) (h5 : d ≤ daysF y ((k : Int) + 1)) : callN E (N + 500) 11 [.int .i64 y, .int .i64 ((k : Int) + 1), .int .i64 d] s = some (ofV y k d, s) :=
  of_in (callN E (N + 499)) (N + 499) (by omega) (fun y s => e26 (N + 498) y s) (fun y m s => e17 (N + 497) y m s) y d k s h1 h2 h3 h4 h5
theorem e12 (N : Nat) (n q y d : Int) (k : Nat) (s : St) (hn : IsDate n y k d) (hq1 : -3600 ≤ q) (hq2 : q ≤ 3600) (ha1 : 0 ≤ atF y k q) (ha2 : atF y k q < 3600) :
    ∃ (j : Nat), atF y k q = (atF y k q / 12) * 12 + j ∧ j ≤ 11 ∧ callN E (N + 501) 12 [.int .i64 n, .int .i64 q] s = some (ofV (1900 + atF y k q / 12) j (min d (daysF (1900 + atF y k q / 12) ((j : Int) + 1))), s) :=
  months_in (callN E (N + 500)) (N + 500) (fun y m s => e17 (N + 498) y m s) (fun y d k s h1 h2 h3 h4 h5 => e11 N y d k s h1 h2 h3 h4 h5) n q y d k s (e14 N n y d k s hn) hn hq1 hq2 ha1 ha2
theorem e12o (N : Nat) (n q y d : Int) (k : Nat) (s : St) (hn : IsDate n y k d) (h : ¬ (-3600 ≤ q ∧ q ≤ 3600 ∧ 0 ≤ atF y k q ∧ atF y k q < 3600)) : callN E (N + 501) 12 [.int .i64 n, .int .i64 q] s = some (noV, s) :=
  months_out (callN E (N + 500)) (N + 500) n q y d k s (e14 N n y d k s hn) hn h
theorem e12n (N : Nat) (n q : Int) (s : St) (h : ¬ (0 ≤ n ∧ n ≤ 109572)) : callN E (N + 501) 12 [.int .i64 n, .int .i64 q] s = some (noV, s) :=
  months_no (callN E (N + 500)) (N + 500) n q s (e14o N n s h)
/-! simp goes by the head first -/
theorem opt2_cg {α β γ : Type} {A A' : Option (α × β)} {k : α → β → Option γ} (h : A = A') : opt2 A k = opt2 A' k := by rw [h]
theorem opt_cg {α β : Type} {A A' : Option α} {k : α → Option β} (h : A = A') : opt A k = opt A' k := by rw [h]
theorem condV_cg {α : Type} {v v' : Value} {A B : Option α} (h : v = v') : condV v A B = condV v' A B := by rw [h]
theorem cond_cg {α : Type} {c c' : Bool} {a b : α} (h : c = c') : cond c a b = cond c' a b := by rw [h]
end Go.Proofs.YtdfmhjbmenfaeaaDoor.AbsCalD
