import Derived.Test.YtdfmhjbmenfaeaaDoorSymH
import Derived.Test.YtdfmhjbmenfaeaaDoorAbsX
namespace Go.Proofs.YtdfmhjbmenfaeaaDoor.AbsCalF
open Go Go.Abs Go.Proofs
set_option maxRecDepth 100000
set_option linter.unusedVariables false
theorem isTrueG_of {g0 : Nat} {o : Option (Value × St)} {s' : St} (h : o = some (.bool true, s')) (hb : s'.wr.testBit g0 = false) : isTrueG g0 o = true := by
  subst h
  show isEven (s'.wr >>> g0) = true
  rw [isEven_eq, decide_eq_true_eq]
  have : (s'.wr >>> g0).testBit 0 = false := by rw [Nat.testBit_shiftRight]; simpa using hb
  rw [Nat.testBit_zero, decide_eq_false_iff_not] at this
  omega
def pow : List Int := [1, 10, 100, 1000, 10000, 100000, 1000000, 10000000, 100000000, 1000000000, 10000000000, 100000000000, 1000000000000, 10000000000000, 100000000000000, 1000000000000000, 10000000000000000, 100000000000000000, 1000000000000000000, 10000000000000000000]
noncomputable def cells : List Value := [.int .u64 (.ofNat 1), .int .u64 (.ofNat 10), .int .u64 (.ofNat 100), .int .u64 (.ofNat 1000), .int .u64 (.ofNat 10000), .int .u64 (.ofNat 100000), .int .u64 (.ofNat 1000000), .int .u64 (.ofNat 10000000), .int .u64 (.ofNat 100000000), .int .u64 (.ofNat 1000000000), .int .u64 (.ofNat 10000000000), .int .u64 (.ofNat 100000000000), .int .u64 (.ofNat 1000000000000), .int .u64 (.ofNat 10000000000000), .int .u64 (.ofNat 100000000000000), .int .u64 (.ofNat 1000000000000000), .int .u64 (.ofNat 10000000000000000), .int .u64 (.ofNat 100000000000000000), .int .u64 (.ofNat 1000000000000000000), .int .u64 (.ofNat 10000000000000000000)]
theorem awake_run : isTrueG 0 (callN E 100000 10 [] (stg 0 cells)) = true := by kernel_rfl
theorem callM (M : Nat) (n q : Int) (s : St) : callN E (M + 1) 7 [.int .i64 n, .int .i64 q] s = callF (callN E M) M c7 [.int .i64 n, .int .i64 q] s := rfl
theorem callY (M : Nat) (n : Int) (s : St) : callN E (M + 1) 9 [.int .i64 n] s = callF (callN E M) M c9 [.int .i64 n] s := rfl
theorem lawCalMonths (n q : Int) (W : World) (hL : laidMet Tryd.prog Rows.calMonthsRow.laid W) : Calls Tryd.prog 7 #[.int .i64 n, .int .i64 q] W fun e w' => e = .returned (.bool true) ∧ RowKit.Below W.heap.size W w' := by
  obtain ⟨s1, h1, h2⟩ := isTrueG_spec awake_run
  obtain ⟨M, hM⟩ : ∃ M : Nat, M = 100000 := ⟨_, rfl⟩
  rw [← hM] at h1
  have a1 : 99499 + 501 = M := by omega
  have hrun : callN E (M + 1) 7 [.int .i64 n, .int .i64 q] (stg 0 cells) = some (.bool true, s1) := by
    rw [callM]
    have := months 99499 n q (stg 0 cells) s1 (by rw [a1]; exact h1)
    rwa [a1] at this
  obtain ⟨arr, ty, h3, h4⟩ := laid_cells (n := "internal/strconv.uint64pow10") (k := .u64) (zs := pow) (g := 0) (t := 48) (e := 42) (m := 20) hL (List.Mem.tail _ (List.Mem.tail _ (List.Mem.head _))) (by kernel_rfl) (by kernel_rfl) Tryd.underlying48 Tryd.underlying42 (by kernel_rfl) (by kernel_rfl) (by decide)
  exact laid_true (by decide) mixed exOk ⟨fnsOk, noKnown_ok⟩ rfl (by kernel_rfl) (isTrueG_of hrun h2) W h3 h4
theorem lawCalYears (n : Int) (W : World) (hL : laidMet Tryd.prog Rows.calYearsRow.laid W) : Calls Tryd.prog 9 #[.int .i64 n] W fun e w' => e = .returned (.bool true) ∧ RowKit.Below W.heap.size W w' := by
  obtain ⟨s1, h1, h2⟩ := isTrueG_spec awake_run
  obtain ⟨M, hM⟩ : ∃ M : Nat, M = 100000 := ⟨_, rfl⟩
  rw [← hM] at h1
  have a1 : 99499 + 501 = M := by omega
  have hrun : callN E (M + 1) 9 [.int .i64 n] (stg 0 cells) = some (.bool true, s1) := by
    rw [callY]
    have := years_ok 99499 n (stg 0 cells) s1 (by rw [a1]; exact h1)
    rwa [a1] at this
  obtain ⟨arr, ty, h3, h4⟩ := laid_cells (n := "internal/strconv.uint64pow10") (k := .u64) (zs := pow) (g := 0) (t := 48) (e := 42) (m := 20) hL (List.Mem.tail _ (List.Mem.tail _ (List.Mem.head _))) (by kernel_rfl) (by kernel_rfl) Tryd.underlying48 Tryd.underlying42 (by kernel_rfl) (by kernel_rfl) (by decide)
  exact laid_true (by decide) mixed exOk ⟨fnsOk, noKnown_ok⟩ rfl (by kernel_rfl) (isTrueG_of hrun h2) W h3 h4
end Go.Proofs.YtdfmhjbmenfaeaaDoor.AbsCalF
