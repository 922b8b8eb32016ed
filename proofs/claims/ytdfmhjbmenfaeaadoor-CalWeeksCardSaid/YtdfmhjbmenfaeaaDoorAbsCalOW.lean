import Derived.Test.YtdfmhjbmenfaeaaDoorAbsCalOR
import Derived.Test.YtdfmhjbmenfaeaaDoorSymCalW
namespace Go.Proofs.YtdfmhjbmenfaeaaDoor.AbsCalO
open Go Go.Abs Go.Proofs
set_option maxRecDepth 100000
set_option linter.unusedVariables false
theorem callWeek (M : Nat) (n : Int) (s : St) : callN E (M + 1) 8 [.int .i64 n] s = callF (callN E M) M c8 [.int .i64 n] s := rfl
theorem lawCalWeeks (n : Int) (W : World) (hL : laidMet Tryd.prog Rows.calWeeksRow.laid W) : Calls Tryd.prog 8 #[.int .i64 n] W fun e w' => e = .returned (.bool true) ∧ RowKit.Below W.heap.size W w' := by
  obtain ⟨s1, h1, h2⟩ := isTrueG_spec awake_run
  obtain ⟨M, hM⟩ : ∃ M : Nat, M = 100000 := ⟨_, rfl⟩
  rw [← hM] at h1
  have a1 : 99500 + 500 = M := by omega
  have a2 : 99998 + 2 = M := by omega
  have hrun : callN E (M + 1) 8 [.int .i64 n] (stg 0 cells) = some (.bool true, s1) :=
    (callWeek M n (stg 0 cells)).trans (weeks (callN E M) M n _ s1 h1 (fun n s => by have := e16 99998 n s; rwa [a2] at this))
  obtain ⟨arr, ty, h3, h4⟩ := laid_cells (n := "internal/strconv.uint64pow10") (k := .u64) (zs := pow) (g := 0) (t := 48) (e := 42) (m := 20) hL (List.Mem.tail _ (List.Mem.tail _ (List.Mem.head _))) (by kernel_rfl) (by kernel_rfl) Tryd.underlying48 Tryd.underlying42 (by kernel_rfl) (by kernel_rfl) (by decide)
  exact laid_true (by decide) mixed exOk ⟨fnsOk, noKnown_ok⟩ rfl (by kernel_rfl) (isTrueG_of hrun h2) W h3 h4
end Go.Proofs.YtdfmhjbmenfaeaaDoor.AbsCalO
