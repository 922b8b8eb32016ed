import Derived.Test.YtdfmhjbmenfaeaaDoorSymM
import Derived.Test.YtdfmhjbmenfaeaaDoorAbsZR
import Derived.Test.YtdfmhjbmenfaeaaDoorShelf
namespace Go.Proofs.YtdfmhjbmenfaeaaDoor.AbsCalD
open Go Go.Abs Go.Proofs
set_option maxRecDepth 1000000
set_option linter.unusedVariables false
set_option linter.unusedSimpArgs false
noncomputable def stOf (o : Option (Value × St)) : St := Option.rec st8 (fun p => p.2) o
theorem of_parts {o : Option (Value × St)} (h : isTrue o = true) : o = some (.bool true, stOf o) := by
  obtain ⟨s', hs⟩ := isTrue_spec h
  rw [hs]
  rfl
theorem aw1 : isTrue (callN E 2001 10 [] (st1 tabC)) = true := by kernel_rfl
theorem aw2 : (stOf (callN E 2001 10 [] (st1 tabC))).getC 0 = some tabC := by kernel_rfl
theorem aw3 : Nat.ble 8 (stOf (callN E 2001 10 [] (st1 tabC))).next = true := by kernel_rfl
theorem aw4 : Nat.ble (stOf (callN E 2001 10 [] (st1 tabC))).next 1000 = true := by kernel_rfl
theorem awake : ∃ s1, callN E 2001 10 [] (st1 tabC) = some (.bool true, s1) ∧ s1.getC 0 = some tabC ∧ 8 ≤ s1.next ∧ s1.next ≤ 1000 := by
  have a := aw3
  have b := aw4
  rw [ble_eq', decide_eq_true_eq] at a b
  exact ⟨_, of_parts aw1, aw2, a, b⟩
def pow : List Int := [1, 10, 100, 1000, 10000, 100000, 1000000, 10000000, 100000000, 1000000000, 10000000000, 100000000000, 1000000000000, 10000000000000, 100000000000000, 1000000000000000, 10000000000000000, 100000000000000000, 1000000000000000000, 10000000000000000000]
theorem known : RecOk Tryd.prog (gl1 0) (itoaK 31 noKnown) := itoaK_ok ⟨_, Tryd.func31, by kernel_rfl, by kernel_rfl⟩ noKnown_ok (by kernel_rfl) fun n h0 h1 w ht => Tryd.strconv_Itoa n h0 h1 w ht
theorem k4 (M : Nat) (a b c d e : Value) (s : St) : callN E (M + 1) 4 [a, b, c, d, e] s = callF (callN E M) M c4 [a, b, c, d, e] s := by kernel_rfl
theorem lawCalDays (n y m d q : Int) (W : World) (hL : laidMet Tryd.prog Rows.calDaysRow.laid W) : Calls Tryd.prog 4 #[.int .i64 n, .int .i64 y, .int .i64 m, .int .i64 d, .int .i64 q] W fun e w' => e = .returned (.bool true) ∧ RowKit.Below W.heap.size W w' := by
  obtain ⟨s1, h1, h2, h3, h4⟩ := awake
  have hlim : lim = 1000000000 := rfl
  obtain ⟨s3, r1, r2⟩ := days_ok 1500 n y m d q (st1 tabC) s1 h1 h2 (by omega) (by omega)
  have hrun : callN E 2002 4 [.int .i64 n, .int .i64 y, .int .i64 m, .int .i64 d, .int .i64 q] (st1 tabC) = some (.bool true, s3) := (k4 2001 _ _ _ _ _ _).trans r1
  obtain ⟨arr, ty, g3, g4⟩ := laid_cells (n := "internal/strconv.uint64pow10") (k := .u64) (zs := pow) (g := 0) (t := 48) (e := 42) (m := 20) hL (List.Mem.tail _ (List.Mem.tail _ (List.Mem.head _))) (by kernel_rfl) (by kernel_rfl) Tryd.underlying48 Tryd.underlying42 (by kernel_rfl) (by kernel_rfl) (by decide)
  exact ro_laid mixed exOk ⟨fnsOk, known⟩ (args := [.int .i64 n, .int .i64 y, .int .i64 m, .int .i64 d, .int .i64 q]) rfl (cells := tabC) rfl rfl hrun (by rw [St.getC_get r2]; rfl) g3 g4
end Go.Proofs.YtdfmhjbmenfaeaaDoor.AbsCalD
