import Derived.Test.YthjhammjankekaaKPNum7
namespace Go.Proofs.Ythjhammjankekaa.PNum
open Go.RowKit Go.Proofs.YthjhammjankekaaW.PrintWords Go.Proofs.YthjhammjankekaaW.PrintLast Go.Proofs.YthjhammjankekaaW.PrintMore
set_option linter.unusedVariables false
set_option linter.unusedSimpArgs false
def bv : List Int → Int
  | [] => 0
  | d :: ds => d + 65536 * bv ds
def Dg (l : List Int) : Prop := ∀ x ∈ l, 0 ≤ x ∧ x < 65536
def pw : Nat → Int
  | 0 => 1
  | n + 1 => 65536 * pw n
theorem pw_pos : ∀ n, 0 < pw n
  | 0 => by decide
  | n + 1 => by have := pw_pos n; unfold pw; omega
theorem pw_add (a : Nat) : ∀ b, pw (a + b) = pw a * pw b
  | 0 => by simp [pw]
  | b + 1 => by rw [← Nat.add_assoc]; show 65536 * pw (a + b) = pw a * (65536 * pw b); rw [pw_add a b, Int.mul_left_comm]
theorem pw_mono {a b : Nat} (h : a ≤ b) : pw a ≤ pw b := by
  obtain ⟨c, rfl⟩ := Nat.exists_eq_add_of_le h
  rw [pw_add]
  have h1 := pw_pos a
  have h2 := pw_pos c
  have : pw a * 1 ≤ pw a * pw c := Int.mul_le_mul_of_nonneg_left (by omega) (by omega)
  omega
theorem pw_lt {a b : Nat} (h : pw a < pw b) : a < b := by
  rcases Nat.lt_or_ge a b with h1 | h1
  · exact h1
  · have := pw_mono h1; omega
theorem bv_append (b : List Int) : ∀ a : List Int, bv (a ++ b) = bv a + pw a.length * bv b
  | [] => by simp [bv, pw]
  | d :: ds => by
    rw [List.cons_append]
    show d + 65536 * bv (ds ++ b) = d + 65536 * bv ds + 65536 * pw ds.length * bv b
    rw [bv_append b ds, Int.mul_add, Int.mul_assoc, Int.add_assoc]
theorem Dg.cons {d : Int} {ds : List Int} (h : Dg (d :: ds)) : (0 ≤ d ∧ d < 65536) ∧ Dg ds := ⟨h d List.mem_cons_self, fun x hx => h x (List.mem_cons_of_mem _ hx)⟩
theorem bv_bd : ∀ l : List Int, Dg l → 0 ≤ bv l ∧ bv l < pw l.length
  | [], _ => by decide
  | d :: ds, h => by
    obtain ⟨hd, hs⟩ := h.cons
    have := bv_bd ds hs
    show 0 ≤ d + 65536 * bv ds ∧ d + 65536 * bv ds < 65536 * pw ds.length
    omega
theorem Dg.take {l : List Int} (h : Dg l) (n : Nat) : Dg (l.take n) := fun x hx => h x (List.mem_of_mem_take hx)
theorem Dg.drop {l : List Int} (h : Dg l) (n : Nat) : Dg (l.drop n) := fun x hx => h x (List.mem_of_mem_drop hx)
theorem Dg.append {a b : List Int} (h : Dg a) (g : Dg b) : Dg (a ++ b) := fun x hx => by
  rcases List.mem_append.1 hx with hx | hx
  · exact h x hx
  · exact g x hx
theorem Dg.one {d : Int} (h : 0 ≤ d ∧ d < 65536) : Dg [d] := fun x hx => by
  obtain rfl := List.mem_singleton.1 hx; exact h
theorem Dg.set {l : List Int} (h : Dg l) (i : Nat) {d : Int} (hd : 0 ≤ d ∧ d < 65536) : Dg (l.set i d) := fun x hx => by
  rcases List.mem_or_eq_of_mem_set hx with hx | rfl
  · exact h x hx
  · exact hd
theorem Dg.zeros (n : Nat) : Dg (List.replicate n 0) := fun x hx => by
  rw [List.eq_of_mem_replicate hx]; decide
theorem bv_zeros : ∀ n, bv (List.replicate n 0) = 0
  | 0 => rfl
  | n + 1 => by rw [List.replicate_succ]; show 0 + 65536 * bv (List.replicate n 0) = 0; rw [bv_zeros n]; rfl
theorem bv_split (l : List Int) (n : Nat) : bv l = bv (l.take n) + pw n * bv (l.drop n) := by
  rcases Nat.le_total n l.length with h | h
  · conv => lhs; rw [← List.take_append_drop n l]
    rw [bv_append, List.length_take, Nat.min_eq_left h]
  · rw [List.take_of_length_le h, List.drop_eq_nil_of_le h]
    simp [bv]
def dgt (l : List Int) (i : Nat) : Int := l.getD i 0
theorem dgt_bd {l : List Int} (h : Dg l) (i : Nat) : 0 ≤ dgt l i ∧ dgt l i < 65536 := by
  unfold dgt
  rw [List.getD_eq_getElem?_getD]
  rcases Nat.lt_or_ge i l.length with hi | hi
  · rw [List.getElem?_eq_getElem hi]; exact h _ (List.getElem_mem hi)
  · rw [List.getElem?_eq_none hi]; decide
theorem dgt_above {l : List Int} {i : Nat} (h : l.length ≤ i) : dgt l i = 0 := by
  unfold dgt
  rw [List.getD_eq_getElem?_getD, List.getElem?_eq_none h]
  rfl
theorem rd_dgt (l : List Int) (i : Nat) : rd l (i : Int) = dgt l i := by unfold rd dgt; rw [Int.toNat_natCast]
theorem drop_dgt (l : List Int) (i : Nat) (h : i < l.length) : l.drop i = dgt l i :: l.drop (i + 1) := by
  rw [List.drop_eq_getElem_cons h]
  unfold dgt
  rw [List.getD_eq_getElem?_getD, List.getElem?_eq_getElem h]
  rfl
theorem bv_take_succ (l : List Int) (i : Nat) : bv (l.take (i + 1)) = bv (l.take i) + pw i * dgt l i := by
  rcases Nat.lt_or_ge i l.length with h | h
  · rw [List.take_add_one, List.getElem?_eq_getElem h, bv_append, List.length_take, Nat.min_eq_left (Nat.le_of_lt h)]
    unfold dgt
    rw [List.getD_eq_getElem?_getD, List.getElem?_eq_getElem h]
    simp [bv]
  · rw [List.take_of_length_le (by omega), List.take_of_length_le h, dgt_above h]
    omega
theorem bv_drop (l : List Int) (i : Nat) (h : i < l.length) : bv (l.drop i) = dgt l i + 65536 * bv (l.drop (i + 1)) := by
  rw [drop_dgt l i h]; rfl
theorem bv_set (l : List Int) (i : Nat) (h : i < l.length) (v : Int) : bv (l.set i v) = bv l + pw i * (v - dgt l i) := by
  have h1 := bv_split (l.set i v) i
  have h2 := bv_split l i
  rw [List.take_set_of_le (Nat.le_refl i), bv_drop _ i (by rw [List.length_set]; exact h), List.drop_set_of_lt (Nat.lt_succ_self i)] at h1
  rw [bv_drop l i h] at h2
  have e : dgt (l.set i v) i = v := by
    unfold dgt
    rw [List.getD_eq_getElem?_getD, List.getElem?_set_self h]
    rfl
  rw [e] at h1
  rw [Nat.succ_eq_add_one] at h1
  rw [h1, h2, Int.mul_sub, Int.mul_add, Int.mul_add]
  omega
def Norm (l : List Int) : Prop := l = [] ∨ dgt l (l.length - 1) ≠ 0
theorem norm_low {l : List Int} (h : Dg l) (n : Norm l) (h0 : l ≠ []) : pw (l.length - 1) ≤ bv l := by
  have hp : 0 < l.length := List.length_pos_iff.2 h0
  have hd := dgt_bd h (l.length - 1)
  have hn : dgt l (l.length - 1) ≠ 0 := by rcases n with n | n; exact absurd n h0; exact n
  rw [bv_split l (l.length - 1), bv_drop l _ (by omega)]
  have hb := (bv_bd _ (h.take (l.length - 1))).1
  have hb2 := (bv_bd _ (h.drop (l.length - 1 + 1))).1
  have : pw (l.length - 1) * 1 ≤ pw (l.length - 1) * (dgt l (l.length - 1) + 65536 * bv (l.drop (l.length - 1 + 1))) := Int.mul_le_mul_of_nonneg_left (by omega) (Int.le_of_lt (pw_pos _))
  omega
theorem norm_len {l : List Int} (h : Dg l) (n : Norm l) {m : Nat} (hb : bv l < pw m) : l.length ≤ m := by
  by_cases h0 : l = []
  · subst h0; exact Nat.zero_le _
  · have h1 := norm_low h n h0
    have := pw_lt (Int.lt_of_le_of_lt h1 hb)
    omega
theorem norm_zero {l : List Int} (h : Dg l) (n : Norm l) : bv l = 0 ↔ l = [] := by
  constructor
  · intro hz
    have := norm_len h n (m := 0) (by rw [hz]; decide)
    exact List.eq_nil_of_length_eq_zero (by omega)
  · rintro rfl; rfl
def sg (neg : Bool) (l : List Int) : Int := if neg = true then -bv l else bv l
structure Is (r : Bool × List Int) (v : Int) : Prop where
  dg : Dg r.2
  norm : Norm r.2
  nz : r.2 = [] → r.1 = false
  val : sg r.1 r.2 = v
theorem Is.abs {r : Bool × List Int} {v : Int} (h : Is r v) : bv r.2 = if v < 0 then -v else v := by
  have h1 := h.val
  have h2 := (bv_bd _ h.dg).1
  have h3 := norm_zero h.dg h.norm
  have h4 := h.nz
  unfold sg at h1
  by_cases hn : r.1 = true
  · rw [if_pos hn] at h1
    have : bv r.2 ≠ 0 := fun hz => by have := h4 (h3.1 hz); rw [this] at hn; cases hn
    rw [if_pos (by omega)]; omega
  · rw [if_neg hn] at h1
    rw [if_neg (by omega)]; omega
theorem Is.neg {r : Bool × List Int} {v : Int} (h : Is r v) : r.1 = decide (v < 0) := by
  have h1 := h.val
  have h2 := (bv_bd _ h.dg).1
  have h3 := norm_zero h.dg h.norm
  have h4 := h.nz
  unfold sg at h1
  by_cases hn : r.1 = true
  · rw [if_pos hn] at h1
    have : bv r.2 ≠ 0 := fun hz => by have := h4 (h3.1 hz); rw [this] at hn; cases hn
    rw [hn, decide_eq_true (by omega)]
  · rw [if_neg hn] at h1
    rw [decide_eq_false (by omega)]
    cases hr : r.1 with
    | true => exact absurd hr hn
    | false => rfl
theorem Is.len {r : Bool × List Int} {v : Int} (h : Is r v) {m : Nat} (h0 : -pw m < v) (h1 : v < pw m) : r.2.length ≤ m := by
  apply norm_len h.dg h.norm
  rw [h.abs]
  split <;> omega
theorem Is.nil {r : Bool × List Int} {v : Int} (h : Is r v) : r.2 = [] ↔ v = 0 := by
  rw [← norm_zero h.dg h.norm, h.abs]
  split <;> omega
theorem Is.zero : Is (false, []) 0 := ⟨(fun x hx => absurd hx (List.not_mem_nil)), .inl rfl, fun _ => rfl, rfl⟩
end Go.Proofs.Ythjhammjankekaa.PNum
