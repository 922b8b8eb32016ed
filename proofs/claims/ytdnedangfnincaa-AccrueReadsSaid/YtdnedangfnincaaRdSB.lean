import Derived.Test.YtdnedangfnincaaAbsZQ
import Derived.Test.YtdnedangfnincaaXAccR
import Derived.Test.YtdnedangfnincaaAbsZV
namespace Go.Proofs.Ytdnedangfnincaa.AbsAccR
open Go Go.Abs Go.Proofs
set_option maxRecDepth 100000
set_option linter.unusedVariables false
set_option linter.unusedSimpArgs false

/-! numbers by digits to the base 65536, the lowest first: what lists of digits are worth; plain mathematics -/
/-- What digits are worth. -/
def bv : List Int → Int
  | [] => 0
  | d :: ds => d + 65536 * bv ds
def Dg (l : List Int) : Prop := ∀ x ∈ l, 0 ≤ x ∧ x < 65536
/-- The base's powers. -/
def pw : Nat → Int
  | 0 => 1
  | n + 1 => 65536 * pw n
theorem pw_pos : ∀ n, 0 < pw n
  | 0 => by decide
  | n + 1 => by have := pw_pos n; unfold pw; omega
theorem pw_add (a : Nat) : ∀ b, pw (a + b) = pw a * pw b
  | 0 => by simp [pw]
  | b + 1 => by rw [← Nat.add_assoc]; show 65536 * pw (a + b) = pw a * (65536 * pw b); rw [pw_add a b, Int.mul_left_comm]
theorem pw_mono {a b : Nat} (h : a ≤ b) : pw a ≤ pw b := by
  obtain ⟨c, rfl⟩ := Nat.exists_eq_add_of_le h
  rw [pw_add]
  have h1 := pw_pos a
  have h2 := pw_pos c
  have : pw a * 1 ≤ pw a * pw c := Int.mul_le_mul_of_nonneg_left (by omega) (by omega)
  omega
theorem pw_lt {a b : Nat} (h : pw a < pw b) : a < b := by
  rcases Nat.lt_or_ge a b with h1 | h1
  · exact h1
  · have := pw_mono h1; omega
theorem bv_append (b : List Int) : ∀ a : List Int, bv (a ++ b) = bv a + pw a.length * bv b
  | [] => by simp [bv, pw]
  | d :: ds => by
    rw [List.cons_append]
    show d + 65536 * bv (ds ++ b) = d + 65536 * bv ds + 65536 * pw ds.length * bv b
    rw [bv_append b ds, Int.mul_add, Int.mul_assoc, Int.add_assoc]
theorem Dg.cons {d : Int} {ds : List Int} (h : Dg (d :: ds)) : (0 ≤ d ∧ d < 65536) ∧ Dg ds := ⟨h d List.mem_cons_self, fun x hx => h x (List.mem_cons_of_mem _ hx)⟩
theorem bv_bd : ∀ l : List Int, Dg l → 0 ≤ bv l ∧ bv l < pw l.length
  | [], _ => by decide
  | d :: ds, h => by
    obtain ⟨hd, hs⟩ := h.cons
    have := bv_bd ds hs
    show 0 ≤ d + 65536 * bv ds ∧ d + 65536 * bv ds < 65536 * pw ds.length
    omega
theorem Dg.take {l : List Int} (h : Dg l) (n : Nat) : Dg (l.take n) := fun x hx => h x (List.mem_of_mem_take hx)
theorem Dg.drop {l : List Int} (h : Dg l) (n : Nat) : Dg (l.drop n) := fun x hx => h x (List.mem_of_mem_drop hx)
theorem Dg.append {a b : List Int} (h : Dg a) (g : Dg b) : Dg (a ++ b) := fun x hx => by
  rcases List.mem_append.1 hx with hx | hx
  · exact h x hx
  · exact g x hx
theorem Dg.one {d : Int} (h : 0 ≤ d ∧ d < 65536) : Dg [d] := fun x hx => by
  obtain rfl := List.mem_singleton.1 hx; exact h
theorem Dg.set {l : List Int} (h : Dg l) (i : Nat) {d : Int} (hd : 0 ≤ d ∧ d < 65536) : Dg (l.set i d) := fun x hx => by
  rcases List.mem_or_eq_of_mem_set hx with hx | rfl
  · exact h x hx
  · exact hd
theorem Dg.zeros (n : Nat) : Dg (List.replicate n 0) := fun x hx => by
  rw [List.eq_of_mem_replicate hx]; decide
theorem bv_zeros : ∀ n, bv (List.replicate n 0) = 0
  | 0 => rfl
  | n + 1 => by rw [List.replicate_succ]; show 0 + 65536 * bv (List.replicate n 0) = 0; rw [bv_zeros n]; rfl
theorem bv_split (l : List Int) (n : Nat) : bv l = bv (l.take n) + pw n * bv (l.drop n) := by
  rcases Nat.le_total n l.length with h | h
  · conv => lhs; rw [← List.take_append_drop n l]
    rw [bv_append, List.length_take, Nat.min_eq_left h]
  · rw [List.take_of_length_le h, List.drop_eq_nil_of_le h]
    simp [bv]
/-- A digit; 0 above. -/
def dgt (l : List Int) (i : Nat) : Int := l.getD i 0
theorem dgt_bd {l : List Int} (h : Dg l) (i : Nat) : 0 ≤ dgt l i ∧ dgt l i < 65536 := by
  unfold dgt
  rw [List.getD_eq_getElem?_getD]
  rcases Nat.lt_or_ge i l.length with hi | hi
  · rw [List.getElem?_eq_getElem hi]; exact h _ (List.getElem_mem hi)
  · rw [List.getElem?_eq_none hi]; decide
theorem dgt_above {l : List Int} {i : Nat} (h : l.length ≤ i) : dgt l i = 0 := by
  unfold dgt
  rw [List.getD_eq_getElem?_getD, List.getElem?_eq_none h]
  rfl
theorem drop_dgt (l : List Int) (i : Nat) (h : i < l.length) : l.drop i = dgt l i :: l.drop (i + 1) := by
  rw [List.drop_eq_getElem_cons h]
  unfold dgt
  rw [List.getD_eq_getElem?_getD, List.getElem?_eq_getElem h]
  rfl
theorem bv_take_succ (l : List Int) (i : Nat) : bv (l.take (i + 1)) = bv (l.take i) + pw i * dgt l i := by
  rcases Nat.lt_or_ge i l.length with h | h
  · rw [List.take_add_one, List.getElem?_eq_getElem h, bv_append, List.length_take, Nat.min_eq_left (Nat.le_of_lt h)]
    unfold dgt
    rw [List.getD_eq_getElem?_getD, List.getElem?_eq_getElem h]
    simp [bv]
  · rw [List.take_of_length_le (by omega), List.take_of_length_le h, dgt_above h]
    omega
theorem bv_drop (l : List Int) (i : Nat) (h : i < l.length) : bv (l.drop i) = dgt l i + 65536 * bv (l.drop (i + 1)) := by
  rw [drop_dgt l i h]; rfl
theorem bv_set (l : List Int) (i : Nat) (h : i < l.length) (v : Int) : bv (l.set i v) = bv l + pw i * (v - dgt l i) := by
  have h1 := bv_split (l.set i v) i
  have h2 := bv_split l i
  rw [List.take_set_of_le (Nat.le_refl i), bv_drop _ i (by rw [List.length_set]; exact h), List.drop_set_of_lt (Nat.lt_succ_self i)] at h1
  rw [bv_drop l i h] at h2
  have e : dgt (l.set i v) i = v := by
    unfold dgt
    rw [List.getD_eq_getElem?_getD, List.getElem?_set_self h]
    rfl
  rw [e] at h1
  rw [Nat.succ_eq_add_one] at h1
  rw [h1, h2, Int.mul_sub, Int.mul_add, Int.mul_add]
  omega
theorem dgt_set (l : List Int) (i j : Nat) (h : i < l.length) (v : Int) : dgt (l.set i v) j = if i = j then v else dgt l j := by
  unfold dgt
  rw [List.getD_eq_getElem?_getD, List.getD_eq_getElem?_getD, List.getElem?_set]
  by_cases e : i = j
  · subst e; rw [if_pos rfl, if_pos rfl, if_pos h]; rfl
  · rw [if_neg e, if_neg e]
/-- Without noughts ahead. -/
def Norm (l : List Int) : Prop := l = [] ∨ dgt l (l.length - 1) ≠ 0
theorem norm_low {l : List Int} (h : Dg l) (n : Norm l) (h0 : l ≠ []) : pw (l.length - 1) ≤ bv l := by
  have hp : 0 < l.length := List.length_pos_iff.2 h0
  have hd := dgt_bd h (l.length - 1)
  have hn : dgt l (l.length - 1) ≠ 0 := by rcases n with n | n; exact absurd n h0; exact n
  rw [bv_split l (l.length - 1), bv_drop l _ (by omega)]
  have hb := (bv_bd _ (h.take (l.length - 1))).1
  have hb2 := (bv_bd _ (h.drop (l.length - 1 + 1))).1
  have : pw (l.length - 1) * 1 ≤ pw (l.length - 1) * (dgt l (l.length - 1) + 65536 * bv (l.drop (l.length - 1 + 1))) := Int.mul_le_mul_of_nonneg_left (by omega) (Int.le_of_lt (pw_pos _))
  omega
theorem norm_len {l : List Int} (h : Dg l) (n : Norm l) {m : Nat} (hb : bv l < pw m) : l.length ≤ m := by
  by_cases h0 : l = []
  · subst h0; exact Nat.zero_le _
  · have h1 := norm_low h n h0
    have := pw_lt (Int.lt_of_le_of_lt h1 hb)
    omega
theorem norm_zero {l : List Int} (h : Dg l) (n : Norm l) : bv l = 0 ↔ l = [] := by
  constructor
  · intro hz
    have := norm_len h n (m := 0) (by rw [hz]; decide)
    exact List.eq_nil_of_length_eq_zero (by omega)
  · rintro rfl; rfl
/-- A whole number: its sign, its digits. -/
def sg (neg : Bool) (l : List Int) : Int := if neg = true then -bv l else bv l
/-- Is this the number v? -/
structure Is (r : Bool × List Int) (v : Int) : Prop where
  dg : Dg r.2
  norm : Norm r.2
  nz : r.2 = [] → r.1 = false
  val : sg r.1 r.2 = v
theorem Is.abs {r : Bool × List Int} {v : Int} (h : Is r v) : bv r.2 = if v < 0 then -v else v := by
  have h1 := h.val
  have h2 := (bv_bd _ h.dg).1
  have h3 := norm_zero h.dg h.norm
  have h4 := h.nz
  unfold sg at h1
  by_cases hn : r.1 = true
  · rw [if_pos hn] at h1
    have : bv r.2 ≠ 0 := fun hz => by have := h4 (h3.1 hz); rw [this] at hn; cases hn
    rw [if_pos (by omega)]; omega
  · rw [if_neg hn] at h1
    rw [if_neg (by omega)]; omega
theorem Is.neg {r : Bool × List Int} {v : Int} (h : Is r v) : r.1 = decide (v < 0) := by
  have h1 := h.val
  have h2 := (bv_bd _ h.dg).1
  have h3 := norm_zero h.dg h.norm
  have h4 := h.nz
  unfold sg at h1
  by_cases hn : r.1 = true
  · rw [if_pos hn] at h1
    have : bv r.2 ≠ 0 := fun hz => by have := h4 (h3.1 hz); rw [this] at hn; cases hn
    rw [hn, decide_eq_true (by omega)]
  · rw [if_neg hn] at h1
    rw [decide_eq_false (by omega)]
    cases hr : r.1 with
    | true => exact absurd hr hn
    | false => rfl
theorem Is.len {r : Bool × List Int} {v : Int} (h : Is r v) {m : Nat} (h0 : -pw m < v) (h1 : v < pw m) : r.2.length ≤ m := by
  apply norm_len h.dg h.norm
  rw [h.abs]
  split <;> omega
theorem Is.nil {r : Bool × List Int} {v : Int} (h : Is r v) : r.2 = [] ↔ v = 0 := by
  rw [← norm_zero h.dg h.norm, h.abs]
  split <;> omega
theorem Is.zero : Is (false, []) 0 := ⟨(fun x hx => absurd hx (List.not_mem_nil)), .inl rfl, fun _ => rfl, rfl⟩
theorem take_all {l : List Int} {n : Nat} (h : l.length ≤ n) : bv (l.take n) = bv l := by rw [List.take_of_length_le h]
theorem sub_step (x y br : Int) (hx : 0 ≤ x ∧ x < 65536) (hy : 0 ≤ y ∧ y < 65536) (hb : 0 ≤ br ∧ br ≤ 1) :
    0 ≤ x + 65536 - y - br ∧ x + 65536 - y - br < 131072 ∧ 0 ≤ 1 - (x + 65536 - y - br) / 65536 ∧ 1 - (x + 65536 - y - br) / 65536 ≤ 1 ∧ (x + 65536 - y - br) % 65536 = x - y - br + 65536 * (1 - (x + 65536 - y - br) / 65536) := by omega
theorem sub_val (P X Y O x y br d br' : Int) (h : O = X - Y + P * br) (hd : d = x - y - br + 65536 * br') : O + P * d = (X + P * x) - (Y + P * y) + 65536 * P * br' := by
  subst h hd
  rw [Int.mul_add, Int.mul_sub, Int.mul_sub, Int.mul_left_comm, ← Int.mul_assoc]
  omega
theorem add_val (P X Y O x y c d c' : Int) (h : O + P * c = X + Y) (hd : x + y + c = d + 65536 * c') : (O + P * d) + 65536 * P * c' = (X + P * x) + (Y + P * y) := by
  have e : P * (x + y + c) = P * (d + 65536 * c') := by rw [hd]
  rw [Int.mul_add, Int.mul_add, Int.mul_add, Int.mul_left_comm, ← Int.mul_assoc] at e
  omega
theorem pw_zero : pw 0 = 1 := rfl
theorem pw_succ (n : Nat) : pw (n + 1) = 65536 * pw n := rfl
theorem bv_nil : bv [] = 0 := rfl
theorem bv_cons (d : Int) (ds : List Int) : bv (d :: ds) = d + 65536 * bv ds := rfl
theorem dgt_zero (d : Int) (ds : List Int) : dgt (d :: ds) 0 = d := rfl
theorem dgt_succ (d : Int) (ds : List Int) (i : Nat) : dgt (d :: ds) (i + 1) = dgt ds i := rfl
theorem pw_20 : pw 20 = 2135987035920910082395021706169552114602704522356652769947041607822219725780640550022962086936576 := by decide +kernel
attribute [local irreducible] pw bv dgt
theorem mul_step (dj ai bk c : Int) (h1 : 0 ≤ dj ∧ dj < 65536) (h2 : 0 ≤ ai ∧ ai < 65536) (h3 : 0 ≤ bk ∧ bk < 65536) (h4 : 0 ≤ c ∧ c < 65536) :
    0 ≤ ai * bk ∧ ai * bk ≤ 4294836225 ∧ 0 ≤ dj + ai * bk + c ∧ (dj + ai * bk + c) / 65536 < 65536 ∧ dj + ai * bk + c < 4294967296 := by
  have a : 0 ≤ ai * bk := Int.mul_nonneg h2.1 h3.1
  have b : ai * bk ≤ 65535 * 65535 := Int.mul_le_mul (by omega) (by omega) h3.1 (by omega)
  generalize ai * bk = P at *
  omega
theorem row_val (P Q R A ai X bk D dj c v c' : Int) (h : D + P * c = A + Q * (ai * X)) (hP : P = Q * R) (hd : dj + ai * bk + c = v + 65536 * c') :
    D + P * (v - dj) + 65536 * P * c' = A + Q * (ai * (X + R * bk)) := by
  have e1 : v - dj = ai * bk + c - 65536 * c' := by omega
  have e2 : Q * (ai * (X + R * bk)) = Q * (ai * X) + P * (ai * bk) := by
    rw [Int.mul_add, Int.mul_add, hP, Int.mul_assoc Q R, Int.mul_left_comm R ai bk]
  have e3 : P * (65536 * c') = 65536 * P * c' := by rw [Int.mul_left_comm, Int.mul_assoc]
  rw [e1, e2, Int.mul_sub, Int.mul_add, e3]
  omega
theorem carry_none (d : List Int) (n : Nat) (c : Int) (hd : Dg d) (hn : n < d.length) (h : bv d + pw n * c < 65536 * pw n) : dgt d n + c < 65536 := by
  have hs := bv_split d n
  rw [bv_drop d n hn] at hs
  have hT := (bv_bd _ (hd.take n)).1
  have hU := (bv_bd _ (hd.drop (n + 1))).1
  have hpos := pw_pos n
  generalize bv (d.take n) = T at *
  generalize bv (d.drop (n + 1)) = U at *
  generalize dgt d n = x at *
  generalize bv d = D at *
  generalize pw n = P at *
  have e5 : P * (x + c + 65536 * U) = P * (x + 65536 * U) + P * c := by rw [← Int.mul_add]; congr 1; omega
  have e4 : P * (x + c + 65536 * U) < P * 65536 := by rw [e5]; omega
  have e6 := Int.lt_of_mul_lt_mul_left e4 (Int.le_of_lt hpos)
  omega
theorem row_small (a b : List Int) (ha : Dg a) (hb : Dg b) (i : Nat) (hi : i < a.length) : bv (a.take i) * bv b + pw i * (dgt a i * bv b) < 65536 * pw (i + b.length) := by
  have e1 : bv (a.take i) * bv b + pw i * (dgt a i * bv b) = bv (a.take (i + 1)) * bv b := by rw [bv_take_succ, Int.add_mul, Int.mul_assoc]
  have hA1 := bv_bd _ (ha.take (i + 1))
  rw [List.length_take, Nat.min_eq_left (by omega)] at hA1
  have hB := bv_bd b hb
  have h1 : bv (a.take (i + 1)) * bv b ≤ bv (a.take (i + 1)) * pw b.length := Int.mul_le_mul_of_nonneg_left (by omega) hA1.1
  have h2 : bv (a.take (i + 1)) * pw b.length < pw (i + 1) * pw b.length := Int.mul_lt_mul_of_pos_right hA1.2 (pw_pos _)
  have e2 : pw (i + 1) * pw b.length = 65536 * pw (i + b.length) := by
    rw [pw_add i b.length, ← Int.mul_assoc, pw_succ]
  rw [e1]
  omega
theorem bv_inj : ∀ a b : List Int, Dg a → Dg b → a.length = b.length → bv a = bv b → a = b
  | [], [], _, _, _, _ => rfl
  | [], _ :: _, _, _, h, _ => by simp at h
  | _ :: _, [], _, _, h, _ => by simp at h
  | x :: xs, y :: ys, ha, hb, hl, hv => by
    obtain ⟨hx, hxs⟩ := ha.cons
    obtain ⟨hy, hys⟩ := hb.cons
    rw [bv_cons, bv_cons] at hv
    have e : x = y := by omega
    have e2 : bv xs = bv ys := by omega
    rw [e, bv_inj xs ys hxs hys (by simpa using hl) e2]
theorem Is.one {r s : Bool × List Int} {v : Int} (h : Is r v) (g : Is s v) : r = s := by
  have e1 : r.1 = s.1 := by rw [h.neg, g.neg]
  have e2 : bv r.2 = bv s.2 := by rw [h.abs, g.abs]
  have l1 : r.2.length ≤ s.2.length := norm_len h.dg h.norm (by rw [e2]; exact (bv_bd _ g.dg).2)
  have l2 : s.2.length ≤ r.2.length := norm_len g.dg g.norm (by rw [← e2]; exact (bv_bd _ h.dg).2)
  exact Prod.ext e1 (bv_inj _ _ h.dg g.dg (by omega) e2)
theorem digits_ex (n : Nat) : ∃ l, Dg l ∧ Norm l ∧ bv l = (n : Int) := by
  induction n using Nat.strongRecOn with
  | ind n ih =>
    by_cases h0 : n = 0
    · subst h0; exact ⟨[], (fun x hx => absurd hx (List.not_mem_nil)), .inl rfl, bv_nil⟩
    · obtain ⟨l, hd, hn, hv⟩ := ih (n / 65536) (by omega)
      refine ⟨((n % 65536 : Nat) : Int) :: l, ?_, ?_, ?_⟩
      · intro x hx
        rcases List.mem_cons.1 hx with rfl | hx
        · omega
        · exact hd x hx
      · right
        rw [List.length_cons, Nat.add_sub_cancel]
        cases l with
        | nil =>
          rw [bv_nil] at hv
          rw [List.length_nil, dgt_zero]
          omega
        | cons y ys =>
          rw [List.length_cons, dgt_succ]
          rcases hn with hn | hn
          · cases hn
          · rw [List.length_cons, Nat.add_sub_cancel] at hn; exact hn
      · rw [bv_cons, hv]; omega
theorem Is_ex (v : Int) : ∃ r, Is r v := by
  obtain ⟨l, hd, hn, hv⟩ := digits_ex v.natAbs
  have hz := norm_zero hd hn
  refine ⟨(decide (v < 0), l), hd, hn, ?_, ?_⟩
  · intro h
    have := hz.2 h
    exact decide_eq_false (by omega)
  · show sg (decide (v < 0)) l = v
    unfold sg
    by_cases h : v < 0
    · rw [if_pos (decide_eq_true h)]; omega
    · rw [if_neg (by rw [decide_eq_false h]; decide)]; omega
noncomputable def big (v : Int) : Bool × List Int := Classical.choose (Is_ex v)
theorem big_is (v : Int) : Is (big v) v := Classical.choose_spec (Is_ex v)
theorem Is.big {r : Bool × List Int} {v : Int} (h : Is r v) : r = big v := h.one (big_is v)
end Go.Proofs.Ytdnedangfnincaa.AbsAccR
namespace Go.Proofs.Ytdnedangfnincaa.AbsAccR
open Go Go.Abs Go.Proofs
set_option maxRecDepth 100000
set_option linter.unusedVariables false
set_option linter.unusedSimpArgs false

attribute [local congr] h_opt2 h_opt h_condV h_cond
/-! the document's numbers: less, digit, trim -/
theorem addUI (a b : Int) (ha : 0 ≤ a) (hb : 0 ≤ b) (h : a + b < 18446744073709551616) : int2 addO (.int .u64 a) (.int .u64 b) = some (.int .u64 (a + b)) := by
  obtain ⟨a, rfl⟩ := Int.eq_ofNat_of_zero_le ha
  obtain ⟨b, rfl⟩ := Int.eq_ofNat_of_zero_le hb
  exact addU a b (by omega)
theorem subUI (a b : Int) (hb : 0 ≤ b) (h : b ≤ a) (h' : a < 18446744073709551616) : int2 subO (.int .u64 a) (.int .u64 b) = some (.int .u64 (a - b)) := by
  obtain ⟨a, rfl⟩ := Int.eq_ofNat_of_zero_le (show 0 ≤ a by omega)
  obtain ⟨b, rfl⟩ := Int.eq_ofNat_of_zero_le hb
  rw [subU a b (by omega) (by omega)]
  congr 2; omega
theorem mask16 (a : Int) (ha : 0 ≤ a) (h : a < 18446744073709551616) : int2 andO (.int .u64 a) (.int .u64 65535) = some (.int .u64 (a % 65536)) := by
  obtain ⟨a, rfl⟩ := Int.eq_ofNat_of_zero_le ha
  have := uand a 65535 (by omega) (by omega)
  rw [show (65535 : Nat) = 2 ^ 16 - 1 from rfl, Nat.and_two_pow_sub_one_eq_mod] at this
  exact this
theorem shr16 (a : Int) (ha : 0 ≤ a) : sh2 shrO (.int .u64 a) (.int .u64 16) = some (.int .u64 (a / 65536)) := by
  obtain ⟨a, rfl⟩ := Int.eq_ofNat_of_zero_le ha
  exact shr_u .u64 rfl a 16 (by omega)
/-- nothing is changed; what is read is there -/
def RO (s s' : St) : Prop := Still s s' ∧ s'.wr = s.wr ∧ ∀ y, s'.rd.testBit y = true → s.rd.testBit y = true ∨ y < s.next
theorem RO.refl (s : St) : RO s s := ⟨Still.refl s, rfl, fun y h => .inl h⟩
theorem RO.seen {s u : St} (h : RO s u) (x : Nat) (hx : x < s.next) : RO s (u.seen x) :=
  ⟨h.1.trans (Still.seen _ _), (sn_wr _ _).trans h.2.1, fun y hy => by
    rw [St.seen_rd, testBit_lor, testBit_bit, Bool.or_eq_true, decide_eq_true_eq] at hy
    rcases hy with k | k
    · exact h.2.2 y k
    · exact .inr (by omega)⟩
theorem RO.trans {a b c : St} (h : RO a b) (g : RO b c) : RO a c :=
  ⟨h.1.trans g.1, g.2.1.trans h.2.1, fun y hy => by
    rcases g.2.2 y hy with k | k
    · exact h.2.2 y k
    · exact .inr (by rw [← h.1.1]; exact k)⟩
theorem RO.own {s u : St} (h : RO s u) : Own s u := ⟨by rw [h.1.1]; exact Nat.le_refl _, fun y hy => .inl (by rw [h.2.1] at hy; exact hy), fun y hy => (h.2.2 y hy).imp id fun k => by rw [h.1.1]; exact k⟩
theorem KI.ro (n0 : Nat) (c : Nat → Nat) (s s1 b : St) (h : RO (z0 s) s1) (hn : s.next ≤ n0) : KI n0 c ⟨(s1.rd, s1.wr), s, b, none⟩ 0 := by
  refine ⟨fun y hy => ?_, fun y hy => ?_, fun p hp => by cases hp⟩
  · have hy : s1.wr.testBit y = true := hy
    rw [h.2.1] at hy
    exact absurd ((Nat.zero_testBit y).symm.trans hy) Bool.false_ne_true
  · rcases h.2.2 y hy with k | k
    · exact absurd ((Nat.zero_testBit y).symm.trans k) Bool.false_ne_true
    · have : y < s.next := k
      exact .inl (by omega)
/-- digits in memory -/
def DgS (s : St) (w : Value) (L : List Int) : Prop :=
  (w = .slice none 0 0 ∧ L = []) ∨ ∃ b c cells, w = .slice (some ⟨b, 0, none⟩) L.length c ∧ (c = UNK + 1 ∨ (c < UNK ∧ L.length ≤ c)) ∧ s.getC b = some cells ∧ cells.take L.length = cU L ∧ b < s.next
theorem DgS.keep {s u : St} {w : Value} {L : List Int} (h : DgS s w L) (hn : s.next ≤ u.next) (hg : ∀ y, y < s.next → u.getC y = s.getC y) : DgS u w L := by
  rcases h with h | ⟨b, c, cells, rfl, h1, h2, h3, h4⟩
  · exact .inl h
  · exact .inr ⟨b, c, cells, rfl, h1, (hg b h4).trans h2, h3, by omega⟩
theorem DgS.grew {k : Nat} {s u : St} {w : Value} {L : List Int} (h : DgS s w L) (g : Grew k s u) : DgS u w L := h.keep g.1 g.2.2
theorem DgS.still {s u : St} {w : Value} {L : List Int} (h : DgS s w L) (g : Still s u) : DgS u w L := h.keep (by rw [g.1]; exact Nat.le_refl _) fun y _ => g.2 y
theorem DgS.len {s : St} {w : Value} {L : List Int} (h : DgS s w L) (rec : Rec) (fs : Frm) (u : St) : oLenL (.v w) rec fs u = some (.int .i64 (L.length : Int), u) := by
  rcases h with ⟨rfl, rfl⟩ | ⟨b, c, cells, rfl, _⟩ <;> exact lenL_e _ _ _ rec fs u
theorem DgS.at {s : St} {w : Value} {L : List Int} (h : DgS s w L) {i : Nat} (hi : i < L.length) :
    ∃ b cells, b < s.next ∧ s.getC b = some cells ∧ nth cells i = some (.int .u64 (dgt L i)) ∧ ∀ (rec : Rec) (fs : Frm) (u : St), oIdxAddrL 1 (.v w) (.v (.int .i64 (i : Int))) rec fs u = some (.pointer (some ⟨b, i, none⟩), u) := by
  rcases h with ⟨rfl, rfl⟩ | ⟨b, c, cells, rfl, h1, h2, h3, h4⟩
  · simp at hi
  · refine ⟨b, cells, h4, h2, ?_, fun rec fs u => by rw [idxL_e 1 b 0 L.length c i rec fs u hi, Nat.zero_add, Nat.mul_one]⟩
    have e : (cells.take L.length)[i]? = (cU L)[i]? := by rw [h3]
    rw [List.getElem?_take, if_pos hi] at e
    rw [nth_eq, e]
    unfold cU dgt
    rw [List.getElem?_map, List.getD_eq_getElem?_getD, List.getElem?_eq_getElem hi]
    rfl
/-- digit -/
theorem r72 (M : Nat) (hM : 1 ≤ M) (s : St) (w : Value) (L : List Int) (h : DgS s w L) (i : Nat) : ∃ s', callN E M 72 [w, .int .i64 (i : Int)] s = some (.int .u64 (dgt L i), s') ∧ RO s s' := by
  obtain ⟨m, rfl⟩ : ∃ m, M = m + 1 := ⟨M - 1, by omega⟩
  have hl := h.len
  rw [x72]
  unfold F72
  by_cases hi : i < L.length
  · have e1 : decide ((i : Int) < (L.length : Int)) = true := decide_eq_true (by omega)
    obtain ⟨b, cells, b1, b2, b3, b4⟩ := h.at hi
    simp only [op2_s, op_s, bin_e, pick_e, not_e, ext_e, nth_z, nth_1, nth_2, nth_3, gval_e, gval_u, cmp_e, orUndef_t, orUndef_f, condV_t, condV_f, cond_true, cond_false, eqI_eq, neI_eq, ltI_eq, leI_eq, gtI_eq, geI_eq, Bool.not_true, Bool.not_false, bf_tt, bf_tf, bf_ft, bf_ff, decide_true, decide_false, oneOf_1, oneOf_2, oneOf_3, thenV_n, thenV_e, thenV_r, exV_e, exV_r, Nat.beq_refl, eq_self, hl, e1, b4, load_u, b2, b3]
    exact ⟨_, rfl, (RO.refl s).seen b b1⟩
  · have e1 : decide ((i : Int) < (L.length : Int)) = false := decide_eq_false (by omega)
    rw [dgt_above (by omega)]
    simp only [op2_s, op_s, bin_e, pick_e, not_e, ext_e, nth_z, nth_1, nth_2, nth_3, gval_e, gval_u, cmp_e, orUndef_t, orUndef_f, condV_t, condV_f, cond_true, cond_false, eqI_eq, neI_eq, ltI_eq, leI_eq, gtI_eq, geI_eq, Bool.not_true, Bool.not_false, bf_tt, bf_tf, bf_ft, bf_ff, decide_true, decide_false, oneOf_1, oneOf_2, oneOf_3, thenV_n, thenV_e, thenV_r, exV_e, exV_r, Nat.beq_refl, eq_self, hl, e1]
    exact ⟨_, rfl, RO.refl s⟩
theorem less_key (a b : List Int) (n : Nat) (ha : Dg a) (hb : Dg b) (hl : a.length = b.length) (hn : n < a.length) (hd : a.drop (n + 1) = b.drop (n + 1)) (he : dgt a n ≠ dgt b n) : decide (bv a < bv b) = decide (dgt a n < dgt b n) := by
  have sa := bv_split a n
  have sb := bv_split b n
  rw [bv_drop a n (by omega)] at sa
  rw [bv_drop b n (by omega), ← hd] at sb
  have ta := bv_bd _ (ha.take n)
  have tb := bv_bd _ (hb.take n)
  rw [List.length_take, Nat.min_eq_left (by omega)] at ta tb
  have hp := pw_pos n
  generalize bv (a.drop (n + 1)) = X at *
  rw [decide_eq_decide, sa, sb, Int.mul_add, Int.mul_add]
  generalize pw n * (65536 * X) = Y at *
  constructor
  · intro hlt
    by_cases h : dgt a n < dgt b n
    · exact h
    · have : pw n * (dgt b n + 1) ≤ pw n * dgt a n := Int.mul_le_mul_of_nonneg_left (by omega) (by omega)
      rw [Int.mul_add] at this
      omega
  · intro h
    have : pw n * (dgt a n + 1) ≤ pw n * dgt b n := Int.mul_le_mul_of_nonneg_left (by omega) (by omega)
    rw [Int.mul_add] at this
    omega
theorem loop70 (m : Nat) (s0 : St) (v w : Value) (a b : List Int) (hv : DgS s0 v a) (hw : DgS s0 w b) (ha : Dg a) (hb : Dg b) (hl : a.length = b.length) (hn : a.length ≤ 1000) :
    ∀ (n fuel : Nat) (u : St) (z : Value), RO s0 u → n ≤ a.length → a.drop n = b.drop n → n < fuel →
    ∃ u', opt2 (loopV (B70_l0 (callN E m) m (v, w)) fuel (.bool false, .int .i64 ((n : Int) - 1)) u) (C70_l0 (callN E m) m (v, w)) = some (.bool (decide (bv a < bv b)), u') ∧ RO s0 u' := by
  intro n
  induction n with
  | zero =>
    intro fuel u z hu _ hd hf
    obtain ⟨fuel, rfl⟩ : ∃ k, fuel = k + 1 := ⟨fuel - 1, by omega⟩
    rw [List.drop_zero, List.drop_zero] at hd
    subst hd
    have e1 : decide ((0 : Int) ≤ ((0 : Nat) : Int) - 1) = false := rfl
    have e2 : decide (bv a < bv a) = false := decide_eq_false (by omega)
    rw [loopV_s, B70_l0]
    simp only [op2_s, op_s, bin_e, pick_e, not_e, ext_e, nth_z, nth_1, nth_2, nth_3, gval_e, gval_u, cmp_e, orUndef_t, orUndef_f, condV_t, condV_f, cond_true, cond_false, eqI_eq, neI_eq, ltI_eq, leI_eq, gtI_eq, geI_eq, Bool.not_true, Bool.not_false, bf_tt, bf_tf, bf_ft, bf_ff, decide_true, decide_false, oneOf_1, oneOf_2, oneOf_3, thenV_n, thenV_e, thenV_r, exV_e, exV_r, Nat.beq_refl, eq_self, e1, e2, C70_l0, J70_r0]
    exact ⟨_, rfl, hu⟩
  | succ n ih =>
    intro fuel u z hu hle hd hf
    obtain ⟨fuel, rfl⟩ : ∃ k, fuel = k + 1 := ⟨fuel - 1, by omega⟩
    have ei : (((n + 1 : Nat) : Int) - 1) = (n : Int) := by omega
    have e1 : decide ((0 : Int) ≤ (n : Int)) = true := decide_eq_true (by omega)
    obtain ⟨b1, c1, q1, q2, q3, q4⟩ := hv.at (i := n) (by omega)
    obtain ⟨b2, c2, p1, p2, p3, p4⟩ := hw.at (i := n) (by omega)
    have g1 := (hu.1.2 b1).trans q2
    have g2 := (hu.1.2 b2).trans p2
    rw [ei, loopV_s, B70_l0]
    by_cases he : dgt a n = dgt b n
    · have e2 : decide (dgt a n = dgt b n) = true := decide_eq_true he
      have sb : int2 subO (.int .i64 (n : Int)) (.int .i64 1) = some (.int .i64 ((n : Int) - 1)) := sub_e _ _ (by omega) (by omega)
      obtain ⟨u', r1, r2⟩ := ih fuel ((u.seen b1).seen b2) z ((hu.seen _ q1).seen _ p1) (by omega) (by rw [drop_dgt a n (by omega), drop_dgt b n (by omega), hd, he]) (by omega)
      simp only [op2_s, op_s, bin_e, pick_e, not_e, ext_e, nth_z, nth_1, nth_2, nth_3, gval_e, gval_u, cmp_e, orUndef_t, orUndef_f, condV_t, condV_f, cond_true, cond_false, eqI_eq, neI_eq, ltI_eq, leI_eq, gtI_eq, geI_eq, Bool.not_true, Bool.not_false, bf_tt, bf_tf, bf_ft, bf_ff, decide_true, decide_false, oneOf_1, oneOf_2, oneOf_3, thenV_n, thenV_e, thenV_r, exV_e, exV_r, Nat.beq_refl, eq_self, e1, q4, p4, load_u, seen_getC, g1, g2, q3, p3, e2, sb]
      exact ⟨u', r1, r2⟩
    · have e2 : decide (dgt a n = dgt b n) = false := decide_eq_false he
      rw [less_key a b n ha hb hl (by omega) hd he]
      simp only [op2_s, op_s, bin_e, pick_e, not_e, ext_e, nth_z, nth_1, nth_2, nth_3, gval_e, gval_u, cmp_e, orUndef_t, orUndef_f, condV_t, condV_f, cond_true, cond_false, eqI_eq, neI_eq, ltI_eq, leI_eq, gtI_eq, geI_eq, Bool.not_true, Bool.not_false, bf_tt, bf_tf, bf_ft, bf_ff, decide_true, decide_false, oneOf_1, oneOf_2, oneOf_3, thenV_n, thenV_e, thenV_r, exV_e, exV_r, Nat.beq_refl, eq_self, e1, q4, p4, load_u, seen_getC, g1, g2, q3, p3, e2, C70_l0]
      exact ⟨_, rfl, (((hu.seen _ q1).seen _ p1).seen _ q1).seen _ p1⟩
/-- less -/
theorem r70 (M : Nat) (hM : 1010 ≤ M) (s : St) (v w : Value) (a b : List Int) (hv : DgS s v a) (hw : DgS s w b) (ha : Dg a) (hb : Dg b) (na : Norm a) (nb : Norm b) (hn : a.length ≤ 1000) (hm : b.length ≤ 1000) :
    ∃ s', callN E M 70 [v, w] s = some (.bool (decide (bv a < bv b)), s') ∧ RO s s' := by
  obtain ⟨m, rfl⟩ : ∃ m, M = m + 1 := ⟨M - 1, by omega⟩
  have l1 := hv.len; have l2 := hw.len
  rw [x70]
  unfold F70
  by_cases hl : a.length = b.length
  · have e1 : decide ((a.length : Int) = (b.length : Int)) = true := decide_eq_true (by omega)
    have sb : int2 subO (.int .i64 (a.length : Int)) (.int .i64 1) = some (.int .i64 ((a.length : Int) - 1)) := sub_e _ _ (by omega) (by omega)
    obtain ⟨u', r1, r2⟩ := loop70 m s v w a b hv hw ha hb hl hn a.length m s (.bool false) (RO.refl s) (Nat.le_refl _) (by rw [List.drop_length, hl, List.drop_length]) (by omega)
    simp only [op2_s, op_s, bin_e, pick_e, not_e, ext_e, nth_z, nth_1, nth_2, nth_3, gval_e, gval_u, cmp_e, orUndef_t, orUndef_f, condV_t, condV_f, cond_true, cond_false, eqI_eq, neI_eq, ltI_eq, leI_eq, gtI_eq, geI_eq, Bool.not_true, Bool.not_false, bf_tt, bf_tf, bf_ft, bf_ff, decide_true, decide_false, oneOf_1, oneOf_2, oneOf_3, thenV_n, thenV_e, thenV_r, exV_e, exV_r, Nat.beq_refl, eq_self, l1, l2, e1, sb, r1]
    exact ⟨u', rfl, r2⟩
  · have e1 : decide ((a.length : Int) = (b.length : Int)) = false := decide_eq_false (by omega)
    have key : decide (bv a < bv b) = decide ((a.length : Int) < (b.length : Int)) := by
      rw [decide_eq_decide]
      have ba := bv_bd a ha
      have bb := bv_bd b hb
      constructor
      · intro h
        have := norm_len ha na (m := b.length) (by omega)
        omega
      · intro h
        rcases Nat.lt_or_ge (bv a).toNat (bv b).toNat with h2 | h2
        · omega
        · have := norm_len hb nb (m := a.length) (by omega)
          omega
    rw [key]
    simp only [op2_s, op_s, bin_e, pick_e, not_e, ext_e, nth_z, nth_1, nth_2, nth_3, gval_e, gval_u, cmp_e, orUndef_t, orUndef_f, condV_t, condV_f, cond_true, cond_false, eqI_eq, neI_eq, ltI_eq, leI_eq, gtI_eq, geI_eq, Bool.not_true, Bool.not_false, bf_tt, bf_tf, bf_ft, bf_ff, decide_true, decide_false, oneOf_1, oneOf_2, oneOf_3, thenV_n, thenV_e, thenV_r, exV_e, exV_r, Nat.beq_refl, eq_self, l1, l2, e1]
    exact ⟨s, rfl, RO.refl s⟩
end Go.Proofs.Ytdnedangfnincaa.AbsAccR
namespace Go.Proofs.Ytdnedangfnincaa.AbsAccR
open Go Go.Abs Go.Proofs
set_option maxRecDepth 100000
set_option linter.unusedVariables false
set_option linter.unusedSimpArgs false

attribute [local congr] h_opt2 h_opt h_condV h_cond
/-! the document's numbers: trim, U, Of, Minus -/
/-- a number in memory -/
def BigAt (s : St) (x : Value) (z : Int) : Prop := ∃ w, x = aggOf [.bool (big z).1, w] ∧ DgS s w (big z).2
theorem BigAt.grew {k : Nat} {s u : St} {x : Value} {z : Int} (h : BigAt s x z) (g : Grew k s u) : BigAt u x z := by
  obtain ⟨w, h1, h2⟩ := h
  exact ⟨w, h1, h2.grew g⟩
theorem BigAt.still {s u : St} {x : Value} {z : Int} (h : BigAt s x z) (g : Still s u) : BigAt u x z := h.grew (k := 0) g.grew
theorem DgS.one {s : St} {w : Value} {L : List Int} (h : DgS s w L) : cellsOf w = [w] := by
  rcases h with ⟨rfl, _⟩ | ⟨b, c, cells, rfl, _⟩ <;> rfl
theorem cU_take (L : List Int) (n : Nat) : (cU L).take n = cU (L.take n) := by unfold cU; rw [List.map_take]
theorem DgS.cut {s : St} {w : Value} {L : List Int} (h : DgS s w L) {n : Nat} (hn : L.length = n + 1) :
    ∃ w', (∀ (rec : Rec) (u : St), oSliceL 1 (.v w) none (some (.v (.int .i64 (n : Int)))) none rec PT.nil u = some (w', u)) ∧ DgS s w' (L.take n) := by
  have ht : (L.take n).length = n := by rw [List.length_take]; omega
  rcases h with ⟨_, rfl⟩ | ⟨b, c, cells, rfl, h1, h2, h3, h4⟩
  · simp at hn
  · have h5 : cells.take (L.take n).length = cU (L.take n) := by
      rw [ht, ← cU_take, ← h3, List.take_take, Nat.min_eq_left (by omega)]
    refine ⟨.slice (some ⟨b, 0, none⟩) (L.take n).length c, fun rec u => ?_, .inr ⟨b, c, cells, rfl, ?_, h2, h5, h4⟩⟩
    · rw [ht]
      rcases h1 with rfl | ⟨h1, h1'⟩
      · have u0 : Nat.beq 1 0 = false := rfl
        have u1 : Nat.blt (UNK + 1) UNK = false := rfl
        have u2 : Nat.beq (UNK + 1) (UNK + 1) = true := rfl
        show (bif Nat.beq 1 0 then none else bif Nat.blt (UNK + 1) UNK then _ else bif !Nat.beq (UNK + 1) (UNK + 1) then none else
          opt (boundD PT.nil (some (.v (.int .i64 (n : Int)))) L.length L.length) fun h => opt (boundD PT.nil none h 0) fun l => force (h - l) fun hl => some (Value.slice (some (addA ⟨b, 0, none⟩ (l * 1))) hl (UNK + 1), u)) = _
        rw [u0, u1, u2, bound_u n _ _ (by omega), op_s, bound_n, op_s, force_eq]
        unfold addA
        rw [force_eq]
        rfl
      · have u0 : Nat.beq 1 0 = false := rfl
        have u1 : Nat.blt c UNK = true := by rw [blt_eq']; exact decide_eq_true h1
        have u2 : Nat.beq c 0 = false := by rw [beq_eq']; exact decide_eq_false (by omega)
        show (bif Nat.beq 1 0 then none else bif Nat.blt c UNK then
          opt (boundD PT.nil none c c) fun m => opt (boundD PT.nil (some (.v (.int .i64 (n : Int)))) m L.length) fun h => opt (boundD PT.nil none h 0) fun l =>
            force (h - l) fun hl => force (m - l) fun ml => some (Value.slice (some (bif Nat.beq m l then ⟨b, 0, none⟩ else addA ⟨b, 0, none⟩ (l * 1))) hl ml, u) else _) = _
        rw [u0, u1, bound_n, cond_false, cond_true, op_s, bound_u n _ _ (by omega), op_s, bound_n, op_s, force_eq, force_eq, u2]
        unfold addA
        rw [force_eq]
        rfl
    · rcases h1 with h1 | ⟨h1, h1'⟩
      · exact .inl h1
      · exact .inr ⟨h1, by rw [ht]; omega⟩
theorem buB (b : Bool) (w : Value) (hw : cellsOf w = [w]) (rec : Rec) (s : St) : oBuild [(.bool false), (.slice none 0 0)] [(0, 1, (.v (.bool b))), (1, 1, (.v w))] rec PT.nil s = some (aggOf [.bool b, w], s) := by
  show opt (fillN PT.nil [(0, 1, (.v (.bool b))), (1, 1, (.v w))] [(.bool false), (.slice none 0 0)]) (fun c => some (aggOf c, s)) = _
  have : fillN PT.nil [(0, 1, (.v (.bool b))), (1, 1, (.v w))] [(.bool false), (.slice none 0 0)] = some [.bool b, w] := by
    show (bif Nat.beq (lenN (cellsOf (Value.bool b))) 1 && Nat.ble (0 + 1) 2 then (bif Nat.beq (lenN (cellsOf w)) 1 && Nat.ble (1 + 1) 2 then some (app [.bool b] (app (cellsOf w) [])) else none) else none) = _
    rw [hw]; rfl
  rw [this, op_s]
theorem loop71 (m : Nat) (sB s0 : St) (hk : ∀ y, y < sB.next → s0.getC y = sB.getC y) (hle : sB.next ≤ s0.next) (x1 x2 : Value) : ∀ (n fuel : Nat) (u : St) (w : Value) (L : List Int), RO s0 u → DgS sB w L → Dg L → L.length = n → n ≤ 1000 → n < fuel →
    ∃ w' L' u', loopV (B71_l0 (callN E m) m (x1, x2)) fuel w u = some (.exit 0, w', u') ∧ RO s0 u' ∧ DgS sB w' L' ∧ Dg L' ∧ Norm L' ∧ bv L' = bv L ∧ L'.length ≤ L.length := by
  intro n
  induction n with
  | zero =>
    intro fuel u w L hu hw hd hl _ hf
    obtain ⟨fuel, rfl⟩ : ∃ k, fuel = k + 1 := ⟨fuel - 1, by omega⟩
    have e1 : decide (0 < (L.length : Int)) = false := decide_eq_false (by omega)
    have ln := hw.len
    rw [loopV_s, B71_l0]
    simp only [op2_s, op_s, bin_e, pick_e, not_e, ext_e, nth_z, nth_1, nth_2, nth_3, gval_e, gval_u, cmp_e, orUndef_t, orUndef_f, condV_t, condV_f, cond_true, cond_false, eqI_eq, neI_eq, ltI_eq, leI_eq, gtI_eq, geI_eq, Bool.not_true, Bool.not_false, bf_tt, bf_tf, bf_ft, bf_ff, decide_true, decide_false, oneOf_1, oneOf_2, oneOf_3, thenV_n, thenV_e, thenV_r, exV_e, exV_r, Nat.beq_refl, eq_self, ln, e1]
    exact ⟨w, L, u, rfl, hu, hw, hd, .inl (List.eq_nil_of_length_eq_zero hl), rfl, Nat.le_refl _⟩
  | succ n ih =>
    intro fuel u w L hu hw hd hl hn hf
    obtain ⟨fuel, rfl⟩ : ∃ k, fuel = k + 1 := ⟨fuel - 1, by omega⟩
    have e1 : decide (0 < (L.length : Int)) = true := decide_eq_true (by omega)
    have ln := hw.len
    have sb : int2 subO (.int .i64 (L.length : Int)) (.int .i64 1) = some (.int .i64 (n : Int)) := by rw [sub_e _ _ (by omega) (by omega)]; congr 2; omega
    obtain ⟨b, cells, b1, b2, b3, b4⟩ := hw.at (i := n) (by omega)
    have g := (hu.1.2 b).trans ((hk b b1).trans b2)
    have b1 : b < s0.next := by omega
    rw [loopV_s, B71_l0]
    by_cases hz : dgt L n = 0
    · have e2 : decide (dgt L n = 0) = true := decide_eq_true hz
      obtain ⟨w', c1, c2⟩ := hw.cut hl
      have hlen : (L.take n).length = n := by rw [List.length_take]; omega
      obtain ⟨w'', L', u', r1, r2, r3, r4, r5, r6, r7⟩ := ih fuel (u.seen b) w' (L.take n) (hu.seen b b1) c2 (hd.take n) hlen (by omega) (by omega)
      have hv : bv (L.take n) = bv L := by
        have h1 := bv_take_succ L n
        rw [List.take_of_length_le (by omega), hz] at h1
        omega
      simp only [op2_s, op_s, bin_e, pick_e, not_e, ext_e, nth_z, nth_1, nth_2, nth_3, gval_e, gval_u, cmp_e, orUndef_t, orUndef_f, condV_t, condV_f, cond_true, cond_false, eqI_eq, neI_eq, ltI_eq, leI_eq, gtI_eq, geI_eq, Bool.not_true, Bool.not_false, bf_tt, bf_tf, bf_ft, bf_ff, decide_true, decide_false, oneOf_1, oneOf_2, oneOf_3, thenV_n, thenV_e, thenV_r, exV_e, exV_r, Nat.beq_refl, eq_self, ln, e1, sb, b4, load_u, g, b3, e2, c1]
      exact ⟨w'', L', u', r1, r2, r3, r4, r5, r6.trans hv, by omega⟩
    · have e2 : decide (dgt L n = 0) = false := decide_eq_false hz
      simp only [op2_s, op_s, bin_e, pick_e, not_e, ext_e, nth_z, nth_1, nth_2, nth_3, gval_e, gval_u, cmp_e, orUndef_t, orUndef_f, condV_t, condV_f, cond_true, cond_false, eqI_eq, neI_eq, ltI_eq, leI_eq, gtI_eq, geI_eq, Bool.not_true, Bool.not_false, bf_tt, bf_tf, bf_ft, bf_ff, decide_true, decide_false, oneOf_1, oneOf_2, oneOf_3, thenV_n, thenV_e, thenV_r, exV_e, exV_r, Nat.beq_refl, eq_self, ln, e1, sb, b4, load_u, g, b3, e2]
      exact ⟨w, L, _, rfl, hu.seen b b1, hw, hd, .inr (by rw [hl]; exact hz), rfl, Nat.le_refl _⟩
theorem own_ro {s0 s u : St} (h : Own s0 s) (g : RO s u) : Own s0 u := h.trans g.own
/-- trim -/
theorem r71 (M : Nat) (hM : 1010 ≤ M) (s : St) (neg : Bool) (w : Value) (L : List Int) (hw : DgS s w L) (hd : Dg L) (hn : L.length ≤ 1000) (h8 : 8 ≤ s.next) (hl : s.next + 2 ≤ lim) :
    ∃ x s', callN E M 71 [aggOf [.bool neg, w]] s = some (x, s') ∧ BigAt s' x (sg neg L) ∧ Grew 2 s s' ∧ Own s s' := by
  have hlim : lim = 1000000000 := rfl
  obtain ⟨m, rfl⟩ : ∃ m, M = m + 1 := ⟨M - 1, by omega⟩
  obtain ⟨u0, hu0⟩ : ∃ x, x = (an (an s [.bool neg, w]) [.bool false, .slice none 0 0]).seen s.next := ⟨_, rfl⟩
  have G0 : Grew 2 s u0 := by rw [hu0]; (repeat (first | exact Grew.refl _ | assumption | refine Grew.seen ?_ _ | refine Grew.set ?_ _ _ (by (first | omega | (simp only [an_next, set_next, St.seen_next, jn_next, z0_next]; try omega; done))) (by (first | omega | (simp only [an_next, set_next, St.seen_next, jn_next, z0_next]; try omega; done))) | refine Grew.an ?_ _ (by (first | omega | (simp only [an_next, set_next, St.seen_next, jn_next, z0_next]; try omega; done)))))
  have O0 : Own s u0 := by rw [hu0]; exact (((Own.refl s).an _ (by omega)).an _ (by rw [an_next]; omega)).seen _ (by simp only [an_next]; omega)
  have n0 : u0.next = s.next + 2 := by rw [hu0]; simp only [St.seen_next, an_next]
  obtain ⟨w', L', u', r1, r2, r3, r4, r5, r6, r7⟩ := loop71 m s u0 G0.2.2 (by omega) (.pointer (some ⟨s.next, 0, none⟩)) (.pointer (some ⟨s.next + 1, 0, none⟩)) L.length m u0 w L (RO.refl u0) hw hd rfl hn (by omega)
  have x0 : u'.getC s.next = some [.bool neg, w] := (r2.1.2 _).trans (by rw [hu0]; simp (disch := (first | omega | (simp only [an_next, set_next, St.seen_next, jn_next, z0_next]; try omega; done))) only [new_a, boxA, an_ati, an_atp, an_ats, an_atb, an_ne, set_ati, set_atp, set_ats, set_atb, set_ne, seen_getC, loadn_o, store_2, store_i, store_b, store_s, store_p, load_u, cut_22, put_22, cut_53, cut_55, put_55, put_50, put_51, put_52, put_53, store_5, nth_z, nth_1, nth_2, nth_3, nth_4, nil_u, fa_0, an_next, set_next, St.seen_next, jn_next, z0_next, jn_getC, z0_getC, rU_z, rU_seen, rU_set, rU_an, rU_sl])
  have x1 : u'.getC (s.next + 1) = some [.bool false, .slice none 0 0] := (r2.1.2 _).trans (by rw [hu0]; simp (disch := (first | omega | (simp only [an_next, set_next, St.seen_next, jn_next, z0_next]; try omega; done))) only [new_a, boxA, an_ati, an_atp, an_ats, an_atb, an_ne, set_ati, set_atp, set_ats, set_atb, set_ne, seen_getC, loadn_o, store_2, store_i, store_b, store_s, store_p, load_u, cut_22, put_22, cut_53, cut_55, put_55, put_50, put_51, put_52, put_53, store_5, nth_z, nth_1, nth_2, nth_3, nth_4, nil_u, fa_0, an_next, set_next, St.seen_next, jn_next, z0_next, jn_getC, z0_getC, rU_z, rU_seen, rU_set, rU_an, rU_sl])
  have nu : u'.next = s.next + 2 := by rw [r2.1.1, n0]
  have G1 : Grew 2 s u' := G0.still r2.1
  have O1 : Own s u' := own_ro O0 r2
  have ln := r3.len
  have bb := fun b => buB b w' r3.one
  rw [x71]
  unfold F71
  have fin : ∀ (nb : Bool) (u : St), Grew 2 s u → Own s u → u.next = s.next + 2 → Is (nb, L') (sg neg L) →
      ∃ x s', some (aggOf [.bool nb, w'], (u.set (s.next + 1) (some [.bool nb, w'])).seen (s.next + 1)) = some (x, s') ∧ BigAt s' x (sg neg L) ∧ Grew 2 s s' ∧ Own s s' := by
    intro nb u hG hO hnx hI
    have hG' : Grew 2 s ((u.set (s.next + 1) (some [.bool nb, w'])).seen (s.next + 1)) := (hG.set _ _ (by omega) (by omega)).seen _
    refine ⟨_, _, rfl, ⟨w', ?_, ?_⟩, hG', (hO.set _ _ (by omega) (by omega)).seen _ (by rw [set_next]; omega)⟩
    · rw [← hI.big]
    · rw [← hI.big]
      exact r3.grew hG'
  cases neg with
  | false =>
    obtain ⟨x, s', k1, k2, k3, k4⟩ := fin false (u'.seen s.next) (G1.seen _) (O1.seen _ (by omega)) (by rw [St.seen_next, nu]) ⟨r4, r5, fun _ => rfl, by show bv L' = bv L; exact r6⟩
    simp (disch := (first | omega | (simp only [an_next, set_next, St.seen_next, jn_next, z0_next]; try omega; done))) only [op2_s, op_s, bin_e, pick_e, not_e, ext_e, nth_z, nth_1, nth_2, nth_3, gval_e, gval_u, cmp_e, orUndef_t, orUndef_f, condV_t, condV_f, cond_true, cond_false, eqI_eq, neI_eq, ltI_eq, leI_eq, gtI_eq, geI_eq, Bool.not_true, Bool.not_false, bf_tt, bf_tf, bf_ft, bf_ff, decide_true, decide_false, oneOf_1, oneOf_2, oneOf_3, thenV_n, thenV_e, thenV_r, exV_e, exV_r, Nat.beq_refl, eq_self, new_a, boxA, an_ati, an_atp, an_ats, an_atb, an_ne, set_ati, set_atp, set_ats, set_atb, set_ne, seen_getC, loadn_o, store_2, store_i, store_b, store_s, store_p, load_u, cut_22, put_22, cut_53, cut_55, put_55, put_50, put_51, put_52, put_53, store_5, nth_z, nth_1, nth_2, nth_3, nth_4, nil_u, fa_0, an_next, set_next, St.seen_next, jn_next, z0_next, jn_getC, z0_getC, rU_z, rU_seen, rU_set, rU_an, rU_sl, ← hu0, r1, C71_l0, J71_r0, x0, bb, x1, fin_c]
    exact ⟨x, s', k1, k2, k3, k4⟩
  | true =>
    by_cases hL : L' = []
    · have e1 : decide (0 < (L'.length : Int)) = false := decide_eq_false (by rw [hL]; simp)
      obtain ⟨x, s', k1, k2, k3, k4⟩ := fin false (u'.seen s.next) (G1.seen _) (O1.seen _ (by omega)) (by rw [St.seen_next, nu]) ⟨r4, r5, fun _ => rfl, by show bv L' = -bv L; rw [← r6, hL]; rfl⟩
      simp (disch := (first | omega | (simp only [an_next, set_next, St.seen_next, jn_next, z0_next]; try omega; done))) only [op2_s, op_s, bin_e, pick_e, not_e, ext_e, nth_z, nth_1, nth_2, nth_3, gval_e, gval_u, cmp_e, orUndef_t, orUndef_f, condV_t, condV_f, cond_true, cond_false, eqI_eq, neI_eq, ltI_eq, leI_eq, gtI_eq, geI_eq, Bool.not_true, Bool.not_false, bf_tt, bf_tf, bf_ft, bf_ff, decide_true, decide_false, oneOf_1, oneOf_2, oneOf_3, thenV_n, thenV_e, thenV_r, exV_e, exV_r, Nat.beq_refl, eq_self, new_a, boxA, an_ati, an_atp, an_ats, an_atb, an_ne, set_ati, set_atp, set_ats, set_atb, set_ne, seen_getC, loadn_o, store_2, store_i, store_b, store_s, store_p, load_u, cut_22, put_22, cut_53, cut_55, put_55, put_50, put_51, put_52, put_53, store_5, nth_z, nth_1, nth_2, nth_3, nth_4, nil_u, fa_0, an_next, set_next, St.seen_next, jn_next, z0_next, jn_getC, z0_getC, rU_z, rU_seen, rU_set, rU_an, rU_sl, ← hu0, r1, C71_l0, J71_r0, x0, ln, e1, bb, x1, fin_c]
      exact ⟨x, s', k1, k2, k3, k4⟩
    · have e1 : decide (0 < (L'.length : Int)) = true := decide_eq_true (by have := List.length_pos_iff.2 hL; omega)
      obtain ⟨x, s', k1, k2, k3, k4⟩ := fin true (u'.seen s.next) (G1.seen _) (O1.seen _ (by omega)) (by rw [St.seen_next, nu]) ⟨r4, r5, fun h => absurd h hL, by show -bv L' = -bv L; rw [r6]⟩
      simp (disch := (first | omega | (simp only [an_next, set_next, St.seen_next, jn_next, z0_next]; try omega; done))) only [op2_s, op_s, bin_e, pick_e, not_e, ext_e, nth_z, nth_1, nth_2, nth_3, gval_e, gval_u, cmp_e, orUndef_t, orUndef_f, condV_t, condV_f, cond_true, cond_false, eqI_eq, neI_eq, ltI_eq, leI_eq, gtI_eq, geI_eq, Bool.not_true, Bool.not_false, bf_tt, bf_tf, bf_ft, bf_ff, decide_true, decide_false, oneOf_1, oneOf_2, oneOf_3, thenV_n, thenV_e, thenV_r, exV_e, exV_r, Nat.beq_refl, eq_self, new_a, boxA, an_ati, an_atp, an_ats, an_atb, an_ne, set_ati, set_atp, set_ats, set_atb, set_ne, seen_getC, loadn_o, store_2, store_i, store_b, store_s, store_p, load_u, cut_22, put_22, cut_53, cut_55, put_55, put_50, put_51, put_52, put_53, store_5, nth_z, nth_1, nth_2, nth_3, nth_4, nil_u, fa_0, an_next, set_next, St.seen_next, jn_next, z0_next, jn_getC, z0_getC, rU_z, rU_seen, rU_set, rU_an, rU_sl, ← hu0, r1, C71_l0, J71_r0, x0, ln, e1, bb, x1, fin_c]
      exact ⟨x, s', k1, k2, k3, k4⟩
end Go.Proofs.Ytdnedangfnincaa.AbsAccR
namespace Go.Proofs.Ytdnedangfnincaa.AbsAccR
open Go Go.Abs Go.Proofs
set_option maxRecDepth 100000
set_option linter.unusedVariables false
set_option linter.unusedSimpArgs false

attribute [local congr] h_opt2 h_opt h_condV h_cond
/-! the document's numbers: U, Of, Minus -/
theorem usDg {s : St} {w : Value} {L : List Int} (h : Us s w L) : DgS s w L := by
  rcases h with ⟨rfl, rfl⟩ | ⟨b, rfl, h1, h2, _⟩
  · exact .inl ⟨rfl, rfl⟩
  · exact .inr ⟨b, _, _, rfl, .inl rfl, h1, List.take_of_length_le (by rw [cU_len]; exact Nat.le_refl _), h2⟩
/-- of a number that is not too great -/
def Bd (z : Int) : Prop := -pw 20 < z ∧ z < pw 20
theorem bd_len {z : Int} (h : Bd z) : (big z).2.length ≤ 20 := (big_is z).len h.1 h.2
theorem loop58 (m : Nat) (s0 : St) (h8 : 8 ≤ s0.next) (kk : Value × Value) : ∀ (n fuel k : Nat) (u : St) (x : Int) (v : Value) (L : List Int), 0 ≤ x → x < pw n → x < 18446744073709551616 → Us u v L → NwU s0.next v → Grew k s0 u → Own s0 u → Dg L → L.length + n ≤ 900 → s0.next + k + 2 * n ≤ lim → n < fuel →
    ∃ v' L' u', loopV (B58_l0 (callN E m) m kk) fuel (.int .u64 x, v) u = some (.exit 0, (.int .u64 0, v'), u') ∧ Us u' v' L' ∧ Dg L' ∧ L'.length ≤ L.length + n ∧ bv L' = bv L + pw L.length * x ∧ Grew (k + 2 * n) s0 u' ∧ Own s0 u' := by
  have hlim : lim = 1000000000 := rfl
  intro n
  induction n with
  | zero =>
    intro fuel k u x v L h0 h1 h2 hv hw g o hd _ _ hf
    obtain ⟨fuel, rfl⟩ : ∃ k, fuel = k + 1 := ⟨fuel - 1, by omega⟩
    have h1 : x < 1 := h1
    obtain rfl : x = 0 := by omega
    have e1 : decide ((0 : Int) < 0) = false := rfl
    rw [loopV_s, B58_l0]
    simp only [op2_s, op_s, bin_e, pick_e, not_e, ext_e, nth_z, nth_1, nth_2, nth_3, gval_e, gval_u, cmp_e, orUndef_t, orUndef_f, condV_t, condV_f, cond_true, cond_false, eqI_eq, neI_eq, ltI_eq, leI_eq, gtI_eq, geI_eq, Bool.not_true, Bool.not_false, bf_tt, bf_tf, bf_ft, bf_ff, decide_true, decide_false, oneOf_1, oneOf_2, oneOf_3, thenV_n, thenV_e, thenV_r, exV_e, exV_r, Nat.beq_refl, eq_self, e1]
    exact ⟨v, L, u, rfl, hv, hd, by omega, by rw [Int.mul_zero, Int.add_zero], g, o⟩
  | succ n ih =>
    intro fuel k u x v L h0 h1 h2 hv hw g o hd hL hn hf
    obtain ⟨fuel, rfl⟩ : ∃ k, fuel = k + 1 := ⟨fuel - 1, by omega⟩
    by_cases hx : 0 < x
    · have e1 : decide (0 < x) = true := decide_eq_true hx
      have g2 := g.2.1
      obtain ⟨v', s', a1, a2, a3, a4, a5⟩ := appU1 s0 u v L (x % 65536) k (callN E m) hv hw h8 g o (by omega) (by omega)
      have h1 : x < 65536 * pw n := h1
      obtain ⟨v'', L', u', r1, r2, r3, r4, r5, r6, r7⟩ := ih fuel (k + 2) s' (x / 65536) v' (L ++ [x % 65536]) (by omega) (by omega) (by omega) a2 a3 a4 a5 (hd.append (Dg.one ⟨by omega, by omega⟩)) (by simp; omega) (by omega) (by omega)
      have hb : bv (L ++ [x % 65536]) = bv L + pw L.length * (x % 65536) := by rw [bv_append]; show bv L + pw L.length * (x % 65536 + 65536 * 0) = _; rw [Int.mul_zero, Int.add_zero]
      rw [loopV_s, B58_l0]
      simp (disch := omega) only [op2_s, op_s, bin_e, pick_e, not_e, ext_e, nth_z, nth_1, nth_2, nth_3, gval_e, gval_u, cmp_e, orUndef_t, orUndef_f, condV_t, condV_f, cond_true, cond_false, eqI_eq, neI_eq, ltI_eq, leI_eq, gtI_eq, geI_eq, Bool.not_true, Bool.not_false, bf_tt, bf_tf, bf_ft, bf_ff, decide_true, decide_false, oneOf_1, oneOf_2, oneOf_3, thenV_n, thenV_e, thenV_r, exV_e, exV_r, Nat.beq_refl, eq_self, e1, mask16, us1, a1, shr16]
      refine ⟨v'', L', u', r1, r2, r3, by simp at r4; omega, ?_, r6.mono (by omega), r7⟩
      rw [r5, hb, List.length_append]
      show bv L + pw L.length * (x % 65536) + 65536 * pw L.length * (x / 65536) = _
      have e : x = x % 65536 + 65536 * (x / 65536) := by omega
      conv => rhs; rw [e]
      rw [Int.mul_add, Int.mul_comm 65536 (pw L.length), Int.mul_assoc, Int.add_assoc]
    · have e1 : decide (0 < x) = false := decide_eq_false hx
      obtain rfl : x = 0 := by omega
      rw [loopV_s, B58_l0]
      simp only [op2_s, op_s, bin_e, pick_e, not_e, ext_e, nth_z, nth_1, nth_2, nth_3, gval_e, gval_u, cmp_e, orUndef_t, orUndef_f, condV_t, condV_f, cond_true, cond_false, eqI_eq, neI_eq, ltI_eq, leI_eq, gtI_eq, geI_eq, Bool.not_true, Bool.not_false, bf_tt, bf_tf, bf_ft, bf_ff, decide_true, decide_false, oneOf_1, oneOf_2, oneOf_3, thenV_n, thenV_e, thenV_r, exV_e, exV_r, Nat.beq_refl, eq_self, e1]
      exact ⟨v, L, u, rfl, hv, hd, by omega, by rw [Int.mul_zero, Int.add_zero], g.mono (by omega), o⟩
/-- what a result cell is stored into, and told -/
theorem res_b {s : St} {b : Nat} {z : Int} {x : Value} (h : BigAt s x z) (rec : Rec) (fs : Frm) : ∃ w, x = aggOf [.bool (big z).1, w] ∧ DgS s w (big z).2 ∧ oStore 2 (.v (.pointer (some ⟨b, 0, none⟩))) (.v x) rec fs s = opt (s.getC b) fun c => putF s b 0 [.bool (big z).1, w] c := by
  obtain ⟨w, rfl, h2⟩ := h
  exact ⟨w, rfl, h2, store_2 b 0 rec _ _ fs s⟩
/-- a result's tail: stored into its cell, and loaded -/
theorem tail_b {s u : St} {k b : Nat} {z : Int} {x : Value} (h : BigAt u x z) (G : Grew k s u) (O : Own s u) (hb : s.next ≤ b) (hb' : b < u.next) (hc : ∃ p q, u.getC b = some [.bool p, q]) (h8 : 8 ≤ b) (hl : u.next ≤ lim + 1) (rec : Rec) (fs : Frm) :
    ∃ x' u', (opt2 (oStore 2 (.v (.pointer (some ⟨b, 0, none⟩))) (.v x) rec fs u) fun _ s => opt (s.getC b) fun c => cutF s b 0 2 c) = some (x', u') ∧ BigAt u' x' z ∧ Grew k s u' ∧ Own s u' := by
  have hlim : lim = 1000000000 := rfl
  obtain ⟨w, rfl, h2, h3⟩ := res_b (b := b) h rec fs
  obtain ⟨p, q, hc⟩ := hc
  rw [h3, hc, op_s, put_22, op2_s, set_atb _ _ _ _ _ h8 (by omega) rfl, op_s, cut_22]
  have G' : Grew k s ((u.set b (some [.bool (big z).1, w])).seen b) := (G.set _ _ (by omega) hb).seen _
  refine ⟨_, _, rfl, ⟨w, rfl, ?_⟩, G', (O.set _ _ hb hb').seen _ (by rw [set_next]; exact hb')⟩
  rcases h2 with h2 | ⟨b', c, cells, rfl, q1, q2, q3, q4⟩
  · exact .inl h2
  · by_cases e : b' = b
    · subst e
      have hnil : (big z).2 = [] := by
        rw [hc] at q2
        cases q2
        cases hL : (big z).2 with
        | nil => rfl
        | cons d l => rw [hL] at q3; cases q3
      refine .inr ⟨b', c, _, rfl, q1, (seen_getC _ _ _).trans (set_atb _ _ _ _ _ h8 (by omega) rfl), ?_, by rw [St.seen_next, set_next]; exact q4⟩
      rw [hnil]; rfl
    · exact .inr ⟨b', c, cells, rfl, q1, ((seen_getC _ _ _).trans (set_ne _ _ _ _ (by omega) e)).trans q2, q3, by rw [St.seen_next, set_next]; exact q4⟩
/-- U -/
theorem r58 (M : Nat) (hM : 1020 ≤ M) (s : St) (x : Int) (neg : Bool) (h0 : 0 ≤ x) (h1 : x < 18446744073709551616) (h8 : 8 ≤ s.next) (hl : s.next + 20 ≤ lim) :
    ∃ v s', callN E M 58 [.int .u64 x, .bool neg] s = some (v, s') ∧ BigAt s' v (if neg then -x else x) ∧ Grew 12 s s' ∧ Own s s' := by
  have hlim : lim = 1000000000 := rfl
  obtain ⟨m, rfl⟩ : ∃ m, M = m + 1 := ⟨M - 1, by omega⟩
  obtain ⟨u0, hu0⟩ : ∃ y, y = an s [.bool false, .slice none 0 0] := ⟨_, rfl⟩
  have G0 : Grew 1 s u0 := by rw [hu0]; exact (Grew.refl s).an _ (by omega)
  have O0 : Own s u0 := by rw [hu0]; exact (Own.refl s).an _ (by omega)
  have n0 : u0.next = s.next + 1 := by rw [hu0]; rfl
  have p4 : pw 4 = 18446744073709551616 := by decide
  have x0 : u0.getC s.next = some [.bool false, .slice none 0 0] := by rw [hu0]; exact an_atb s _ _ _ (by omega) rfl
  obtain ⟨v', L', u', r1, r2, r3, r4, r5, r6, r7⟩ := loop58 m u0 (by omega) (.bool neg, .pointer (some ⟨s.next, 0, none⟩)) 4 m 0 u0 x (.slice none 0 0) [] h0 (by omega) h1 (.inl ⟨rfl, rfl⟩) (fun b c k h => by cases h) (Grew.refl u0) (Own.refl u0) (fun y hy => absurd hy List.not_mem_nil) (by simp) (by omega) (by omega)
  have d := usDg r2
  have hv : bv L' = x := by rw [r5]; show 0 + 1 * x = x; omega
  have q1 := r6.1; have q2 := r6.2.1
  obtain ⟨y, t, c1, c2, c3, c4⟩ := r71 m (by omega) u' neg v' L' d r3 (by simp at r4; omega) (by omega) (by omega)
  have e1 := c3.1; have e2 := c3.2.1
  have Gt : Grew 12 s t := ((G0.trans r6).trans c3).mono (by omega)
  have Ot : Own s t := (O0.trans r7).trans c4
  have xt : t.getC s.next = some [.bool false, .slice none 0 0] := (c3.2.2 _ (by omega)).trans ((r6.2.2 _ (by omega)).trans x0)
  have hsg : sg neg L' = if neg then -x else x := by unfold sg; rw [hv]
  rw [hsg] at c2
  obtain ⟨y', t', w1, w2, w3, w4⟩ := tail_b c2 Gt Ot (b := s.next) (Nat.le_refl _) (by omega) ⟨_, _, xt⟩ h8 (by omega) (callN E m) PT.nil
  have bb := buB neg v' d.one
  rw [x58]
  unfold F58
  simp (disch := (first | omega | (simp only [an_next, set_next, St.seen_next, jn_next, z0_next]; try omega; done))) only [op2_s, op_s, bin_e, pick_e, not_e, ext_e, nth_z, nth_1, nth_2, nth_3, gval_e, gval_u, cmp_e, orUndef_t, orUndef_f, condV_t, condV_f, cond_true, cond_false, eqI_eq, neI_eq, ltI_eq, leI_eq, gtI_eq, geI_eq, Bool.not_true, Bool.not_false, bf_tt, bf_tf, bf_ft, bf_ff, decide_true, decide_false, oneOf_1, oneOf_2, oneOf_3, thenV_n, thenV_e, thenV_r, exV_e, exV_r, Nat.beq_refl, eq_self, new_a, ← hu0, r1, C58_l0, J58_r0, bb, c1, fin_c]
  exact ⟨y', t', w1, w2, w3, w4⟩
/-- Of -/
theorem r37 (M : Nat) (hM : 1021 ≤ M) (s : St) (x : Int) (h0 : -9223372036854775808 ≤ x) (h1 : x ≤ 9223372036854775807) (h8 : 8 ≤ s.next) (hl : s.next + 30 ≤ lim) :
    ∃ v s', callN E M 37 [.int .i64 x] s = some (v, s') ∧ BigAt s' v x ∧ Grew 13 s s' ∧ Own s s' := by
  have hlim : lim = 1000000000 := rfl
  obtain ⟨m, rfl⟩ : ∃ m, M = m + 1 := ⟨M - 1, by omega⟩
  obtain ⟨u0, hu0⟩ : ∃ y, y = an s [.bool false, .slice none 0 0] := ⟨_, rfl⟩
  have G0 : Grew 1 s u0 := by rw [hu0]; exact (Grew.refl s).an _ (by omega)
  have O0 : Own s u0 := by rw [hu0]; exact (Own.refl s).an _ (by omega)
  have n0 : u0.next = s.next + 1 := by rw [hu0]; rfl
  have x0 : u0.getC s.next = some [.bool false, .slice none 0 0] := by rw [hu0]; exact an_atb s _ _ _ (by omega) rfl
  have cv : ∀ (rec : Rec) (u : St), oConv .u64 (.v (.int .i64 x)) rec PT.nil u = some (.int .u64 (x % 18446744073709551616), u) := fun rec u => by
    show (opt (mkInt .u64 x) fun v => some (v, u)) = _
    rw [mkInt_eq, u64w, op_s]
  have main : ∀ (y : Int) (neg : Bool), 0 ≤ y → y < 18446744073709551616 → (if neg then -y else y) = x → ∃ v s', (opt2 (callN E m 58 [.int .u64 y, .bool neg] u0) fun z t => opt2 (oStore 2 (.v (.pointer (some ⟨s.next, 0, none⟩))) (.v z) (callN E m) PT.nil t) fun _ s_1 => opt (s_1.getC s.next) fun c => cutF s_1 s.next 0 2 c) = some (v, s') ∧ BigAt s' v x ∧ Grew 13 s s' ∧ Own s s' := fun y neg hy hy' he => by
    obtain ⟨v, t, c1, c2, c3, c4⟩ := r58 m (by omega) u0 y neg hy hy' (by omega) (by omega)
    have k1 := c3.1; have k2 := c3.2.1
    rw [he] at c2
    have xt : t.getC s.next = some [.bool false, .slice none 0 0] := (c3.2.2 _ (by omega)).trans x0
    rw [c1, op2_s]
    exact tail_b c2 ((G0.trans c3).mono (by omega)) (O0.trans c4) (b := s.next) (Nat.le_refl _) (by omega) ⟨_, _, xt⟩ h8 (by omega) (callN E m) PT.nil
  rw [x37]
  unfold F37
  by_cases hx : x < 0
  · have e1 := decide_eq_true hx
    have ng : ∀ (rec : Rec) (u : St), oNeg (.v (.int .u64 (x % 18446744073709551616))) rec PT.nil u = some (.int .u64 (-x), u) := fun rec u => by
      show (opt (mkInt .u64 (Int.sub 0 (x % 18446744073709551616))) fun v => some (v, u)) = _
      rw [mkInt_eq, u64w, op_s]
      congr 3
      show (0 - x % 18446744073709551616) % 18446744073709551616 = -x
      omega
    simp (disch := (first | omega | (simp only [an_next, set_next, St.seen_next, jn_next, z0_next]; try omega; done))) only [op2_s, op_s, bin_e, pick_e, not_e, ext_e, nth_z, nth_1, nth_2, nth_3, gval_e, gval_u, cmp_e, orUndef_t, orUndef_f, condV_t, condV_f, cond_true, cond_false, eqI_eq, neI_eq, ltI_eq, leI_eq, gtI_eq, geI_eq, Bool.not_true, Bool.not_false, bf_tt, bf_tf, bf_ft, bf_ff, decide_true, decide_false, oneOf_1, oneOf_2, oneOf_3, thenV_n, thenV_e, thenV_r, exV_e, exV_r, Nat.beq_refl, eq_self, new_a, ← hu0, cv, e1, ng, fin_c]
    exact main (-x) true (by omega) (by omega) (by simp)
  · have e1 := decide_eq_false hx
    have e : x % 18446744073709551616 = x := by omega
    rw [e] at cv
    simp (disch := (first | omega | (simp only [an_next, set_next, St.seen_next, jn_next, z0_next]; try omega; done))) only [op2_s, op_s, bin_e, pick_e, not_e, ext_e, nth_z, nth_1, nth_2, nth_3, gval_e, gval_u, cmp_e, orUndef_t, orUndef_f, condV_t, condV_f, cond_true, cond_false, eqI_eq, neI_eq, ltI_eq, leI_eq, gtI_eq, geI_eq, Bool.not_true, Bool.not_false, bf_tt, bf_tf, bf_ft, bf_ff, decide_true, decide_false, oneOf_1, oneOf_2, oneOf_3, thenV_n, thenV_e, thenV_r, exV_e, exV_r, Nat.beq_refl, eq_self, new_a, ← hu0, cv, e1, fin_c]
    exact main x false (by omega) (by omega) rfl
theorem sg_not (b : Bool) (L : List Int) : sg (!b) L = -sg b L := by
  unfold sg
  cases b <;> simp
/-- Minus -/
theorem r54 (M : Nat) (hM : 1020 ≤ M) (s : St) (x : Value) (z : Int) (hx : BigAt s x z) (hz : Bd z) (h8 : 8 ≤ s.next) (hl : s.next + 20 ≤ lim) :
    ∃ v s', callN E M 54 [x] s = some (v, s') ∧ BigAt s' v (-z) ∧ Grew 4 s s' ∧ Own s s' := by
  have hlim : lim = 1000000000 := rfl
  obtain ⟨m, rfl⟩ : ∃ m, M = m + 1 := ⟨M - 1, by omega⟩
  obtain ⟨w, rfl, hw⟩ := hx
  have bl := bd_len hz
  obtain ⟨u0, hu0⟩ : ∃ y, y = ((an (an s [.bool (big z).1, w]) [.bool false, .slice none 0 0]).seen s.next).seen s.next := ⟨_, rfl⟩
  have G0 : Grew 2 s u0 := by rw [hu0]; (repeat (first | exact Grew.refl _ | assumption | refine Grew.seen ?_ _ | refine Grew.set ?_ _ _ (by (first | omega | (simp only [an_next, set_next, St.seen_next, jn_next, z0_next]; try omega; done))) (by (first | omega | (simp only [an_next, set_next, St.seen_next, jn_next, z0_next]; try omega; done))) | refine Grew.an ?_ _ (by (first | omega | (simp only [an_next, set_next, St.seen_next, jn_next, z0_next]; try omega; done)))))
  have O0 : Own s u0 := by rw [hu0]; exact ((((Own.refl s).an _ (by omega)).an _ (by rw [an_next]; omega)).seen _ (by simp only [an_next]; omega)).seen _ (by simp only [St.seen_next, an_next]; omega)
  have n0 : u0.next = s.next + 2 := by rw [hu0]; simp only [St.seen_next, an_next]
  have x1 : u0.getC (s.next + 1) = some [.bool false, .slice none 0 0] := by rw [hu0]; simp (disch := (first | omega | (simp only [an_next, set_next, St.seen_next, jn_next, z0_next]; try omega; done))) only [new_a, boxA, an_ati, an_atp, an_ats, an_atb, an_ne, set_ati, set_atp, set_ats, set_atb, set_ne, seen_getC, loadn_o, store_2, store_i, store_b, store_s, store_p, load_u, cut_22, put_22, cut_53, cut_55, put_55, put_50, put_51, put_52, put_53, store_5, nth_z, nth_1, nth_2, nth_3, nth_4, nil_u, fa_0, an_next, set_next, St.seen_next, jn_next, z0_next, jn_getC, z0_getC, rU_z, rU_seen, rU_set, rU_an, rU_sl]
  obtain ⟨y, t, c1, c2, c3, c4⟩ := r71 m (by omega) u0 (!(big z).1) w (big z).2 (hw.grew G0) (big_is z).dg (by omega) (by omega) (by omega)
  have k1 := c3.1; have k2 := c3.2.1
  rw [sg_not, (big_is z).val] at c2
  have xt : t.getC (s.next + 1) = some [.bool false, .slice none 0 0] := (c3.2.2 _ (by omega)).trans x1
  obtain ⟨y', t', w1, w2, w3, w4⟩ := tail_b c2 ((G0.trans c3).mono (by omega) : Grew 4 s t) (O0.trans c4) (b := s.next + 1) (by omega) (by omega) ⟨_, _, xt⟩ (by omega) (by omega) (callN E m) PT.nil
  have bb := buB (!(big z).1) w hw.one
  rw [x54]
  unfold F54
  simp (disch := (first | omega | (simp only [an_next, set_next, St.seen_next, jn_next, z0_next]; try omega; done))) only [op2_s, op_s, bin_e, pick_e, not_e, ext_e, nth_z, nth_1, nth_2, nth_3, gval_e, gval_u, cmp_e, orUndef_t, orUndef_f, condV_t, condV_f, cond_true, cond_false, eqI_eq, neI_eq, ltI_eq, leI_eq, gtI_eq, geI_eq, Bool.not_true, Bool.not_false, bf_tt, bf_tf, bf_ft, bf_ff, decide_true, decide_false, oneOf_1, oneOf_2, oneOf_3, thenV_n, thenV_e, thenV_r, exV_e, exV_r, Nat.beq_refl, eq_self, new_a, boxA, an_ati, an_atp, an_ats, an_atb, an_ne, set_ati, set_atp, set_ats, set_atb, set_ne, seen_getC, loadn_o, store_2, store_i, store_b, store_s, store_p, load_u, cut_22, put_22, cut_53, cut_55, put_55, put_50, put_51, put_52, put_53, store_5, nth_z, nth_1, nth_2, nth_3, nth_4, nil_u, fa_0, an_next, set_next, St.seen_next, jn_next, z0_next, jn_getC, z0_getC, rU_z, rU_seen, rU_set, rU_an, rU_sl, ← hu0, bb, c1, fin_c]
  exact ⟨y', t', w1, w2, w3, w4⟩
end Go.Proofs.Ytdnedangfnincaa.AbsAccR
namespace Go.Proofs.Ytdnedangfnincaa.AbsAccR
open Go Go.Abs Go.Proofs
set_option maxRecDepth 100000
set_option linter.unusedVariables false
set_option linter.unusedSimpArgs false

attribute [local congr] h_opt2 h_opt h_condV h_cond
/-! the document's numbers: Add -/
theorem RO.jn {s s1 : St} (h : RO (z0 s) s1) : RO s (jn s s1) := by
  refine ⟨⟨h.1.1, fun y => h.1.2 y⟩, ?_, fun y hy => ?_⟩
  · show Nat.lor s.wr s1.wr = s.wr
    rw [h.2.1]
    exact lor_0 _
  · have hy : (Nat.lor s.rd s1.rd).testBit y = true := hy
    rw [testBit_lor, Bool.or_eq_true] at hy
    rcases hy with k | k
    · exact .inl k
    · rcases h.2.2 y k with k | k
      · exact absurd ((Nat.zero_testBit y).symm.trans k) Bool.false_ne_true
      · exact .inr k
abbrev zs14 : List Nat := [0, 0, 0, 0, 0, 0, 0, 0, 0, 0, 0, 0, 0, 0]
abbrev zs12 : List Nat := [0, 0, 0, 0, 0, 0, 0, 0, 0, 0, 0, 0]
structure AddS (s0 : St) (p1 p2 : Nat) (na nb : Bool) (wa wb : Value) (A B : List Int) : Prop where
  dA : DgS s0 wa A
  dB : DgS s0 wb B
  c1 : s0.getC p1 = some [.bool na, wa]
  c2 : s0.getC p2 = some [.bool nb, wb]
  l1 : p1 < s0.next
  l2 : p2 < s0.next
  hA : Dg A
  hB : Dg B
  nA : A.length ≤ 40
  nB : B.length ≤ 40
theorem loop53_0 (m : Nat) (hm : 100 ≤ m) (s0 : St) (h8 : 8 ≤ s0.next) (p1 p2 : Nat) (x3 : Value) (na nb : Bool) (wa wb : Value) (A B : List Int) (y : AddS s0 p1 p2 na nb wa wb A B) (hle : bv B ≤ bv A) (hlen : B.length ≤ A.length) :
    ∀ (n fuel i k : Nat) (u : St) (d : Value) (br : Int) (D : List Int), i + n = A.length → D.length = i → Dg D → 0 ≤ br ∧ br ≤ 1 → bv D = bv (A.take i) - bv (B.take i) + pw i * br → Us u d D → NwU s0.next d → Grew k s0 u → Own s0 u → s0.next + k + 2 * n ≤ lim → n < fuel →
    ∃ d' z z' D' u', loopV (B53_l0 (callN E m) m (.pointer (some ⟨p1, 0, none⟩), .pointer (some ⟨p2, 0, none⟩), x3)) fuel (d, .int .u64 br, .int .i64 (i : Int)) u = some (.exit 0, ((d', z, z'), u')) ∧ Us u' d' D' ∧ Dg D' ∧ D'.length ≤ 40 ∧ bv D' = bv A - bv B ∧ Grew (k + 2 * n) s0 u' ∧ Own s0 u' := by
  have hlim : lim = 1000000000 := rfl
  have nA := y.nA; have nB := y.nB
  intro n
  induction n with
  | zero =>
    intro fuel i k u d br D hi ho hd hb hv hu hw g o _ hf
    obtain ⟨fuel, rfl⟩ : ∃ k, fuel = k + 1 := ⟨fuel - 1, by omega⟩
    rw [take_all (by omega), take_all (by omega)] at hv
    have hbd := bv_bd D hd
    rw [ho] at hbd
    have : br = 0 := by
      rcases (by omega : br = 0 ∨ br = 1) with h | h
      · exact h
      · subst h; omega
    subst this
    have e1 : decide ((i : Int) < (A.length : Int)) = false := decide_eq_false (by omega)
    have g1 := (g.2.2 p1 y.l1).trans y.c1
    have ln := y.dA.len
    rw [loopV_s, B53_l0]
    simp only [op2_s, op_s, bin_e, pick_e, not_e, ext_e, nth_z, nth_1, nth_2, nth_3, gval_e, gval_u, cmp_e, orUndef_t, orUndef_f, condV_t, condV_f, cond_true, cond_false, eqI_eq, neI_eq, ltI_eq, leI_eq, gtI_eq, geI_eq, Bool.not_true, Bool.not_false, bf_tt, bf_tf, bf_ft, bf_ff, decide_true, decide_false, oneOf_1, oneOf_2, oneOf_3, thenV_n, thenV_e, thenV_r, exV_e, exV_r, Nat.beq_refl, eq_self, new_a, boxA, an_ati, an_atp, an_ats, an_atb, an_ne, set_ati, set_atp, set_ats, set_atb, set_ne, seen_getC, loadn_o, store_2, store_i, store_b, store_s, store_p, load_u, cut_22, put_22, cut_53, cut_55, put_55, put_50, put_51, put_52, put_53, store_5, nth_z, nth_1, nth_2, nth_3, nth_4, nil_u, fa_0, an_next, set_next, St.seen_next, jn_next, z0_next, jn_getC, z0_getC, rU_z, rU_seen, rU_set, rU_an, rU_sl, g1, ln, e1]
    exact ⟨d, _, _, D, _, rfl, hu.grew (Grew.seen (Grew.refl u) _), hd, by omega, by omega, g.seen _, o.seen _ (by have := g.1; have := y.l1; omega)⟩
  | succ n ih =>
    intro fuel i k u d br D hi ho hd hb hv hu hw g o hn hf
    obtain ⟨fuel, rfl⟩ : ∃ k, fuel = k + 1 := ⟨fuel - 1, by omega⟩
    have gn := g.1; have gn' := g.2.1
    have e1 : decide ((i : Int) < (A.length : Int)) = true := decide_eq_true (by omega)
    have g1 := (g.2.2 p1 y.l1).trans y.c1
    have g2 := (g.2.2 p2 y.l2).trans y.c2
    have hl1 := y.l1; have hl2 := y.l2
    have ln := y.dA.len
    obtain ⟨ba, ca, q1, q2, q3, q4⟩ := y.dA.at (i := i) (by omega)
    have g3 := (g.2.2 ba q1).trans q2
    obtain ⟨S3, hS3⟩ : ∃ z, z = (((u.seen p1).seen p1).seen ba).seen p2 := ⟨_, rfl⟩
    have st3 : Still u S3 := by rw [hS3]; exact (((Still.seen u _).trans (Still.seen _ _)).trans (Still.seen _ _)).trans (Still.seen _ _)
    have o3 : Own s0 S3 := by rw [hS3]; exact (((o.seen _ (by omega)).seen _ (by simp only [St.seen_next]; omega)).seen _ (by simp only [St.seen_next]; omega)).seen _ (by simp only [St.seen_next]; omega)
    obtain ⟨s1, c1, ro⟩ := r72 m (by omega) (z0 S3) wb B (y.dB.grew (k := k) ⟨by rw [z0_next, st3.1]; exact g.1, by rw [z0_next, st3.1]; exact g.2.1, fun x hx => (st3.2 x).trans (g.2.2 x hx)⟩) i
    obtain ⟨S4, hS4⟩ : ∃ z, z = jn S3 s1 := ⟨_, rfl⟩
    have ro4 : RO S3 S4 := by rw [hS4]; exact ro.jn
    have g4 : Grew k s0 S4 := (g.still st3).still ro4.1
    have o4 : Own s0 S4 := own_ro o3 ro4
    have qq := rU_c (.int .u64 (dgt B i)) PT.nil S3 s1
    rw [← hS4] at qq
    have hx := dgt_bd y.hA i
    have hy := dgt_bd y.hB i
    obtain ⟨s1', s2', s3', s4', s5'⟩ := sub_step _ _ br hx hy hb
    have a1 := addUI (dgt A i) 65536 hx.1 (by omega) (by omega)
    have a2 := subUI (dgt A i + 65536) (dgt B i) hy.1 (by omega) (by omega)
    have a3 := subUI (dgt A i + 65536 - dgt B i) br hb.1 (by omega) (by omega)
    have a4 := mask16 (dgt A i + 65536 - dgt B i - br) s1' (by omega)
    have a5 := shr16 (dgt A i + 65536 - dgt B i - br) s1'
    have a6 := subUI 1 ((dgt A i + 65536 - dgt B i - br) / 65536) (by omega) (by omega) (by omega)
    have ad : int2 addO (.int .i64 (i : Int)) (.int .i64 1) = some (.int .i64 ((i + 1 : Nat) : Int)) := by rw [add_e _ _ (by omega) (by omega)]; rfl
    have hu4 : Us S4 d D := hu.grew (k := 0) ((Still.grew st3).still ro4.1)
    have n4 := g4.2.1
    obtain ⟨v', s', b1, b2, b3, b4, b5⟩ := appU1 s0 S4 d D ((dgt A i + 65536 - dgt B i - br) % 65536) k (callN E m) hu4 hw h8 g4 o4 (by omega) (by omega)
    have us := us1 ((dgt A i + 65536 - dgt B i - br) % 65536) (callN E m) S4 (by omega)
    obtain ⟨d', z, z', D', u', r1, r2, r3, r4, r5, r6, r7⟩ := ih fuel (i + 1) (k + 2) s' v' (1 - (dgt A i + 65536 - dgt B i - br) / 65536) (D ++ [(dgt A i + 65536 - dgt B i - br) % 65536]) (by omega) (by rw [List.length_append, ho]; rfl) (hd.append (Dg.one (by omega))) ⟨s3', s4'⟩ (by
      rw [bv_append, ho, bv_take_succ, bv_take_succ]
      have e2 : bv [(dgt A i + 65536 - dgt B i - br) % 65536] = (dgt A i + 65536 - dgt B i - br) % 65536 := by simp [bv]
      rw [e2]
      exact sub_val _ _ _ _ _ _ _ _ _ hv s5') b2 b3 b4 b5 (by omega) (by omega)
    rw [loopV_s, B53_l0]
    simp only [z0_e]
    simp (maxSteps := 4000000) only [op2_s, op_s, bin_e, pick_e, not_e, ext_e, nth_z, nth_1, nth_2, nth_3, gval_e, gval_u, cmp_e, orUndef_t, orUndef_f, condV_t, condV_f, cond_true, cond_false, eqI_eq, neI_eq, ltI_eq, leI_eq, gtI_eq, geI_eq, Bool.not_true, Bool.not_false, bf_tt, bf_tf, bf_ft, bf_ff, decide_true, decide_false, oneOf_1, oneOf_2, oneOf_3, thenV_n, thenV_e, thenV_r, exV_e, exV_r, Nat.beq_refl, eq_self, new_a, boxA, an_ati, an_atp, an_ats, an_atb, an_ne, set_ati, set_atp, set_ats, set_atb, set_ne, seen_getC, loadn_o, store_2, store_i, store_b, store_s, store_p, load_u, cut_22, put_22, cut_53, cut_55, put_55, put_50, put_51, put_52, put_53, store_5, nth_z, nth_1, nth_2, nth_3, nth_4, nil_u, fa_0, an_next, set_next, St.seen_next, jn_next, z0_next, jn_getC, z0_getC, rU_z, rU_seen, rU_set, rU_an, rU_sl, mov_v, g1, ln, e1, q4, g3, q3, a1, g2, ← hS3, c1, qq, a2, a3, a4, us, b1, a5, a6, ad]
    rw [apartIs (n0 := u.next) (fun _ => u.next) zs14 ?hc ?h0 ?hk _ (by kernel_rfl), cond_true]
    · exact ⟨d', z, z', D', u', r1, r2, r3, r4, r5, r6.mono (by omega), r7⟩
    case hc => exact fun i j _ _ => Nat.le_refl _
    case h0 => exact fun i _ => Nat.le_refl _
    case hk =>
      repeat (first | trivial | refine ⟨kI (by first | exact KI.pure _ _ _ _ _ | exact KI.ld _ _ _ _ _ _ _ (by omega) | exact KI.ro _ _ _ _ _ ro (by rw [st3.1]; exact Nat.le_refl _)) (by decide), ?_⟩)
theorem loop53_1 (m : Nat) (hm : 100 ≤ m) (s0 : St) (h8 : 8 ≤ s0.next) (p1 p2 : Nat) (x3 : Value) (na nb : Bool) (wa wb : Value) (A B : List Int) (y : AddS s0 p1 p2 na nb wa wb A B) (mx : Nat) (hA : A.length ≤ mx) (hB : B.length ≤ mx) (hmx : mx ≤ 40) :
    ∀ (n fuel i k : Nat) (u : St) (d : Value) (c : Int) (D : List Int), i + n = mx + 1 → D.length = i → Dg D → 0 ≤ c ∧ c ≤ 1 → (i = mx + 1 → c = 0) → bv D + pw i * c = bv (A.take i) + bv (B.take i) → Us u d D → NwU s0.next d → Grew k s0 u → Own s0 u → s0.next + k + 2 * n ≤ lim → n < fuel →
    ∃ d' z z' D' u', loopV (B53_l1 (callN E m) m (.pointer (some ⟨p1, 0, none⟩), .pointer (some ⟨p2, 0, none⟩), x3)) fuel (d, .int .u64 c, .int .i64 (i : Int)) u = some (.exit 2, ((d', z, z'), u')) ∧ Us u' d' D' ∧ Dg D' ∧ D'.length ≤ 41 ∧ bv D' = bv A + bv B ∧ Grew (k + 2 * n) s0 u' ∧ Own s0 u' := by
  have hlim : lim = 1000000000 := rfl
  have nA := y.nA; have nB := y.nB
  have hl1 := y.l1; have hl2 := y.l2
  have ln := y.dA.len; have ln2 := y.dB.len
  intro n
  -- where it ends
  have stop : ∀ (i k : Nat) (u : St) (d : Value) (c : Int) (D : List Int) (fuel n : Nat), i ≤ mx + 1 → D.length = i → Dg D → c = 0 → A.length ≤ i → B.length ≤ i → bv D + pw i * c = bv (A.take i) + bv (B.take i) → Us u d D → Grew k s0 u → Own s0 u →
      ∃ d' z z' D' u', loopV (B53_l1 (callN E m) m (.pointer (some ⟨p1, 0, none⟩), .pointer (some ⟨p2, 0, none⟩), x3)) (fuel + 1) (d, .int .u64 c, .int .i64 (i : Int)) u = some (.exit 2, ((d', z, z'), u')) ∧ Us u' d' D' ∧ Dg D' ∧ D'.length ≤ 41 ∧ bv D' = bv A + bv B ∧ Grew (k + 2 * n) s0 u' ∧ Own s0 u' := by
    intro i k u d c D fuel n hi ho hd hc h1 h2 hv hu g o
    subst hc
    rw [take_all h1, take_all h2, Int.mul_zero, Int.add_zero] at hv
    have gn := g.1
    have e1 : decide ((i : Int) < (A.length : Int)) = false := decide_eq_false (by omega)
    have e2 : decide ((i : Int) < (B.length : Int)) = false := decide_eq_false (by omega)
    have e3 : decide ((0 : Int) < 0) = false := rfl
    have g1 := (g.2.2 p1 y.l1).trans y.c1
    have g2 := (g.2.2 p2 y.l2).trans y.c2
    rw [loopV_s, B53_l1]
    simp only [op2_s, op_s, bin_e, pick_e, not_e, ext_e, nth_z, nth_1, nth_2, nth_3, gval_e, gval_u, cmp_e, orUndef_t, orUndef_f, condV_t, condV_f, cond_true, cond_false, eqI_eq, neI_eq, ltI_eq, leI_eq, gtI_eq, geI_eq, Bool.not_true, Bool.not_false, bf_tt, bf_tf, bf_ft, bf_ff, decide_true, decide_false, oneOf_1, oneOf_2, oneOf_3, thenV_n, thenV_e, thenV_r, exV_e, exV_r, Nat.beq_refl, eq_self, new_a, boxA, an_ati, an_atp, an_ats, an_atb, an_ne, set_ati, set_atp, set_ats, set_atb, set_ne, seen_getC, loadn_o, store_2, store_i, store_b, store_s, store_p, load_u, cut_22, put_22, cut_53, cut_55, put_55, put_50, put_51, put_52, put_53, store_5, nth_z, nth_1, nth_2, nth_3, nth_4, nil_u, fa_0, an_next, set_next, St.seen_next, jn_next, z0_next, jn_getC, z0_getC, rU_z, rU_seen, rU_set, rU_an, rU_sl, g1, g2, ln, ln2, e1, e2, e3]
    exact ⟨d, _, _, D, _, rfl, (hu.grew (Grew.seen (Grew.seen (Grew.refl u) _) _)), hd, by omega, hv, ((g.seen _).seen _).mono (by omega), (o.seen _ (by omega)).seen _ (by rw [St.seen_next]; omega)⟩
  induction n with
  | zero =>
    intro fuel i k u d c D hi ho hd hc hl hv hu hw g o _ hf
    obtain ⟨fuel, rfl⟩ : ∃ k, fuel = k + 1 := ⟨fuel - 1, by omega⟩
    exact stop i k u d c D fuel 0 (by omega) ho hd (hl (by omega)) (by omega) (by omega) hv hu g o
  | succ n ih =>
    intro fuel i k u d c D hi ho hd hc hl hv hu hw g o hn hf
    obtain ⟨fuel, rfl⟩ : ∃ k, fuel = k + 1 := ⟨fuel - 1, by omega⟩
    by_cases go : i < A.length ∨ i < B.length ∨ 0 < c
    · have gn := g.1; have gn' := g.2.1
      have g1 := (g.2.2 p1 y.l1).trans y.c1
      have g2 := (g.2.2 p2 y.l2).trans y.c2
      have hx := dgt_bd y.hA i
      have hy := dgt_bd y.hB i
      have a1 := addUI (dgt A i) (dgt B i) hx.1 hy.1 (by omega)
      have a2 := addUI (dgt A i + dgt B i) c (by omega) hc.1 (by omega)
      have a4 := mask16 (dgt A i + dgt B i + c) (by omega) (by omega)
      have a5 := shr16 (dgt A i + dgt B i + c) (by omega)
      have ad : int2 addO (.int .i64 (i : Int)) (.int .i64 1) = some (.int .i64 ((i + 1 : Nat) : Int)) := by rw [add_e _ _ (by omega) (by omega)]; rfl
      have core : ∀ U0, Still u U0 → Own s0 U0 → ∃ (s1 s2 S4 S6 : St), callN E m 72 [wa, .int .i64 (i : Int)] (z0 (U0.seen p1)) = some (.int .u64 (dgt A i), s1) ∧ RO (z0 (U0.seen p1)) s1 ∧ rU (some (.int .u64 (dgt A i), s1)) PT.nil (U0.seen p1) none = some (.int .u64 (dgt A i), (⟨(s1.rd, s1.wr), U0.seen p1, s1, none⟩, S4)) ∧ S4.next = u.next ∧ (∀ x, S4.getC x = u.getC x) ∧
          callN E m 72 [wb, .int .i64 (i : Int)] (z0 (S4.seen p2)) = some (.int .u64 (dgt B i), s2) ∧ RO (z0 (S4.seen p2)) s2 ∧ rU (some (.int .u64 (dgt B i), s2)) PT.nil (S4.seen p2) none = some (.int .u64 (dgt B i), (⟨(s2.rd, s2.wr), S4.seen p2, s2, none⟩, S6)) ∧
          ∃ v' s', oBuildSlice 1 [.int .u64 0] [(0, 1, .v (.int .u64 ((dgt A i + dgt B i + c) % 65536)))] (callN E m) PT.nil S6 = some (.slice (some ⟨S6.next, 0, none⟩) 1 1, an S6 [.int .u64 ((dgt A i + dgt B i + c) % 65536)]) ∧
            oAppend 1 8 (.v d) (.v (.slice (some ⟨S6.next, 0, none⟩) 1 1)) (callN E m) PT.nil (an S6 [.int .u64 ((dgt A i + dgt B i + c) % 65536)]) = some (v', s') ∧ Us s' v' (D ++ [(dgt A i + dgt B i + c) % 65536]) ∧ NwU s0.next v' ∧ Grew (k + 2) s0 s' ∧ Own s0 s' := by
        intro U0 st ow
        have st1 : Still u (U0.seen p1) := st.trans (Still.seen _ _)
        have o1 : Own s0 (U0.seen p1) := ow.seen _ (by rw [st.1]; omega)
        obtain ⟨s1, c1, ro⟩ := r72 m (by omega) (z0 (U0.seen p1)) wa A (y.dA.grew (k := k) ⟨by rw [z0_next, st1.1]; exact g.1, by rw [z0_next, st1.1]; exact g.2.1, fun x hx => (st1.2 x).trans (g.2.2 x hx)⟩) i
        have ro4 : RO (U0.seen p1) (jn (U0.seen p1) s1) := ro.jn
        have st4 := st1.trans ro4.1
        have st5 : Still u ((jn (U0.seen p1) s1).seen p2) := st4.trans (Still.seen _ _)
        have o5 : Own s0 ((jn (U0.seen p1) s1).seen p2) := (own_ro o1 ro4).seen _ (by rw [st4.1]; omega)
        obtain ⟨s2, c2, ro'⟩ := r72 m (by omega) (z0 ((jn (U0.seen p1) s1).seen p2)) wb B (y.dB.grew (k := k) ⟨by rw [z0_next, st5.1]; exact g.1, by rw [z0_next, st5.1]; exact g.2.1, fun x hx => (st5.2 x).trans (g.2.2 x hx)⟩) i
        have ro6 : RO ((jn (U0.seen p1) s1).seen p2) (jn ((jn (U0.seen p1) s1).seen p2) s2) := ro'.jn
        have st6 := st5.trans ro6.1
        have g6 : Grew k s0 (jn ((jn (U0.seen p1) s1).seen p2) s2) := g.still st6
        have n6 := g6.2.1
        obtain ⟨v', s', b1, b2, b3, b4, b5⟩ := appU1 s0 (jn ((jn (U0.seen p1) s1).seen p2) s2) d D ((dgt A i + dgt B i + c) % 65536) k (callN E m) (hu.grew (k := 0) (Still.grew st6)) hw h8 g6 (own_ro o5 ro6) (by omega) (by omega)
        exact ⟨s1, s2, _, _, c1, ro, rU_c _ _ _ _, st4.1, st4.2, c2, ro', rU_c _ _ _ _, v', s', us1 _ _ _ (by omega), b1, b2, b3, b4, b5⟩
      have rest : ∀ v' s', Us s' v' (D ++ [(dgt A i + dgt B i + c) % 65536]) → NwU s0.next v' → Grew (k + 2) s0 s' → Own s0 s' → ∃ d' z z' D' u', loopV (B53_l1 (callN E m) m (.pointer (some ⟨p1, 0, none⟩), .pointer (some ⟨p2, 0, none⟩), x3)) fuel (v', .int .u64 ((dgt A i + dgt B i + c) / 65536), .int .i64 ((i + 1 : Nat) : Int)) s' = some (.exit 2, ((d', z, z'), u')) ∧ Us u' d' D' ∧ Dg D' ∧ D'.length ≤ 41 ∧ bv D' = bv A + bv B ∧ Grew (k + 2 * (n + 1)) s0 u' ∧ Own s0 u' := by
        intro v' s' b2 b3 b4 b5
        obtain ⟨d', z, z', D', u', r1, r2, r3, r4, r5, r6, r7⟩ := ih fuel (i + 1) (k + 2) s' v' ((dgt A i + dgt B i + c) / 65536) (D ++ [(dgt A i + dgt B i + c) % 65536]) (by omega) (by rw [List.length_append, ho]; rfl) (hd.append (Dg.one (by omega))) (by omega) (by
          intro he
          rw [dgt_above (by omega), dgt_above (by omega)]
          omega) (by
          rw [bv_append, ho, bv_take_succ, bv_take_succ]
          have e2 : bv [(dgt A i + dgt B i + c) % 65536] = (dgt A i + dgt B i + c) % 65536 := by simp [bv]
          rw [e2]
          exact add_val _ _ _ _ _ _ _ _ _ hv (by omega)) b2 b3 b4 b5 (by omega) (by omega)
        exact ⟨d', z, z', D', u', r1, r2, r3, r4, r5, r6.mono (by omega), r7⟩
      rw [loopV_s, B53_l1]
      simp only [z0_e]
      by_cases h1 : i < A.length
      · have e1 : decide ((i : Int) < (A.length : Int)) = true := decide_eq_true (by omega)
        obtain ⟨s1, s2, S4, S6, c1, ro, q1, n4, k4, c2, ro', q2, v', s', us, b1, b2, b3, b4, b5⟩ := core (u.seen p1) (Still.seen _ _) (o.seen _ (by omega))
        simp (maxSteps := 4000000) only [op2_s, op_s, bin_e, pick_e, not_e, ext_e, nth_z, nth_1, nth_2, nth_3, gval_e, gval_u, cmp_e, orUndef_t, orUndef_f, condV_t, condV_f, cond_true, cond_false, eqI_eq, neI_eq, ltI_eq, leI_eq, gtI_eq, geI_eq, Bool.not_true, Bool.not_false, bf_tt, bf_tf, bf_ft, bf_ff, decide_true, decide_false, oneOf_1, oneOf_2, oneOf_3, thenV_n, thenV_e, thenV_r, exV_e, exV_r, Nat.beq_refl, eq_self, new_a, boxA, an_ati, an_atp, an_ats, an_atb, an_ne, set_ati, set_atp, set_ats, set_atb, set_ne, seen_getC, loadn_o, store_2, store_i, store_b, store_s, store_p, load_u, cut_22, put_22, cut_53, cut_55, put_55, put_50, put_51, put_52, put_53, store_5, nth_z, nth_1, nth_2, nth_3, nth_4, nil_u, fa_0, an_next, set_next, St.seen_next, jn_next, z0_next, jn_getC, z0_getC, rU_z, rU_seen, rU_set, rU_an, rU_sl, mov_v, g1, ln, e1, c1, q1, k4, g2, c2, q2, a1, a2, a4, us, b1, a5, ad]
        rw [apartIs (n0 := u.next) (fun _ => u.next) zs12 ?hc ?h0 ?hk _ (by kernel_rfl), cond_true]
        · exact rest v' s' b2 b3 b4 b5
        case hc => exact fun i j _ _ => Nat.le_refl _
        case h0 => exact fun i _ => Nat.le_refl _
        case hk =>
          repeat (first | trivial | refine ⟨kI (by first | exact KI.pure _ _ _ _ _ | exact KI.ld _ _ _ _ _ _ _ (by omega) | exact KI.ro _ _ _ _ _ ro (by simp only [St.seen_next]; omega) | exact KI.ro _ _ _ _ _ ro' (by simp only [St.seen_next]; omega)) (by decide), ?_⟩)
      · have e1 : decide ((i : Int) < (A.length : Int)) = false := decide_eq_false (by omega)
        obtain ⟨s1, s2, S4, S6, c1, ro, q1, n4, k4, c2, ro', q2, v', s', us, b1, b2, b3, b4, b5⟩ := core ((u.seen p1).seen p2) ((Still.seen _ _).trans (Still.seen _ _)) ((o.seen _ (by omega)).seen _ (by rw [St.seen_next]; omega))
        by_cases h2 : i < B.length
        · have e2 : decide ((i : Int) < (B.length : Int)) = true := decide_eq_true (by omega)
          simp (maxSteps := 4000000) only [op2_s, op_s, bin_e, pick_e, not_e, ext_e, nth_z, nth_1, nth_2, nth_3, gval_e, gval_u, cmp_e, orUndef_t, orUndef_f, condV_t, condV_f, cond_true, cond_false, eqI_eq, neI_eq, ltI_eq, leI_eq, gtI_eq, geI_eq, Bool.not_true, Bool.not_false, bf_tt, bf_tf, bf_ft, bf_ff, decide_true, decide_false, oneOf_1, oneOf_2, oneOf_3, thenV_n, thenV_e, thenV_r, exV_e, exV_r, Nat.beq_refl, eq_self, new_a, boxA, an_ati, an_atp, an_ats, an_atb, an_ne, set_ati, set_atp, set_ats, set_atb, set_ne, seen_getC, loadn_o, store_2, store_i, store_b, store_s, store_p, load_u, cut_22, put_22, cut_53, cut_55, put_55, put_50, put_51, put_52, put_53, store_5, nth_z, nth_1, nth_2, nth_3, nth_4, nil_u, fa_0, an_next, set_next, St.seen_next, jn_next, z0_next, jn_getC, z0_getC, rU_z, rU_seen, rU_set, rU_an, rU_sl, mov_v, g1, g2, ln, ln2, e1, e2, c1, q1, k4, c2, q2, a1, a2, a4, us, b1, a5, ad]
          rw [apartIs (n0 := u.next) (fun _ => u.next) zs12 ?hc ?h0 ?hk _ (by kernel_rfl), cond_true]
          · exact rest v' s' b2 b3 b4 b5
          case hc => exact fun i j _ _ => Nat.le_refl _
          case h0 => exact fun i _ => Nat.le_refl _
          case hk =>
            repeat (first | trivial | refine ⟨kI (by first | exact KI.pure _ _ _ _ _ | exact KI.ld _ _ _ _ _ _ _ (by omega) | exact KI.ro _ _ _ _ _ ro (by simp only [St.seen_next]; omega) | exact KI.ro _ _ _ _ _ ro' (by simp only [St.seen_next]; omega)) (by decide), ?_⟩)
        · have e2 : decide ((i : Int) < (B.length : Int)) = false := decide_eq_false (by omega)
          have e3 : decide (0 < c) = true := decide_eq_true (by omega)
          simp (maxSteps := 4000000) only [op2_s, op_s, bin_e, pick_e, not_e, ext_e, nth_z, nth_1, nth_2, nth_3, gval_e, gval_u, cmp_e, orUndef_t, orUndef_f, condV_t, condV_f, cond_true, cond_false, eqI_eq, neI_eq, ltI_eq, leI_eq, gtI_eq, geI_eq, Bool.not_true, Bool.not_false, bf_tt, bf_tf, bf_ft, bf_ff, decide_true, decide_false, oneOf_1, oneOf_2, oneOf_3, thenV_n, thenV_e, thenV_r, exV_e, exV_r, Nat.beq_refl, eq_self, new_a, boxA, an_ati, an_atp, an_ats, an_atb, an_ne, set_ati, set_atp, set_ats, set_atb, set_ne, seen_getC, loadn_o, store_2, store_i, store_b, store_s, store_p, load_u, cut_22, put_22, cut_53, cut_55, put_55, put_50, put_51, put_52, put_53, store_5, nth_z, nth_1, nth_2, nth_3, nth_4, nil_u, fa_0, an_next, set_next, St.seen_next, jn_next, z0_next, jn_getC, z0_getC, rU_z, rU_seen, rU_set, rU_an, rU_sl, mov_v, g1, g2, ln, ln2, e1, e2, e3, c1, q1, k4, c2, q2, a1, a2, a4, us, b1, a5, ad]
          rw [apartIs (n0 := u.next) (fun _ => u.next) zs12 ?hc ?h0 ?hk _ (by kernel_rfl), cond_true]
          · exact rest v' s' b2 b3 b4 b5
          case hc => exact fun i j _ _ => Nat.le_refl _
          case h0 => exact fun i _ => Nat.le_refl _
          case hk =>
            repeat (first | trivial | refine ⟨kI (by first | exact KI.pure _ _ _ _ _ | exact KI.ld _ _ _ _ _ _ _ (by omega) | exact KI.ro _ _ _ _ _ ro (by simp only [St.seen_next]; omega) | exact KI.ro _ _ _ _ _ ro' (by simp only [St.seen_next]; omega)) (by decide), ?_⟩)
    · have hc0 : c = 0 := by omega
      exact stop i k u d c D fuel (n + 1) (by omega) ho hd hc0 (by omega) (by omega) hv hu g o
end Go.Proofs.Ytdnedangfnincaa.AbsAccR
namespace Go.Proofs.Ytdnedangfnincaa.AbsAccR
open Go Go.Abs Go.Proofs
set_option maxRecDepth 100000
set_option linter.unusedVariables false
set_option linter.unusedSimpArgs false

attribute [local congr] h_opt2 h_opt h_condV h_cond
/-! the document's numbers: Add, whole -/
theorem end53 (m : Nat) (hm : 1010 ≤ m) (s u : St) (k : Nat) (f : Bool) (d : Value) (D : List Int) (p3 : Nat) (hu : Us u d D) (hd : Dg D) (hD : D.length ≤ 100) (G : Grew k s u) (O : Own s u) (h3 : s.next ≤ p3) (h3' : p3 < u.next) (hc : ∃ p q, u.getC p3 = some [.bool p, q]) (h8 : 8 ≤ s.next) (hl : s.next + k + 5 ≤ lim) :
    ∃ x t, (opt2 (callN E m 71 [aggOf [.bool f, d]] u) fun x4 s => opt2 (oStore 2 (.v (.pointer (some ⟨p3, 0, none⟩))) (.v x4) (callN E m) PT.nil s) fun _ s => opt (s.getC p3) fun c => cutF s p3 0 2 c) = some (x, t) ∧ BigAt t x (sg f D) ∧ Grew (k + 2) s t ∧ Own s t := by
  have g1 := G.1; have g2 := G.2.1
  obtain ⟨y, t, c1, c2, c3, c4⟩ := r71 m hm u f d D (usDg hu) hd (by omega) (by omega) (by omega)
  have k1 := c3.1; have k2 := c3.2.1
  obtain ⟨p, q, hc⟩ := hc
  rw [c1, op2_s]
  exact tail_b c2 (G.trans c3) (O.trans c4) h3 (by omega) ⟨p, q, (c3.2.2 _ h3').trans hc⟩ (by omega) (by omega) (callN E m) PT.nil
theorem r53 (M : Nat) (hM : 1100 ≤ M) (s : St) (x y : Value) (a b : Int) (hx : BigAt s x a) (hy : BigAt s y b) (ha : Bd a) (hb : Bd b) (h8 : 8 ≤ s.next) (hl : s.next + 200 ≤ lim) :
    ∃ v s', callN E M 53 [x, y] s = some (v, s') ∧ BigAt s' v (a + b) ∧ Grew 100 s s' ∧ Own s s' := by
  have hlim : lim = 1000000000 := rfl
  obtain ⟨m, rfl⟩ : ∃ m, M = m + 1 := ⟨M - 1, by omega⟩
  obtain ⟨wa, rfl, hwa⟩ := hx
  obtain ⟨wb, rfl, hwb⟩ := hy
  have la := bd_len ha; have lb := bd_len hb
  have Ia := big_is a; have Ib := big_is b
  have va := Ia.val; have vb' := Ib.val
  obtain ⟨na, hna⟩ : ∃ z, z = (big a).1 := ⟨_, rfl⟩
  obtain ⟨nb, hnb⟩ : ∃ z, z = (big b).1 := ⟨_, rfl⟩
  obtain ⟨A, hA⟩ : ∃ z, z = (big a).2 := ⟨_, rfl⟩
  obtain ⟨B, hB⟩ : ∃ z, z = (big b).2 := ⟨_, rfl⟩
  have dA := Ia.dg; have dB := Ib.dg; have xA := Ia.norm; have xB := Ib.norm
  rw [← hna, ← hA] at va
  rw [← hnb, ← hB] at vb'
  rw [← hA] at hwa la dA xA
  rw [← hB] at hwb lb dB xB
  rw [← hna, ← hnb]
  obtain ⟨S0, hS0⟩ : ∃ z, z = an (an (an s [.bool na, wa]) [.bool nb, wb]) [.bool false, .slice none 0 0] := ⟨_, rfl⟩
  have G0 : Grew 3 s S0 := by rw [hS0]; (repeat (first | exact Grew.refl _ | assumption | refine Grew.seen ?_ _ | refine Grew.set ?_ _ _ (by (first | omega | (simp only [an_next, set_next, St.seen_next, jn_next, z0_next]; try omega; done))) (by (first | omega | (simp only [an_next, set_next, St.seen_next, jn_next, z0_next]; try omega; done))) | refine Grew.an ?_ _ (by (first | omega | (simp only [an_next, set_next, St.seen_next, jn_next, z0_next]; try omega; done)))))
  have O0 : Own s S0 := by rw [hS0]; exact (((Own.refl s).an _ (by omega)).an _ (by rw [an_next]; omega)).an _ (by simp only [an_next]; omega)
  have n0 : S0.next = s.next + 3 := by rw [hS0]; simp only [an_next]
  have c1 : S0.getC s.next = some [.bool na, wa] := by rw [hS0]; simp (disch := (first | omega | (simp only [an_next, set_next, St.seen_next, jn_next, z0_next]; try omega; done))) only [new_a, boxA, an_ati, an_atp, an_ats, an_atb, an_ne, set_ati, set_atp, set_ats, set_atb, set_ne, seen_getC, loadn_o, store_2, store_i, store_b, store_s, store_p, load_u, cut_22, put_22, cut_53, cut_55, put_55, put_50, put_51, put_52, put_53, store_5, nth_z, nth_1, nth_2, nth_3, nth_4, nil_u, fa_0, an_next, set_next, St.seen_next, jn_next, z0_next, jn_getC, z0_getC, rU_z, rU_seen, rU_set, rU_an, rU_sl]
  have c2 : S0.getC (s.next + 1) = some [.bool nb, wb] := by rw [hS0]; simp (disch := (first | omega | (simp only [an_next, set_next, St.seen_next, jn_next, z0_next]; try omega; done))) only [new_a, boxA, an_ati, an_atp, an_ats, an_atb, an_ne, set_ati, set_atp, set_ats, set_atb, set_ne, seen_getC, loadn_o, store_2, store_i, store_b, store_s, store_p, load_u, cut_22, put_22, cut_53, cut_55, put_55, put_50, put_51, put_52, put_53, store_5, nth_z, nth_1, nth_2, nth_3, nth_4, nil_u, fa_0, an_next, set_next, St.seen_next, jn_next, z0_next, jn_getC, z0_getC, rU_z, rU_seen, rU_set, rU_an, rU_sl]
  have c3 : S0.getC (s.next + 2) = some [.bool false, .slice none 0 0] := by rw [hS0]; simp (disch := (first | omega | (simp only [an_next, set_next, St.seen_next, jn_next, z0_next]; try omega; done))) only [new_a, boxA, an_ati, an_atp, an_ats, an_atb, an_ne, set_ati, set_atp, set_ats, set_atb, set_ne, seen_getC, loadn_o, store_2, store_i, store_b, store_s, store_p, load_u, cut_22, put_22, cut_53, cut_55, put_55, put_50, put_51, put_52, put_53, store_5, nth_z, nth_1, nth_2, nth_3, nth_4, nil_u, fa_0, an_next, set_next, St.seen_next, jn_next, z0_next, jn_getC, z0_getC, rU_z, rU_seen, rU_set, rU_an, rU_sl]
  have nil0 : ∀ t : St, Us t (.slice none 0 0) [] := fun t => .inl ⟨rfl, rfl⟩
  have nwn : ∀ n, NwU n (.slice none 0 0) := fun n b c k h => by cases h
  have dn : Dg [] := fun x hx => absurd hx List.not_mem_nil
  rw [x53]
  unfold F53
  by_cases hs : na = nb
  · subst hs
    have e1 : (na == na) = true := beq_self_eq_true na
    obtain ⟨S1, hS1⟩ : ∃ z, z = (S0.seen s.next).seen (s.next + 1) := ⟨_, rfl⟩
    have st : Still S0 S1 := by rw [hS1]; exact (Still.seen _ _).trans (Still.seen _ _)
    have o1 : Own s S1 := by rw [hS1]; exact (O0.seen _ (by omega)).seen _ (by rw [St.seen_next]; omega)
    have g1 : Grew 3 s S1 := G0.still st
    have yy : AddS S1 s.next (s.next + 1) na na wa wb A B := ⟨hwa.grew g1, hwb.grew g1, (st.2 _).trans c1, (st.2 _).trans c2, by rw [st.1]; omega, by rw [st.1]; omega, dA, dB, by omega, by omega⟩
    obtain ⟨d', z, z', D', u', r1, r2, r3, r4, r5, r6, r7⟩ := loop53_1 m (by omega) S1 (by rw [st.1]; omega) s.next (s.next + 1) (.pointer (some ⟨s.next + 2, 0, none⟩)) na na wa wb A B yy 20 la lb (by omega) 21 m 0 0 S1 (.slice none 0 0) 0 [] (by omega) rfl dn (by omega) (fun h => by omega) (by simp [bv]) (nil0 _) (nwn _) (Grew.refl S1) (Own.refl S1) (by rw [st.1]; omega) (by omega)
    have k1 := r6.1; have k2 := r6.2.1
    rw [st.1] at k1 k2
    have x1 : u'.getC s.next = some [.bool na, wa] := (r6.2.2 _ (by rw [st.1]; omega)).trans ((st.2 _).trans c1)
    have x3 : (u'.seen s.next).getC (s.next + 2) = some [.bool false, .slice none 0 0] := (seen_getC _ _ _).trans ((r6.2.2 _ (by rw [st.1]; omega)).trans ((st.2 _).trans c3))
    obtain ⟨v, t, w1, w2, w3, w4⟩ := end53 m (by omega) s (u'.seen s.next) 50 na d' D' (s.next + 2) (r2.grew (Grew.seen (Grew.refl u') _)) r3 (by omega) (((g1.trans r6).seen _).mono (by omega)) ((o1.trans r7).seen _ (by omega)) (by omega) (by rw [St.seen_next]; omega) ⟨_, _, x3⟩ h8 (by omega)
    have hz : sg na D' = a + b := by rw [← va, ← vb']; unfold sg; rw [r5]; cases na <;> simp <;> omega
    rw [hz] at w2
    have bb := buB na d' (usDg r2).one
    rw [show ((0 : Nat) : Int) = 0 from rfl] at r1
    simp (maxSteps := 4000000) (disch := (first | omega | (simp only [an_next, set_next, St.seen_next, jn_next, z0_next]; try omega; done))) only [op2_s, op_s, bin_e, pick_e, not_e, ext_e, nth_z, nth_1, nth_2, nth_3, gval_e, gval_u, cmp_e, orUndef_t, orUndef_f, condV_t, condV_f, cond_true, cond_false, eqI_eq, neI_eq, ltI_eq, leI_eq, gtI_eq, geI_eq, Bool.not_true, Bool.not_false, bf_tt, bf_tf, bf_ft, bf_ff, decide_true, decide_false, oneOf_1, oneOf_2, oneOf_3, thenV_n, thenV_e, thenV_r, exV_e, exV_r, Nat.beq_refl, eq_self, new_a, boxA, an_ati, an_atp, an_ats, an_atb, an_ne, set_ati, set_atp, set_ats, set_atb, set_ne, seen_getC, loadn_o, store_2, store_i, store_b, store_s, store_p, load_u, cut_22, put_22, cut_53, cut_55, put_55, put_50, put_51, put_52, put_53, store_5, nth_z, nth_1, nth_2, nth_3, nth_4, nil_u, fa_0, an_next, set_next, St.seen_next, jn_next, z0_next, jn_getC, z0_getC, rU_z, rU_seen, rU_set, rU_an, rU_sl, ← hS0, c1, c2, eqvB, e1, ← hS1, J53_r2, r1, C53_l1, J53_r1, x1, bb, fin_c]
    exact ⟨v, t, w1, w2, w3.mono (by omega), w4⟩
  · have e1 : (na == nb) = false := by cases na <;> cases nb <;> simp at hs ⊢
    obtain ⟨S1, hS1⟩ : ∃ z, z = (((S0.seen s.next).seen (s.next + 1)).seen s.next).seen (s.next + 1) := ⟨_, rfl⟩
    have st : Still S0 S1 := by rw [hS1]; exact (((Still.seen _ _).trans (Still.seen _ _)).trans (Still.seen _ _)).trans (Still.seen _ _)
    have o1 : Own s S1 := by rw [hS1]; exact (((O0.seen _ (by omega)).seen _ (by rw [St.seen_next]; omega)).seen _ (by simp only [St.seen_next]; omega)).seen _ (by simp only [St.seen_next]; omega)
    have g1 : Grew 3 s S1 := G0.still st
    obtain ⟨S2, q1, q2⟩ := r70 m (by omega) S1 wa wb A B (hwa.grew g1) (hwb.grew g1) dA dB xA xB (by omega) (by omega)
    have st2 := st.trans q2.1
    have g2 : Grew 3 s S2 := G0.still st2
    have o2 : Own s S2 := own_ro o1 q2
    by_cases hlt : bv A < bv B
    · have hlen : A.length ≤ B.length := norm_len dA xA (by have := bv_bd B dB; omega)
      obtain ⟨S3, hS3⟩ : ∃ z, z = (((S2.seen (s.next + 1)).seen s.next).set s.next (some [.bool nb, wb])).set (s.next + 1) (some [.bool na, wa]) := ⟨_, rfl⟩
      have n2 : S2.next = s.next + 3 := by rw [st2.1, n0]
      have n3 : S3.next = s.next + 3 := by rw [hS3]; simp only [set_next, St.seen_next, n2]
      have g3 : Grew 3 s S3 := by rw [hS3]; exact (((g2.seen _).seen _).set _ _ (by omega) (by omega)).set _ _ (by omega) (by omega)
      have o3 : Own s S3 := by rw [hS3]; exact (((o2.seen _ (by omega)).seen _ (by rw [St.seen_next]; omega)).set _ _ (by omega) (by simp only [St.seen_next]; omega)).set _ _ (by omega) (by simp only [set_next, St.seen_next]; omega)
      have z1 : S2.getC s.next = some [.bool na, wa] := (st2.2 _).trans c1
      have z2 : S2.getC (s.next + 1) = some [.bool nb, wb] := (st2.2 _).trans c2
      have y1 : S3.getC s.next = some [.bool nb, wb] := by rw [hS3]; simp (disch := (first | omega | (simp only [an_next, set_next, St.seen_next, jn_next, z0_next]; try omega; done))) only [new_a, boxA, an_ati, an_atp, an_ats, an_atb, an_ne, set_ati, set_atp, set_ats, set_atb, set_ne, seen_getC, loadn_o, store_2, store_i, store_b, store_s, store_p, load_u, cut_22, put_22, cut_53, cut_55, put_55, put_50, put_51, put_52, put_53, store_5, nth_z, nth_1, nth_2, nth_3, nth_4, nil_u, fa_0, an_next, set_next, St.seen_next, jn_next, z0_next, jn_getC, z0_getC, rU_z, rU_seen, rU_set, rU_an, rU_sl]
      have y2 : S3.getC (s.next + 1) = some [.bool na, wa] := by rw [hS3]; simp (disch := (first | omega | (simp only [an_next, set_next, St.seen_next, jn_next, z0_next]; try omega; done))) only [new_a, boxA, an_ati, an_atp, an_ats, an_atb, an_ne, set_ati, set_atp, set_ats, set_atb, set_ne, seen_getC, loadn_o, store_2, store_i, store_b, store_s, store_p, load_u, cut_22, put_22, cut_53, cut_55, put_55, put_50, put_51, put_52, put_53, store_5, nth_z, nth_1, nth_2, nth_3, nth_4, nil_u, fa_0, an_next, set_next, St.seen_next, jn_next, z0_next, jn_getC, z0_getC, rU_z, rU_seen, rU_set, rU_an, rU_sl]
      have y3 : S3.getC (s.next + 2) = some [.bool false, .slice none 0 0] := by rw [hS3, set_ne _ _ _ _ (by omega) (by omega), set_ne _ _ _ _ (by omega) (by omega), seen_getC, seen_getC]; exact (st2.2 _).trans c3
      have yy : AddS S3 s.next (s.next + 1) nb na wb wa B A := ⟨hwb.grew g3, hwa.grew g3, y1, y2, by omega, by omega, dB, dA, by omega, by omega⟩
      obtain ⟨d', z, z', D', u', r1, r2, r3, r4, r5, r6, r7⟩ := loop53_0 m (by omega) S3 (by omega) s.next (s.next + 1) (.pointer (some ⟨s.next + 2, 0, none⟩)) nb na wb wa B A yy (by omega) hlen B.length m 0 0 S3 (.slice none 0 0) 0 [] (by omega) rfl dn (by omega) (by simp [bv]) (nil0 _) (nwn _) (Grew.refl S3) (Own.refl S3) (by omega) (by omega)
      have k1 := r6.1; have k2 := r6.2.1
      have x1 : u'.getC s.next = some [.bool nb, wb] := (r6.2.2 _ (by omega)).trans y1
      have x3 : (u'.seen s.next).getC (s.next + 2) = some [.bool false, .slice none 0 0] := (seen_getC _ _ _).trans ((r6.2.2 _ (by omega)).trans y3)
      obtain ⟨v, t, w1, w2, w3, w4⟩ := end53 m (by omega) s (u'.seen s.next) 50 nb d' D' (s.next + 2) (r2.grew (Grew.seen (Grew.refl u') _)) r3 (by omega) (((g3.trans r6).seen _).mono (by omega)) ((o3.trans r7).seen _ (by omega)) (by omega) (by rw [St.seen_next]; omega) ⟨_, _, x3⟩ h8 (by omega)
      have hz : sg nb D' = a + b := by rw [← va, ← vb']; unfold sg; rw [r5]; cases na <;> cases nb <;> simp at hs ⊢ <;> omega
      rw [hz] at w2
      have bb := buB nb d' (usDg r2).one
      rw [show ((0 : Nat) : Int) = 0 from rfl] at r1
      rw [decide_eq_true hlt] at q1
      simp (maxSteps := 4000000) (disch := (first | omega | (simp only [an_next, set_next, St.seen_next, jn_next, z0_next]; try omega; done))) only [op2_s, op_s, bin_e, pick_e, not_e, ext_e, nth_z, nth_1, nth_2, nth_3, gval_e, gval_u, cmp_e, orUndef_t, orUndef_f, condV_t, condV_f, cond_true, cond_false, eqI_eq, neI_eq, ltI_eq, leI_eq, gtI_eq, geI_eq, Bool.not_true, Bool.not_false, bf_tt, bf_tf, bf_ft, bf_ff, decide_true, decide_false, oneOf_1, oneOf_2, oneOf_3, thenV_n, thenV_e, thenV_r, exV_e, exV_r, Nat.beq_refl, eq_self, new_a, boxA, an_ati, an_atp, an_ats, an_atb, an_ne, set_ati, set_atp, set_ats, set_atb, set_ne, seen_getC, loadn_o, store_2, store_i, store_b, store_s, store_p, load_u, cut_22, put_22, cut_53, cut_55, put_55, put_50, put_51, put_52, put_53, store_5, nth_z, nth_1, nth_2, nth_3, nth_4, nil_u, fa_0, an_next, set_next, St.seen_next, jn_next, z0_next, jn_getC, z0_getC, rU_z, rU_seen, rU_set, rU_an, rU_sl, ← hS0, c1, c2, eqvB, e1, ← hS1, q1, z1, z2, ← hS3, r1, C53_l0, J53_r0, x1, bb, fin_c]
      exact ⟨v, t, w1, w2, w3.mono (by omega), w4⟩
    · have hlen : B.length ≤ A.length := norm_len dB xB (by have := bv_bd A dA; omega)
      have yy : AddS S2 s.next (s.next + 1) na nb wa wb A B := ⟨hwa.grew g2, hwb.grew g2, (st2.2 _).trans c1, (st2.2 _).trans c2, by rw [st2.1]; omega, by rw [st2.1]; omega, dA, dB, by omega, by omega⟩
      obtain ⟨d', z, z', D', u', r1, r2, r3, r4, r5, r6, r7⟩ := loop53_0 m (by omega) S2 (by rw [st2.1]; omega) s.next (s.next + 1) (.pointer (some ⟨s.next + 2, 0, none⟩)) na nb wa wb A B yy (by omega) hlen A.length m 0 0 S2 (.slice none 0 0) 0 [] (by omega) rfl dn (by omega) (by simp [bv]) (nil0 _) (nwn _) (Grew.refl S2) (Own.refl S2) (by rw [st2.1]; omega) (by omega)
      have k1 := r6.1; have k2 := r6.2.1
      rw [st2.1] at k1 k2
      have x1 : u'.getC s.next = some [.bool na, wa] := (r6.2.2 _ (by rw [st2.1]; omega)).trans ((st2.2 _).trans c1)
      have x3 : (u'.seen s.next).getC (s.next + 2) = some [.bool false, .slice none 0 0] := (seen_getC _ _ _).trans ((r6.2.2 _ (by rw [st2.1]; omega)).trans ((st2.2 _).trans c3))
      obtain ⟨v, t, w1, w2, w3, w4⟩ := end53 m (by omega) s (u'.seen s.next) 50 na d' D' (s.next + 2) (r2.grew (Grew.seen (Grew.refl u') _)) r3 (by omega) (((g2.trans r6).seen _).mono (by omega)) ((o2.trans r7).seen _ (by omega)) (by omega) (by rw [St.seen_next]; omega) ⟨_, _, x3⟩ h8 (by omega)
      have hz : sg na D' = a + b := by rw [← va, ← vb']; unfold sg; rw [r5]; cases na <;> cases nb <;> simp at hs ⊢ <;> omega
      rw [hz] at w2
      have bb := buB na d' (usDg r2).one
      rw [show ((0 : Nat) : Int) = 0 from rfl] at r1
      rw [decide_eq_false hlt] at q1
      simp (maxSteps := 4000000) (disch := (first | omega | (simp only [an_next, set_next, St.seen_next, jn_next, z0_next]; try omega; done))) only [op2_s, op_s, bin_e, pick_e, not_e, ext_e, nth_z, nth_1, nth_2, nth_3, gval_e, gval_u, cmp_e, orUndef_t, orUndef_f, condV_t, condV_f, cond_true, cond_false, eqI_eq, neI_eq, ltI_eq, leI_eq, gtI_eq, geI_eq, Bool.not_true, Bool.not_false, bf_tt, bf_tf, bf_ft, bf_ff, decide_true, decide_false, oneOf_1, oneOf_2, oneOf_3, thenV_n, thenV_e, thenV_r, exV_e, exV_r, Nat.beq_refl, eq_self, new_a, boxA, an_ati, an_atp, an_ats, an_atb, an_ne, set_ati, set_atp, set_ats, set_atb, set_ne, seen_getC, loadn_o, store_2, store_i, store_b, store_s, store_p, load_u, cut_22, put_22, cut_53, cut_55, put_55, put_50, put_51, put_52, put_53, store_5, nth_z, nth_1, nth_2, nth_3, nth_4, nil_u, fa_0, an_next, set_next, St.seen_next, jn_next, z0_next, jn_getC, z0_getC, rU_z, rU_seen, rU_set, rU_an, rU_sl, ← hS0, c1, c2, eqvB, e1, ← hS1, q1, r1, C53_l0, J53_r0, x1, bb, fin_c]
      exact ⟨v, t, w1, w2, w3.mono (by omega), w4⟩
end Go.Proofs.Ytdnedangfnincaa.AbsAccR
namespace Go.Proofs.Ytdnedangfnincaa.AbsAccR
open Go Go.Abs Go.Proofs
set_option maxRecDepth 100000
set_option linter.unusedVariables false
set_option linter.unusedSimpArgs false

attribute [local congr] h_opt2 h_opt h_condV h_cond
/-! the document's numbers: Cmp -/
theorem BigAt.z {s : St} {x : Value} {z : Int} (h : BigAt s x z) : BigAt (z0 s) x z := by
  obtain ⟨w, h1, h2⟩ := h
  exact ⟨w, h1, h2.keep (by rw [z0_next]; exact Nat.le_refl _) fun y _ => z0_getC s y⟩
theorem BigAt.j {s u : St} {x : Value} {z : Int} (h : BigAt s x z) : BigAt (jn u s) x z := by
  obtain ⟨w, h1, h2⟩ := h
  exact ⟨w, h1, h2.keep (by rw [jn_next]; exact Nat.le_refl _) fun y _ => jn_getC u s y⟩
theorem DgS.z {s : St} {x : Value} {L : List Int} (h : DgS s x L) : DgS (z0 s) x L := h.keep (by rw [z0_next]; exact Nat.le_refl _) fun y _ => z0_getC s y
theorem DgS.j {s u : St} {x : Value} {L : List Int} (h : DgS s x L) : DgS (jn u s) x L := h.keep (by rw [jn_next]; exact Nat.le_refl _) fun y _ => jn_getC u s y
theorem jzG {k j : Nat} {s u s1 : St} (g : Grew k s u) (h : Grew j (z0 u) s1) : Grew (k + j) s (jn u s1) := g.trans h.z0
theorem jzO {s u s1 : St} (g : Own s u) (h : Own (z0 u) s1) : Own s (jn u s1) := g.trans h.jn
theorem big_nil (z : Int) : ((big z).2.length : Int) = 0 ↔ z = 0 := by
  rw [← (big_is z).nil]
  constructor
  · intro h; exact List.eq_nil_of_length_eq_zero (by omega)
  · intro h; rw [h]; rfl
theorem big_neg (z : Int) : (big z).1 = decide (z < 0) := (big_is z).neg
theorem Bd.neg {z : Int} (h : Bd z) : Bd (-z) := by obtain ⟨h1, h2⟩ := h; exact ⟨by omega, by omega⟩
/-- what an operation of a region touches: a load, a call, a new block, a store -/
theorem jR {n0 : Nat} {c : Nat → Nat} {s b : St} {x q : Nat} (h : x < n0) : KJ n0 c ⟨(((z0 s).seen x).rd, ((z0 s).seen x).wr), s, b, none⟩ (0, q) := (KI.rd n0 c s b 0 x h :)
theorem jP {n0 : Nat} {c : Nat → Nat} {s b : St} {q : Nat × Nat} (h : q.1 < 2) : KJ n0 c ⟨(0, 0), s, b, none⟩ q := by
  obtain ⟨p, q⟩ := q
  match p, h with
  | 0, _ => exact (KI.pure n0 c s b 0 :)
  | 1, _ => exact (KI.pure n0 c s b (q + 1) :)
theorem jC {n0 : Nat} {c : Nat → Nat} {s s1 b : St} {k : Nat} (h : Own (z0 s) s1) (h1 : c (k + 1) ≤ s.next) (h2 : s1.next ≤ c (k + 1 + 1)) : KJ n0 c ⟨(s1.rd, s1.wr), s, b, none⟩ (2, k) := (KO.own c s s1 b (k + 1) h h1 h2 :)
theorem jM {n0 : Nat} {c : Nat → Nat} {s s1 b : St} {k : Nat} (h : Mine (z0 s) s1) (h1 : c (k + 1) ≤ s.next) (h2 : s1.next ≤ c (k + 1 + 1)) : KJ n0 c ⟨(s1.rd, s1.wr), s, b, none⟩ (1, k) := (KI.mine n0 c s s1 b k h h1 h2 :)
theorem jA {n0 : Nat} {c : Nat → Nat} {s b : St} {k : Nat} {d : Blk} (h1 : c (k + 1) ≤ s.next) (h2 : s.next + 1 ≤ c (k + 1 + 1)) (hl : s.next ≤ lim := by omega) : KJ n0 c ⟨((an (z0 s) d).rd, (an (z0 s) d).wr), s, b, none⟩ (1, k) :=
  jM ((Mine.refl (z0 s)).an d (by rw [z0_next]; exact hl)) h1 (by rw [an_next, z0_next]; exact h2)
theorem jS {n0 : Nat} {c : Nat → Nat} {s b : St} {k x : Nat} {d : Option Blk} (h1 : c (k + 1) ≤ x) (h2 : x < c (k + 1 + 1)) : KJ n0 c ⟨(((z0 s).set x d).rd, ((z0 s).set x d).wr), s, b, none⟩ (1, k) := (KI.set n0 c s b k x d h1 h2 :)
def sgn (z : Int) : Int := if z = 0 then 0 else if z < 0 then -1 else 1
/-- Cmp -/
theorem r25 (M : Nat) (hM : 1200 ≤ M) (s : St) (x y : Value) (a b : Int) (hx : BigAt s x a) (hy : BigAt s y b) (ha : Bd a) (hb : Bd b) (h8 : 8 ≤ s.next) (hl : s.next + 400 ≤ lim) :
    ∃ s', callN E M 25 [x, y] s = some (.int .i64 (sgn (a - b)), s') ∧ Grew 110 s s' ∧ Own s s' := by
  have hlim : lim = 1000000000 := rfl
  obtain ⟨m, rfl⟩ : ∃ m, M = m + 1 := ⟨M - 1, by omega⟩
  have hx' := hx
  have hy' := hy
  obtain ⟨wa, rfl, hwa⟩ := hx
  obtain ⟨wb, rfl, hwb⟩ := hy
  obtain ⟨S0, hS0⟩ : ∃ z, z = an (an s [.bool (big a).1, wa]) [.bool (big b).1, wb] := ⟨_, rfl⟩
  have G0 : Grew 2 s S0 := by rw [hS0]; (repeat (first | exact Grew.refl _ | assumption | refine Grew.seen ?_ _ | refine Grew.set ?_ _ _ (by (first | omega | (simp only [an_next, set_next, St.seen_next, jn_next, z0_next]; try omega; done))) (by (first | omega | (simp only [an_next, set_next, St.seen_next, jn_next, z0_next]; try omega; done))) | refine Grew.an ?_ _ (by (first | omega | (simp only [an_next, set_next, St.seen_next, jn_next, z0_next]; try omega; done)))))
  have O0 : Own s S0 := by rw [hS0]; exact ((Own.refl s).an _ (by omega)).an _ (by rw [an_next]; omega)
  have n0 : S0.next = s.next + 2 := by rw [hS0]; simp only [an_next]
  have c1 : S0.getC s.next = some [.bool (big a).1, wa] := by rw [hS0]; simp (disch := (first | omega | (simp only [an_next, set_next, St.seen_next, jn_next, z0_next]; try omega; done))) only [new_a, boxA, an_ati, an_atp, an_ats, an_atb, an_ne, set_ati, set_atp, set_ats, set_atb, set_ne, seen_getC, loadn_o, store_2, store_i, store_b, store_s, store_p, load_u, cut_22, put_22, cut_53, cut_55, put_55, put_50, put_51, put_52, put_53, store_5, nth_z, nth_1, nth_2, nth_3, nth_4, nil_u, fa_0, an_next, set_next, St.seen_next, jn_next, z0_next, jn_getC, z0_getC, rU_z, rU_seen, rU_set, rU_an, rU_sl]
  have c2 : S0.getC (s.next + 1) = some [.bool (big b).1, wb] := by rw [hS0]; simp (disch := (first | omega | (simp only [an_next, set_next, St.seen_next, jn_next, z0_next]; try omega; done))) only [new_a, boxA, an_ati, an_atp, an_ats, an_atb, an_ne, set_ati, set_atp, set_ats, set_atb, set_ne, seen_getC, loadn_o, store_2, store_i, store_b, store_s, store_p, load_u, cut_22, put_22, cut_53, cut_55, put_55, put_50, put_51, put_52, put_53, store_5, nth_z, nth_1, nth_2, nth_3, nth_4, nil_u, fa_0, an_next, set_next, St.seen_next, jn_next, z0_next, jn_getC, z0_getC, rU_z, rU_seen, rU_set, rU_an, rU_sl]
  obtain ⟨S1, hS1⟩ : ∃ z, z = (S0.seen s.next).seen (s.next + 1) := ⟨_, rfl⟩
  have G1 : Grew 2 s S1 := by rw [hS1]; exact (G0.seen _).seen _
  have O1 : Own s S1 := by rw [hS1]; exact (O0.seen _ (by omega)).seen _ (by rw [St.seen_next]; omega)
  have n1 : S1.next = s.next + 2 := by rw [hS1]; simp only [St.seen_next, n0]
  obtain ⟨y', s1, d1, d2, d3, d4⟩ := r54 m (by omega) (z0 S1) _ b (hy'.grew G1).z hb (by rw [z0_next]; omega) (by rw [z0_next]; omega)
  have b1 := d3.1; have b1' := d3.2.1
  rw [z0_next] at b1 b1'
  obtain ⟨S2, hS2⟩ : ∃ z, z = jn S1 s1 := ⟨_, rfl⟩
  have G2 : Grew 6 s S2 := by rw [hS2]; exact jzG G1 d3
  have O2 : Own s S2 := by rw [hS2]; exact jzO O1 d4
  have n2 : S2.next = s1.next := by rw [hS2, jn_next]
  have e2 : BigAt S2 y' (-b) := by rw [hS2]; exact d2.j
  obtain ⟨v, s2, f1, f2, f3, f4⟩ := r53 m (by omega) (z0 S2) _ y' a (-b) (hx'.grew G2).z e2.z ha hb.neg (by rw [z0_next]; omega) (by rw [z0_next]; omega)
  have b2 := f3.1; have b2' := f3.2.1
  rw [z0_next] at b2 b2'
  obtain ⟨S3, hS3⟩ : ∃ z, z = jn S2 s2 := ⟨_, rfl⟩
  have G3 : Grew 106 s S3 := by rw [hS3]; exact jzG G2 f3
  have O3 : Own s S3 := by rw [hS3]; exact jzO O2 f4
  have n3 : S3.next = s2.next := by rw [hS3, jn_next]
  have e3 : BigAt S3 v (a + -b) := by rw [hS3]; exact f2.j
  rw [show a + -b = a - b by omega] at e3
  obtain ⟨w, rfl, e4⟩ := e3
  have q1 := rU_c y' PT.nil S1 s1
  rw [← hS2] at q1
  have q2 := rU_c (aggOf [.bool (big (a - b)).1, w]) PT.nil S2 s2
  rw [← hS3] at q2
  obtain ⟨S4, hS4⟩ : ∃ z, z = (an S3 [.bool false, .slice none 0 0]).set s2.next (some [.bool (big (a - b)).1, w]) := ⟨_, rfl⟩
  have c4 : S4.getC s2.next = some [.bool (big (a - b)).1, w] := by rw [hS4]; exact set_atb _ _ _ _ _ (by omega) (by omega) rfl
  have G4 : Grew 107 s S4 := by rw [hS4]; exact (G3.an _ (by omega)).set _ _ (by omega) (by omega)
  have O4 : Own s S4 := by rw [hS4]; exact (O3.an _ (by omega)).set _ _ (by omega) (by rw [an_next]; omega)
  have n4 : S4.next = s2.next + 1 := by rw [hS4, set_next, an_next, n3]
  have ln := e4.len
  have hr : ∀ u : St, Grew 107 s u → Own s u → ∀ z, z = sgn (a - b) → ∃ s', some (Value.int .i64 z, u) = some (.int .i64 (sgn (a - b)), s') ∧ Grew 110 s s' ∧ Own s s' := fun u g o z h => ⟨u, by rw [h], g.mono (by omega), o⟩
  have a4 : ∀ u : St, (an u [Value.bool false, .slice none 0 0]).getC u.next = some [Value.bool false, .slice none 0 0] → True := fun _ _ => trivial
  rw [x25]
  unfold F25
  simp only [z0_e]
  simp (disch := (first | omega | (simp only [an_next, set_next, St.seen_next, jn_next, z0_next]; try omega; done))) only [op2_s, op_s, bin_e, pick_e, not_e, ext_e, nth_z, nth_1, nth_2, nth_3, gval_e, gval_u, cmp_e, orUndef_t, orUndef_f, condV_t, condV_f, cond_true, cond_false, eqI_eq, neI_eq, ltI_eq, leI_eq, gtI_eq, geI_eq, Bool.not_true, Bool.not_false, bf_tt, bf_tf, bf_ft, bf_ff, decide_true, decide_false, oneOf_1, oneOf_2, oneOf_3, thenV_n, thenV_e, thenV_r, exV_e, exV_r, Nat.beq_refl, eq_self, new_a, boxA, an_ati, an_atp, an_ats, an_atb, an_ne, set_ati, set_atp, set_ats, set_atb, set_ne, seen_getC, loadn_o, store_2, store_i, store_b, store_s, store_p, load_u, cut_22, put_22, cut_53, cut_55, put_55, put_50, put_51, put_52, put_53, store_5, nth_z, nth_1, nth_2, nth_3, nth_4, nil_u, fa_0, an_next, set_next, St.seen_next, jn_next, z0_next, jn_getC, z0_getC, rU_z, rU_seen, rU_set, rU_an, rU_sl, mov_v, ← hS0, c1, c2, ← hS1, d1, q1, f1, q2, n3, ← hS4]
  rw [apartJs (n0 := s.next + 2) (fun k => if k ≤ 1 then s.next + 2 else if k = 2 then s1.next else if k = 3 then s2.next else s2.next + 1) [(0, 0), (0, 0), (2, 0), (2, 1), (1, 2), (1, 2)] ?hc ?h0 ?hk _ (by kernel_rfl), cond_true]
  · by_cases h0 : a - b = 0
    · have g1 : decide (((big (a - b)).2.length : Int) = 0) = true := decide_eq_true ((big_nil _).mpr h0)
      simp (disch := (first | omega | (simp only [an_next, set_next, St.seen_next, jn_next, z0_next]; try omega; done))) only [op2_s, op_s, bin_e, pick_e, not_e, ext_e, nth_z, nth_1, nth_2, nth_3, gval_e, gval_u, cmp_e, orUndef_t, orUndef_f, condV_t, condV_f, cond_true, cond_false, eqI_eq, neI_eq, ltI_eq, leI_eq, gtI_eq, geI_eq, Bool.not_true, Bool.not_false, bf_tt, bf_tf, bf_ft, bf_ff, decide_true, decide_false, oneOf_1, oneOf_2, oneOf_3, thenV_n, thenV_e, thenV_r, exV_e, exV_r, Nat.beq_refl, eq_self, new_a, boxA, an_ati, an_atp, an_ats, an_atb, an_ne, set_ati, set_atp, set_ats, set_atb, set_ne, seen_getC, loadn_o, store_2, store_i, store_b, store_s, store_p, load_u, cut_22, put_22, cut_53, cut_55, put_55, put_50, put_51, put_52, put_53, store_5, nth_z, nth_1, nth_2, nth_3, nth_4, nil_u, fa_0, an_next, set_next, St.seen_next, jn_next, z0_next, jn_getC, z0_getC, rU_z, rU_seen, rU_set, rU_an, rU_sl, c4, ln, g1]
      exact hr _ (G4.seen _) (O4.seen _ (by omega)) 0 (by unfold sgn; rw [if_pos h0])
    · have g1 : decide (((big (a - b)).2.length : Int) = 0) = false := decide_eq_false (fun h => h0 ((big_nil _).mp h))
      by_cases h1 : a - b < 0
      · have g2 : (big (a - b)).1 = true := by rw [big_neg]; exact decide_eq_true h1
        simp (disch := (first | omega | (simp only [an_next, set_next, St.seen_next, jn_next, z0_next]; try omega; done))) only [op2_s, op_s, bin_e, pick_e, not_e, ext_e, nth_z, nth_1, nth_2, nth_3, gval_e, gval_u, cmp_e, orUndef_t, orUndef_f, condV_t, condV_f, cond_true, cond_false, eqI_eq, neI_eq, ltI_eq, leI_eq, gtI_eq, geI_eq, Bool.not_true, Bool.not_false, bf_tt, bf_tf, bf_ft, bf_ff, decide_true, decide_false, oneOf_1, oneOf_2, oneOf_3, thenV_n, thenV_e, thenV_r, exV_e, exV_r, Nat.beq_refl, eq_self, new_a, boxA, an_ati, an_atp, an_ats, an_atb, an_ne, set_ati, set_atp, set_ats, set_atb, set_ne, seen_getC, loadn_o, store_2, store_i, store_b, store_s, store_p, load_u, cut_22, put_22, cut_53, cut_55, put_55, put_50, put_51, put_52, put_53, store_5, nth_z, nth_1, nth_2, nth_3, nth_4, nil_u, fa_0, an_next, set_next, St.seen_next, jn_next, z0_next, jn_getC, z0_getC, rU_z, rU_seen, rU_set, rU_an, rU_sl, c4, ln, g1, g2]
        exact hr _ ((G4.seen _).seen _) ((O4.seen _ (by omega)).seen _ (by rw [St.seen_next]; omega)) (-1) (by unfold sgn; rw [if_neg h0, if_pos h1])
      · have g2 : (big (a - b)).1 = false := by rw [big_neg]; exact decide_eq_false h1
        simp (disch := (first | omega | (simp only [an_next, set_next, St.seen_next, jn_next, z0_next]; try omega; done))) only [op2_s, op_s, bin_e, pick_e, not_e, ext_e, nth_z, nth_1, nth_2, nth_3, gval_e, gval_u, cmp_e, orUndef_t, orUndef_f, condV_t, condV_f, cond_true, cond_false, eqI_eq, neI_eq, ltI_eq, leI_eq, gtI_eq, geI_eq, Bool.not_true, Bool.not_false, bf_tt, bf_tf, bf_ft, bf_ff, decide_true, decide_false, oneOf_1, oneOf_2, oneOf_3, thenV_n, thenV_e, thenV_r, exV_e, exV_r, Nat.beq_refl, eq_self, new_a, boxA, an_ati, an_atp, an_ats, an_atb, an_ne, set_ati, set_atp, set_ats, set_atb, set_ne, seen_getC, loadn_o, store_2, store_i, store_b, store_s, store_p, load_u, cut_22, put_22, cut_53, cut_55, put_55, put_50, put_51, put_52, put_53, store_5, nth_z, nth_1, nth_2, nth_3, nth_4, nil_u, fa_0, an_next, set_next, St.seen_next, jn_next, z0_next, jn_getC, z0_getC, rU_z, rU_seen, rU_set, rU_an, rU_sl, c4, ln, g1, g2]
        exact hr _ ((G4.seen _).seen _) ((O4.seen _ (by omega)).seen _ (by rw [St.seen_next]; omega)) 1 (by unfold sgn; rw [if_neg h0, if_neg h1])
  case hc =>
    intro i j h1 h2
    try dsimp only
    repeat' split
    all_goals omega
  case h0 =>
    intro i h1
    try dsimp only
    repeat' split
    all_goals omega
  case hk =>
    refine ⟨jR (by omega), jR (by omega), jC d4 ?_ ?_, jC f4 ?_ ?_, jA ?_ ?_, jS ?_ ?_, trivial⟩
    all_goals try simp only [z0_next, an_next, set_next, St.seen_next, jn_next]
    all_goals try dsimp only
    all_goals repeat' split
    all_goals first | omega | exact absurd trivial (by assumption)
end Go.Proofs.Ytdnedangfnincaa.AbsAccR
