import Derived.Test.YthjhammjankekaaKBigD
import Derived.Test.YthjhammjankekaaKPNum11
import Derived.Test.YthjhammjankekaaKPNum9
namespace Go.Proofs.Ythjhammjankekaa.PNum
open Go.RowKit Go.Proofs.YthjhammjankekaaW.PrintWords Go.Proofs.YthjhammjankekaaW.PrintLast Go.Proofs.YthjhammjankekaaW.PrintMore
set_option linter.unusedVariables false
set_option linter.unusedSimpArgs false
attribute [local irreducible] pw bv dgt
def Few (v : Int) : Prop := -pw 1000 < v ∧ v < pw 1000
theorem Few.small {v : Int} (h : Few v) : Small (big v) := (big_is v).small 1000 (Nat.le_refl _) h.1 h.2
theorem few_of {v : Int} (n : Nat) (hn : n ≤ 1000) (h0 : -pw n < v) (h1 : v < pw n) : Few v := by
  have := pw_mono hn
  exact ⟨by omega, by omega⟩
theorem few_lit {v : Int} (h0 : -2135987035920910082395021706169552114602704522356652769947041607822219725780640550022962086936576 < v) (h1 : v < 2135987035920910082395021706169552114602704522356652769947041607822219725780640550022962086936576) : Few v := few_of 20 (by decide) (by rw [pw_20]; exact h0) (by rw [pw_20]; exact h1)
theorem Of_big (v : Int) (h0 : -9223372036854775808 ≤ v) (h1 : v ≤ 9223372036854775807) : Ev (fun k => publicanref1_Of.f k v) (big v) := by
  obtain ⟨r, hr, hi⟩ := Of_ev v h0 h1
  rw [← hi.big]; exact hr
theorem Add_big {x y : Int} (hx : Few x) (hy : Few y) : Ev (fun k => publicanref1_Add.f k (big x).1 (big x).2 (big y).1 (big y).2) (big (x + y)) := by
  obtain ⟨t, ht, hi⟩ := Add_ev (big_is x) (big_is y) hx.small hy.small
  rw [← hi.big]; exact ht
theorem Minus_big {x : Int} (hx : Few x) : Ev (fun k => publicanref1_Minus.f k (big x).1 (big x).2) (big (-x)) := by
  obtain ⟨t, ht, hi⟩ := Minus_ev (big_is x) hx.small
  rw [← hi.big]; exact ht
theorem Mul_big {x y : Int} (hx : Few x) (hy : Few y) : Ev (fun k => publicanref1_Mul.f k (big x).1 (big x).2 (big y).1 (big y).2) (big (x * y)) := Mul_ev (big_is x) (big_is y) hx.small hy.small
theorem Cmp_big {x y : Int} (hx : Few x) (hy : Few y) : Ev (fun k => publicanref1_Cmp.f k (big x).1 (big x).2 (big y).1 (big y).2) (if x = y then 0 else if x < y then -1 else 1) := Cmp_ev (big_is x) (big_is y) hx.small hy.small
theorem big_zero : big 0 = (false, []) := (Is.zero.big).symm
theorem idx16 (i : Nat) (h : i ≤ 100000) : wrap64 (Int.tdiv (i : Int) 16) = ((i / 16 : Nat) : Int) ∧ IntKind.u64.wrap (Int.tmod (i : Int) 16) = ((i % 16 : Nat) : Int) := by
  rw [Int.tdiv_eq_ediv_of_nonneg (by omega), Int.tmod_eq_emod_of_nonneg (by omega), bw64, bu64w]
  omega
theorem shr_bit (x : Int) (hx : 0 ≤ x ∧ x < 65536) (e : Nat) (he : e < 16) : Go.bits .and .u64 (shr .u64 x (e : Int)) 1 = x / 2 ^ e % 2 := by
  unfold shr
  rw [Int.toNat_natCast, Nat.min_eq_left (by simp [IntKind.bits]; omega)]
  have h1 : 0 ≤ x / 2 ^ e := Int.ediv_nonneg hx.1 (Int.le_of_lt (Int.pow_pos (by decide)))
  have h2 : x / 2 ^ e ≤ x := Int.ediv_le_self _ hx.1
  have := bits_mask .u64 64 (by decide) bwraps_u64 1 (by decide) (x / 2 ^ e) h1 (by omega)
  exact this
theorem or_bit (x : Int) (hx : 0 ≤ x ∧ x < 65536) (e : Nat) (he : e < 16) (hz : x % 2 ^ (e + 1) = 0) : Go.bits .or .u64 x (shl .u64 1 (e : Int)) = x + 2 ^ e := by
  have hp : (0 : Int) < 2 ^ e := Int.pow_pos (by decide)
  have hle : (2 : Int) ^ e ≤ 32768 := by
    have : ∀ e : Fin 16, (2 : Int) ^ e.val ≤ 32768 := by decide
    exact this ⟨e, he⟩
  have hs : shl .u64 1 (e : Int) = 2 ^ e := by
    unfold shl
    rw [Int.toNat_natCast, Nat.min_eq_left (by simp [IntKind.bits]; omega), Int.one_mul, bu64w]
    omega
  rw [hs]
  refine bits_join .u64 64 (by decide) bwraps_u64 (e + 1) x (2 ^ e) hx.1 hz (by omega) (Int.le_of_lt hp) ?_ (by omega)
  rw [Int.pow_succ]; omega
def hi2 (N : Int) (i : Nat) : Int := N / 2 ^ i
theorem hi2_step (N : Int) (hN : 0 ≤ N) (i : Nat) : hi2 N i = 2 * hi2 N (i + 1) + N / 2 ^ i % 2 := by
  unfold hi2
  rw [Int.pow_succ, ← Int.ediv_ediv_of_nonneg (Int.le_of_lt (Int.pow_pos (by decide)))]
  omega
theorem pw_two (j : Nat) : pw j = 2 ^ (16 * j) := by
  induction j with
  | zero => rw [pw_zero]; rfl
  | succ j ih => rw [pw_succ, ih, show 16 * (j + 1) = 16 * j + 16 from by omega, Int.pow_add, Int.mul_comm]; rfl
theorem bit_of_digit (a : List Int) (ha : Dg a) (i : Nat) : bv a / 2 ^ i % 2 = dgt a (i / 16) / 2 ^ (i % 16) % 2 := by
  have hp : (0 : Int) < 2 ^ (i % 16) := Int.pow_pos (by decide)
  have h1 : bv a / pw (i / 16) = bv (a.drop (i / 16)) := by
    have hs := bv_split a (i / 16)
    have hb := bv_bd _ (ha.take (i / 16))
    have hl : bv (a.take (i / 16)) < pw (i / 16) := by
      have := pw_mono (show (a.take (i / 16)).length ≤ i / 16 by rw [List.length_take]; omega)
      omega
    have hpos := pw_pos (i / 16)
    rw [hs, Int.add_mul_ediv_left _ _ (by omega), Int.ediv_eq_zero_of_lt hb.1 hl, Int.zero_add]
  have h2 : bv (a.drop (i / 16)) / 2 ^ (i % 16) % 2 = dgt a (i / 16) / 2 ^ (i % 16) % 2 := by
    rcases Nat.lt_or_ge (i / 16) a.length with h | h
    · rw [bv_drop a _ h]
      have e : (65536 : Int) * bv (a.drop (i / 16 + 1)) = 2 ^ (i % 16) * (2 * (2 ^ (15 - i % 16) * bv (a.drop (i / 16 + 1)))) := by
        rw [← Int.mul_assoc, ← Int.mul_assoc]
        congr 1
        have : (2 : Int) ^ (i % 16) * 2 * 2 ^ (15 - i % 16) = 2 ^ (i % 16 + 1 + (15 - i % 16)) := by rw [Int.pow_add, Int.pow_succ]
        rw [this, show i % 16 + 1 + (15 - i % 16) = 16 from by omega]
        rfl
      rw [e, Int.add_mul_ediv_left _ _ (by omega)]
      omega
    · rw [dgt_above h, List.drop_eq_nil_of_le h, bv_nil]
  rw [← h2, ← h1, pw_two, Int.ediv_ediv_of_nonneg (Int.le_of_lt (Int.pow_pos (by decide))), ← Int.pow_add, Nat.div_add_mod]
theorem digit_div (l : List Int) (hl : Dg l) (j e : Nat) (he : e < 16) (Q : Int) (h : bv l = Q * 2 ^ (16 * j + e + 1)) : dgt l j % 2 ^ (e + 1) = 0 := by
  have hp : (0 : Int) < 2 ^ (e + 1) := Int.pow_pos (by decide)
  have hs := bv_split l j
  have hb := bv_bd _ (hl.take j)
  have hT : bv (l.take j) < pw j := by
    have := pw_mono (show (l.take j).length ≤ j by rw [List.length_take]; omega)
    omega
  have hpos := pw_pos j
  have e1 : (2 : Int) ^ (16 * j + e + 1) = pw j * 2 ^ (e + 1) := by rw [pw_two, ← Int.pow_add]; rfl
  have hX : bv (l.drop j) = Q * 2 ^ (e + 1) := by
    rw [h, e1, Int.mul_left_comm] at hs
    have h1 : (bv (l.take j) + pw j * bv (l.drop j)) / pw j = bv (l.drop j) := by
      rw [Int.add_mul_ediv_left _ _ (by omega), Int.ediv_eq_zero_of_lt hb.1 hT, Int.zero_add]
    rw [← hs, Int.mul_ediv_cancel_left _ (by omega)] at h1
    exact h1.symm
  rcases Nat.lt_or_ge j l.length with hj | hj
  · rw [bv_drop l j hj] at hX
    have e2 : (65536 : Int) = 2 ^ (e + 1) * 2 ^ (15 - e) := by
      rw [← Int.pow_add, show e + 1 + (15 - e) = 16 from by omega]; rfl
    have e3 : dgt l j = 2 ^ (e + 1) * (Q - 2 ^ (15 - e) * bv (l.drop (j + 1))) := by
      rw [Int.mul_sub, ← Int.mul_assoc, ← e2, Int.mul_comm _ Q]
      omega
    rw [e3]
    exact Int.mul_emod_right _ _
  · rw [dgt_above hj]; exact Int.zero_emod _
theorem div_step (H D b : Int) (hH : 0 ≤ H) (hD : 0 < D) (hb : 0 ≤ b ∧ b < 2) :
    (2 * H + b) / D = 2 * (H / D) + (if 2 * (H % D) + b < D then 0 else 1) ∧ (2 * H + b) % D = (if 2 * (H % D) + b < D then 2 * (H % D) + b else 2 * (H % D) + b - D) := by
  have e := Int.mul_ediv_add_emod H D
  have r0 := Int.emod_nonneg H (Int.ne_of_gt hD)
  have r1 := Int.emod_lt_of_pos H hD
  generalize H / D = q at *
  generalize H % D = r at *
  by_cases h : 2 * r + b < D
  · rw [if_pos h, if_pos h]
    apply (Int.ediv_emod_unique hD).mpr
    refine ⟨?_, by omega, h⟩
    rw [Int.add_zero, Int.mul_left_comm]
    omega
  · rw [if_neg h, if_neg h]
    apply (Int.ediv_emod_unique hD).mpr
    refine ⟨?_, by omega, by omega⟩
    rw [Int.mul_add, Int.mul_left_comm]
    omega
theorem bneg_ediv (S c : Int) (hS : 0 ≤ S) (hc : 0 < c) : -S / c = if S % c = 0 then -(S / c) else -(S / c) - 1 := by
  have e := Int.mul_ediv_add_emod S c
  have e2 := Int.emod_nonneg S (Int.ne_of_gt hc)
  have e3 := Int.emod_lt_of_pos S hc
  generalize S / c = q at *
  generalize S % c = r at *
  split
  · have := (Int.ediv_emod_unique (a := -S) (b := c) (q := -q) (r := 0) hc).mpr ⟨by rw [Int.mul_neg]; omega, by omega, hc⟩
    exact this.1
  · have := (Int.ediv_emod_unique (a := -S) (b := c) (q := -q - 1) (r := c - r) hc).mpr ⟨by rw [Int.mul_sub, Int.mul_neg]; omega, by omega, by omega⟩
    exact this.1
def flos (same : Bool) (N D : Int) : Int := if same = true then N / D else if N % D = 0 then -(N / D) else -(N / D) - 1
section
variable {na nb : Bool} {a b : List Int}
theorem Floor_end (qs : List Int) (hq : Dg qs) (hl : qs.length ≤ 500) (R : Int) (hR : 0 ≤ R) (hv : bv qs = bv a / bv b) (hRv : R = bv a % bv b) :
    Ev (fun k => publicanref1_Floor.l0 k qs (-1) na a nb b (big R).1 (big R).2) (big (flos (na == nb) (bv a) (bv b))) := by
  obtain ⟨t, ht, hi⟩ := trim_f_ev (!(na == nb)) qs hq (by omega)
  have hbd := bv_bd qs hq
  have hlt := pw_mono (show qs.length ≤ 999 by omega)
  have h999 : pw 1000 = 65536 * pw 999 := pw_succ 999
  have hp1 := pw_pos 999
  refine Ev.step (f := fun k => (publicanref1_trim.f k (!(na == nb)) qs).bind fun t => if (na != nb) = true then publicanref1_Floor.j3 k (decide (((big R).2.length : Int) > 0)) t.1 t.2 else publicanref1_Floor.j3 k false t.1 t.2) (fun k => ?_) (Ev.bind ht ?_)
  · simp only [publicanref1_Floor.l0]
    rw [if_neg (by omega)]
  · by_cases hs : na = nb
    · subst hs
      rw [show (!(na == na)) = false by simp] at hi
      have et : t = big (flos (na == na) (bv a) (bv b)) := by
        rw [hi.big]; congr 1
        unfold sg flos
        rw [if_neg (by decide), hv, if_pos (by simp)]
      refine Ev.congr (f := fun k => publicanref1_Floor.j3 k false t.1 t.2) (fun k => by rw [if_neg (by simp)]) (Ev.step (f := fun _ => some (big (flos (na == na) (bv a) (bv b)))) (fun k => ?_) (Ev.now _))
      simp only [publicanref1_Floor.j3]
      rw [if_neg (by decide), et]
    · have hne : (na != nb) = true := by simpa using hs
      have hbe : (na == nb) = false := by simpa using hs
      rw [hbe, show (!false) = true by rfl] at hi
      have et : t = big (-(bv a / bv b)) := by
        rw [hi.big]; congr 1
        unfold sg
        rw [if_pos rfl, hv]
      have hn := (big_is R).nil
      refine Ev.congr (f := fun k => publicanref1_Floor.j3 k (decide (((big R).2.length : Int) > 0)) t.1 t.2) (fun k => by rw [if_pos hne]) ?_
      unfold flos
      rw [hbe, if_neg (by decide), ← hRv]
      by_cases h0 : R = 0
      · have : (big R).2 = [] := hn.2 h0
        rw [if_pos h0, this]
        refine Ev.step (f := fun _ => some (big (-(bv a / bv b)))) (fun k => ?_) (Ev.now _)
        simp only [publicanref1_Floor.j3]
        rw [if_neg (by simp), et]
      · have : (big R).2 ≠ [] := fun h => h0 (hn.1 h)
        have hp : 0 < (big R).2.length := List.length_pos_iff.2 this
        rw [if_neg h0, decide_eq_true (by omega : (((big R).2.length : Int) > 0))]
        rw [hv] at hbd
        have h1 := Of_big (-1) (by decide) (by decide)
        have h2 := Add_big (x := -(bv a / bv b)) (y := -1) ⟨by omega, by omega⟩ (few_lit (by decide) (by decide))
        rw [show -(bv a / bv b) + -1 = -(bv a / bv b) - 1 by omega] at h2
        refine Ev.step (f := fun k => (publicanref1_Of.f k (-1)).bind fun o => (publicanref1_Add.f k t.1 t.2 o.1 o.2).bind fun s => some (s.1, s.2)) (fun k => ?_) (Ev.bind h1 ?_)
        · simp only [publicanref1_Floor.j3]
          rw [if_pos trivial]
        · rw [et]
          exact Ev.bind h2 (Ev.now _)
theorem Floor_l1_ev (i : Nat) (hi : i ≤ 100000) (r : Bool × List Int) (T : Bool × List Int) (m : Nat) : ∀ qs : List Int, Dg qs → qs.length + m = max qs.length (i / 16 + 1) →
    (∀ qs' : List Int, Dg qs' → bv qs' = bv qs → qs'.length = max qs.length (i / 16 + 1) → Ev (fun k => (publicanref1_less.f k r.2 b).bind fun t => (if t = true then (publicanref1_Floor.l0 k qs' (wrap64 ((i : Int) - 1)) na a nb b r.1 r.2) else ((publicanref1_Add.f k r.1 r.2 true b).bind fun s => (if 0 ≤ (wrap64 (Int.tdiv (i : Int) 16)) then (if (wrap64 (Int.tdiv (i : Int) 16)) < (qs'.length : Int) then (if 0 ≤ (IntKind.u64.wrap (Int.tmod (i : Int) 16)) then (publicanref1_Floor.l0 k (qs'.set ((wrap64 (Int.tdiv (i : Int) 16)) : Int).toNat (Go.bits .or .u64 (rd qs' (wrap64 (Int.tdiv (i : Int) 16))) (shl .u64 1 (IntKind.u64.wrap (Int.tmod (i : Int) 16))))) (wrap64 ((i : Int) - 1)) na a nb b s.1 s.2) else (none)) else (none)) else (none))))) T) →
    Ev (fun k => publicanref1_Floor.l1 k qs (i : Int) na a nb b r.1 r.2) T := by
  obtain ⟨e1, e2⟩ := idx16 i hi
  induction m with
  | zero =>
    intro qs hq hm next
    refine Ev.step (fun k => ?_) (next qs hq rfl (by omega))
    simp only [publicanref1_Floor.l1]
    rw [if_neg (by rw [e1]; omega)]
  | succ m ih =>
    intro qs hq hm next
    refine Ev.step (f := fun k => publicanref1_Floor.l1 k (qs ++ [0]) (i : Int) na a nb b r.1 r.2) (fun k => ?_) (ih (qs ++ [0]) (hq.append (Dg.one (by decide))) (by rw [List.length_append, List.length_singleton]; omega) (fun qs' h1 h2 h3 => next qs' h1 (by rw [h2, bv_append, bv_cons, bv_nil]; omega) (by rw [h3, List.length_append, List.length_singleton]; omega)))
    simp only [publicanref1_Floor.l1]
    rw [if_pos (by rw [e1]; omega), if_pos (by omega)]
theorem Floor_l0_ev (ha : Dg a) (hb : Dg b) (nb' : Norm b) (la : a.length ≤ 500) (lb : b.length ≤ 500) (hD : 0 < bv b) (n : Nat) :
    n ≤ 16 * a.length → ∀ qs : List Int, Dg qs → qs.length ≤ a.length → bv qs = bv a / 2 ^ n / bv b * 2 ^ n → Ev (fun k => publicanref1_Floor.l0 k qs ((n : Int) - 1) na a nb b (big (bv a / 2 ^ n % bv b)).1 (big (bv a / 2 ^ n % bv b)).2) (big (flos (na == nb) (bv a) (bv b))) := by
  have hN := (bv_bd a ha).1
  have bB := (bv_bd b hb).2
  have fw : pw b.length ≤ pw 999 := pw_mono (by omega)
  have h999 : pw 1000 = 65536 * pw 999 := pw_succ 999
  have hp9 := pw_pos 999
  induction n with
  | zero =>
    intro _ qs hq hl hv
    have e0 : bv a / 2 ^ 0 = bv a := by rw [Int.pow_zero, Int.ediv_one]
    rw [e0] at hv ⊢
    rw [Int.pow_zero, Int.mul_one] at hv
    exact Floor_end qs hq (by omega) _ (Int.emod_nonneg _ (by omega)) hv rfl
  | succ n ih =>
    intro hn qs hq hl hv
    obtain ⟨e1, e2⟩ := idx16 n (by omega)
    have hst := hi2_step (bv a) hN n
    unfold hi2 at hst
    have hH : 0 ≤ bv a / 2 ^ (n + 1) := Int.ediv_nonneg hN (Int.le_of_lt (Int.pow_pos (by decide)))
    have hbit := bit_of_digit a ha n
    have hb01 : 0 ≤ bv a / 2 ^ n % 2 ∧ bv a / 2 ^ n % 2 < 2 := by omega
    obtain ⟨q1, r1⟩ := div_step _ (bv b) _ hH hD hb01
    rw [← hst] at q1 r1
    generalize hHe : bv a / 2 ^ (n + 1) = H at *
    generalize hbe : bv a / 2 ^ n % 2 = bt_ at *
    generalize hRe : H % bv b = R at *
    have R0 : 0 ≤ R := by rw [← hRe]; exact Int.emod_nonneg _ (by omega)
    have R1 : R < bv b := by rw [← hRe]; exact Int.emod_lt_of_pos _ hD
    have fR : Few R := ⟨by omega, by omega⟩
    have f2R : Few (R + R) := ⟨by omega, by omega⟩
    have f2b : Few (2 * R + bt_) := ⟨by omega, by omega⟩
    have hA := Add_big fR fR
    have hn1 : ((n + 1 : Nat) : Int) - 1 = (n : Int) := by omega
    have hwn : wrap64 ((n : Int) - 1) = (n : Int) - 1 := by rw [bw64]; omega
    have hlo : n / 16 < a.length := by omega
    have rest : Ev (fun k => publicanref1_Floor.j1 k qs (n : Int) na a nb b (big (2 * R + bt_)).1 (big (2 * R + bt_)).2) (big (flos (na == nb) (bv a) (bv b))) := by
      refine Ev.step (f := fun k => publicanref1_Floor.l1 k qs (n : Int) na a nb b (big (2 * R + bt_)).1 (big (2 * R + bt_)).2) (fun k => by simp only [publicanref1_Floor.j1]) ?_
      refine Floor_l1_ev n (by omega) (big (2 * R + bt_)) _ (max qs.length (n / 16 + 1) - qs.length) qs hq (by omega) (fun qs' hq' hv' hl' => ?_)
      have hless := less_ev (big (2 * R + bt_)).2 b (big_is _).dg hb (big_is _).norm nb' (by have := f2b.small; unfold Small at this; omega) (by omega)
      have eb : bv (big (2 * R + bt_)).2 = 2 * R + bt_ := by rw [(big_is _).abs, if_neg (by omega)]
      rw [eb] at hless
      refine Ev.bind hless ?_
      have hq2 : bv qs' = H / bv b * 2 ^ (n + 1) := by rw [hv', hv]
      by_cases hc : 2 * R + bt_ < bv b
      · rw [if_pos hc] at q1 r1
        refine Ev.congr (f := fun k => publicanref1_Floor.l0 k qs' ((n : Int) - 1) na a nb b (big (bv a / 2 ^ n % bv b)).1 (big (bv a / 2 ^ n % bv b)).2) (fun k => ?_) (ih (by omega) qs' hq' (by omega) (by rw [hq2, q1, Int.add_zero, Int.pow_succ, Int.mul_comm (2 ^ n) 2, ← Int.mul_assoc, Int.mul_comm (H / bv b) 2]))
        rw [if_pos (decide_eq_true hc), hwn, r1]
      · rw [if_neg hc] at q1 r1
        have isb : Is (true, b) (-(bv b)) := ⟨hb, nb', fun h => by have h' : b = [] := h; rw [h', bv_nil] at hD; omega, by unfold sg; rw [if_pos rfl]⟩
        obtain ⟨s, hs, is⟩ := Add_ev (big_is (2 * R + bt_)) isb f2b.small (show Small (true, b) by unfold Small; show b.length ≤ 1000; omega)
        have es : s = big (bv a / 2 ^ n % bv b) := by rw [is.big, r1]; congr 1
        have hdz := digit_div qs' hq' (n / 16) (n % 16) (by omega) (H / bv b) (by rw [hq2]; congr 2; omega)
        have hdd := dgt_bd hq' (n / 16)
        have hor := or_bit (dgt qs' (n / 16)) hdd (n % 16) (by omega) hdz
        have hnew : dgt qs' (n / 16) + 2 ^ (n % 16) < 65536 := by
          have hp : (0 : Int) < 2 ^ (n % 16) := Int.pow_pos (by decide)
          have e3 : (65536 : Int) = 2 ^ (n % 16 + 1) * 2 ^ (15 - n % 16) := by
            rw [← Int.pow_add, show n % 16 + 1 + (15 - n % 16) = 16 from by omega]; rfl
          have e4 := Int.mul_ediv_add_emod (dgt qs' (n / 16)) (2 ^ (n % 16 + 1))
          rw [hdz] at e4
          have e5 : 2 ^ (n % 16 + 1) * (dgt qs' (n / 16) / 2 ^ (n % 16 + 1)) < 2 ^ (n % 16 + 1) * 2 ^ (15 - n % 16) := by omega
          have e6 := Int.lt_of_mul_lt_mul_left e5 (Int.le_of_lt (Int.pow_pos (by decide)))
          have e7 : 2 ^ (n % 16 + 1) * (dgt qs' (n / 16) / 2 ^ (n % 16 + 1) + 1) ≤ (2 : Int) ^ (n % 16 + 1) * 2 ^ (15 - n % 16) := Int.mul_le_mul_of_nonneg_left (by omega) (Int.le_of_lt (Int.pow_pos (by decide)))
          rw [Int.mul_add, Int.mul_one, ← e3] at e7
          have e8 : (2 : Int) ^ (n % 16 + 1) = 2 * 2 ^ (n % 16) := by rw [Int.pow_succ, Int.mul_comm]
          omega
        have ev := ih (by omega) (qs'.set (n / 16) (dgt qs' (n / 16) + 2 ^ (n % 16))) (hq'.set _ ⟨by have : (0 : Int) < 2 ^ (n % 16) := Int.pow_pos (by decide); omega, hnew⟩) (by rw [List.length_set]; omega) (by
            rw [bv_set qs' (n / 16) (by omega), hq2, q1]
            have e9 : dgt qs' (n / 16) + 2 ^ (n % 16) - dgt qs' (n / 16) = 2 ^ (n % 16) := by omega
            have e10 : pw (n / 16) * 2 ^ (n % 16) = 2 ^ n := by rw [pw_two, ← Int.pow_add, Nat.div_add_mod]
            rw [e9, e10, Int.add_mul, Int.one_mul, Int.pow_succ, Int.mul_comm (2 ^ n) 2, ← Int.mul_assoc, Int.mul_comm (H / bv b) 2])
        refine Ev.congr (f := fun k => (publicanref1_Add.f k (big (2 * R + bt_)).1 (big (2 * R + bt_)).2 true b).bind fun s => publicanref1_Floor.l0 k (qs'.set (n / 16) (dgt qs' (n / 16) + 2 ^ (n % 16))) ((n : Int) - 1) na a nb b s.1 s.2) (fun k => ?_) (Ev.bind hs (by rw [es]; exact ev))
        rw [if_neg (by rw [decide_eq_false hc]; decide)]
        congr 1
        funext s
        rw [e1, e2, if_pos (by omega), if_pos (by omega), if_pos (by omega), Int.toNat_natCast, rd_dgt, hor, hwn]
    refine Ev.step (f := fun k => (publicanref1_Add.f k (big R).1 (big R).2 (big R).1 (big R).2).bind fun s => if bt_ = 1 then (publicanref1_Of.f k 1).bind fun o => (publicanref1_Add.f k s.1 s.2 o.1 o.2).bind fun p => publicanref1_Floor.j1 k qs (n : Int) na a nb b p.1 p.2 else publicanref1_Floor.j1 k qs (n : Int) na a nb b s.1 s.2) (fun k => ?_) (Ev.bind hA ?_)
    · simp only [publicanref1_Floor.l0]
      rw [hn1, if_pos (by omega), e1, e2, rd_dgt, shr_bit _ (dgt_bd ha _) _ (by omega), ← hbit]
      congr 1
      funext s
      rw [if_pos (by omega), if_pos (by omega), if_pos (by omega)]
    · by_cases hb1 : bt_ = 1
      · have h1 := Of_big 1 (by decide) (by decide)
        have h2 := Add_big f2R (few_lit (v := 1) (by decide) (by decide))
        rw [show R + R + 1 = 2 * R + bt_ by omega] at h2
        exact Ev.congr (fun k => by rw [if_pos hb1]) (Ev.bind h1 (Ev.bind h2 rest))
      · rw [show 2 * R + bt_ = R + R by omega] at rest
        exact Ev.congr (fun k => by rw [if_neg hb1]) rest
end
end Go.Proofs.Ythjhammjankekaa.PNum
