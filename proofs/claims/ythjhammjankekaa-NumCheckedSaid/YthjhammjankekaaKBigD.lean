import Derived.Test.YthjhammjankekaaKBigC
import Derived.Test.YthjhammjankekaaKPNum10
namespace Go.Proofs.Ythjhammjankekaa.PNum
open Go.RowKit Go.Proofs.YthjhammjankekaaW.PrintWords Go.Proofs.YthjhammjankekaaW.PrintLast Go.Proofs.YthjhammjankekaaW.PrintMore
set_option linter.unusedVariables false
set_option linter.unusedSimpArgs false
theorem pw_zero : pw 0 = 1 := rfl
theorem pw_succ (n : Nat) : pw (n + 1) = 65536 * pw n := rfl
theorem bv_nil : bv [] = 0 := rfl
theorem bv_cons (d : Int) (ds : List Int) : bv (d :: ds) = d + 65536 * bv ds := rfl
theorem dgt_zero (d : Int) (ds : List Int) : dgt (d :: ds) 0 = d := rfl
theorem dgt_succ (d : Int) (ds : List Int) (i : Nat) : dgt (d :: ds) (i + 1) = dgt ds i := rfl
theorem pw_20 : pw 20 = 2135987035920910082395021706169552114602704522356652769947041607822219725780640550022962086936576 := by decide +kernel
attribute [local irreducible] pw bv dgt
theorem mul_step (dj ai bk c : Int) (h1 : 0 ≤ dj ∧ dj < 65536) (h2 : 0 ≤ ai ∧ ai < 65536) (h3 : 0 ≤ bk ∧ bk < 65536) (h4 : 0 ≤ c ∧ c < 65536) :
    0 ≤ ai * bk ∧ ai * bk ≤ 4294836225 ∧ 0 ≤ dj + ai * bk + c ∧ (dj + ai * bk + c) / 65536 < 65536 ∧ dj + ai * bk + c < 4294967296 := by
  have a : 0 ≤ ai * bk := Int.mul_nonneg h2.1 h3.1
  have b : ai * bk ≤ 65535 * 65535 := Int.mul_le_mul (by omega) (by omega) h3.1 (by omega)
  generalize ai * bk = P at *
  omega
theorem mul_wrap (dj ai bk c : Int) (h1 : 0 ≤ dj ∧ dj < 65536) (h2 : 0 ≤ ai ∧ ai < 65536) (h3 : 0 ≤ bk ∧ bk < 65536) (h4 : 0 ≤ c ∧ c < 65536) :
    IntKind.u64.wrap (IntKind.u64.wrap (dj + IntKind.u64.wrap (ai * bk)) + c) = dj + ai * bk + c := by
  obtain ⟨s1, s2, s3, s4, s5⟩ := mul_step _ _ _ _ h1 h2 h3 h4
  rw [bu64w, bu64w, bu64w]
  generalize ai * bk = P at *
  omega
theorem row_val (P Q R A ai X bk D dj c v c' : Int) (h : D + P * c = A + Q * (ai * X)) (hP : P = Q * R) (hd : dj + ai * bk + c = v + 65536 * c') :
    D + P * (v - dj) + 65536 * P * c' = A + Q * (ai * (X + R * bk)) := by
  have e1 : v - dj = ai * bk + c - 65536 * c' := by omega
  have e2 : Q * (ai * (X + R * bk)) = Q * (ai * X) + P * (ai * bk) := by
    rw [Int.mul_add, Int.mul_add, hP, Int.mul_assoc Q R, Int.mul_left_comm R ai bk]
  have e3 : P * (65536 * c') = 65536 * P * c' := by rw [Int.mul_left_comm, Int.mul_assoc]
  rw [e1, e2, Int.mul_sub, Int.mul_add, e3]
  omega
theorem carry_none (d : List Int) (n : Nat) (c : Int) (hd : Dg d) (hn : n < d.length) (h : bv d + pw n * c < 65536 * pw n) : dgt d n + c < 65536 := by
  have hs := bv_split d n
  rw [bv_drop d n hn] at hs
  have hT := (bv_bd _ (hd.take n)).1
  have hU := (bv_bd _ (hd.drop (n + 1))).1
  have hpos := pw_pos n
  generalize bv (d.take n) = T at *
  generalize bv (d.drop (n + 1)) = U at *
  generalize dgt d n = x at *
  generalize bv d = D at *
  generalize pw n = P at *
  have e5 : P * (x + c + 65536 * U) = P * (x + 65536 * U) + P * c := by rw [← Int.mul_add]; congr 1; omega
  have e4 : P * (x + c + 65536 * U) < P * 65536 := by rw [e5]; omega
  have e6 := Int.lt_of_mul_lt_mul_left e4 (Int.le_of_lt hpos)
  omega
theorem row_small (a b : List Int) (ha : Dg a) (hb : Dg b) (i : Nat) (hi : i < a.length) : bv (a.take i) * bv b + pw i * (dgt a i * bv b) < 65536 * pw (i + b.length) := by
  have e1 : bv (a.take i) * bv b + pw i * (dgt a i * bv b) = bv (a.take (i + 1)) * bv b := by rw [bv_take_succ, Int.add_mul, Int.mul_assoc]
  have hA1 := bv_bd _ (ha.take (i + 1))
  rw [List.length_take, Nat.min_eq_left (by omega)] at hA1
  have hB := bv_bd b hb
  have h1 : bv (a.take (i + 1)) * bv b ≤ bv (a.take (i + 1)) * pw b.length := Int.mul_le_mul_of_nonneg_left (by omega) hA1.1
  have h2 : bv (a.take (i + 1)) * pw b.length < pw (i + 1) * pw b.length := Int.mul_lt_mul_of_pos_right hA1.2 (pw_pos _)
  have e2 : pw (i + 1) * pw b.length = 65536 * pw (i + b.length) := by
    rw [pw_add i b.length, ← Int.mul_assoc, pw_succ]
  rw [e1]
  omega
theorem Mul_l1_ev (na nb : Bool) (a b : List Int) (ha : Dg a) (hb : Dg b) (hla : a.length ≤ 1000) (hlb : b.length ≤ 1000) (i : Nat) (hi : i < a.length) (T : Bool × List Int)
    (next : ∀ d : List Int, d.length = a.length + b.length + 1 → Dg d → bv d = bv (a.take (i + 1)) * bv b → Ev (fun k => publicanref1_Mul.l0 k d ((i + 1 : Nat) : Int) na a nb b) T) (m : Nat) :
    ∀ (k : Nat) (c : Int) (d : List Int), k + m = b.length + 1 → d.length = a.length + b.length + 1 → Dg d → 0 ≤ c ∧ c < 65536 → bv d + pw (i + k) * c = bv (a.take i) * bv b + pw i * (dgt a i * bv (b.take k)) → (k = b.length + 1 → c = 0) → Ev (fun K => publicanref1_Mul.l1 K d i c k na a nb b) T := by
  have total : ∀ d : List Int, bv d = bv (a.take i) * bv b + pw i * (dgt a i * bv b) → bv d = bv (a.take (i + 1)) * bv b := by
    intro d h
    rw [h, bv_take_succ, Int.add_mul, Int.mul_assoc]
  induction m with
  | zero =>
    intro k c d hk hd hdg hc hv hlast
    have := hlast (by omega)
    subst this
    refine Ev.step (f := fun K => publicanref1_Mul.l0 K d ((i + 1 : Nat) : Int) na a nb b) (fun K => ?_) (next d hd hdg (total d (by rw [take_all (l := b) (by omega)] at hv; omega)))
    simp only [publicanref1_Mul.l1]
    rw [if_neg (by omega), if_neg (by omega), idx_succ i (by omega)]
  | succ m ih =>
    intro k c d hk hd hdg hc hv hlast
    by_cases go : k < b.length ∨ 0 < c
    · have hk2 : i + k < d.length := by
        have hkb : k ≤ b.length := by
          rcases go with g | g
          · exact Nat.le_of_lt g
          · rcases Nat.lt_or_ge b.length k with h | h
            · have h0 := hlast (by clear hv hc; omega)
              rw [h0] at g
              exact absurd g (by decide)
            · exact h
        rw [hd]
        clear hv hc go
        omega
      have hdj := dgt_bd hdg (i + k)
      have hai := dgt_bd ha i
      have hbk := dgt_bd hb k
      obtain ⟨s1, s2, s3, s4, s5⟩ := mul_step _ _ _ _ hdj hai hbk hc
      have eidx : wrap64 ((i : Int) + (k : Int)) = ((i + k : Nat) : Int) := by rw [bw64]; omega
      have ev := ih (k + 1) ((dgt d (i + k) + dgt a i * dgt b k + c) / 65536) (d.set (i + k) ((dgt d (i + k) + dgt a i * dgt b k + c) % 65536)) (by omega) (by rw [List.length_set]; exact hd) (hdg.set _ (by omega)) ⟨by omega, s4⟩ (by
          rw [bv_set d (i + k) hk2, bv_take_succ]
          rw [← Nat.add_assoc, pw_succ]
          exact row_val _ _ (pw k) _ _ _ _ _ _ _ _ _ hv (pw_add i k) (by omega)) (by
          intro he
          obtain rfl : k = b.length := by omega
          have hz := dgt_above (l := b) (i := b.length) (Nat.le_refl _)
          rw [hz, Int.mul_zero]
          rw [take_all (l := b) (Nat.le_refl _)] at hv
          have hc2 := carry_none d (i + b.length) c hdg hk2 (by rw [hv]; exact row_small a b ha hb i hi)
          have hd0 := (dgt_bd hdg (i + b.length)).1
          have hc0 := hc.1
          generalize dgt d (i + b.length) = x at hc2 hd0 ⊢
          clear hv hdj hai hbk s1 s2 s3 s4 s5
          omega)
      refine Ev.step (f := fun K => publicanref1_Mul.l1 K (d.set (i + k) ((dgt d (i + k) + dgt a i * dgt b k + c) % 65536)) i ((dgt d (i + k) + dgt a i * dgt b k + c) / 65536) ((k + 1 : Nat) : Int) na a nb b) (fun K => ?_) ev
      have e1 := mul_wrap _ _ _ _ hdj hai hbk hc
      have g1 : (0 : Int) ≤ ((i + k : Nat) : Int) := Int.natCast_nonneg _
      have g2 : ((i + k : Nat) : Int) < (d.length : Int) := Int.ofNat_lt.mpr hk2
      have g3 : (0 : Int) ≤ (i : Int) := Int.natCast_nonneg _
      have g4 : (i : Int) < (a.length : Int) := Int.ofNat_lt.mpr hi
      have g5 : dgt d (i + k) + dgt a i * dgt b k + c < 18446744073709551616 := Int.lt_trans s5 (by decide)
      have g6 : wrap64 ((k : Int) + 1) = ((k + 1 : Nat) : Int) := idx_succ k (by clear hv hdj hai hbk hc s1 s2 s3 s4 s5 e1 g5; omega)
      clear hv
      have core : (if 0 ≤ (wrap64 ((i : Int) + (k : Int))) then (if (wrap64 ((i : Int) + (k : Int))) < (d.length : Int) then (if 0 ≤ (i : Int) then (if (i : Int) < (a.length : Int) then ((publicanref1_digit.f b (k : Int)).bind fun t => (publicanref1_Mul.l1 K (d.set ((wrap64 ((i : Int) + (k : Int))) : Int).toNat (Go.bits .and .u64 (IntKind.u64.wrap ((IntKind.u64.wrap ((rd d (wrap64 ((i : Int) + (k : Int)))) + (IntKind.u64.wrap ((rd a (i : Int)) * t)))) + c)) 65535)) (i : Int) ((IntKind.u64.wrap ((IntKind.u64.wrap ((rd d (wrap64 ((i : Int) + (k : Int)))) + (IntKind.u64.wrap ((rd a (i : Int)) * t)))) + c)) / 65536) (wrap64 ((k : Int) + 1)) na a nb b)) else none) else none) else none) else none) = publicanref1_Mul.l1 K (d.set (i + k) ((dgt d (i + k) + dgt a i * dgt b k + c) % 65536)) i ((dgt d (i + k) + dgt a i * dgt b k + c) / 65536) ((k + 1 : Nat) : Int) na a nb b := by
        rw [eidx, if_pos g1, if_pos g2, if_pos g3, if_pos g4, digit_f]
        simp only [Option.bind_some]
        rw [rd_dgt, rd_dgt, e1, mask16 _ s3 g5, Int.toNat_natCast, g6]
      clear e1 g5 s1 s2 s3 s4 s5 hdj hai hbk
      simp only [publicanref1_Mul.l1]
      by_cases h1 : k < b.length
      · rw [if_pos (Int.ofNat_lt.mpr h1)]; exact core
      · have h2 : 0 < c := by rcases go with g | g; exact absurd g h1; exact g
        rw [if_neg (fun h => h1 (Int.ofNat_lt.mp h)), if_pos h2]; exact core
    · have : c = 0 := by omega
      subst this
      refine Ev.step (f := fun K => publicanref1_Mul.l0 K d ((i + 1 : Nat) : Int) na a nb b) (fun K => ?_) (next d hd hdg (total d (by rw [take_all (l := b) (by omega)] at hv; omega)))
      simp only [publicanref1_Mul.l1]
      rw [if_neg (by omega), if_neg (by omega), idx_succ i (by omega)]
theorem bv_inj : ∀ a b : List Int, Dg a → Dg b → a.length = b.length → bv a = bv b → a = b
  | [], [], _, _, _, _ => rfl
  | [], _ :: _, _, _, h, _ => by simp at h
  | _ :: _, [], _, _, h, _ => by simp at h
  | x :: xs, y :: ys, ha, hb, hl, hv => by
    obtain ⟨hx, hxs⟩ := ha.cons
    obtain ⟨hy, hys⟩ := hb.cons
    rw [bv_cons, bv_cons] at hv
    have e : x = y := by omega
    have e2 : bv xs = bv ys := by omega
    rw [e, bv_inj xs ys hxs hys (by simpa using hl) e2]
theorem Is.one {r s : Bool × List Int} {v : Int} (h : Is r v) (g : Is s v) : r = s := by
  have e1 : r.1 = s.1 := by rw [h.neg, g.neg]
  have e2 : bv r.2 = bv s.2 := by rw [h.abs, g.abs]
  have l1 : r.2.length ≤ s.2.length := norm_len h.dg h.norm (by rw [e2]; exact (bv_bd _ g.dg).2)
  have l2 : s.2.length ≤ r.2.length := norm_len g.dg g.norm (by rw [← e2]; exact (bv_bd _ h.dg).2)
  exact Prod.ext e1 (bv_inj _ _ h.dg g.dg (by omega) e2)
theorem digits_ex (n : Nat) : ∃ l, Dg l ∧ Norm l ∧ bv l = (n : Int) := by
  induction n using Nat.strongRecOn with
  | ind n ih =>
    by_cases h0 : n = 0
    · subst h0; exact ⟨[], (fun x hx => absurd hx (List.not_mem_nil)), .inl rfl, bv_nil⟩
    · obtain ⟨l, hd, hn, hv⟩ := ih (n / 65536) (by omega)
      refine ⟨((n % 65536 : Nat) : Int) :: l, ?_, ?_, ?_⟩
      · intro x hx
        rcases List.mem_cons.1 hx with rfl | hx
        · omega
        · exact hd x hx
      · right
        rw [List.length_cons, Nat.add_sub_cancel]
        cases l with
        | nil =>
          rw [bv_nil] at hv
          rw [List.length_nil, dgt_zero]
          omega
        | cons y ys =>
          rw [List.length_cons, dgt_succ]
          rcases hn with hn | hn
          · cases hn
          · rw [List.length_cons, Nat.add_sub_cancel] at hn; exact hn
      · rw [bv_cons, hv]; omega
theorem Is_ex (v : Int) : ∃ r, Is r v := by
  obtain ⟨l, hd, hn, hv⟩ := digits_ex v.natAbs
  have hz := norm_zero hd hn
  refine ⟨(decide (v < 0), l), hd, hn, ?_, ?_⟩
  · intro h
    have := hz.2 h
    exact decide_eq_false (by omega)
  · show sg (decide (v < 0)) l = v
    unfold sg
    by_cases h : v < 0
    · rw [if_pos (decide_eq_true h)]; omega
    · rw [if_neg (by rw [decide_eq_false h]; decide)]; omega
noncomputable def big (v : Int) : Bool × List Int := Classical.choose (Is_ex v)
theorem big_is (v : Int) : Is (big v) v := Classical.choose_spec (Is_ex v)
theorem Is.big {r : Bool × List Int} {v : Int} (h : Is r v) : r = big v := h.one (big_is v)
theorem Mul_l0_ev (na nb : Bool) (a b : List Int) (ha : Dg a) (hb : Dg b) (hla : a.length ≤ 1000) (hlb : b.length ≤ 1000) (T : Bool × List Int) (hT : Is T (sg (!(na == nb)) [] + (if (!(na == nb)) = true then -(bv a * bv b) else bv a * bv b))) (m : Nat) :
    ∀ (i : Nat) (d : List Int), i + m = a.length → d.length = a.length + b.length + 1 → Dg d → bv d = bv (a.take i) * bv b → Ev (fun k => publicanref1_Mul.l0 k d (i : Int) na a nb b) T := by
  induction m with
  | zero =>
    intro i d hi hl hd hv
    rw [take_all (l := a) (by omega)] at hv
    obtain ⟨r, hr, his⟩ := trim_f_ev (!(na == nb)) d hd (by omega)
    have e : r = T := by
      apply his.one
      have : sg (!(na == nb)) d = sg (!(na == nb)) [] + (if (!(na == nb)) = true then -(bv a * bv b) else bv a * bv b) := by
        unfold sg
        rw [hv, bv_nil]
        split <;> omega
      rw [this]; exact hT
    subst e
    refine Ev.step (f := fun k => (publicanref1_trim.f k (!(na == nb)) d).bind fun b => some (b.1, b.2)) (fun k => ?_) (Ev.bind hr (Ev.now _))
    simp only [publicanref1_Mul.l0]
    rw [if_neg (by omega)]
  | succ m ih =>
    intro i d hi hl hd hv
    have ev := Mul_l1_ev na nb a b ha hb hla hlb i (by omega) T (fun d' h1 h2 h3 => ih (i + 1) d' (by omega) h1 h2 h3) (b.length + 1) 0 0 d (by omega) hl hd (by omega) (by rw [hv, List.take_zero, bv_nil]; simp) (fun h => by omega)
    refine Ev.step (f := fun k => publicanref1_Mul.l1 k d i 0 ((0 : Nat) : Int) na a nb b) (fun k => ?_) ev
    simp only [publicanref1_Mul.l0]
    rw [if_pos (Int.ofNat_lt.mpr (by omega))]
    rfl
theorem mul_len (x y : Nat) (hx : x ≤ 1000) (hy : y ≤ 1000) : wrap64 (wrap64 ((x : Int) + (y : Int)) + 1) = ((x + y + 1 : Nat) : Int) := by rw [bw64, bw64]; omega
theorem Mul_ev {r s : Bool × List Int} {x y : Int} (hr : Is r x) (hs : Is s y) (kr : Small r) (ks : Small s) : Ev (fun k => publicanref1_Mul.f k r.1 r.2 s.1 s.2) (big (x * y)) := by
  have hv : sg (!(r.1 == s.1)) [] + (if (!(r.1 == s.1)) = true then -(bv r.2 * bv s.2) else bv r.2 * bv s.2) = x * y := by
    rw [← hr.val, ← hs.val]
    cases r.1 <;> cases s.1 <;> simp [sg, bv_nil, Int.mul_neg, Int.neg_mul]
  have ev := Mul_l0_ev r.1 s.1 r.2 s.2 hr.dg hs.dg kr ks (big (x * y)) (by rw [hv]; exact big_is _) r.2.length 0 (List.replicate (r.2.length + s.2.length + 1) 0) (by omega) (by rw [List.length_replicate]) (Dg.zeros _) (by rw [bv_zeros, List.take_zero, bv_nil]; simp)
  refine Ev.congr (fun k => ?_) ev
  simp only [publicanref1_Mul.f]
  unfold Small at kr ks
  rw [mul_len _ _ kr ks, if_pos (by omega), Int.toNat_natCast, if_pos (by omega)]
  rfl
end Go.Proofs.Ythjhammjankekaa.PNum
