import Derived.Test.YthjhammjankekaaKBigB
import Derived.Test.YthjhammjankekaaKPNum8
namespace Go.Proofs.Ythjhammjankekaa.PNum
open Go.RowKit Go.Proofs.YthjhammjankekaaW.PrintWords Go.Proofs.YthjhammjankekaaW.PrintLast Go.Proofs.YthjhammjankekaaW.PrintMore
set_option linter.unusedVariables false
set_option linter.unusedSimpArgs false
theorem take_all {l : List Int} {n : Nat} (h : l.length ≤ n) : bv (l.take n) = bv l := by rw [List.take_of_length_le h]
theorem sub_step (x y br : Int) (hx : 0 ≤ x ∧ x < 65536) (hy : 0 ≤ y ∧ y < 65536) (hb : 0 ≤ br ∧ br ≤ 1) :
    0 ≤ x + 65536 - y - br ∧ x + 65536 - y - br < 131072 ∧ 0 ≤ 1 - (x + 65536 - y - br) / 65536 ∧ 1 - (x + 65536 - y - br) / 65536 ≤ 1 ∧ (x + 65536 - y - br) % 65536 = x - y - br + 65536 * (1 - (x + 65536 - y - br) / 65536) := by omega
theorem sub_val (P X Y O x y br d br' : Int) (h : O = X - Y + P * br) (hd : d = x - y - br + 65536 * br') : O + P * d = (X + P * x) - (Y + P * y) + 65536 * P * br' := by
  subst h hd
  rw [Int.mul_add, Int.mul_sub, Int.mul_sub, Int.mul_left_comm, ← Int.mul_assoc]
  omega
theorem add_val (P X Y O x y c d c' : Int) (h : O + P * c = X + Y) (hd : x + y + c = d + 65536 * c') : (O + P * d) + 65536 * P * c' = (X + P * x) + (Y + P * y) := by
  have e : P * (x + y + c) = P * (d + 65536 * c') := by rw [hd]
  rw [Int.mul_add, Int.mul_add, Int.mul_add, Int.mul_left_comm, ← Int.mul_assoc] at e
  omega
theorem Add_l0_ev (na nb : Bool) (a b : List Int) (ha : Dg a) (hb : Dg b) (hle : bv b ≤ bv a) (hlen : b.length ≤ a.length) (hn : a.length ≤ 100000) (d : Nat) :
    ∀ (i : Nat) (br : Int) (out : List Int), i + d = a.length → out.length = i → Dg out → 0 ≤ br ∧ br ≤ 1 → bv out = bv (a.take i) - bv (b.take i) + pw i * br → ∃ r, Ev (fun k => publicanref1_Add.l0 k out br i na a nb b) r ∧ Is r (if na = true then -(bv a - bv b) else bv a - bv b) := by
  induction d with
  | zero =>
    intro i br out hi ho hd hb' hv
    rw [take_all (by omega), take_all (by omega)] at hv
    have hbd := bv_bd out hd
    rw [ho] at hbd
    have : br = 0 := by
      rcases (by omega : br = 0 ∨ br = 1) with h | h
      · exact h
      · subst h; omega
    subst this
    obtain ⟨r, hr, his⟩ := trim_f_ev na out hd (by omega)
    refine ⟨r, Ev.step (f := fun k => (publicanref1_trim.f k na out).bind fun b => some (b.1, b.2)) (fun k => ?_) (Ev.bind hr (Ev.now _)), ?_⟩
    · simp only [publicanref1_Add.l0]
      rw [if_neg (by omega)]
    · have e : sg na out = if na = true then -(bv a - bv b) else bv a - bv b := by
        unfold sg; rw [hv]; split <;> omega
      rw [← e]; exact his
  | succ d ih =>
    intro i br out hi ho hd hb' hv
    have hx := dgt_bd ha i
    have hy := dgt_bd hb i
    obtain ⟨s1, s2, s3, s4, s5⟩ := sub_step _ _ br hx hy hb'
    obtain ⟨r, hr, his⟩ := ih (i + 1) (1 - (dgt a i + 65536 - dgt b i - br) / 65536) (out ++ [(dgt a i + 65536 - dgt b i - br) % 65536]) (by omega) (by rw [List.length_append, ho]; rfl) (hd.append (Dg.one (by omega))) ⟨s3, s4⟩ (by
      rw [bv_append, ho, bv_take_succ, bv_take_succ]
      have e2 : bv [(dgt a i + 65536 - dgt b i - br) % 65536] = (dgt a i + 65536 - dgt b i - br) % 65536 := by simp [bv]
      rw [e2]
      exact sub_val _ _ _ _ _ _ _ _ _ hv s5)
    refine ⟨r, Ev.step (f := fun k => publicanref1_Add.l0 k (out ++ [(dgt a i + 65536 - dgt b i - br) % 65536]) (1 - (dgt a i + 65536 - dgt b i - br) / 65536) ((i + 1 : Nat) : Int) na a nb b) (fun k => ?_) hr, his⟩
    have e1 : IntKind.u64.wrap (IntKind.u64.wrap (IntKind.u64.wrap (dgt a i + 65536) - dgt b i) - br) = dgt a i + 65536 - dgt b i - br := by rw [bu64w, bu64w, bu64w]; omega
    have e2 : IntKind.u64.wrap (1 - (dgt a i + 65536 - dgt b i - br) / 65536) = 1 - (dgt a i + 65536 - dgt b i - br) / 65536 := by rw [bu64w]; omega
    simp only [publicanref1_Add.l0]
    rw [if_pos (by omega), if_pos (by omega), digit_f]
    simp only [Option.bind_some]
    rw [if_pos (by omega), rd_dgt, e1, mask16 _ s1 (by omega), e2, idx_succ i (by omega)]
theorem Add_l100_ev (na nb : Bool) (a b : List Int) (ha : Dg a) (hb : Dg b) (hle : bv b ≤ bv a) (hlen : b.length ≤ a.length) (hn : a.length ≤ 100000) (d : Nat) :
    ∀ (i : Nat) (br : Int) (out : List Int), i + d = a.length → out.length = i → Dg out → 0 ≤ br ∧ br ≤ 1 → bv out = bv (a.take i) - bv (b.take i) + pw i * br → ∃ r, Ev (fun k => publicanref1_Add.l100 k out br i na a nb b) r ∧ Is r (if na = true then -(bv a - bv b) else bv a - bv b) := by
  induction d with
  | zero =>
    intro i br out hi ho hd hb' hv
    rw [take_all (by omega), take_all (by omega)] at hv
    have hbd := bv_bd out hd
    rw [ho] at hbd
    have : br = 0 := by
      rcases (by omega : br = 0 ∨ br = 1) with h | h
      · exact h
      · subst h; omega
    subst this
    obtain ⟨r, hr, his⟩ := trim_f_ev na out hd (by omega)
    refine ⟨r, Ev.step (f := fun k => (publicanref1_trim.f k na out).bind fun b => some (b.1, b.2)) (fun k => ?_) (Ev.bind hr (Ev.now _)), ?_⟩
    · simp only [publicanref1_Add.l100]
      rw [if_neg (by omega)]
    · have e : sg na out = if na = true then -(bv a - bv b) else bv a - bv b := by
        unfold sg; rw [hv]; split <;> omega
      rw [← e]; exact his
  | succ d ih =>
    intro i br out hi ho hd hb' hv
    have hx := dgt_bd ha i
    have hy := dgt_bd hb i
    obtain ⟨s1, s2, s3, s4, s5⟩ := sub_step _ _ br hx hy hb'
    obtain ⟨r, hr, his⟩ := ih (i + 1) (1 - (dgt a i + 65536 - dgt b i - br) / 65536) (out ++ [(dgt a i + 65536 - dgt b i - br) % 65536]) (by omega) (by rw [List.length_append, ho]; rfl) (hd.append (Dg.one (by omega))) ⟨s3, s4⟩ (by
      rw [bv_append, ho, bv_take_succ, bv_take_succ]
      have e2 : bv [(dgt a i + 65536 - dgt b i - br) % 65536] = (dgt a i + 65536 - dgt b i - br) % 65536 := by simp [bv]
      rw [e2]
      exact sub_val _ _ _ _ _ _ _ _ _ hv s5)
    refine ⟨r, Ev.step (f := fun k => publicanref1_Add.l100 k (out ++ [(dgt a i + 65536 - dgt b i - br) % 65536]) (1 - (dgt a i + 65536 - dgt b i - br) / 65536) ((i + 1 : Nat) : Int) na a nb b) (fun k => ?_) hr, his⟩
    have e1 : IntKind.u64.wrap (IntKind.u64.wrap (IntKind.u64.wrap (dgt a i + 65536) - dgt b i) - br) = dgt a i + 65536 - dgt b i - br := by rw [bu64w, bu64w, bu64w]; omega
    have e2 : IntKind.u64.wrap (1 - (dgt a i + 65536 - dgt b i - br) / 65536) = 1 - (dgt a i + 65536 - dgt b i - br) / 65536 := by rw [bu64w]; omega
    simp only [publicanref1_Add.l100]
    rw [if_pos (by omega), if_pos (by omega), digit_f]
    simp only [Option.bind_some]
    rw [if_pos (by omega), rd_dgt, e1, mask16 _ s1 (by omega), e2, idx_succ i (by omega)]
theorem Add_l1_ev (na nb : Bool) (a b : List Int) (ha : Dg a) (hb : Dg b) (m : Nat) (hm : a.length ≤ m ∧ b.length ≤ m) (hn : m ≤ 100000) (d : Nat) :
    ∀ (i : Nat) (c : Int) (out : List Int), i + d = m + 1 → out.length = i → Dg out → 0 ≤ c ∧ c ≤ 1 → (i = m + 1 → c = 0) → bv out + pw i * c = bv (a.take i) + bv (b.take i) → ∃ r, Ev (fun k => publicanref1_Add.l1 k out c i na a nb b) r ∧ Is r (if na = true then -(bv a + bv b) else bv a + bv b) := by
  induction d with
  | zero =>
    intro i c out hi ho hd hc hlast hv
    have := hlast (by omega)
    subst this
    rw [take_all (by omega), take_all (by omega)] at hv
    obtain ⟨r, hr, his⟩ := trim_f_ev na out hd (by omega)
    refine ⟨r, Ev.step (f := fun k => (publicanref1_trim.f k na out).bind fun b => some (b.1, b.2)) (fun k => ?_) (Ev.bind hr (Ev.now _)), ?_⟩
    · simp only [publicanref1_Add.l1]
      rw [if_neg (by omega), if_neg (by omega), if_neg (by omega)]
    · have e : sg na out = if na = true then -(bv a + bv b) else bv a + bv b := by
        unfold sg; split <;> omega
      rw [← e]; exact his
  | succ d ih =>
    intro i c out hi ho hd hc hlast hv
    have hx := dgt_bd ha i
    have hy := dgt_bd hb i
    by_cases go : i < a.length ∨ i < b.length ∨ 0 < c
    · obtain ⟨r, hr, his⟩ := ih (i + 1) ((dgt a i + dgt b i + c) / 65536) (out ++ [(dgt a i + dgt b i + c) % 65536]) (by omega) (by rw [List.length_append, ho]; rfl) (hd.append (Dg.one (by omega))) (by omega) (by
          intro he
          rw [dgt_above (by omega), dgt_above (by omega)]
          omega) (by
        rw [bv_append, ho, bv_take_succ, bv_take_succ]
        have e2 : bv [(dgt a i + dgt b i + c) % 65536] = (dgt a i + dgt b i + c) % 65536 := by simp [bv]
        rw [e2]
        exact add_val _ _ _ _ _ _ _ _ _ hv (by omega))
      refine ⟨r, Ev.step (f := fun k => publicanref1_Add.l1 k (out ++ [(dgt a i + dgt b i + c) % 65536]) ((dgt a i + dgt b i + c) / 65536) ((i + 1 : Nat) : Int) na a nb b) (fun k => ?_) hr, his⟩
      have e1 : IntKind.u64.wrap (IntKind.u64.wrap (dgt a i + dgt b i) + c) = dgt a i + dgt b i + c := by rw [bu64w, bu64w]; omega
      have core : ((publicanref1_digit.f a (i : Int)).bind fun t => (publicanref1_digit.f b (i : Int)).bind fun s => if out.length < 17592186044416 then publicanref1_Add.l1 k (out ++ [Go.bits .and .u64 (IntKind.u64.wrap (IntKind.u64.wrap (t + s) + c)) 65535]) (IntKind.u64.wrap (IntKind.u64.wrap (t + s) + c) / 65536) (wrap64 ((i : Int) + 1)) na a nb b else none) = publicanref1_Add.l1 k (out ++ [(dgt a i + dgt b i + c) % 65536]) ((dgt a i + dgt b i + c) / 65536) ((i + 1 : Nat) : Int) na a nb b := by
        rw [digit_f, digit_f]
        simp only [Option.bind_some]
        rw [if_pos (by omega), e1, mask16 _ (by omega) (by omega), idx_succ i (by omega)]
      simp only [publicanref1_Add.l1]
      by_cases h1 : i < a.length
      · rw [if_pos (by omega)]; exact core
      · rw [if_neg (by omega)]
        by_cases h2 : i < b.length
        · rw [if_pos (by omega)]; exact core
        · rw [if_neg (by omega), if_pos (by omega)]; exact core
    · have : c = 0 := by omega
      subst this
      rw [take_all (by omega), take_all (by omega)] at hv
      obtain ⟨r, hr, his⟩ := trim_f_ev na out hd (by omega)
      refine ⟨r, Ev.step (f := fun k => (publicanref1_trim.f k na out).bind fun b => some (b.1, b.2)) (fun k => ?_) (Ev.bind hr (Ev.now _)), ?_⟩
      · simp only [publicanref1_Add.l1]
        rw [if_neg (by omega), if_neg (by omega), if_neg (by omega)]
      · have e : sg na out = if na = true then -(bv a + bv b) else bv a + bv b := by
          unfold sg; split <;> omega
        rw [← e]; exact his
theorem Add_raw (na nb : Bool) (a b : List Int) (ha : Dg a) (hb : Dg b) (xa : Norm a) (xb : Norm b) (hn : a.length ≤ 100000) (hm : b.length ≤ 100000) : ∃ r, Ev (fun k => publicanref1_Add.f k na a nb b) r ∧ Is r (sg na a + sg nb b) := by
  by_cases hs : na = nb
  · subst hs
    obtain ⟨r, hr, his⟩ := Add_l1_ev na na a b ha hb (max a.length b.length) ⟨by omega, by omega⟩ (by omega) (max a.length b.length + 1) 0 0 [] (by omega) rfl (fun x hx => absurd hx (List.not_mem_nil)) (by omega) (fun h => rfl) (by simp [bv])
    refine ⟨r, Ev.congr (fun k => ?_) hr, ?_⟩
    · simp only [publicanref1_Add.f]
      rw [if_neg (by simp)]
      rfl
    · have e : (if na = true then -(bv a + bv b) else bv a + bv b) = sg na a + sg na b := by unfold sg; split <;> omega
      rw [← e]; exact his
  · have hne : (na != nb) = true := by simpa using hs
    have hl := less_ev a b ha hb xa xb (by omega) (by omega)
    by_cases h : bv a < bv b
    · rw [decide_eq_true h] at hl
      have hlen : a.length ≤ b.length := by
        have := bv_bd b hb
        exact norm_len ha xa (by omega)
      obtain ⟨r, hr, his⟩ := Add_l0_ev nb na b a hb ha (by omega) hlen hm b.length 0 0 [] (by omega) rfl (fun x hx => absurd hx (List.not_mem_nil)) (by omega) (by simp [bv])
      refine ⟨r, Ev.congr (f := fun k => (publicanref1_less.f k a b).bind fun t => if t = true then publicanref1_Add.l0 k [] 0 0 nb b na a else publicanref1_Add.l100 k [] 0 0 na a nb b) (fun k => ?_) (Ev.bind hl (Ev.congr (fun k => by rw [if_pos rfl]; rfl) hr)), ?_⟩
      · simp only [publicanref1_Add.f]
        rw [if_pos hne]
      · have e : (if nb = true then -(bv b - bv a) else bv b - bv a) = sg na a + sg nb b := by
          cases na <;> cases nb <;> simp [sg] at hs ⊢ <;> omega
        rw [← e]; exact his
    · rw [decide_eq_false h] at hl
      have hlen : b.length ≤ a.length := by
        have := bv_bd a ha
        exact norm_len hb xb (by omega)
      obtain ⟨r, hr, his⟩ := Add_l100_ev na nb a b ha hb (by omega) hlen hn a.length 0 0 [] (by omega) rfl (fun x hx => absurd hx (List.not_mem_nil)) (by omega) (by simp [bv])
      refine ⟨r, Ev.congr (f := fun k => (publicanref1_less.f k a b).bind fun t => if t = true then publicanref1_Add.l0 k [] 0 0 nb b na a else publicanref1_Add.l100 k [] 0 0 na a nb b) (fun k => ?_) (Ev.bind hl (Ev.congr (fun k => by rw [if_neg (by decide)]; rfl) hr)), ?_⟩
      · simp only [publicanref1_Add.f]
        rw [if_pos hne]
      · have e : (if na = true then -(bv a - bv b) else bv a - bv b) = sg na a + sg nb b := by
          cases na <;> cases nb <;> simp [sg] at hs ⊢ <;> omega
        rw [← e]; exact his
def Small (r : Bool × List Int) : Prop := r.2.length ≤ 1000
theorem Is.small {r : Bool × List Int} {v : Int} (h : Is r v) (n : Nat) (hn : n ≤ 1000) (h0 : -pw n < v) (h1 : v < pw n) : Small r := Nat.le_trans (h.len h0 h1) hn
theorem Add_ev {r s : Bool × List Int} {x y : Int} (hr : Is r x) (hs : Is s y) (kr : Small r) (ks : Small s) : ∃ t, Ev (fun k => publicanref1_Add.f k r.1 r.2 s.1 s.2) t ∧ Is t (x + y) := by
  unfold Small at kr ks
  obtain ⟨t, ht, hi⟩ := Add_raw r.1 s.1 r.2 s.2 hr.dg hs.dg hr.norm hs.norm (by omega) (by omega)
  rw [hr.val, hs.val] at hi
  exact ⟨t, ht, hi⟩
theorem Minus_ev {r : Bool × List Int} {x : Int} (hr : Is r x) (kr : Small r) : ∃ t, Ev (fun k => publicanref1_Minus.f k r.1 r.2) t ∧ Is t (-x) := by
  unfold Small at kr
  obtain ⟨t, ht, hi⟩ := trim_f_ev (!r.1) r.2 hr.dg (by omega)
  refine ⟨t, Ev.congr (f := fun k => (publicanref1_trim.f k (!r.1) r.2).bind fun b => some (b.1, b.2)) (fun k => by simp only [publicanref1_Minus.f]) (Ev.bind ht (Ev.now _)), ?_⟩
  have e : sg (!r.1) r.2 = -x := by
    rw [← hr.val]; unfold sg
    cases r.1 <;> simp
  rw [← e]; exact hi
theorem Cmp_ev {r s : Bool × List Int} {x y : Int} (hr : Is r x) (hs : Is s y) (kr : Small r) (ks : Small s) : Ev (fun k => publicanref1_Cmp.f k r.1 r.2 s.1 s.2) (if x = y then 0 else if x < y then -1 else 1) := by
  obtain ⟨m, hm, im⟩ := Minus_ev hs ks
  have km : Small m := by
    unfold Small at ks ⊢
    apply norm_len im.dg im.norm
    have e : bv m.2 = bv s.2 := by rw [im.abs, hs.abs]; split <;> split <;> omega
    rw [e]
    have := (bv_bd s.2 hs.dg).2
    have := pw_mono ks
    omega
  obtain ⟨d, hd, id⟩ := Add_ev hr im kr km
  refine Ev.congr (f := fun k => (publicanref1_Minus.f k s.1 s.2).bind fun m => (publicanref1_Add.f k r.1 r.2 m.1 m.2).bind fun d => if (d.2.length : Int) = 0 then some 0 else if d.1 = true then some (-1) else some 1) (fun k => by simp only [publicanref1_Cmp.f]) (Ev.bind hm (Ev.bind hd ?_))
  refine Ev.congr (f := fun _ => some (if x = y then (0 : Int) else if x < y then -1 else 1)) (fun k => ?_) (Ev.now _)
  have hn := id.nil
  have hg := id.neg
  by_cases h : x = y
  · have : d.2 = [] := hn.2 (by omega)
    rw [this, if_pos (by simp), if_pos h]
  · have : d.2 ≠ [] := fun hz => h (by have := hn.1 hz; omega)
    have hp : 0 < d.2.length := List.length_pos_iff.2 this
    rw [if_neg (by omega), if_neg h, hg]
    by_cases h2 : x < y
    · rw [if_pos (decide_eq_true (by omega)), if_pos h2]
    · rw [if_neg (by rw [decide_eq_true_eq]; omega), if_neg h2]
end Go.Proofs.Ythjhammjankekaa.PNum
