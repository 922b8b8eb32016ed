import Derived.Test.YtikdjhlcbkkkfaaLexSC
namespace Go.Proofs.Ytikdjhlcbkkkfaa.AbsLexO
open Go Go.Abs Go.Proofs
set_option maxRecDepth 100000
set_option linter.unusedVariables false
set_option linter.unusedSimpArgs false

attribute [local congr] h_opt2 h_opt h_condV h_cond
/-! the document's words that begin with digits, joined -/
theorem zw_len : zw.length = 4 := rfl
theorem put18 (b : Nat) (d : List Value) (hd : d.length = 4) (hm : isMapB d = false) (v : Value) (rec : Rec) (u : St) (h : u.getC b = some zw) (hb : b + 1 < 1099511627776) :
    (opt2 (oStore 4 (.v (.pointer (some ⟨b, 0, none⟩))) (.v (aggOf d)) rec PT.nil u) fun _ s => finX [.cell t4 (some 4), .tmp t5] .ret ((PT.put v t5 (PT.put (.pointer (some ⟨b, 0, none⟩)) t4 PT.nil)), s)) = some (tupOf [aggOf d, v], (u.set b (some d)).seen b) := by
  rw [storeall_u 4 b d zw rec PT.nil u h rfl hd, op2_s]
  exact fin18 b d v _ (set_same _ _ _ hb hm) hd
theorem put18_0 (b : Nat) (v : Value) (rec : Rec) (u : St) (h : u.getC b = some zw) (hb : b + 1 < 1099511627776) :
    (opt2 (oStore 4 (.v (.pointer (some ⟨b, 0, none⟩))) (.v (aggOf zw)) rec PT.nil u) fun _ s => finX [.cell t4 (some 4), .tmp t5] .ret ((PT.put v t5 (PT.put (.pointer (some ⟨b, 0, none⟩)) t4 PT.nil)), s)) = some (tupOf [aggOf zw, v], (u.set b (some zw)).seen b) := put18 b zw rfl rfl v rec u h hb
theorem wat_n {r : List UInt8} {w : Int × Nat × Int} {a : Nat} (h : w.1 ≠ 0) : wat r w a = [.int .i64 w.1, .string ⟨⟨r.take w.2.1⟩⟩, .int .i64 w.2.2, .int .i64 (a : Int)] := by unfold wat; rw [decide_eq_false h]; rfl
theorem wat_0 (r : List UInt8) (a : Nat) : wat r W0 a = zw := rfl
theorem wat_len (r : List UInt8) (w : Int × Nat × Int) (a : Nat) : (wat r w a).length = 4 := by unfold wat; cases decide (w.1 = 0) <;> rfl
def rcW (r : List UInt8) : Int × Nat × Int := bif decide (0 < (rateF r).1) then mkW 5 (rateF r) else mkW 3 (cntN r)
theorem rate_y {r : List UInt8} (h0 : cntF isD r ≠ 0) (h : (r.drop (rtE r)).head? = some 37) : rateF r = (rtE r + 1, capF 1000000000000 (rtV r)) := by
  unfold rateF; rw [decide_eq_false h0, decide_eq_true h]; rfl
theorem rate_n {r : List UInt8} (h0 : cntF isD r ≠ 0) (h : ¬ (r.drop (rtE r)).head? = some 37) : rateF r = (0, 0) := by
  unfold rateF; rw [decide_eq_false h0, decide_eq_false h]; rfl
theorem oR_c (x : Int) : ((x < 0) ∧ oR x = (0, false)) ∨ (¬ x < 0 ∧ oR x = (x, true)) := by
  by_cases h : x < 0
  · exact .inl ⟨h, oR_n h⟩
  · exact .inr ⟨h, oR_p h⟩
theorem rtE_le (r : List UInt8) : rtE r ≤ r.length := by
  unfold rtE
  have hc := cntF_le isD r
  by_cases h : 0 < plF 4 (r.drop (cntF isD r))
  · rw [decide_eq_true h, cond_true]
    obtain ⟨q, hq, hqc, _⟩ := plF_dt (m := 4) (l := r.drop (cntF isD r)) (by omega)
    have := congrArg List.length hq
    rw [List.length_drop, List.length_cons] at this
    have := cntF_le isD q
    omega
  · rw [decide_eq_false h]; exact hc
set_option maxHeartbeats 1000000 in
theorem j18_1 (M : Nat) (hM : 10005 ≤ M) (l : List UInt8) (hl : l.length ≤ 9000) (a : Nat) (ha : a ≤ l.length) (r : List UInt8) (hr : l.drop a = r) (h0 : cntF isD r ≠ 0) (part : List UInt8)
    (hpart : part = bif decide (0 < plF 4 (r.drop (cntF isD r))) then (r.drop (cntF isD r + 1)).take (plF 4 (r.drop (cntF isD r))) else []) (b : Nat) (u : St) (hb : u.getC b = some zw) (hbb : b + 1 < 1099511627776) :
    J18_j1 (callN E M) M ((.string ⟨⟨l⟩⟩), (.int .i64 (a : Int)), (.pointer (some ⟨b, 0, none⟩)), (.int .i64 (cntF isD r : Int)), (.string ⟨⟨part⟩⟩), (.int .i64 ((a + rtE r : Nat) : Int))) u = some (tupOf [aggOf (wat r (rcW r) a), .int .i64 ((rcW r).2.1 : Int)], (u.set b (some (wat r (rcW r) a))).seen b) := by
  obtain ⟨M, rfl⟩ : ∃ m, M = m + 1 := ⟨M - 1, by omega⟩
  obtain ⟨tp1, tp2, tp3⟩ := two_rate r part hpart
  have hrl : r.length = l.length - a := by rw [← hr, List.length_drop]
  have hcl := cntF_le isD r
  have hel := rtE_le r
  have hall := cntF_all isD r
  have htl : (r.take (cntF isD r)).length ≤ 10000 := by rw [List.length_take]; omega
  have q35 := fun s => r35 M (by omega) (r.take (cntF isD r)) part htl tp1 hall tp2 s
  rw [tp3] at q35
  have q36 := fun s => r36 M (by omega) (r.take (cntF isD r)) htl hall 4503599627370496 (by omega) (by omega) s
  rw [two_cnt] at q36
  have ad : int2 addO (.int .i64 (a : Int)) (.int .i64 (cntF isD r : Int)) = some (.int .i64 ((a + cntF isD r : Nat) : Int)) := by rw [add_e _ _ (by omega) (by omega)]; rfl
  have ade : int2 addO (.int .i64 ((a + rtE r : Nat) : Int)) (.int .i64 1) = some (.int .i64 ((a + (rtE r + 1) : Nat) : Int)) := by rw [add_e _ _ (by omega) (by omega)]; rfl
  have sbe : int2 subO (.int .i64 ((a + (rtE r + 1) : Nat) : Int)) (.int .i64 (a : Int)) = some (.int .i64 ((rtE r + 1 : Nat) : Int)) := by rw [sub_e _ _ (by omega) (by omega)]; congr 2; omega
  have sl1 : ∀ s, oSliceS (.v (.string ⟨⟨l⟩⟩)) (some (.v (.int .i64 (a : Int)))) (some (.v (.int .i64 ((a + cntF isD r : Nat) : Int)))) (callN E (M + 1)) PT.nil s = some (.string ⟨⟨r.take (cntF isD r)⟩⟩, s) := fun s => by
    rw [slS_lh l a _ (by omega) (by omega), hr, Nat.add_sub_cancel_left]
  unfold J18_j1
  by_cases hh : (r.drop (rtE r)).head? = some 37
  · have hrt := rate_y h0 hh
    have hrc : rcW r = mkW 5 (rtE r + 1, capF 1000000000000 (rtV r)) := by unfold rcW; rw [hrt, decide_eq_true (by show 0 < rtE r + 1; omega)]; rfl
    rw [hrc]
    obtain ⟨t, ht⟩ : ∃ t, r.drop (rtE r) = 37 :: t := by
      cases hd : r.drop (rtE r) with
      | nil => rw [hd] at hh; cases hh
      | cons c t => rw [hd] at hh; exact ⟨t, by rw [Option.some.inj hh]⟩
    have hlt := congrArg List.length ht
    rw [List.length_drop, List.length_cons] at hlt
    have hix : l.drop (a + rtE r) = 37 :: t := by rw [← List.drop_drop, hr, ht]
    have e1 : decide (((a + rtE r : Nat) : Int) < (l.length : Int)) = true := decide_eq_true (by omega)
    have e2 : decide (((37 : UInt8).toNat : Int) = 37) = true := rfl
    have sl2 : ∀ s, oSliceS (.v (.string ⟨⟨l⟩⟩)) (some (.v (.int .i64 (a : Int)))) (some (.v (.int .i64 ((a + (rtE r + 1) : Nat) : Int)))) (callN E (M + 1)) PT.nil s = some (.string ⟨⟨r.take (rtE r + 1)⟩⟩, s) := fun s => by
      rw [slS_lh l a _ (by omega) (by omega), hr, Nat.add_sub_cancel_left]
    rcases oR_c (capF 1000000000000 (rtV r)) with ⟨hv, ho⟩ | ⟨hv, ho⟩
    · rw [ho] at q35
      rw [mk_0 hv, wat_0]
      simp only [es, cond_true, cond_false, eq_self, lenS_u, e1, idx_at hix, e2, ad, sl1, q35, build0]
      exact put18 b zw rfl rfl _ _ u hb hbb
    · rw [ho] at q35
      rw [mk_1 hv (by show rtE r + 1 ≠ 0; omega), wat_n (by show (5 : Int) ≠ 0; decide)]
      simp only [es, cond_true, cond_false, eq_self, lenS_u, e1, idx_at hix, e2, ad, sl1, q35, ade, sl2, buildA, sbe]
      exact put18 b _ rfl rfl _ _ u hb hbb
  · have hrt := rate_n h0 hh
    have hrc : rcW r = mkW 3 (cntN r) := by unfold rcW; rw [hrt]; rfl
    rw [hrc]
    have hc1 : (cntN r).1 = cntF isD r := rfl
    cases hd : r.drop (rtE r) with
    | nil =>
      have hlt := congrArg List.length hd
      rw [List.length_drop, List.length_nil] at hlt
      have e1 : decide (((a + rtE r : Nat) : Int) < (l.length : Int)) = false := decide_eq_false (by omega)
      rcases oR_c (cntN r).2 with ⟨hv, ho⟩ | ⟨hv, ho⟩
      · rw [ho] at q36
        rw [mk_0 hv, wat_0]
        simp only [es, cond_true, cond_false, eq_self, lenS_u, e1, ad, sl1, q36, build0]
        exact put18 b zw rfl rfl _ _ u hb hbb
      · rw [ho] at q36
        rw [mk_1 hv (by rw [hc1]; exact h0), wat_n (by show (3 : Int) ≠ 0; decide)]
        simp only [es, cond_true, cond_false, eq_self, lenS_u, e1, ad, sl1, q36, buildA]
        exact put18 b _ rfl rfl _ _ u hb hbb
    | cons c t =>
      have hlt := congrArg List.length hd
      rw [List.length_drop, List.length_cons] at hlt
      have hix : l.drop (a + rtE r) = c :: t := by rw [← List.drop_drop, hr, hd]
      have e1 : decide (((a + rtE r : Nat) : Int) < (l.length : Int)) = true := decide_eq_true (by omega)
      have e2 : decide ((c.toNat : Int) = 37) = false := decide_eq_false fun h => hh (by rw [hd, head_37 h]; rfl)
      rcases oR_c (cntN r).2 with ⟨hv, ho⟩ | ⟨hv, ho⟩
      · rw [ho] at q36
        rw [mk_0 hv, wat_0]
        simp only [es, cond_true, cond_false, eq_self, lenS_u, e1, idx_at hix, e2, ad, sl1, q36, build0]
        exact put18 b zw rfl rfl _ _ u hb hbb
      · rw [ho] at q36
        rw [mk_1 hv (by rw [hc1]; exact h0), wat_n (by show (3 : Int) ≠ 0; decide)]
        simp only [es, cond_true, cond_false, eq_self, lenS_u, e1, idx_at hix, e2, ad, sl1, q36, buildA]
        exact put18 b _ rfl rfl _ _ u hb hbb
theorem rtE_n {r : List UInt8} (h : ¬ 0 < plF 4 (r.drop (cntF isD r))) : rtE r = cntF isD r := by unfold rtE; rw [decide_eq_false h]; rfl
theorem rtE_y {r : List UInt8} (h : 0 < plF 4 (r.drop (cntF isD r))) : rtE r = cntF isD r + (1 + plF 4 (r.drop (cntF isD r))) := by unfold rtE; rw [decide_eq_true h]; rfl
theorem j18_2 (M : Nat) (hM : 10005 ≤ M) (l : List UInt8) (hl : l.length ≤ 9000) (a : Nat) (ha : a ≤ l.length) (r : List UInt8) (hr : l.drop a = r) (h0 : cntF isD r ≠ 0) (b : Nat) (u : St) (hb : u.getC b = some zw) (hbb : b + 1 < 1099511627776) :
    J18_j2 (callN E M) M ((.string ⟨⟨l⟩⟩), (.int .i64 (a : Int)), (.pointer (some ⟨b, 0, none⟩))) u = some (tupOf [aggOf (wat r (rcW r) a), .int .i64 ((rcW r).2.1 : Int)], (u.set b (some (wat r (rcW r) a))).seen b) := by
  obtain ⟨M, rfl⟩ : ∃ m, M = m + 1 := ⟨M - 1, by omega⟩
  have hrl : r.length = l.length - a := by rw [← hr, List.length_drop]
  have hcl := cntF_le isD r
  have q19 := fun s => r19 M (by omega) l hl a ha s
  rw [hr] at q19
  have ad : int2 addO (.int .i64 (a : Int)) (.int .i64 (cntF isD r : Int)) = some (.int .i64 ((a + cntF isD r : Nat) : Int)) := by rw [add_e _ _ (by omega) (by omega)]; rfl
  have none_ : ¬ 0 < plF 4 (r.drop (cntF isD r)) → J18_j1 (callN E (M + 1)) (M + 1) ((.string ⟨⟨l⟩⟩), (.int .i64 (a : Int)), (.pointer (some ⟨b, 0, none⟩)), (.int .i64 (cntF isD r : Int)), (.string ⟨⟨[]⟩⟩), (.int .i64 ((a + cntF isD r : Nat) : Int))) u = some (tupOf [aggOf (wat r (rcW r) a), .int .i64 ((rcW r).2.1 : Int)], (u.set b (some (wat r (rcW r) a))).seen b) := fun h => by
    have := j18_1 (M + 1) (by omega) l hl a ha r hr h0 [] (by rw [decide_eq_false h]; rfl) b u hb hbb
    rw [rtE_n h] at this
    exact this
  unfold J18_j2
  cases hd : r.drop (cntF isD r) with
  | nil =>
    have hlt := congrArg List.length hd
    rw [List.length_drop, List.length_nil] at hlt
    have e1 : decide (((a + cntF isD r : Nat) : Int) < (l.length : Int)) = false := decide_eq_false (by omega)
    simp only [es, cond_true, cond_false, eq_self, q19, ad, lenS_u, e1]
    exact none_ (by rw [hd]; decide)
  | cons c t =>
    have hlt := congrArg List.length hd
    rw [List.length_drop, List.length_cons] at hlt
    have hix : l.drop (a + cntF isD r) = c :: t := by rw [← List.drop_drop, hr, hd]
    have e1 : decide (((a + cntF isD r : Nat) : Int) < (l.length : Int)) = true := decide_eq_true (by omega)
    by_cases h46 : (c.toNat : Int) = 46
    rotate_left
    · have e2 := decide_eq_false h46
      simp only [es, cond_true, cond_false, eq_self, q19, ad, lenS_u, e1, idx_at hix, e2]
      exact none_ (by rw [hd, plF_c, e2]; exact Nat.lt_irrefl 0)
    have e2 := decide_eq_true h46
    have ad1 : int2 addO (.int .i64 ((a + cntF isD r : Nat) : Int)) (.int .i64 1) = some (.int .i64 ((a + cntF isD r + 1 : Nat) : Int)) := by rw [add_e _ _ (by omega) (by omega)]; rfl
    have hdt : l.drop (a + cntF isD r + 1) = t := drop_next hix
    have q19b := fun s => r19 M (by omega) l hl (a + cntF isD r + 1) (by omega) s
    rw [hdt] at q19b
    have hkl := cntF_le isD t
    by_cases h1 : 1 ≤ cntF isD t
    rotate_left
    · have e3 : decide ((1 : Int) ≤ (cntF isD t : Int)) = false := decide_eq_false (by omega)
      simp only [es, cond_true, cond_false, eq_self, q19, ad, lenS_u, e1, idx_at hix, e2, ad1, q19b, e3]
      exact none_ (by rw [hd, plF_c, e2, cond_true]; cases decide (cntF isD t ≤ 4) <;> (try exact Nat.lt_irrefl 0); exact h1)
    have e3 : decide ((1 : Int) ≤ (cntF isD t : Int)) = true := decide_eq_true (by omega)
    by_cases h4 : cntF isD t ≤ 4
    rotate_left
    · have e4 : decide ((cntF isD t : Int) ≤ 4) = false := decide_eq_false (by omega)
      simp only [es, cond_true, cond_false, eq_self, q19, ad, lenS_u, e1, idx_at hix, e2, ad1, q19b, e3, e4]
      exact none_ (by rw [hd, plF_c, e2, cond_true, decide_eq_false h4]; exact Nat.lt_irrefl 0)
    have e4 : decide ((cntF isD t : Int) ≤ 4) = true := decide_eq_true (by omega)
    have hpl : plF 4 (r.drop (cntF isD r)) = cntF isD t := by rw [hd, plF_c, e2, cond_true, decide_eq_true h4]; rfl
    have hpos : 0 < plF 4 (r.drop (cntF isD r)) := by omega
    have ad2 : int2 addO (.int .i64 ((a + cntF isD r + 1 : Nat) : Int)) (.int .i64 (cntF isD t : Int)) = some (.int .i64 ((a + rtE r : Nat) : Int)) := by rw [add_e _ _ (by omega) (by omega), rtE_y hpos]; congr 2; omega
    have hee := rtE_y hpos
    have sl : ∀ s, oSliceS (.v (.string ⟨⟨l⟩⟩)) (some (.v (.int .i64 ((a + cntF isD r + 1 : Nat) : Int)))) (some (.v (.int .i64 ((a + rtE r : Nat) : Int)))) (callN E (M + 1)) PT.nil s = some (.string ⟨⟨t.take (cntF isD t)⟩⟩, s) := fun s => by
      rw [slS_lh l _ _ (by omega) (by omega), hdt]
      rw [show a + rtE r - (a + cntF isD r + 1) = cntF isD t by omega]
    have hj := j18_1 (M + 1) (by omega) l hl a ha r hr h0 (t.take (cntF isD t)) (by rw [decide_eq_true hpos, cond_true, hpl, ← List.drop_drop, hd]; rfl) b u hb hbb
    simp only [es, cond_true, cond_false, eq_self, q19, ad, lenS_u, e1, idx_at hix, e2, ad1, q19b, e3, e4, ad2, sl]
    exact hj
theorem ofR_pos (y m d : Int) : 0 ≤ (ofR y m d).1 := by
  unfold ofR
  split
  · rename_i h
    obtain ⟨h1, h2, h3, h4⟩ := h
    obtain ⟨k, hk, hk2⟩ := days_pos (show 1 ≤ daysF y m by omega)
    have hb := before_in y h1 (by omega)
    have hs := sum_in y (m - 1).toNat (by omega)
    dsimp only; omega
  · exact Int.le_refl _
theorem rdF_pos (l : List UInt8) : 0 ≤ (rdF l).1 := by
  unfold rdF
  split
  · rename_i b0 b1 b2 b3 b4 b5 b6 b7 b8 b9
    cases decide ((b4.toNat : Int) = 45) && decide ((b7.toNat : Int) = 45)
    · exact Int.le_refl _
    · exact ofR_pos _ _ _
  · exact Int.le_refl _
/-- a day may stand here -/
def dyP (r : List UInt8) : Bool := !(decide (r.length < 10)) && !(nextD r)
theorem digW_n {r : List UInt8} (h : dyP r = false ∨ (rdF (r.take 10)).2 = false) : digW rdF r = rcW r := by
  have : (dayF rdF r).1 = 0 := by
    unfold dayF
    cases h1 : decide (r.length < 10)
    · cases h2 : nextD r
      · rcases h with h | h
        · unfold dyP at h; rw [h1, h2] at h; cases h
        · rw [h]; rfl
      · rfl
    · rfl
  unfold digW
  rw [this]; rfl
theorem digW_y {r : List UInt8} (h : dyP r = true) (h2 : (rdF (r.take 10)).2 = true) : digW rdF r = (6, 10, (rdF (r.take 10)).1) := by
  have : dayF rdF r = (10, (rdF (r.take 10)).1) := by
    unfold dayF
    unfold dyP at h
    cases h1 : decide (r.length < 10)
    · cases h3 : nextD r
      · rw [h2]; rfl
      · rw [h1, h3] at h; cases h
    · rw [h1] at h; cases h
  unfold digW
  rw [this]
  have := rdF_pos (r.take 10)
  exact mk_1 (by show ¬ (rdF (r.take 10)).1 < 0; omega) (by show 10 ≠ 0; decide)
theorem j18_0 (M : Nat) (hM : 10005 ≤ M) (l : List UInt8) (hl : l.length ≤ 9000) (a : Nat) (ha : a ≤ l.length) (r : List UInt8) (hr : l.drop a = r) (h0 : cntF isD r ≠ 0) (b : Nat) (u : St) (hb : u.getC b = some zw) (hbb : b < u.next) (hs : u.next + 3 ≤ lim) :
    ∃ u', J18_j0 (callN E M) M ((.string ⟨⟨l⟩⟩), (.int .i64 (a : Int)), (.pointer (some ⟨b, 0, none⟩)), (.bool (dyP r))) u = some (tupOf [aggOf (wat r (digW rdF r) a), .int .i64 ((digW rdF r).2.1 : Int)], u') ∧ But b 1 u u' := by
  have hlim : lim = 1000000000 := rfl
  obtain ⟨M, rfl⟩ : ∃ m, M = m + 1 := ⟨M - 1, by omega⟩
  have hrl : r.length = l.length - a := by rw [← hr, List.length_drop]
  have fin : ∀ (w : St) (d : List Value), Grew 1 u w → But b 1 u ((w.set b (some d)).seen b) := fun w d g =>
    ⟨by rw [St.seen_next, set_next]; exact g.1, by rw [St.seen_next, set_next]; exact g.2.1, fun y h1 h2 => (seen_getC _ _ _).trans ((set_ne _ _ _ _ (by omega) h2).trans (g.2.2 y h1))⟩
  have ad : int2 addO (.int .i64 (a : Int)) (.int .i64 10) = some (.int .i64 ((a + 10 : Nat) : Int)) := by rw [add_e _ _ (by omega) (by omega)]; rfl
  unfold J18_j0
  cases hp : dyP r with
  | false =>
    rw [digW_n (.inl hp)]
    refine ⟨(u.set b (some (wat r (rcW r) a))).seen b, ?_, fin _ _ ((Grew.refl u).mono (by omega))⟩
    simp only [es, cond_true, cond_false, eq_self]
    exact j18_2 (M + 1) (by omega) l hl a ha r hr h0 b u hb (by omega)
  | true =>
    have hlen : 10 ≤ r.length := by
      unfold dyP at hp
      by_cases h : r.length < 10
      · rw [decide_eq_true h] at hp; cases hp
      · omega
    obtain ⟨w, q34, g34⟩ := r34 M (by omega) (r.take 10) (by rw [List.length_take]; omega) u (by omega)
    have sl : ∀ s, oSliceS (.v (.string ⟨⟨l⟩⟩)) (some (.v (.int .i64 (a : Int)))) (some (.v (.int .i64 ((a + 10 : Nat) : Int)))) (callN E (M + 1)) PT.nil s = some (.string ⟨⟨r.take 10⟩⟩, s) := fun s => by
      rw [slS_lh l a _ (by omega) (by omega), hr, Nat.add_sub_cancel_left]
    have hbw := g34.get hb hbb
    cases hok : (rdF (r.take 10)).2 with
    | false =>
      rw [digW_n (.inr hok)]
      refine ⟨(w.set b (some (wat r (rcW r) a))).seen b, ?_, fin _ _ g34⟩
      rw [hok] at q34
      simp only [es, cond_true, cond_false, eq_self, ad, sl, q34]
      exact j18_2 (M + 1) (by omega) l hl a ha r hr h0 b w hbw (by omega)
    | true =>
      rw [digW_y hp hok, wat_n (by show (6 : Int) ≠ 0; decide)]
      refine ⟨(w.set b (some [.int .i64 6, .string ⟨⟨r.take 10⟩⟩, .int .i64 (rdF (r.take 10)).1, .int .i64 (a : Int)])).seen b, ?_, fin _ _ g34⟩
      rw [hok] at q34
      simp only [es, cond_true, cond_false, eq_self, ad, sl, q34, buildA]
      exact put18 b _ rfl rfl _ _ w hbw (by omega)
theorem nextD_c {r : List UInt8} {c : UInt8} {t : List UInt8} (h : r.drop 10 = c :: t) : nextD r = isD c := by unfold nextD; rw [h]
theorem r18 (M : Nat) (hM : 10006 ≤ M) (l : List UInt8) (hl : l.length ≤ 9000) (a : Nat) (ha : a ≤ l.length) (h0 : cntF isD (l.drop a) ≠ 0) (s : St) (hs : s.next + 4 ≤ lim) :
    ∃ s', callN E (M + 1) 18 [.string ⟨⟨l⟩⟩, .int .i64 (a : Int)] s = some (tupOf [aggOf (wat (l.drop a) (digW rdF (l.drop a)) a), .int .i64 ((digW rdF (l.drop a)).2.1 : Int)], s') ∧ Grew 2 s s' := by
  have hlim : lim = 1000000000 := rfl
  obtain ⟨M, rfl⟩ : ∃ m, M = m + 1 := ⟨M - 1, by omega⟩
  obtain ⟨r, hr⟩ : ∃ r, l.drop a = r := ⟨_, rfl⟩
  rw [hr] at h0 ⊢
  have hrl : r.length = l.length - a := by rw [← hr, List.length_drop]
  obtain ⟨u', q, g⟩ := j18_0 (M + 1) (by omega) l hl a ha r hr h0 s.next (al s zw) (al_same s _ (by omega) rfl) (by rw [al_next _ _ (by omega)]; omega) (by rw [al_next _ _ (by omega)]; omega)
  refine ⟨u', ?_, But.fresh zw (by omega) g⟩
  rw [← q]
  have ad : int2 addO (.int .i64 (a : Int)) (.int .i64 10) = some (.int .i64 ((a + 10 : Nat) : Int)) := by rw [add_e _ _ (by omega) (by omega)]; rfl
  rw [x18]; unfold F18
  by_cases h10 : r.length < 10
  · have e1 : decide (((a + 10 : Nat) : Int) ≤ (l.length : Int)) = false := decide_eq_false (by omega)
    have hp : dyP r = false := by unfold dyP; rw [decide_eq_true h10]; rfl
    simp (disch := omega) only [es, cond_true, cond_false, eq_self, new_u, ad, lenS_u, e1, Q18_q0, hp]
  have e1 : decide (((a + 10 : Nat) : Int) ≤ (l.length : Int)) = true := decide_eq_true (by omega)
  cases hd : r.drop 10 with
  | nil =>
    have hlt := congrArg List.length hd
    rw [List.length_drop, List.length_nil] at hlt
    have e2 : decide (((a + 10 : Nat) : Int) = (l.length : Int)) = true := decide_eq_true (by omega)
    have hp : dyP r = true := by unfold dyP nextD; rw [decide_eq_false h10, hd]; rfl
    simp (disch := omega) only [es, cond_true, cond_false, eq_self, new_u, ad, lenS_u, e1, e2, Q18_q0, hp]
  | cons c t =>
    have hlt := congrArg List.length hd
    rw [List.length_drop, List.length_cons] at hlt
    have e2 : decide (((a + 10 : Nat) : Int) = (l.length : Int)) = false := decide_eq_false (by omega)
    have hix : l.drop (a + 10) = c :: t := by rw [← List.drop_drop, hr, hd]
    have hp : dyP r = !(isD c) := by unfold dyP; rw [decide_eq_false h10, nextD_c hd]; rfl
    simp (disch := omega) only [es, cond_true, cond_false, eq_self, new_u, ad, lenS_u, e1, e2, Q18_q0, hp, idx_at hix, r17]
end Go.Proofs.Ytikdjhlcbkkkfaa.AbsLexO
namespace Go.Proofs.Ytikdjhlcbkkkfaa.AbsLexO
open Go Go.Abs Go.Proofs
set_option maxRecDepth 100000
set_option linter.unusedVariables false
set_option linter.unusedSimpArgs false

attribute [local congr] h_opt2 h_opt h_condV h_cond
/-! the document's Cut: one word -/
abbrev V4 := Value × Value × Value × Value
/-- one word more: what the step leaves -/
def O10 (u : St) (r : List UInt8) (a : Nat) (v1 v2 v : Value) (m : Nat) (c : List Value) (o : OutV V4) : Prop :=
  ((wordF rdF r).1 = 0 ∧ ∃ w' u', o = some (.ret, (w', u')) ∧ w'.1 = .slice none 0 0 ∧ w'.2.1 = .int .i64 (a : Int) ∧ Grew 30 u u') ∨
  ((wordF rdF r).1 ≠ 0 ∧ ∃ v' u', o = some (.norm, ((v1, v2, v', .int .i64 ((a + (wordF rdF r).2.1 : Nat) : Int)), u')) ∧ Acc 4 u' v' (m + 1) (c ++ wv ((wordF rdF r).1, r.take (wordF rdF r).2.1, (wordF rdF r).2.2, a)) ∧
    (∀ y, accB v' y → u.next ≤ y) ∧ u.next ≤ u'.next ∧ u'.next ≤ u.next + 30 ∧ ∀ y, y < u.next → ¬ accB v y → u'.getC y = u.getC y)
theorem fin10_0 (rec : Rec) (N : Nat) (l r : List UInt8) (a : Nat) (v1 v2 v : Value) (m : Nat) (c : List Value) (u u2 : St) (wb : Nat) (g : Grew 25 u u2) (h : (wordF rdF r).1 = 0) :
    O10 u r a v1 v2 v m c (J10_r1 rec N ((.string ⟨⟨l⟩⟩), v1, v2, v, (.int .i64 (a : Int)), (.pointer (some ⟨wb, 0, none⟩)), (.int .i64 0)) u2) := by
  refine .inl ⟨h, (.slice none 0 0, .int .i64 (a : Int), v, .int .i64 (a : Int)), u2, ?_, rfl, rfl, g.mono (by omega)⟩
  unfold J10_r1
  simp only [es, cond_true, cond_false, eq_self]
theorem fin10_y (rec : Rec) (N : Nat) (l r : List UInt8) (a : Nat) (ha : a ≤ 100000) (hr : r.length ≤ 9000) (v1 v2 v : Value) (m : Nat) (c : List Value) (u u2 : St) (wb : Nat) (g : Grew 25 u u2) (hs : u.next + 40 ≤ lim) (hacc : Acc 4 u v m c) (hmap : isMapB c = false) (hm : m ≤ 9000)
    (h : (wordF rdF r).1 ≠ 0) (hp : 0 < (wordF rdF r).2.1) (hle : (wordF rdF r).2.1 ≤ r.length) (h1 : u.next ≤ wb) (h2 : wb < u2.next) (hw : u2.getC wb = some (wv ((wordF rdF r).1, r.take (wordF rdF r).2.1, (wordF rdF r).2.2, a))) :
    O10 u r a v1 v2 v m c (J10_r1 rec N ((.string ⟨⟨l⟩⟩), v1, v2, v, (.int .i64 (a : Int)), (.pointer (some ⟨wb, 0, none⟩)), (.int .i64 ((wordF rdF r).2.1 : Int))) u2) := by
  have hlim : lim = 1000000000 := rfl
  refine .inr ⟨h, ?_⟩
  generalize wordF rdF r = W at *
  obtain ⟨kk, n, x⟩ := W
  dsimp only at h hp hle hw ⊢
  have gn := g.2.1
  have g0 := g.1
  have hld : oLoadN 4 (.v (.pointer (some ⟨wb, 0, none⟩))) rec PT.nil u2 = some (aggOf (wv (kk, r.take n, x, a)), u2.seen wb) := loadn_u 4 wb 0 _ _ _ u2 hw (by show 0 + 4 ≤ 4; omega)
  have hbs := buildW (kk, r.take n, x, a) rec (u2.seen wb) (by rw [St.seen_next]; omega)
  rw [St.seen_next] at hbs
  obtain ⟨u5, hu5⟩ : ∃ y, al (u2.seen wb) (wv (kk, r.take n, x, a)) = y := ⟨_, rfl⟩
  rw [hu5] at hbs
  have n5 : u5.next = u2.next + 1 := by rw [← hu5, al_next _ _ (by rw [St.seen_next]; omega), St.seen_next]
  have z5 : u5.getC u2.next = some (wv (kk, r.take n, x, a)) := by rw [← hu5, ← St.seen_next u2 wb]; exact al_same _ _ (by rw [St.seen_next]; omega) rfl
  have g5 : Grew 26 u u5 := by rw [← hu5]; exact (g.seen _).al _ (by rw [St.seen_next]; omega)
  have hacc5 : Acc 4 u5 v m c := acc_set hacc g5.1 g5.2.2
  obtain ⟨v', u6, r1, r2, r3, r4, r5⟩ := append_u 4 40 u5 v m c (wv (kk, r.take n, x, a)) u2.next 1 1 hacc5 z5 rfl (by omega) (by omega) (by omega) (by omega) (by omega) (map_app _ _ hmap) rec PT.nil (fun hv => by have := hacc.lt hv; omega)
  have e1 : decide ((n : Int) = 0) = false := decide_eq_false (by omega)
  have ad : int2 addO (.int .i64 (a : Int)) (.int .i64 (n : Int)) = some (.int .i64 ((a + n : Nat) : Int)) := by rw [add_e _ _ (by omega) (by omega)]; rfl
  have g5n := g5.2.1
  have g5m := g5.1
  refine ⟨v', u6, ?_, r2, fun y hy => by rw [r4 y hy]; exact g5m, by omega, by omega, fun y hy hv => by rw [r5 y (by omega) hv]; exact g5.2.2 y hy⟩
  unfold J10_r1
  simp only [es, cond_true, cond_false, eq_self, e1, hld, hbs, r1, ad]
/-- a name's end -/
theorem name_l (M N : Nat) (l : List UInt8) (hl : l.length ≤ 9000) (v1 v2 v p : Value) (a : Nat) (ha : a ≤ l.length) (s : St) :
    ∀ (r : List UInt8) (i fuel : Nat), l.drop (a + i) = r → a + i + r.length = l.length → r.length < fuel →
      loopV (B10_l1 (callN E (M + 1)) N ((.string ⟨⟨l⟩⟩), v1, v2, v, (.int .i64 (a : Int)), p)) fuel (.int .i64 (i : Int)) s = some (.exit 5, ((.int .i64 ((i + cntF isN r : Nat) : Int)), s))
  | [], i, fuel, hr, hi, hf => by
    obtain ⟨fuel, rfl⟩ : ∃ m, fuel = m + 1 := ⟨fuel - 1, by omega⟩
    simp only [List.length_nil] at hi
    have ad : int2 addO (.int .i64 (a : Int)) (.int .i64 (i : Int)) = some (.int .i64 ((a + i : Nat) : Int)) := by rw [add_e _ _ (by omega) (by omega)]; rfl
    have e1 : decide (((a + i : Nat) : Int) < (l.length : Int)) = false := decide_eq_false (by omega)
    rw [loopV_s, B10_l1]
    simp only [es, cond_true, cond_false, eq_self, ad, lenS_u, e1, Q10_q0, J10_j0]
    rfl
  | b :: r, i, fuel, hr, hi, hf => by
    obtain ⟨fuel, rfl⟩ : ∃ m, fuel = m + 1 := ⟨fuel - 1, by omega⟩
    simp only [List.length_cons] at hi hf
    have ad : int2 addO (.int .i64 (a : Int)) (.int .i64 (i : Int)) = some (.int .i64 ((a + i : Nat) : Int)) := by rw [add_e _ _ (by omega) (by omega)]; rfl
    have ad1 : int2 addO (.int .i64 (i : Int)) (.int .i64 1) = some (.int .i64 ((i + 1 : Nat) : Int)) := by rw [add_e _ _ (by omega) (by omega)]; rfl
    have e1 : decide (((a + i : Nat) : Int) < (l.length : Int)) = true := decide_eq_true (by omega)
    have ih := name_l M N l hl v1 v2 v p a ha s r (i + 1) fuel (by rw [← Nat.add_assoc]; exact drop_next hr) (by omega) (by omega)
    rw [loopV_s, B10_l1, cntF_c]
    have hn : isN b = ((isL b || isD b) || decide ((b.toNat : Int) = 95)) := rfl
    rw [hn]
    cases hL : isL b with
    | true =>
      simp only [es, cond_true, cond_false, eq_self, ad, lenS_u, e1, idx_at hr, r16, hL, Q10_q0, J10_j0, J10_j1, ad1, ih, Bool.true_or]
      congr 5; omega
    | false =>
      cases hD : isD b with
      | true =>
        simp only [es, cond_true, cond_false, eq_self, ad, lenS_u, e1, idx_at hr, r16, hL, Q10_q0, r17, hD, J10_j0, J10_j1, ad1, ih, Bool.true_or, Bool.or_true]
        congr 5; omega
      | false =>
        cases h95 : decide ((b.toNat : Int) = 95) with
        | true =>
          simp only [es, cond_true, cond_false, eq_self, ad, lenS_u, e1, idx_at hr, r16, hL, Q10_q0, r17, hD, h95, J10_j0, J10_j1, ad1, ih, Bool.or_true]
          congr 5; omega
        | false =>
          simp only [es, cond_true, cond_false, eq_self, ad, lenS_u, e1, idx_at hr, r16, hL, Q10_q0, r17, hD, h95, J10_j0, Bool.or_self]
          rfl
theorem c10_5 (rec : Rec) (N : Nat) (k : Value × Value × Value × Value × Value × Value) (v : Value) (s : St) : C10_l1 rec N k (.exit 5) (v, s) = J10_r0 rec N (k.1, k.2.1, k.2.2.1, k.2.2.2.1, k.2.2.2.2.1, k.2.2.2.2.2, v) s := rfl
def cW (kk : Int) (t : List UInt8) (a : Nat) : List Value := [.int .i64 kk, .string ⟨⟨t⟩⟩, .int .i64 0, .int .i64 (a : Int)]
theorem set_again (k : Nat) (u u2 : St) (wb : Nat) (c d : Blk) (v : Value) (i : Nat) (rec : Rec) (hc : u2.getC wb = some c) (hv : cellsOf v = [v]) (hi : i < c.length) (hd : c.set i v = d) (hm : isMapB d = false) (g : Grew k u u2) (h1 : u.next ≤ wb) (h2 : wb + 1 < 1099511627776) :
    ∃ u3, oStore 1 (.v (.pointer (some ⟨wb, i, none⟩))) (.v v) rec PT.nil u2 = some (UV, u3) ∧ u3.getC wb = some d ∧ u3.next = u2.next ∧ Grew k u u3 :=
  ⟨_, by rw [store1_u wb i v c rec PT.nil u2 hv hc hi, hd], set_same _ _ _ h2 hm, set_next _ _ _, g.set _ _ h2 h1⟩
theorem set_whole (k : Nat) (u u2 : St) (wb : Nat) (c d : Blk) (rec : Rec) (hc : u2.getC wb = some c) (hl : c.length = 4) (hd : d.length = 4) (hm : isMapB d = false) (g : Grew k u u2) (h1 : u.next ≤ wb) (h2 : wb + 1 < 1099511627776) :
    ∃ u3, oStore 4 (.v (.pointer (some ⟨wb, 0, none⟩))) (.v (aggOf d)) rec PT.nil u2 = some (UV, u3) ∧ u3.getC wb = some d ∧ u3.next = u2.next ∧ Grew k u u3 :=
  ⟨_, storeall_u 4 wb d c rec PT.nil u2 hc hl hd, set_same _ _ _ h2 hm, set_next _ _ _, g.set _ _ h2 h1⟩
/-- the word that begins with a letter -/
theorem w10_name (M N : Nat) (hM : 10006 ≤ M) (l : List UInt8) (hl : l.length ≤ 9000) (b : UInt8) (t : List UInt8) (a : Nat) (hr : l.drop a = b :: t) (hL : isL b = true) (v1 v2 v : Value) (m : Nat) (c : List Value) (u u2 : St) (wb : Nat) (g : Grew 1 u u2) (hs : u.next + 40 ≤ lim) (hacc : Acc 4 u v m c) (hmap : isMapB c = false) (hm : m ≤ 9000)
    (h1 : u.next ≤ wb) (h2 : wb < u2.next) (hw : u2.getC wb = some (cW 0 [] a)) :
    O10 u (b :: t) a v1 v2 v m c (J10_r0 (callN E (M + 1)) N ((.string ⟨⟨l⟩⟩), v1, v2, v, (.int .i64 (a : Int)), (.pointer (some ⟨wb, 0, none⟩)), (.int .i64 (cntF isN (b :: t) : Int))) u2) := by
  have hlim : lim = 1000000000 := rfl
  have hlen : t.length + 1 + a = l.length := by
    have := congrArg List.length hr
    rw [List.length_drop, List.length_cons] at this
    omega
  have gn := g.2.1
  have hcl := cntF_le isN (b :: t)
  rw [List.length_cons] at hcl
  have hpos : 0 < cntF isN (b :: t) := by
    have hn : isN b = true := by unfold isN; rw [hL]; rfl
    rw [cntF_c, hn, cond_true]; omega
  obtain ⟨n, hn⟩ : ∃ n, cntF isN (b :: t) = n := ⟨_, rfl⟩
  have hW : wordF rdF (b :: t) = (bif decide (32 < n) then W0 else (bif keptF ((b :: t).take n) then 2 else 1, n, 0)) := by
    unfold wordF
    dsimp only
    rw [hL, cond_true, hn]
  rw [hn] at hcl hpos ⊢
  obtain ⟨s1, q1, z1, n1, g1⟩ := set_again 1 u u2 wb _ (cW 1 [] a) (.int .i64 1) 0 (callN E (M + 1)) hw rfl (by show 0 < 4; omega) rfl rfl g h1 (by omega)
  obtain ⟨s2, q2, z2, n2, g2⟩ := set_again 1 u s1 wb _ (cW 1 ((b :: t).take n) a) (.string ⟨⟨(b :: t).take n⟩⟩) 1 (callN E (M + 1)) z1 rfl (by show 1 < 4; omega) rfl rfl g1 h1 (by omega)
  obtain ⟨s3, q3, g3⟩ := r13 M (by omega) ((b :: t).take n) (s2.seen wb) (by rw [St.seen_next]; omega)
  have n3 := g3.2.1
  have m3 := g3.1
  rw [St.seen_next] at n3 m3
  have z3 : s3.getC wb = some (cW 1 ((b :: t).take n) a) := g3.get ((seen_getC _ _ _).trans z2) (by rw [St.seen_next]; omega)
  have g3' : Grew 2 u s3 := (g2.seen wb).trans g3
  have ad : int2 addO (.int .i64 (a : Int)) (.int .i64 (n : Int)) = some (.int .i64 ((a + n : Nat) : Int)) := by rw [add_e _ _ (by omega) (by omega)]; rfl
  have sl : ∀ s, oSliceS (.v (.string ⟨⟨l⟩⟩)) (some (.v (.int .i64 (a : Int)))) (some (.v (.int .i64 ((a + n : Nat) : Int)))) (callN E (M + 1)) PT.nil s = some (.string ⟨⟨(b :: t).take n⟩⟩, s) := fun s => by
    rw [slS_lh l a _ (by omega) (by omega), hr, Nat.add_sub_cancel_left]
  have nt : nth (cW 1 ((b :: t).take n) a) 1 = some (.string ⟨⟨(b :: t).take n⟩⟩) := rfl
  cases hk : keptF ((b :: t).take n) with
  | true =>
    rw [hk] at q3 hW
    obtain ⟨s4, q4, z4, n4, g4⟩ := set_again 2 u s3 wb _ (cW 2 ((b :: t).take n) a) (.int .i64 2) 0 (callN E (M + 1)) z3 rfl (by show 0 < 4; omega) rfl rfl g3' h1 (by omega)
    by_cases h32 : 32 < n
    · have e1 : decide ((32 : Int) < (n : Int)) = true := decide_eq_true (by omega)
      rw [decide_eq_true h32, cond_true] at hW
      unfold J10_r0
      simp only [es, cond_true, cond_false, eq_self, fieldAddr_e, Nat.zero_add, q1, ad, sl, q2, load_u, z2, nt, q3, q4, e1]
      exact fin10_0 _ _ _ _ _ _ _ _ _ _ _ _ _ (g4.mono (by omega)) (by rw [hW]; rfl)
    · have e1 : decide ((32 : Int) < (n : Int)) = false := decide_eq_false (by omega)
      rw [decide_eq_false h32, cond_false, cond_true] at hW
      unfold J10_r0
      simp only [es, cond_true, cond_false, eq_self, fieldAddr_e, Nat.zero_add, q1, ad, sl, q2, load_u, z2, nt, q3, q4, e1]
      have := fin10_y (callN E (M + 1)) N l (b :: t) a (by omega) (by rw [List.length_cons]; omega) v1 v2 v m c u s4 wb (g4.mono (by omega)) hs hacc hmap hm (by rw [hW]; show (2 : Int) ≠ 0; decide) (by rw [hW]; exact hpos) (by rw [hW, List.length_cons]; exact hcl) h1 (by omega) (by rw [hW]; exact z4)
      rw [hW] at this
      exact this
  | false =>
    rw [hk] at q3 hW
    by_cases h32 : 32 < n
    · have e1 : decide ((32 : Int) < (n : Int)) = true := decide_eq_true (by omega)
      rw [decide_eq_true h32, cond_true] at hW
      unfold J10_r0
      simp only [es, cond_true, cond_false, eq_self, fieldAddr_e, Nat.zero_add, q1, ad, sl, q2, load_u, z2, nt, q3, e1]
      exact fin10_0 _ _ _ _ _ _ _ _ _ _ _ _ _ (g3'.mono (by omega)) (by rw [hW]; rfl)
    · have e1 : decide ((32 : Int) < (n : Int)) = false := decide_eq_false (by omega)
      rw [decide_eq_false h32, cond_false, cond_false] at hW
      unfold J10_r0
      simp only [es, cond_true, cond_false, eq_self, fieldAddr_e, Nat.zero_add, q1, ad, sl, q2, load_u, z2, nt, q3, e1]
      have := fin10_y (callN E (M + 1)) N l (b :: t) a (by omega) (by rw [List.length_cons]; omega) v1 v2 v m c u s3 wb (g3'.mono (by omega)) hs hacc hmap hm (by rw [hW]; show (1 : Int) ≠ 0; decide) (by rw [hW]; exact hpos) (by rw [hW, List.length_cons]; exact hcl) h1 (by omega) (by rw [hW]; exact z3)
      rw [hW] at this
      exact this
end Go.Proofs.Ytikdjhlcbkkkfaa.AbsLexO
namespace Go.Proofs.Ytikdjhlcbkkkfaa.AbsLexO
open Go Go.Abs Go.Proofs
set_option maxRecDepth 100000
set_option linter.unusedVariables false
set_option linter.unusedSimpArgs false

attribute [local congr] h_opt2 h_opt h_condV h_cond
/-! the document's Cut: digits, money, signs -/
theorem mkW_z {kk : Int} {p : Nat × Int} (hk : kk ≠ 0) (h : (mkW kk p).1 = 0) : (mkW kk p).2.1 = 0 := by
  unfold mkW at h ⊢
  cases hb : decide (p.1 = 0) || decide (p.2 < 0)
  · rw [hb] at h; exact absurd h hk
  · rfl
theorem digW_z {r : List UInt8} (h : (digW rdF r).1 = 0) : (digW rdF r).2.1 = 0 := by
  unfold digW at h ⊢
  cases h6 : decide (0 < (dayF rdF r).1)
  · rw [h6, cond_false] at h
    rw [cond_false]
    cases h5 : decide (0 < (rateF r).1)
    · rw [h5, cond_false] at h
      exact mkW_z (by decide) h
    · rw [h5, cond_true] at h
      exact mkW_z (by decide) h
  · rw [h6, cond_true] at h
    exact mkW_z (by decide) h
theorem wordF_dig {b : UInt8} {t : List UInt8} (hL : isL b = false) (hD : isD b = true) : wordF rdF (b :: t) = digW rdF (b :: t) := by
  have e1 : decide ((b.toNat : Int) = 36) = false := by
    apply decide_eq_false
    intro h
    unfold isD at hD
    rw [h] at hD
    cases hD
  show (bif isL b then _ else bif decide ((b.toNat : Int) = 36) then _ else bif isD b then digW rdF (b :: t) else _) = _
  rw [hL, e1, hD]; rfl
theorem w10_dig (M N : Nat) (hM : 10010 ≤ M) (l : List UInt8) (hl : l.length ≤ 9000) (b : UInt8) (t : List UInt8) (a : Nat) (hr : l.drop a = b :: t) (hL : isL b = false) (hD : isD b = true) (v1 v2 v : Value) (m : Nat) (c : List Value) (u u2 : St) (wb : Nat) (g : Grew 1 u u2) (hs : u.next + 40 ≤ lim) (hacc : Acc 4 u v m c) (hmap : isMapB c = false) (hm : m ≤ 9000)
    (h1 : u.next ≤ wb) (h2 : wb < u2.next) (hw : u2.getC wb = some (cW 0 [] a)) :
    O10 u (b :: t) a v1 v2 v m c (opt2 (callN E (M + 1) 18 [.string ⟨⟨l⟩⟩, .int .i64 (a : Int)] u2) fun x6 s =>
      opt2 (oExtract (.v x6) 0 (callN E (M + 1)) PT.nil s) fun x7 s =>
      opt2 (oExtract (.v x6) 1 (callN E (M + 1)) PT.nil s) fun x8 s =>
      opt2 (oStore 4 (.v (.pointer (some ⟨wb, 0, none⟩))) (.v x7) (callN E (M + 1)) PT.nil s) fun x9 s =>
      J10_r1 (callN E (M + 1)) N ((.string ⟨⟨l⟩⟩), v1, v2, v, (.int .i64 (a : Int)), (.pointer (some ⟨wb, 0, none⟩)), x8) s) := by
  have hlim : lim = 1000000000 := rfl
  have hlen : t.length + 1 + a = l.length := by
    have := congrArg List.length hr
    rw [List.length_drop, List.length_cons] at this
    omega
  have gn := g.2.1
  have hcd : cntF isD (l.drop a) ≠ 0 := by rw [hr, cntF_c, hD, cond_true]; omega
  obtain ⟨s3, q3, g3⟩ := r18 M (by omega) l hl a (by omega) hcd u2 (by omega)
  rw [hr] at q3
  have n3 := g3.2.1
  have m3 := g3.1
  have z3 : s3.getC wb = some (cW 0 [] a) := g3.get hw h2
  have hW := wordF_dig (t := t) hL hD
  obtain ⟨s4, q4, z4, n4, g4⟩ := set_whole 3 u s3 wb _ (wat (b :: t) (digW rdF (b :: t)) a) (callN E (M + 1)) z3 rfl (wat_len _ _ _) (by unfold wat; cases decide ((digW rdF (b :: t)).1 = 0) <;> rfl) (g.trans g3) h1 (by omega)
  simp only [es, cond_true, cond_false, eq_self, q3, q4]
  by_cases h0 : (digW rdF (b :: t)).1 = 0
  · rw [digW_z h0]
    exact fin10_0 _ _ _ _ _ _ _ _ _ _ _ _ _ (g4.mono (by omega)) (by rw [hW]; exact h0)
  · rw [wat_n h0] at z4
    have hp := wordF_len (rd := rdF) (b := b) (t := t) (by rw [hW]; exact h0)
    have := fin10_y (callN E (M + 1)) N l (b :: t) a (by omega) (by rw [List.length_cons]; omega) v1 v2 v m c u s4 wb (g4.mono (by omega)) hs hacc hmap hm (by rw [hW]; exact h0) hp.1 (by rw [List.length_cons]; exact hp.2) h1 (by omega) (by rw [hW]; exact z4)
    rw [hW] at this
    exact this
theorem wordF_mon (t : List UInt8) : wordF rdF (36 :: t) = mkW 4 (moneyF t) := by
  have hL : isL 36 = false := rfl
  unfold wordF
  simp only [hL, cond_false]
  rfl
theorem mon_1 {t : List UInt8} (h : cntF isD t = 0) : moneyF t = (0, 0) := by unfold moneyF; rw [decide_eq_true h]; rfl
theorem mon_2 {t : List UInt8} (h : cntF isD t ≠ 0) (h2 : plF 2 (t.drop (cntF isD t)) = 2) : (moneyF t).1 = 1 + cntF isD t + 3 := by unfold moneyF; rw [decide_eq_false h, decide_eq_true h2]; rfl
theorem mon_3 {t : List UInt8} (h : cntF isD t ≠ 0) (h2 : ¬ plF 2 (t.drop (cntF isD t)) = 2) : (moneyF t).1 = 1 + cntF isD t := by unfold moneyF; rw [decide_eq_false h, decide_eq_false h2]; rfl
/-- a money's number read -/
theorem j10_3 (M N : Nat) (hM : 10010 ≤ M) (l : List UInt8) (hl : l.length ≤ 9000) (t : List UInt8) (a : Nat) (hr : l.drop a = 36 :: t) (part : List UInt8) (n : Nat) (hpl : part.length ≤ 2) (hpd : part.all isD = true)
    (hpart : cntF isD t ≠ 0 → n = (moneyF t).1 ∧ part = bif decide (plF 2 (t.drop (cntF isD t)) = 2) then (t.drop (cntF isD t + 1)).take 2 else [])
    (v1 v2 v : Value) (m : Nat) (c : List Value) (u u2 : St) (wb : Nat) (g : Grew 1 u u2) (hs : u.next + 40 ≤ lim) (hacc : Acc 4 u v m c) (hmap : isMapB c = false) (hm : m ≤ 9000)
    (h1 : u.next ≤ wb) (h2 : wb < u2.next) (hw : u2.getC wb = some (cW 0 [] a)) :
    O10 u (36 :: t) a v1 v2 v m c (J10_j3 (callN E (M + 1)) N ((.string ⟨⟨l⟩⟩), v1, v2, v, (.int .i64 (a : Int)), (.pointer (some ⟨wb, 0, none⟩)), (.int .i64 (n : Int)), (.int .i64 (cntF isD t : Int)), (.string ⟨⟨part⟩⟩)) u2) := by
  have hlim : lim = 1000000000 := rfl
  have hlen : t.length + 1 + a = l.length := by
    have := congrArg List.length hr
    rw [List.length_drop, List.length_cons] at this
    omega
  have gn := g.2.1
  have hcl := cntF_le isD t
  have ht : l.drop (a + 1) = t := drop_next hr
  have ad1 : int2 addO (.int .i64 (a : Int)) (.int .i64 1) = some (.int .i64 ((a + 1 : Nat) : Int)) := by rw [add_e _ _ (by omega) (by omega)]; rfl
  have ad2 : int2 addO (.int .i64 ((a + 1 : Nat) : Int)) (.int .i64 (cntF isD t : Int)) = some (.int .i64 ((a + 1 + cntF isD t : Nat) : Int)) := by rw [add_e _ _ (by omega) (by omega)]; rfl
  have sl1 : ∀ s, oSliceS (.v (.string ⟨⟨l⟩⟩)) (some (.v (.int .i64 ((a + 1 : Nat) : Int)))) (some (.v (.int .i64 ((a + 1 + cntF isD t : Nat) : Int)))) (callN E (M + 1)) PT.nil s = some (.string ⟨⟨t.take (cntF isD t)⟩⟩, s) := fun s => by
    rw [slS_lh l (a + 1) _ (by omega) (by omega), ht, Nat.add_sub_cancel_left]
  have q20 := fun s => r20 M (by omega) (t.take (cntF isD t)) part (by rw [List.length_take]; omega) (by omega) (cntF_all isD t) hpd s
  have hW := wordF_mon t
  unfold J10_j3
  by_cases h0 : cntF isD t = 0
  · have e1 : decide ((cntF isD t : Int) = 0) = true := decide_eq_true (by omega)
    simp only [es, cond_true, cond_false, eq_self, ad1, ad2, sl1, q20, e1]
    exact fin10_0 _ _ _ _ _ _ _ _ _ _ _ _ _ (g.mono (by omega)) (by rw [hW, mon_1 h0]; rfl)
  have e1 : decide ((cntF isD t : Int) = 0) = false := decide_eq_false (by omega)
  obtain ⟨hn, hp⟩ := hpart h0
  obtain ⟨_, _, tm⟩ := two_money t part hp h0
  rw [tm] at q20
  rcases oR_c (moneyF t).2 with ⟨hv, ho⟩ | ⟨hv, ho⟩
  · rw [ho] at q20
    simp only [es, cond_true, cond_false, eq_self, ad1, ad2, sl1, q20, e1]
    exact fin10_0 _ _ _ _ _ _ _ _ _ _ _ _ _ (g.mono (by omega)) (by rw [hW, mk_0 hv]; rfl)
  · rw [ho] at q20
    have hnz : (moneyF t).1 ≠ 0 := by
      by_cases h2 : plF 2 (t.drop (cntF isD t)) = 2
      · rw [mon_2 h0 h2]; omega
      · rw [mon_3 h0 h2]; omega
    have hle := moneyF_le t
    rw [mk_1 hv hnz] at hW
    subst hn
    have ad3 : int2 addO (.int .i64 (a : Int)) (.int .i64 ((moneyF t).1 : Int)) = some (.int .i64 ((a + (moneyF t).1 : Nat) : Int)) := by rw [add_e _ _ (by omega) (by omega)]; rfl
    have sl2 : ∀ s, oSliceS (.v (.string ⟨⟨l⟩⟩)) (some (.v (.int .i64 (a : Int)))) (some (.v (.int .i64 ((a + (moneyF t).1 : Nat) : Int)))) (callN E (M + 1)) PT.nil s = some (.string ⟨⟨(36 :: t).take (moneyF t).1⟩⟩, s) := fun s => by
      rw [slS_lh l a _ (by omega) (by omega), hr, Nat.add_sub_cancel_left]
    obtain ⟨s4, q4, z4, n4, g4⟩ := set_whole 1 u u2 wb _ [.int .i64 4, .string ⟨⟨(36 :: t).take (moneyF t).1⟩⟩, .int .i64 (moneyF t).2, .int .i64 (a : Int)] (callN E (M + 1)) hw rfl rfl rfl g h1 (by omega)
    simp only [es, cond_true, cond_false, eq_self, ad1, ad2, sl1, q20, e1, ad3, sl2, buildA, q4]
    have := fin10_y (callN E (M + 1)) N l (36 :: t) a (by omega) (by rw [List.length_cons]; omega) v1 v2 v m c u s4 wb (g4.mono (by omega)) hs hacc hmap hm (by rw [hW]; show (4 : Int) ≠ 0; decide) (by rw [hW]; show 0 < (moneyF t).1; omega) (by rw [hW, List.length_cons]; show (moneyF t).1 ≤ _; omega) h1 (by omega) (by rw [hW]; exact z4)
    rw [hW] at this
    exact this
theorem w10_sign (M N : Nat) (hM : 10010 ≤ M) (l : List UInt8) (hl : l.length ≤ 9000) (b : UInt8) (t : List UInt8) (a : Nat) (hr : l.drop a = b :: t) (hL : isL b = false) (h36 : decide ((b.toNat : Int) = 36) = false) (hD : isD b = false) (v1 v2 v : Value) (m : Nat) (c : List Value) (u u2 : St) (wb : Nat) (g : Grew 1 u u2) (hs : u.next + 40 ≤ lim) (hacc : Acc 4 u v m c) (hmap : isMapB c = false) (hm : m ≤ 9000)
    (h1 : u.next ≤ wb) (h2 : wb < u2.next) (hw : u2.getC wb = some (cW 0 [] a)) :
    O10 u (b :: t) a v1 v2 v m c (opt2 (oStore 1 (.v (.pointer (some ⟨wb, 0, none⟩))) (.v (.int .i64 7)) (callN E (M + 1)) PT.nil u2) fun x35 s =>
      opt2 (oSliceS (.v (.string ⟨⟨l⟩⟩)) (some (.v (.int .i64 (a : Int)))) none (callN E (M + 1)) PT.nil s) fun x36 s =>
      opt2 (callN E (M + 1) 21 [x36] s) fun x37 s =>
      opt2 (oStore 1 (.v (.pointer (some ⟨wb, 1, none⟩))) (.v x37) (callN E (M + 1)) PT.nil s) fun x39 s =>
      opt2 (oLoad1 (.v (.pointer (some ⟨wb, 1, none⟩))) (callN E (M + 1)) PT.nil s) fun x41 s =>
      opt2 (oLenS (.v x41) (callN E (M + 1)) PT.nil s) fun x42 s =>
      J10_r1 (callN E (M + 1)) N ((.string ⟨⟨l⟩⟩), v1, v2, v, (.int .i64 (a : Int)), (.pointer (some ⟨wb, 0, none⟩)), x42) s) := by
  have hlim : lim = 1000000000 := rfl
  have hlen : t.length + 1 + a = l.length := by
    have := congrArg List.length hr
    rw [List.length_drop, List.length_cons] at this
    omega
  have gn := g.2.1
  obtain ⟨s1, q1, z1, n1, g1⟩ := set_again 1 u u2 wb _ (cW 7 [] a) (.int .i64 7) 0 (callN E (M + 1)) hw rfl (by show 0 < 4; omega) rfl rfl g h1 (by omega)
  obtain ⟨s2, q2, g2⟩ := r21 M (by omega) b t s1 (by omega)
  have n2 := g2.2.1
  have m2 := g2.1
  have z2 : s2.getC wb = some (cW 7 [] a) := g2.get z1 (by omega)
  obtain ⟨s3, q3, z3, n3, g3⟩ := set_again 2 u s2 wb _ (cW 7 (sgT (b :: t)) a) (.string ⟨⟨sgT (b :: t)⟩⟩) 1 (callN E (M + 1)) z2 rfl (by show 1 < 4; omega) rfl rfl (g1.trans g2) h1 (by omega)
  have sl : ∀ s, oSliceS (.v (.string ⟨⟨l⟩⟩)) (some (.v (.int .i64 (a : Int)))) none (callN E (M + 1)) PT.nil s = some (.string ⟨⟨b :: t⟩⟩, s) := fun s => by rw [slS_lo l a (by omega), hr]
  have nt : nth (cW 7 (sgT (b :: t)) a) 1 = some (.string ⟨⟨sgT (b :: t)⟩⟩) := rfl
  have hW : wordF rdF (b :: t) = (match findS (b :: t) SG with
      | some w => (7, w.length, 0)
      | none => W0) := by
    show (bif isL b then _ else bif decide ((b.toNat : Int) = 36) then _ else bif isD b then _ else _) = _
    rw [hL, h36, hD]; rfl
  have z3' : (s3.seen wb).getC wb = some (cW 7 (sgT (b :: t)) a) := (seen_getC _ _ _).trans z3
  simp only [es, cond_true, cond_false, eq_self, q1, sl, q2, q3, load_u, z3, nt, lenS_u]
  unfold sgT at z3' ⊢
  cases hf : findS (b :: t) SG with
  | none =>
    rw [hf] at hW
    exact fin10_0 _ _ _ _ _ _ _ _ _ _ _ _ _ ((g3.seen wb).mono (by omega)) (by rw [hW]; rfl)
  | some w =>
    rw [hf] at hW z3'
    obtain ⟨hpre, hmem⟩ := findS_pre hf
    unfold prefF at hpre
    rw [Bool.and_eq_true, decide_eq_true_eq, decide_eq_true_eq] at hpre
    have hpos : ∀ w ∈ SG, 0 < w.length := by decide
    have := fin10_y (callN E (M + 1)) N l (b :: t) a (by omega) (by rw [List.length_cons]; omega) v1 v2 v m c u (s3.seen wb) wb ((g3.seen wb).mono (by omega)) hs hacc hmap hm (by rw [hW]; show (7 : Int) ≠ 0; decide) (by rw [hW]; exact hpos w hmem) (by rw [hW]; exact hpre.1) h1 (by rw [St.seen_next]; omega) (by rw [hW, z3']; show _ = some (wv (7, (b :: t).take w.length, 0, a)); rw [hpre.2]; rfl)
    rw [hW] at this
    exact this
end Go.Proofs.Ytikdjhlcbkkkfaa.AbsLexO
namespace Go.Proofs.Ytikdjhlcbkkkfaa.AbsLexO
open Go Go.Abs Go.Proofs
set_option maxRecDepth 100000
set_option linter.unusedVariables false
set_option linter.unusedSimpArgs false

attribute [local congr] h_opt2 h_opt h_condV h_cond
/-! the document's Cut: a word of any kind -/
theorem plF_46 (k : Nat) (q : List UInt8) {c : UInt8} (h : decide ((c.toNat : Int) = 46) = true) : plF k (c :: q) = (bif decide (cntF isD q ≤ k) then cntF isD q else 0) := by rw [plF_c, h]; rfl
theorem plF_o (k : Nat) (q : List UInt8) {c : UInt8} (h : decide ((c.toNat : Int) = 46) = false) : plF k (c :: q) = 0 := by rw [plF_c, h]; rfl
theorem w10_money (M N : Nat) (hM : 10010 ≤ M) (l : List UInt8) (hl : l.length ≤ 9000) (t : List UInt8) (a : Nat) (hr : l.drop a = 36 :: t) (v1 v2 v x1 x2 x3 : Value) (m : Nat) (c : List Value) (u u2 : St) (wb : Nat) (g : Grew 1 u u2) (hs : u.next + 40 ≤ lim) (hacc : Acc 4 u v m c) (hmap : isMapB c = false) (hm : m ≤ 9000)
    (h1 : u.next ≤ wb) (h2 : wb < u2.next) (hw : u2.getC wb = some (cW 0 [] a)) (f : Bool) (hf : f = (decide (0 < cntF isD t) && decide (a + (1 + cntF isD t) < l.length)))
    (hx : f = true → x1 = (.string ⟨⟨l⟩⟩) ∧ x2 = .int .i64 (a : Int) ∧ x3 = .int .i64 ((1 + cntF isD t : Nat) : Int)) :
    O10 u (36 :: t) a v1 v2 v m c (Q10_q1 (callN E (M + 1)) N ((.string ⟨⟨l⟩⟩), v1, v2, v, (.int .i64 (a : Int)), (.pointer (some ⟨wb, 0, none⟩)), (.int .i64 ((1 + cntF isD t : Nat) : Int)), (.int .i64 (cntF isD t : Int)), (.string ⟨⟨[]⟩⟩), .bool f, x1, x2, x3) u2) := by
  have hlen : t.length + 1 + a = l.length := by
    have := congrArg List.length hr
    rw [List.length_drop, List.length_cons] at this
    omega
  have hcl := cntF_le isD t
  have ht : l.drop (a + 1) = t := drop_next hr
  have j3 := fun part n hpl hpd hpart => j10_3 M N hM l hl t a hr part n hpl hpd hpart v1 v2 v m c u u2 wb g hs hacc hmap hm h1 h2 hw
  have no : ¬ (cntF isD t ≠ 0 ∧ plF 2 (t.drop (cntF isD t)) = 2) → O10 u (36 :: t) a v1 v2 v m c (J10_j3 (callN E (M + 1)) N ((.string ⟨⟨l⟩⟩), v1, v2, v, (.int .i64 (a : Int)), (.pointer (some ⟨wb, 0, none⟩)), (.int .i64 ((1 + cntF isD t : Nat) : Int)), (.int .i64 (cntF isD t : Int)), (.string ⟨⟨[]⟩⟩)) u2) := fun h =>
    j3 [] (1 + cntF isD t) (by decide) rfl (fun h0 => by
      have h2 : ¬ plF 2 (t.drop (cntF isD t)) = 2 := fun e => h ⟨h0, e⟩
      exact ⟨(mon_3 h0 h2).symm, by rw [decide_eq_false h2]; rfl⟩)
  cases f with
  | false =>
    have hno : ¬ (cntF isD t ≠ 0 ∧ plF 2 (t.drop (cntF isD t)) = 2) := by
      rintro ⟨e1, e2⟩
      rw [decide_eq_true (show 0 < cntF isD t by omega), Bool.true_and] at hf
      have : ¬ a + (1 + cntF isD t) < l.length := fun h => by rw [decide_eq_true h] at hf; cases hf
      have hd : t.drop (cntF isD t) = [] := List.drop_eq_nil_of_le (by omega)
      rw [hd] at e2
      exact absurd e2 (by decide)
    unfold Q10_q1 J10_j2
    simp only [es, cond_true, cond_false, eq_self]
    exact no hno
  | true =>
    obtain ⟨rfl, rfl, rfl⟩ := hx rfl
    have hf := hf.symm
    rw [Bool.and_eq_true, decide_eq_true_eq, decide_eq_true_eq] at hf
    obtain ⟨f1, f2⟩ := hf
    have ad : int2 addO (.int .i64 (a : Int)) (.int .i64 ((1 + cntF isD t : Nat) : Int)) = some (.int .i64 ((a + 1 + cntF isD t : Nat) : Int)) := by rw [add_e _ _ (by omega) (by omega)]; congr 2; omega
    have ad1 : int2 addO (.int .i64 ((a + 1 + cntF isD t : Nat) : Int)) (.int .i64 1) = some (.int .i64 ((a + 1 + cntF isD t + 1 : Nat) : Int)) := by rw [add_e _ _ (by omega) (by omega)]; rfl
    cases hd : t.drop (cntF isD t) with
    | nil =>
      have := congrArg List.length hd
      rw [List.length_drop, List.length_nil] at this
      omega
    | cons b q =>
      have hqd := congrArg List.length hd
      rw [List.length_drop, List.length_cons] at hqd
      have hix : l.drop (a + 1 + cntF isD t) = b :: q := by rw [← List.drop_drop, ht, hd]
      have hqx : l.drop (a + 1 + cntF isD t + 1) = q := drop_next hix
      cases h46 : decide ((b.toNat : Int) = 46) with
      | false =>
        unfold Q10_q1 J10_j2
        simp only [es, cond_true, cond_false, eq_self, ad, idx_at hix, h46]
        exact no (fun h => by have := h.2; rw [hd, plF_o 2 q h46] at this; exact absurd this (by decide))
      | true =>
        have q19 := fun s => r19 M (by omega) l hl (a + 1 + cntF isD t + 1) (by omega) s
        rw [hqx] at q19
        by_cases hq2 : cntF isD q = 2
        · have e2 : decide ((cntF isD q : Int) = 2) = true := decide_eq_true (by omega)
          have hcq := cntF_le isD q
          have ad3 : int2 addO (.int .i64 ((a + 1 + cntF isD t : Nat) : Int)) (.int .i64 3) = some (.int .i64 ((a + 1 + cntF isD t + 1 + 2 : Nat) : Int)) := by rw [add_e _ _ (by omega) (by omega)]; congr 2
          have ad4 : int2 addO (.int .i64 ((1 + cntF isD t : Nat) : Int)) (.int .i64 3) = some (.int .i64 ((1 + cntF isD t + 3 : Nat) : Int)) := by rw [add_e _ _ (by omega) (by omega)]; congr 2
          have sl : ∀ s, oSliceS (.v (.string ⟨⟨l⟩⟩)) (some (.v (.int .i64 ((a + 1 + cntF isD t + 1 : Nat) : Int)))) (some (.v (.int .i64 ((a + 1 + cntF isD t + 1 + 2 : Nat) : Int)))) (callN E (M + 1)) PT.nil s = some (.string ⟨⟨q.take 2⟩⟩, s) := fun s => by
            rw [slS_lh l _ _ (by omega) (by omega), hqx, Nat.add_sub_cancel_left]
          have hpl : plF 2 (t.drop (cntF isD t)) = 2 := by rw [hd, plF_46 2 q h46, hq2]; rfl
          have hdd : t.drop (cntF isD t + 1) = q := by rw [← List.drop_drop, hd]; rfl
          unfold Q10_q1 J10_j2
          simp only [es, cond_true, cond_false, eq_self, ad, idx_at hix, h46, ad1, q19, e2, ad3, sl, ad4]
          exact j3 (q.take 2) (1 + cntF isD t + 3) (by rw [List.length_take]; omega) (by rw [← hq2]; exact cntF_all isD q) (fun h0 => ⟨(mon_2 h0 hpl).symm, by rw [decide_eq_true hpl, cond_true, hdd]⟩)
        · have e2 : decide ((cntF isD q : Int) = 2) = false := decide_eq_false (by omega)
          unfold Q10_q1 J10_j2
          simp only [es, cond_true, cond_false, eq_self, ad, idx_at hix, h46, ad1, q19, e2]
          refine no (fun h => ?_)
          have h2 := h.2
          rw [hd, plF_46 2 q h46] at h2
          cases hc2 : decide (cntF isD q ≤ 2)
          · rw [hc2] at h2; exact absurd h2 (by show ¬ (0 : Nat) = 2; decide)
          · rw [hc2] at h2; exact hq2 h2
theorem w10 (M : Nat) (hM : 10020 ≤ M) (l : List UInt8) (hl : l.length ≤ 9000) (b : UInt8) (t : List UInt8) (a : Nat) (hr : l.drop a = b :: t) (v1 v2 v : Value) (m : Nat) (c : List Value) (u : St) (hs : u.next + 40 ≤ lim) (hacc : Acc 4 u v m c) (hmap : isMapB c = false) (hm : m ≤ 9000) :
    O10 u (b :: t) a v1 v2 v m c (J10_r2 (callN E (M + 1)) (M + 1) ((.string ⟨⟨l⟩⟩), v1, v2, v, (.int .i64 (a : Int)), (.int .u8 (b.toNat : Int))) u) := by
  have hlim : lim = 1000000000 := rfl
  have hlen : t.length + 1 + a = l.length := by
    have := congrArg List.length hr
    rw [List.length_drop, List.length_cons] at this
    omega
  have hnew := new_u zw (callN E (M + 1)) PT.nil u (by omega)
  obtain ⟨s1, hs1⟩ : ∃ x, al u zw = x := ⟨_, rfl⟩
  rw [hs1] at hnew
  have n1 : s1.next = u.next + 1 := by rw [← hs1]; exact al_next _ _ (by omega)
  have z1 : s1.getC u.next = some zw := by rw [← hs1]; exact al_same _ _ (by omega) rfl
  have g1 : Grew 1 u s1 := by rw [← hs1]; exact (Grew.refl u).al _ (by omega)
  obtain ⟨u2, q2, z2, n2, g2⟩ := set_whole 1 u s1 u.next _ (cW 0 [] a) (callN E (M + 1)) z1 rfl rfl rfl g1 (Nat.le_refl _) (by omega)
  have q2 : oStore 4 (.v (.pointer (some ⟨u.next, 0, none⟩))) (.v (aggOf [.int .i64 0, .string ⟨⟨[]⟩⟩, .int .i64 0, .int .i64 (a : Int)])) (callN E (M + 1)) PT.nil s1 = some (UV, u2) := q2
  unfold J10_r2
  cases hL : isL b with
  | true =>
    have hl2 := name_l M (M + 1) l hl v1 v2 v (.pointer (some ⟨u.next, 0, none⟩)) a (by omega) u2 (b :: t) 0 (M + 1) hr (by rw [List.length_cons]; omega) (by rw [List.length_cons]; omega)
    rw [Nat.zero_add] at hl2
    have hl2 : loopV (B10_l1 (callN E (M + 1)) (M + 1) ((.string ⟨⟨l⟩⟩), v1, v2, v, (.int .i64 (a : Int)), (.pointer (some ⟨u.next, 0, none⟩)))) (M + 1) (.int .i64 0) u2 = some (.exit 5, ((.int .i64 (cntF isN (b :: t) : Int)), u2)) := hl2
    simp only [es, cond_true, cond_false, eq_self, buildEnd, hnew, q2, r16, hL, hl2]
    rw [c10_5]
    exact w10_name M (M + 1) (by omega) l hl b t a hr hL v1 v2 v m c u u2 u.next g2 hs hacc hmap hm (Nat.le_refl _) (by omega) z2
  | false =>
    cases hD : isD b with
    | true =>
      simp only [es, cond_true, cond_false, eq_self, buildEnd, hnew, q2, r16, hL, r17, hD]
      exact w10_dig M (M + 1) (by omega) l hl b t a hr hL hD v1 v2 v m c u u2 u.next g2 hs hacc hmap hm (Nat.le_refl _) (by omega) z2
    | false =>
      cases h36 : decide ((b.toNat : Int) = 36) with
      | true =>
        have hb : b = 36 := UInt8.toNat_inj.1 (by have e : (36 : UInt8).toNat = 36 := rfl; rw [e]; have := of_decide_eq_true h36; omega)
        subst hb
        have hcl := cntF_le isD t
        have ht : l.drop (a + 1) = t := drop_next hr
        have ad1 : int2 addO (.int .i64 (a : Int)) (.int .i64 1) = some (.int .i64 ((a + 1 : Nat) : Int)) := by rw [add_e _ _ (by omega) (by omega)]; rfl
        have ad2 : int2 addO (.int .i64 1) (.int .i64 (cntF isD t : Int)) = some (.int .i64 ((1 + cntF isD t : Nat) : Int)) := by rw [add_e _ _ (by omega) (by omega)]; rfl
        have ad3 : int2 addO (.int .i64 (a : Int)) (.int .i64 ((1 + cntF isD t : Nat) : Int)) = some (.int .i64 ((a + (1 + cntF isD t) : Nat) : Int)) := by rw [add_e _ _ (by omega) (by omega)]; rfl
        have q19 := fun s => r19 M (by omega) l hl (a + 1) (by omega) s
        rw [ht] at q19
        have wm := fun x1 x2 x3 f hf hx => w10_money M (M + 1) (by omega) l hl t a hr v1 v2 v x1 x2 x3 m c u u2 u.next g2 hs hacc hmap hm (Nat.le_refl _) (by omega) z2 f hf hx
        by_cases hc : 0 < cntF isD t
        · have e1 : decide ((0 : Int) < (cntF isD t : Int)) = true := decide_eq_true (by omega)
          by_cases hlt : a + (1 + cntF isD t) < l.length
          · have e2 : decide (((a + (1 + cntF isD t) : Nat) : Int) < (l.length : Int)) = true := decide_eq_true (by omega)
            simp only [es, cond_true, cond_false, eq_self, buildEnd, hnew, q2, r16, hL, r17, hD, h36, ad1, q19, ad2, e1, ad3, lenS_u, e2]
            exact wm _ _ _ true (by rw [decide_eq_true hc, decide_eq_true hlt]; rfl) (fun _ => ⟨rfl, rfl, rfl⟩)
          · have e2 : decide (((a + (1 + cntF isD t) : Nat) : Int) < (l.length : Int)) = false := decide_eq_false (by omega)
            simp only [es, cond_true, cond_false, eq_self, buildEnd, hnew, q2, r16, hL, r17, hD, h36, ad1, q19, ad2, e1, ad3, lenS_u, e2]
            exact wm _ _ _ false (by rw [decide_eq_true hc, decide_eq_false hlt]; rfl) (fun h => by cases h)
        · have e1 : decide ((0 : Int) < (cntF isD t : Int)) = false := decide_eq_false (by omega)
          simp only [es, cond_true, cond_false, eq_self, buildEnd, hnew, q2, r16, hL, r17, hD, h36, ad1, q19, ad2, e1]
          exact wm _ _ _ false (by rw [decide_eq_false hc]; rfl) (fun h => by cases h)
      | false =>
        simp only [es, cond_true, cond_false, eq_self, buildEnd, hnew, q2, r16, hL, r17, hD, h36, fieldAddr_e, Nat.zero_add]
        exact w10_sign M (M + 1) (by omega) l hl b t a hr hL h36 hD v1 v2 v m c u u2 u.next g2 hs hacc hmap hm (Nat.le_refl _) (by omega) z2
end Go.Proofs.Ytikdjhlcbkkkfaa.AbsLexO
namespace Go.Proofs.Ytikdjhlcbkkkfaa.AbsLexO
open Go Go.Abs Go.Proofs
set_option maxRecDepth 100000
set_option linter.unusedVariables false
set_option linter.unusedSimpArgs false

attribute [local congr] h_opt2 h_opt h_condV h_cond
/-! the document's Cut: the whole text -/
theorem cutF_fuel (rd : List UInt8 → Int × Bool) : ∀ (n n' a : Nat) (r : List UInt8), r.length < n → r.length < n' → cutF rd n a r = cutF rd n' a r
  | 0, _, _, _, h, _ => by omega
  | _, 0, _, _, _, h => by omega
  | n + 1, n' + 1, a, [], _, _ => rfl
  | n + 1, n' + 1, a, b :: t, h, h' => by
    by_cases h0 : (wordF rd (b :: t)).1 = 0
    · rw [cutF_no h0, cutF_no h0]
    · obtain ⟨h1, h2⟩ := wordF_len h0
      rw [List.length_cons] at h h'
      rw [cutF_yes h0, cutF_yes h0, cutF_fuel rd n n' _ _ (by rw [List.length_drop, List.length_drop, List.length_cons]; omega) (by rw [List.length_drop, List.length_drop, List.length_cons]; omega)]
/-- the words from a place on -/
def cutS (a : Nat) (r : List UInt8) : List Wd × Option Nat := cutF rdF (r.length + 1) (a + skF false r) (r.drop (skF false r))
theorem cutS_skip (a k : Nat) (r : List UInt8) (hk : k ≤ r.length) (h : skF false r = k + skF false (r.drop k)) : cutS a r = cutS (a + k) (r.drop k) := by
  unfold cutS
  rw [h, ← List.drop_drop, ← Nat.add_assoc]
  exact cutF_fuel _ _ _ _ _ (by rw [List.length_drop, List.length_drop]; omega) (by rw [List.length_drop]; omega)
theorem skF_0 {b : UInt8} (t : List UInt8) (h : isB b = false) (h2 : decide ((b.toNat : Int) = 35) = false) : skF false (b :: t) = 0 := by rw [skF_f, h, h2]; rfl
theorem cutS_no {a : Nat} {b : UInt8} {t : List UInt8} (h : skF false (b :: t) = 0) (h0 : (wordF rdF (b :: t)).1 = 0) : cutS a (b :: t) = ([], some a) := by
  unfold cutS; rw [h]; exact cutF_no h0
theorem cutS_yes {a : Nat} {b : UInt8} {t : List UInt8} (h : skF false (b :: t) = 0) (h0 : (wordF rdF (b :: t)).1 ≠ 0) : cutS a (b :: t) =
    (((wordF rdF (b :: t)).1, (b :: t).take (wordF rdF (b :: t)).2.1, (wordF rdF (b :: t)).2.2, a) :: (cutS (a + (wordF rdF (b :: t)).2.1) ((b :: t).drop (wordF rdF (b :: t)).2.1)).1, (cutS (a + (wordF rdF (b :: t)).2.1) ((b :: t).drop (wordF rdF (b :: t)).2.1)).2) := by
  obtain ⟨h1, h2⟩ := wordF_len h0
  have e : cutS a (b :: t) = cutF rdF ((b :: t).length + 1) a (b :: t) := by unfold cutS; rw [h]; rfl
  rw [e, cutF_yes h0]
  unfold cutS
  rw [cutF_fuel rdF ((b :: t).length) (((b :: t).drop (wordF rdF (b :: t)).2.1).length + 1) _ _ (by rw [List.length_drop, List.length_drop, List.length_cons]; omega) (by rw [List.length_drop]; omega)]
theorem com_l (rec : Rec) (N : Nat) (l : List UInt8) (hl : l.length ≤ 9000) (v1 v2 v : Value) (s : St) :
    ∀ (r : List UInt8) (i fuel : Nat), l.drop i = r → i + r.length = l.length → r.length < fuel →
      loopV (B10_l0 rec N ((.string ⟨⟨l⟩⟩), v1, v2, v)) fuel (.int .i64 (i : Int)) s = some (.exit 2, ((.int .i64 ((i + cntF nNl r : Nat) : Int)), s))
  | [], i, fuel, hr, hi, hf => by
    obtain ⟨fuel, rfl⟩ : ∃ m, fuel = m + 1 := ⟨fuel - 1, by omega⟩
    simp only [List.length_nil] at hi
    have e1 : decide ((i : Int) < (l.length : Int)) = false := decide_eq_false (by omega)
    rw [loopV_s, B10_l0]
    simp only [es, cond_true, cond_false, eq_self, lenS_u, e1]
    rfl
  | b :: r, i, fuel, hr, hi, hf => by
    obtain ⟨fuel, rfl⟩ : ∃ m, fuel = m + 1 := ⟨fuel - 1, by omega⟩
    simp only [List.length_cons] at hi hf
    have ad1 : int2 addO (.int .i64 (i : Int)) (.int .i64 1) = some (.int .i64 ((i + 1 : Nat) : Int)) := by rw [add_e _ _ (by omega) (by omega)]; rfl
    have e1 : decide ((i : Int) < (l.length : Int)) = true := decide_eq_true (by omega)
    have ih := com_l rec N l hl v1 v2 v s r (i + 1) fuel (drop_next hr) (by omega) (by omega)
    rw [loopV_s, B10_l0, cntF_c]
    unfold nNl
    cases h10 : decide ((b.toNat : Int) = 10) with
    | true =>
      simp only [es, cond_true, cond_false, eq_self, lenS_u, e1, idx_at hr, h10]
      rfl
    | false =>
      simp only [es, cond_true, cond_false, eq_self, lenS_u, e1, idx_at hr, h10, ad1, ih]
      unfold nNl
      congr 5; omega
theorem c10_2 (rec : Rec) (N : Nat) (k : Value × Value × Value × Value) (v : Value) (s : St) : C10_l0 rec N k (.exit 2) (v, s) = some (.norm, ((k.2.1, k.2.2.1, k.2.2.2, v), s)) := rfl
theorem bl10 (rec : Rec) (N : Nat) (l : List UInt8) (hl : l.length ≤ 9000) (v1 v2 v : Value) (a : Nat) (b : UInt8) (t : List UInt8) (hr : l.drop a = b :: t) (hb : isB b = true) (u : St) :
    B10_l2 rec N (.string ⟨⟨l⟩⟩) (v1, v2, v, (.int .i64 (a : Int))) u = some (.norm, ((v1, v2, v, (.int .i64 ((a + 1 : Nat) : Int))), u)) := by
  have hlen := congrArg List.length hr
  rw [List.length_drop, List.length_cons] at hlen
  have e1 : decide ((a : Int) < (l.length : Int)) = true := decide_eq_true (by omega)
  have ad1 : int2 addO (.int .i64 (a : Int)) (.int .i64 1) = some (.int .i64 ((a + 1 : Nat) : Int)) := by rw [add_e _ _ (by omega) (by omega)]; rfl
  rw [B10_l2]
  unfold isB at hb
  cases h1 : decide ((b.toNat : Int) = 32) with
  | true => simp only [es, cond_true, cond_false, eq_self, lenS_u, e1, idx_at hr, h1, ad1]
  | false =>
    cases h2 : decide ((b.toNat : Int) = 9) with
    | true => simp only [es, cond_true, cond_false, eq_self, lenS_u, e1, idx_at hr, h1, h2, ad1]
    | false =>
      cases h3 : decide ((b.toNat : Int) = 10) with
      | true => simp only [es, cond_true, cond_false, eq_self, lenS_u, e1, idx_at hr, h1, h2, h3, ad1]
      | false =>
        cases h4 : decide ((b.toNat : Int) = 13) with
        | true => simp only [es, cond_true, cond_false, eq_self, lenS_u, e1, idx_at hr, h1, h2, h3, h4, ad1]
        | false => rw [h1, h2, h3, h4] at hb; cases hb
theorem co10 (rec : Rec) (N : Nat) (l : List UInt8) (hl : l.length ≤ 9000) (hN : 9001 ≤ N) (v1 v2 v : Value) (a : Nat) (b : UInt8) (t : List UInt8) (hr : l.drop a = b :: t) (hb : isB b = false) (h35 : decide ((b.toNat : Int) = 35) = true) (u : St) :
    B10_l2 rec N (.string ⟨⟨l⟩⟩) (v1, v2, v, (.int .i64 (a : Int))) u = some (.norm, ((v1, v2, v, (.int .i64 ((a + (cntF nNl t + 1) : Nat) : Int))), u)) := by
  have hlen := congrArg List.length hr
  rw [List.length_drop, List.length_cons] at hlen
  have e1 : decide ((a : Int) < (l.length : Int)) = true := decide_eq_true (by omega)
  unfold isB at hb
  rw [Bool.or_eq_false_iff, Bool.or_eq_false_iff, Bool.or_eq_false_iff] at hb
  obtain ⟨⟨⟨h1, h2⟩, h3⟩, h4⟩ := hb
  have hl2 := com_l rec N l hl v1 v2 v u (b :: t) a N hr (by rw [List.length_cons]; omega) (by rw [List.length_cons]; omega)
  rw [cntF_c, show nNl b = true by unfold nNl; rw [h3]; rfl, cond_true] at hl2
  rw [B10_l2]
  simp only [es, cond_true, cond_false, eq_self, lenS_u, e1, idx_at hr, h1, h2, h3, h4, h35, hl2]
  rw [c10_2]
theorem wd10 (rec : Rec) (N : Nat) (l : List UInt8) (v1 v2 v : Value) (a : Nat) (b : UInt8) (t : List UInt8) (hr : l.drop a = b :: t) (hb : isB b = false) (h35 : decide ((b.toNat : Int) = 35) = false) (u : St) :
    B10_l2 rec N (.string ⟨⟨l⟩⟩) (v1, v2, v, (.int .i64 (a : Int))) u = J10_r2 rec N ((.string ⟨⟨l⟩⟩), v1, v2, v, (.int .i64 (a : Int)), (.int .u8 (b.toNat : Int))) u := by
  have hlen := congrArg List.length hr
  rw [List.length_drop, List.length_cons] at hlen
  have e1 : decide ((a : Int) < (l.length : Int)) = true := decide_eq_true (by omega)
  unfold isB at hb
  rw [Bool.or_eq_false_iff, Bool.or_eq_false_iff, Bool.or_eq_false_iff] at hb
  obtain ⟨⟨⟨h1, h2⟩, h3⟩, h4⟩ := hb
  rw [B10_l2]
  simp only [es, cond_true, cond_false, eq_self, lenS_u, e1, idx_at hr, h1, h2, h3, h4, h35]
theorem cut10_l (M : Nat) (hM : 10020 ≤ M) (l : List UInt8) (hl : l.length ≤ 8900) (s0 : St) :
    ∀ (fuel a : Nat) (r : List UInt8) (v1 v2 v : Value) (u : St) (m : Nat) (c : List Value), l.drop a = r → a + r.length = l.length → r.length < fuel → u.next + 30 * r.length + 100 ≤ lim →
      Acc 4 u v m c → isMapB c = false → m + r.length ≤ 9000 → (∀ y, accB v y → s0.next ≤ y) → s0.next ≤ u.next → (∀ y, y < s0.next → u.getC y = s0.getC y) →
      ∃ e w' u', loopV (B10_l2 (callN E (M + 1)) (M + 1) (.string ⟨⟨l⟩⟩)) fuel (v1, v2, v, (.int .i64 (a : Int))) u = some (e, (w', u')) ∧ s0.next ≤ u'.next ∧ u'.next ≤ u.next + 30 * (r.length + 1) ∧ (∀ y, y < s0.next → u'.getC y = s0.getC y) ∧
        (((cutS a r).2 = none ∧ e = .exit 0 ∧ Acc 4 u' w'.2.2.1 (m + (cutS a r).1.length) (c ++ flat (cutS a r).1) ∧ isMapB (c ++ flat (cutS a r).1) = false ∧ ∀ y, accB w'.2.2.1 y → s0.next ≤ y) ∨
         (∃ p : Nat, (cutS a r).2 = some p ∧ e = .ret ∧ w'.1 = .slice none 0 0 ∧ w'.2.1 = .int .i64 (p : Int)))
  | 0, a, r, v1, v2, v, u, m, c, hr, hi, hf, hs, ha, hmap, hm, hv, hu, hk => by omega
  | fuel + 1, a, [], v1, v2, v, u, m, c, hr, hi, hf, hs, ha, hmap, hm, hv, hu, hk => by
    have e1 : decide ((a : Int) < (l.length : Int)) = false := decide_eq_false (by simp at hi; omega)
    have hc : cutS a [] = ([], none) := rfl
    refine ⟨.exit 0, (v1, v2, v, .int .i64 (a : Int)), u, ?_, hu, by omega, hk, .inl ⟨by rw [hc], rfl, ?_, ?_, hv⟩⟩
    · rw [loopV_s, B10_l2]
      simp only [es, cond_true, cond_false, eq_self, lenS_u, e1]
    · rw [hc]; simpa [flat] using ha
    · rw [hc]; simpa [flat] using hmap
  | fuel + 1, a, b :: t, v1, v2, v, u, m, c, hr, hi, hf, hs, ha, hmap, hm, hv, hu, hk => by
    simp only [List.length_cons] at hi hf hs hm
    have skip : ∀ k, 0 < k → k ≤ t.length + 1 → skF false (b :: t) = k + skF false ((b :: t).drop k) → B10_l2 (callN E (M + 1)) (M + 1) (.string ⟨⟨l⟩⟩) (v1, v2, v, (.int .i64 (a : Int))) u = some (.norm, ((v1, v2, v, (.int .i64 ((a + k : Nat) : Int))), u)) →
        ∃ e w' u', loopV (B10_l2 (callN E (M + 1)) (M + 1) (.string ⟨⟨l⟩⟩)) (fuel + 1) (v1, v2, v, (.int .i64 (a : Int))) u = some (e, (w', u')) ∧ s0.next ≤ u'.next ∧ u'.next ≤ u.next + 30 * ((b :: t).length + 1) ∧ (∀ y, y < s0.next → u'.getC y = s0.getC y) ∧
        (((cutS a (b :: t)).2 = none ∧ e = .exit 0 ∧ Acc 4 u' w'.2.2.1 (m + (cutS a (b :: t)).1.length) (c ++ flat (cutS a (b :: t)).1) ∧ isMapB (c ++ flat (cutS a (b :: t)).1) = false ∧ ∀ y, accB w'.2.2.1 y → s0.next ≤ y) ∨
         (∃ p : Nat, (cutS a (b :: t)).2 = some p ∧ e = .ret ∧ w'.1 = .slice none 0 0 ∧ w'.2.1 = .int .i64 (p : Int))) := by
      intro k k0 kl hsk hst
      have hdl : ((b :: t).drop k).length = t.length + 1 - k := by rw [List.length_drop, List.length_cons]
      obtain ⟨e, w', u', p1, p2, p3, p4, p5⟩ := cut10_l M hM l hl s0 fuel (a + k) ((b :: t).drop k) v1 v2 v u m c (by rw [← List.drop_drop, hr]) (by omega) (by omega) (by omega) ha hmap (by omega) hv hu hk
      refine ⟨e, w', u', ?_, p2, by simp only [List.length_cons]; omega, p4, ?_⟩
      · rw [loopV_s, hst, op2_s, thenV_n, p1]
      · rw [cutS_skip a k (b :: t) kl hsk]; exact p5
    cases hb : isB b with
    | true => exact skip 1 (by omega) (by omega) (by rw [skF_f, hb, cond_true, Nat.add_comm]; rfl) (bl10 _ _ l (by omega) v1 v2 v a b t hr hb u)
    | false =>
      cases h35 : decide ((b.toNat : Int) = 35) with
      | true =>
        have hc := cntF_le nNl t
        exact skip (cntF nNl t + 1) (by omega) (by omega) (by rw [skF_f, hb, h35, cond_false, cond_true, skF_c, List.drop_succ_cons]; omega) (co10 _ _ l (by omega) (by omega) v1 v2 v a b t hr hb h35 u)
      | false =>
        have h0 := skF_0 t hb h35
        have hstep := w10 M hM l (by omega) b t a hr v1 v2 v m c u (by omega) ha hmap (by omega)
        rw [← wd10 _ _ l v1 v2 v a b t hr hb h35 u] at hstep
        rcases hstep with ⟨hz, w', u', q1, q2, q3, g⟩ | ⟨hz, v', u', q1, q2, q3, q4, q5, q6⟩
        · have gn := g.2.1
          have g0 := g.1
          refine ⟨.ret, w', u', ?_, by omega, by simp only [List.length_cons]; omega, fun y hy => (g.2.2 y (by omega)).trans (hk y hy), .inr ⟨a, by rw [cutS_no h0 hz], rfl, q2, q3⟩⟩
          rw [loopV_s, q1, op2_s, thenV_r]
        · obtain ⟨k0, kl⟩ := wordF_len hz
          obtain ⟨k, hkk⟩ : ∃ k, (wordF rdF (b :: t)).2.1 = k := ⟨_, rfl⟩
          have hcs := cutS_yes (a := a) h0 hz
          rw [hkk] at q1 q2 k0 kl hcs
          have hdl : ((b :: t).drop k).length = t.length + 1 - k := by rw [List.length_drop, List.length_cons]
          obtain ⟨e, w', u2, p1, p2, p3, p4, p5⟩ := cut10_l M hM l hl s0 fuel (a + k) ((b :: t).drop k) v1 v2 v' u' (m + 1) _ (by rw [← List.drop_drop, hr]) (by omega) (by omega) (by omega) q2 (map_app _ _ hmap) (by omega) (fun y hy => Nat.le_trans hu (q3 y hy)) (by omega)
            (fun y hy => (q6 y (by omega) (fun hh => by have := hv y hh; omega)).trans (hk y hy))
          refine ⟨e, w', u2, ?_, p2, by simp only [List.length_cons]; omega, p4, ?_⟩
          · rw [loopV_s, q1, op2_s, thenV_n, p1]
          rw [hcs]
          rcases p5 with ⟨r1, r2, r3, r4, r5⟩ | ⟨p, r1, r2, r3, r4⟩
          · refine .inl ⟨r1, r2, ?_, ?_, r5⟩
            · rw [flat_c, ← List.append_assoc, List.length_cons, Nat.add_comm _ 1, ← Nat.add_assoc]; exact r3
            · rw [flat_c, ← List.append_assoc]; exact r4
          · exact .inr ⟨p, r1, r2, r3, r4⟩
theorem ms_u (s : St) (rec : Rec) (h : s.next ≤ lim) : oMakeSlice 4 40 zw (.v (.int .i64 0)) (.v (.int .i64 0)) rec PT.nil s = some (.slice (some ⟨s.next, 0, none⟩) 0 0, al s []) := by
  show (opt2 (s.alloc []) fun b s => some (Value.slice (some ⟨b, 0, none⟩) 0 0, s)) = _
  rw [al_e s [] h]; rfl
theorem c10_0 (rec : Rec) (N : Nat) (k : Value) (v : V4) (s : St) : C10_l2 rec N k (.exit 0) (v, s) = J10_r3 rec N (k, v.2.2.1) s := rfl
theorem c10_r (rec : Rec) (N : Nat) (k : Value) (v : V4) (s : St) : C10_l2 rec N k .ret (v, s) = some (oneOf [v.1, v.2.1], s) := rfl
theorem cutT_S (l : List UInt8) : cutT rdF l = cutS 0 l := by unfold cutT cutS; rw [Nat.zero_add]
/-- the document's Cut -/
theorem r10 (M : Nat) (hM : 10040 ≤ M) (l : List UInt8) (hl : l.length ≤ 8000) (s : St) (hs : s.next + 300000 ≤ lim) :
    ∃ s', ((∃ p : Nat, (cutT rdF l).2 = some p ∧ callN E (M + 1) 10 [.string ⟨⟨l⟩⟩] s = some (tupOf [.slice none 0 0, .int .i64 (p : Int)], s')) ∨
        ((cutT rdF l).2 = none ∧ ∃ v, callN E (M + 1) 10 [.string ⟨⟨l⟩⟩] s = some (tupOf [v, .int .i64 (-1)], s') ∧ Acc 4 s' v ((cutT rdF l).1.length + 1) (flat ((cutT rdF l).1 ++ [endW l])) ∧ ∀ y, accB v y → s.next ≤ y)) ∧ Grew 270000 s s' := by
  have hlim : lim = 1000000000 := rfl
  obtain ⟨M, rfl⟩ : ∃ m, M = m + 1 := ⟨M - 1, by omega⟩
  have hms := ms_u s (callN E (M + 1)) (by omega)
  obtain ⟨s1, hs1⟩ : ∃ x, al s [] = x := ⟨_, rfl⟩
  rw [hs1] at hms
  have n1 : s1.next = s.next + 1 := by rw [← hs1]; exact al_next _ _ (by omega)
  have g1 : Grew 1 s s1 := by rw [← hs1]; exact (Grew.refl s).al _ (by omega)
  obtain ⟨e, w', u', p1, p2, p3, p4, p5⟩ := cut10_l M (by omega) l (by omega) s (M + 1) 0 l (.slice none 0 0) (.int .i64 0) (.slice (some ⟨s.next, 0, none⟩) 0 0) s1 0 [] rfl (by omega) (by omega) (by omega)
    (.inr (.inl ⟨s.next, rfl, rfl, rfl, by omega⟩)) rfl (by omega) (fun y hy => by have e : s.next = y := hy; omega) g1.1 g1.2.2
  have p1 : loopV (B10_l2 (callN E (M + 1)) (M + 1) (.string ⟨⟨l⟩⟩)) (M + 1) ((.slice none 0 0), (.int .i64 0), (.slice (some ⟨s.next, 0, none⟩) 0 0), (.int .i64 0)) s1 = some (e, (w', u')) := p1
  rw [← cutT_S l] at p5
  rcases p5 with ⟨r1, r2, r3, r4, r5⟩ | ⟨p, r1, r2, r3, r4⟩
  · subst r2
    have hcnt : (cutT rdF l).1.length ≤ l.length := by
      have := cutF_count rdF (l.length + 1) (skF false l) (l.drop (skF false l))
      rw [List.length_drop] at this
      show (cutF rdF (l.length + 1) (skF false l) (l.drop (skF false l))).1.length ≤ _
      omega
    obtain ⟨ws, hws⟩ : ∃ ws, cutT rdF l = ws := ⟨_, rfl⟩
    rw [hws] at r1 r3 r4 hcnt
    rw [Nat.zero_add, List.nil_append] at r3
    rw [List.nil_append] at r4
    have hbs : oBuildSlice 1 zw [(0, 4, (.v (aggOf [.int .i64 0, .string ⟨⟨[]⟩⟩, .int .i64 0, .int .i64 (l.length : Int)])))] (callN E (M + 1)) PT.nil u' = some (.slice (some ⟨u'.next, 0, none⟩) 1 1, al u' (wv (endW l))) := buildW (endW l) (callN E (M + 1)) u' (by omega)
    obtain ⟨u2, hu2⟩ : ∃ x, al u' (wv (endW l)) = x := ⟨_, rfl⟩
    rw [hu2] at hbs
    have n2 : u2.next = u'.next + 1 := by rw [← hu2]; exact al_next _ _ (by omega)
    have z2 : u2.getC u'.next = some (wv (endW l)) := by rw [← hu2]; exact al_same _ _ (by omega) rfl
    have o2 : ∀ y, y < u'.next → u2.getC y = u'.getC y := fun y hy => by rw [← hu2]; exact al_ne _ _ _ (by omega) (by omega)
    have ha2 := acc_set r3 (s' := u2) (by omega) o2
    obtain ⟨v', u3, q1, q2, q3, q4, q5⟩ := append_u 4 40 u2 _ _ _ (wv (endW l)) u'.next 1 1 ha2 z2 rfl (by omega) (by omega) (by omega) (by omega) (by omega) (map_app _ _ r4) (callN E (M + 1)) PT.nil (fun hv => by have := r3.lt hv; omega)
    refine ⟨u3, .inr ⟨by rw [hws]; exact r1, v', ?_, ?_, fun y hy => by rw [q4 y hy]; omega⟩, by omega, by omega, fun y hy => ?_⟩
    · rw [x10]; unfold F10
      simp only [es, cond_true, cond_false, eq_self, hms, p1]
      rw [c10_0]
      unfold J10_r3
      simp only [es, cond_true, cond_false, eq_self, lenS_u, buildEnd, hbs, q1]
    · rw [hws]
      have : flat (ws.1 ++ [endW l]) = flat ws.1 ++ wv (endW l) := by unfold flat; rw [List.flatMap_append]; simp
      rw [this]; exact q2
    · rw [q5 y (by omega) (fun hv => by have := r5 y hv; omega), o2 y (by omega)]
      exact p4 y hy
  · subst r2
    refine ⟨u', .inl ⟨p, r1, ?_⟩, p2, by omega, p4⟩
    rw [x10]; unfold F10
    simp only [es, cond_true, cond_false, eq_self, hms, p1]
    rw [c10_r, r3, r4]
    rfl
end Go.Proofs.Ytikdjhlcbkkkfaa.AbsLexO
namespace Go.Proofs.Ytikdjhlcbkkkfaa.AbsLexO
open Go Go.Abs Go.Proofs
set_option maxRecDepth 100000
set_option linter.unusedVariables false
set_option linter.unusedSimpArgs false

attribute [local congr] h_opt2 h_opt h_condV h_cond
/-! LexCuts -/
theorem flatk_at : ∀ {L : List Wd} {i : Nat} {w : Wd} {r : List Wd}, L.drop i = w :: r → ∀ (j : Nat), j < 4 → nth (flat L) (i * 4 + j) = (wv w)[j]?
  | [], i, w, r, h, j, hj => by rw [List.drop_nil] at h; cases h
  | v :: L, 0, w, r, h, j, hj => by
    obtain ⟨rfl, rfl⟩ := List.cons.inj h
    rw [nth_eq, flat_c, Nat.zero_mul, Nat.zero_add, List.getElem?_append_left (by show j < 4; exact hj)]
  | v :: L, i + 1, w, r, h, j, hj => by
    have ih := flatk_at (L := L) (i := i) (r := r) (w := w) h j hj
    rw [nth_eq] at ih ⊢
    rw [flat_c, List.getElem?_append_right (by show 4 ≤ _; omega), ← ih]
    congr 1
    show (i + 1) * 4 + j - 4 = i * 4 + j
    omega
theorem flatk {L : List Wd} {i : Nat} {w : Wd} {r : List Wd} (h : L.drop i = w :: r) :
    nth (flat L) (i * 4 + 0) = some (.int .i64 w.1) ∧ nth (flat L) (i * 4 + 1) = some (.string ⟨⟨w.2.1⟩⟩) ∧ nth (flat L) (i * 4 + 2) = some (.int .i64 w.2.2.1) ∧ nth (flat L) (i * 4 + 3) = some (.int .i64 (w.2.2.2 : Int)) :=
  ⟨flatk_at h 0 (by omega), flatk_at h 1 (by omega), flatk_at h 2 (by omega), flatk_at h 3 (by omega)⟩
set_option maxHeartbeats 1000000 in
theorem same_step (rec : Rec) (N : Nat) (L : List Wd) (nb c mb d i : Nat) (w : Wd) (r : List Wd) (hr : L.drop i = w :: r) (hLl : L.length ≤ 9000) (x : Value) (u : St) (hg : u.getC nb = some (flat L)) (hk : u.getC mb = some (flat L)) :
    ∃ u', B4_l0 rec N ((.slice (some ⟨nb, 0, none⟩) L.length c), (.slice (some ⟨mb, 0, none⟩) L.length d)) (x, (.int .i64 (i : Int))) u = some (.norm, ((x, (.int .i64 ((i + 1 : Nat) : Int))), u')) ∧ Still u u' := by
  obtain ⟨n0, n1, n2, n3⟩ := flatk hr
  have hi : i < L.length := by
    have := congrArg List.length hr
    rw [List.length_drop, List.length_cons] at this
    omega
  obtain ⟨kk, tx, nn, pl⟩ := w
  dsimp only at n0 n1 n2 n3
  have e1 : decide ((i : Int) < (L.length : Int)) = true := decide_eq_true (by omega)
  have e2 : decide (kk = kk) = true := decide_eq_true rfl
  have e3 : decide (tx = tx) = true := decide_eq_true rfl
  have e4 : decide (nn = nn) = true := decide_eq_true rfl
  have e5 : decide ((pl : Int) = (pl : Int)) = true := decide_eq_true rfl
  have a2 : int2 addO (.int .i64 (i : Int)) (.int .i64 1) = some (.int .i64 ((i + 1 : Nat) : Int)) := by rw [add_e _ _ (by omega) (by omega)]; rfl
  rw [B4_l0]
  simp (disch := omega) only [es, cond_true, cond_false, eq_self, lenL_e, e1, idxL0_u, fieldAddr_e, load_u, seen_getC, hg, hk, n0, e2, Q4_q2, n1, nes_u, e3, Q4_q1, n2, e4, Q4_q0, n3, e5, J4_j0, J4_j1, a2]
  exact ⟨_, rfl, by repeat (first | exact Still.refl _ | refine Still.trans ?_ (Still.seen _ _))⟩
theorem same_l (rec : Rec) (N : Nat) (L : List Wd) (nb c mb d : Nat) (hLl : L.length ≤ 9000) (x : Value) :
    ∀ (r : List Wd) (i fuel : Nat) (u : St), L.drop i = r → i + r.length = L.length → r.length < fuel → u.getC nb = some (flat L) → u.getC mb = some (flat L) →
      ∃ v' u', loopV (B4_l0 rec N ((.slice (some ⟨nb, 0, none⟩) L.length c), (.slice (some ⟨mb, 0, none⟩) L.length d))) fuel (x, (.int .i64 (i : Int))) u = some (.exit 0, ((x, v'), u'))
  | [], i, fuel, u, hr, hi, hf, hg, hk => by
    obtain ⟨fuel, rfl⟩ : ∃ m, fuel = m + 1 := ⟨fuel - 1, by simp at hf; omega⟩
    have e1 : decide ((i : Int) < (L.length : Int)) = false := decide_eq_false (by simp at hi; omega)
    rw [loopV_s, B4_l0]
    simp only [es, cond_true, cond_false, eq_self, lenL_e, e1]
    exact ⟨_, _, rfl⟩
  | w :: r, i, fuel, u, hr, hi, hf, hg, hk => by
    obtain ⟨fuel, rfl⟩ : ∃ m, fuel = m + 1 := ⟨fuel - 1, by simp at hf; omega⟩
    simp only [List.length_cons] at hi hf
    obtain ⟨u1, q1, q2⟩ := same_step rec N L nb c mb d i w r hr hLl x u hg hk
    obtain ⟨v', u', p1⟩ := same_l rec N L nb c mb d hLl x r (i + 1) fuel u1 (drop_succ hr) (by omega) (by omega) ((q2.2 nb).trans hg) ((q2.2 mb).trans hk)
    exact ⟨v', u', by rw [loopV_s, q1, op2_s, thenV_n, p1]⟩
theorem acck_some {s : St} {v : Value} {n : Nat} {c : List Value} (h : Acc 4 s v (n + 1) c) : ∃ b, v = .slice (some ⟨b, 0, none⟩) (n + 1) (UNK + 4) ∧ s.getC b = some c ∧ b < s.next := by
  rcases h with ⟨_, h, _⟩ | ⟨_, _, h, _⟩ | ⟨b, h1, h2, h3, h4⟩
  · cases h
  · cases h
  · exact ⟨b, h1, h2, h4⟩
theorem c4_0 (rec : Rec) (N : Nat) (k : Value × Value) (v : Value × Value) (s : St) : C4_l0 rec N k (.exit 0) (v, s) = some (oneOf [(.bool true)], s) := rfl
theorem r4 (M : Nat) (hM : 10050 ≤ M) (l : List UInt8) (s s1 : St) (haw : callN E M 8 [] s = some (.bool true, s1)) (hs : s1.next + 1000000 ≤ lim) : ∃ s', callN E (M + 1) 4 [.string ⟨⟨l⟩⟩] s = some (.bool true, s') := by
  have hlim : lim = 1000000000 := rfl
  obtain ⟨M, rfl⟩ : ∃ m, M = m + 1 := ⟨M - 1, by omega⟩
  rw [x4]; unfold F4
  by_cases hl : 3000 < l.length
  · have e1 : decide ((3000 : Int) < (l.length : Int)) = true := decide_eq_true (by omega)
    simp only [es, cond_true, cond_false, eq_self, haw, lenS_u, e1]
    exact ⟨_, rfl⟩
  have e1 : decide ((3000 : Int) < (l.length : Int)) = false := decide_eq_false (by omega)
  obtain ⟨s2, hcut, g2⟩ := r9 rd_ok M (by omega) l (by omega) s1 (by omega)
  have g2n := g2.2.1
  obtain ⟨s3, hcut3, g3⟩ := r10 M (by omega) l (by omega) s2 (by omega)
  have e7 : decide ((7 : Int) = 7) = true := rfl
  have e0 : decide ((0 : Int) = 0) = true := rfl
  have em : decide ((0 : Int) ≤ -1) = false := rfl
  rcases hcut with ⟨p, hp, q⟩ | ⟨hn, v, q, hacc, hv⟩
  · rcases hcut3 with ⟨p3, hp3, q3⟩ | ⟨hn3, _⟩
    · rw [hp] at hp3
      obtain rfl := Option.some.inj hp3
      have e2 : decide ((0 : Int) ≤ (p : Int)) = true := decide_eq_true (by omega)
      have e3 : decide ((p : Int) = (p : Int)) = true := decide_eq_true rfl
      have hll : ∀ s, oLenL (.v (.slice none 0 0)) (callN E (M + 1)) PT.nil s = some (.int .i64 0, s) := fun s => lenL_e _ _ _ _ _ s
      simp only [es, cond_true, cond_false, eq_self, haw, lenS_u, e1, q, q3, e2, e7, e3, hll]
      exact ⟨_, rfl⟩
    · rw [hp] at hn3; cases hn3
  · rcases hcut3 with ⟨p3, hp3, _⟩ | ⟨_, v3, q3, hacc3, hv3⟩
    · rw [hn] at hp3; cases hp3
    have hcnt : (cutT rdF l).1.length ≤ l.length := by
      have := cutF_count rdF (l.length + 1) (skF false l) (l.drop (skF false l))
      rw [List.length_drop] at this
      show (cutF rdF (l.length + 1) (skF false l) (l.drop (skF false l))).1.length ≤ _
      omega
    obtain ⟨ws, hws⟩ : ∃ ws, (cutT rdF l).1 = ws := ⟨_, rfl⟩
    rw [hws] at hacc hacc3 hcnt
    obtain ⟨b, rfl, hb, hbn⟩ := acck_some hacc
    obtain ⟨b3, rfl, hb3, hbn3⟩ := acck_some hacc3
    have hLlen : (ws ++ [endW l]).length = ws.length + 1 := by rw [List.length_append]; rfl
    obtain ⟨v4, u4, p4⟩ := same_l (callN E (M + 1)) (M + 1) (ws ++ [endW l]) b (UNK + 4) b3 (UNK + 4) (by omega) (.bool false) (ws ++ [endW l]) 0 (M + 1) s3 rfl (by omega) (by omega) (g3.get hb hbn) hb3
    rw [hLlen] at p4
    have p4 : loopV (B4_l0 (callN E (M + 1)) (M + 1) ((.slice (some ⟨b, 0, none⟩) (ws.length + 1) (UNK + 4)), (.slice (some ⟨b3, 0, none⟩) (ws.length + 1) (UNK + 4)))) (M + 1) ((.bool false), (.int .i64 0)) s3 = some (.exit 0, (((.bool false), v4), u4)) := p4
    have e3 : decide (((ws.length + 1 : Nat) : Int) = ((ws.length + 1 : Nat) : Int)) = true := decide_eq_true rfl
    refine ⟨u4, ?_⟩
    simp only [es, cond_true, cond_false, eq_self, haw, lenS_u, e1, q, q3, em, e0, lenL_e, e3, p4]
    rw [c4_0]
    rfl
noncomputable def stOfK (o : Option (Value × St)) : St := Option.rec st0 (fun p => p.2) o
theorem of_partsK {o : Option (Value × St)} (h : isTrue o = true) : o = some (.bool true, stOfK o) := by
  obtain ⟨s', hs⟩ := isTrue_spec h
  rw [hs]
  rfl
theorem awK1 : isTrue (callN E 20001 8 [] st0) = true := by kernel_rfl
theorem awK2 : Nat.ble (stOfK (callN E 20001 8 [] st0)).next 1000 = true := by kernel_rfl
theorem awakeK : ∃ s1, callN E 20001 8 [] st0 = some (.bool true, s1) ∧ s1.next ≤ 1000 := by
  have a := awK2
  rw [ble_eq', decide_eq_true_eq] at a
  exact ⟨_, of_partsK awK1, a⟩
theorem lawLexCuts (b : ByteArray) (w : World) : Calls Try.prog 4 #[.string b] w fun e w' => e = .returned (.bool true) ∧ RowKit.Below w.heap.size w w' := by
  obtain ⟨s1, h1, h2⟩ := awakeK
  have hlim : lim = 1000000000 := rfl
  obtain ⟨s3, r1⟩ := r4 20001 (by omega) b.data.toList st0 s1 h1 (by omega)
  exact args_true (E := E) (n := 20001 + 1) (args := [.string b]) mixed exOk ⟨fnsOk, known⟩ rfl (by
    have r1 : callN E (20001 + 1) 4 [.string b] st0 = some (.bool true, s3) := r1
    rw [r1]; rfl) w
end Go.Proofs.Ytikdjhlcbkkkfaa.AbsLexO
