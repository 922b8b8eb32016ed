import Derived.Test.YtikdjhlcbkkkfaaLexSB
namespace Go.Proofs.Ytikdjhlcbkkkfaa.AbsLexO
open Go Go.Abs Go.Proofs
set_option maxRecDepth 100000
set_option linter.unusedVariables false
set_option linter.unusedSimpArgs false

/-! what a word is does not hang on what stands behind it, if that is a blank -/
theorem cntF_run (p : UInt8 → Bool) : ∀ (x y : List UInt8), x.all p = true → (y.head?.any p) = false → cntF p (x ++ y) = x.length
  | [], [], _, _ => rfl
  | [], c :: y, _, h => by
    show cntF p (c :: y) = 0
    have h : p c = false := by simpa using h
    rw [cntF_c, h]; rfl
  | b :: x, y, hx, h => by
    rw [List.all_cons, Bool.and_eq_true] at hx
    show cntF p (b :: (x ++ y)) = x.length + 1
    rw [cntF_c, hx.1, cond_true, cntF_run p x y hx.2 h]
theorem cntF_drop (p : UInt8 → Bool) : ∀ l : List UInt8, ((l.drop (cntF p l)).head?.any p) = false
  | [] => rfl
  | b :: l => by
    rw [cntF_c]
    cases h : p b
    · show (some b).any p = false
      simpa using h
    · rw [cond_true]; exact cntF_drop p l
theorem cntF_at (p : UInt8 → Bool) (l : List UInt8) : l.take (cntF p l) ++ l.drop (cntF p l) = l := List.take_append_drop _ _
theorem len_take_cnt (p : UInt8 → Bool) (l : List UInt8) : (l.take (cntF p l)).length = cntF p l := by rw [List.length_take]; have := cntF_le p l; omega
/-- a run, and what may follow -/
theorem cntF_take (p : UInt8 → Bool) (l y : List UInt8) (h : (y.head?.any p) = false) : cntF p (l.take (cntF p l) ++ y) = cntF p l := by
  rw [cntF_run p _ y (cntF_all p l) h, len_take_cnt]
theorem take_run (p : UInt8 → Bool) (l y : List UInt8) : (l.take (cntF p l) ++ y).take (cntF p l) = l.take (cntF p l) := by
  have := len_take_cnt p l
  rw [List.take_append_of_le_length (by omega), List.take_of_length_le (by omega)]
theorem drop_run (p : UInt8 → Bool) (l y : List UInt8) : (l.take (cntF p l) ++ y).drop (cntF p l) = y := by
  have := len_take_cnt p l
  rw [List.drop_append_of_le_length (by omega), List.drop_of_length_le (by omega), List.nil_append]
theorem moneyF_b (t rest : List UInt8) (h : 0 < (moneyF t).1) : moneyF (t.take ((moneyF t).1 - 1) ++ 32 :: rest) = moneyF t := by
  obtain ⟨k, hk⟩ : ∃ k, cntF isD t = k := ⟨_, rfl⟩
  by_cases h0 : k = 0
  · exfalso
    unfold moneyF at h
    rw [hk, decide_eq_true h0] at h
    exact absurd h (Nat.lt_irrefl 0)
  by_cases h2 : plF 2 (t.drop k) = 2
  · have e1 : (moneyF t).1 - 1 = k + 3 := by
      unfold moneyF
      rw [hk, decide_eq_false h0, cond_false, decide_eq_true h2, cond_true]
      show 1 + k + 3 - 1 = k + 3
      omega
    obtain ⟨r, hr, hc, _⟩ := plF_two (n := 1) h2
    have hrl := cntF_le isD r
    have ht : t = t.take k ++ 46 :: r := by rw [← hr, List.take_append_drop]
    have htl : (t.take k).length = k := by have := len_take_cnt isD t; rwa [hk] at this
    have hx : t.take (k + 3) = t.take k ++ 46 :: r.take 2 := by
      conv => lhs; rw [ht]
      rw [List.take_append, htl, List.take_take, Nat.min_eq_right (by omega), show k + 3 - k = 3 by omega]
      rfl
    rw [e1, hx, List.append_assoc]
    have c1 : cntF isD (t.take k ++ (46 :: r.take 2 ++ 32 :: rest)) = k := by have := cntF_take isD t (46 :: r.take 2 ++ 32 :: rest) (by rfl); rwa [hk] at this
    have c2 : (t.take k ++ (46 :: r.take 2 ++ 32 :: rest)).drop k = 46 :: (r.take 2 ++ 32 :: rest) := by have := drop_run isD t (46 :: r.take 2 ++ 32 :: rest); rwa [hk] at this
    have c3 : (t.take k ++ (46 :: r.take 2 ++ 32 :: rest)).take k = t.take k := by have := take_run isD t (46 :: r.take 2 ++ 32 :: rest); rwa [hk] at this
    have c4 : cntF isD (r.take 2 ++ 32 :: rest) = 2 := by have := cntF_take isD r (32 :: rest) (by rfl); rwa [hc] at this
    have c5 : plF 2 (46 :: (r.take 2 ++ 32 :: rest)) = 2 := by rw [plF_c, c4]; rfl
    have c6 : (t.take k ++ (46 :: r.take 2 ++ 32 :: rest)).drop (k + 1) = r.take 2 ++ 32 :: rest := by rw [← List.drop_drop, c2]; rfl
    have c7 : (r.take 2 ++ 32 :: rest).take 2 = r.take 2 := by have := take_run isD r (32 :: rest); rwa [hc] at this
    have d6 : t.drop (k + 1) = r := by rw [← List.drop_drop, hr]; rfl
    unfold moneyF
    rw [c1, hk, c2, c3, c5, c6, c7, h2, d6]
  · have e1 : (moneyF t).1 - 1 = k := by
      unfold moneyF
      rw [hk, decide_eq_false h0, cond_false, decide_eq_false h2, cond_false]
      show 1 + k - 1 = k
      omega
    rw [e1]
    have c1 : cntF isD (t.take k ++ 32 :: rest) = k := by have := cntF_take isD t (32 :: rest) (by rfl); rwa [hk] at this
    have c2 : (t.take k ++ 32 :: rest).drop k = 32 :: rest := by have := drop_run isD t (32 :: rest); rwa [hk] at this
    have c3 : (t.take k ++ 32 :: rest).take k = t.take k := by have := take_run isD t (32 :: rest); rwa [hk] at this
    have c5 : plF 2 (32 :: rest) = 0 := by rw [plF_c]; rfl
    unfold moneyF
    rw [c1, hk, c2, c3, c5, decide_eq_false h2]
    rfl
/-- a day begins with four digits and a dash -/
theorem numL_neg : ∀ (l : List UInt8) (a : Int), numL a l ≠ -1 → l.all isD = true
  | [], _, _ => rfl
  | b :: l, a, h => by
    rw [numL_c] at h
    cases hb : isD b
    · rw [hb] at h; exact absurd rfl h
    · rw [hb, cond_true] at h
      rw [List.all_cons, hb, numL_neg l _ h]; rfl
theorem day_dash {l : List UInt8} (h : 0 < (dayF rdF l).1) : (l.drop (cntF isD l)).head? = some 45 := by
  unfold dayF at h
  by_cases h10 : l.length < 10
  · rw [decide_eq_true h10, Bool.true_or] at h; exact absurd h (Nat.lt_irrefl 0)
  rw [decide_eq_false h10, Bool.false_or] at h
  have hlt : (l.take 10).length = 10 := by rw [List.length_take]; omega
  obtain ⟨b0, b1, b2, b3, b4, b5, b6, b7, b8, b9, hb⟩ := ten hlt
  have hl : l = [b0, b1, b2, b3, b4, b5, b6, b7, b8, b9] ++ l.drop 10 := by rw [← hb, List.take_append_drop]
  have hr : (rdF (l.take 10)).2 = true := by
    cases hh : (rdF (l.take 10)).2 with
    | true => rfl
    | false =>
      rw [hh] at h
      revert h
      cases nextD l <;> exact fun h => absurd h (Nat.lt_irrefl 0)
  rw [hb] at hr
  unfold rdF at hr
  dsimp only at hr
  cases h4 : decide ((b4.toNat : Int) = 45) with
  | false => rw [h4, Bool.false_and] at hr; cases hr
  | true =>
    cases h7 : decide ((b7.toNat : Int) = 45) with
    | false => rw [h7, Bool.and_false] at hr; cases hr
    | true =>
      rw [h4, h7] at hr
      have hr : (ofR (numL 0 [b0, b1, b2, b3]) (numL 0 [b5, b6]) (numL 0 [b8, b9])).2 = true := hr
      have hn : numL 0 [b0, b1, b2, b3] ≠ -1 := by
        intro e
        unfold ofR at hr
        rw [e, if_neg (by omega)] at hr
        cases hr
      have hall := numL_neg _ _ hn
      have hb4 : b4 = 45 := UInt8.toNat_inj.1 (by have e : (45 : UInt8).toNat = 45 := rfl; have := of_decide_eq_true h4; rw [e]; omega)
      subst hb4
      have hc : cntF isD l = 4 := by
        rw [hl]
        exact cntF_run isD [b0, b1, b2, b3] ([45, b5, b6, b7, b8, b9] ++ l.drop 10) hall (by rfl)
      rw [hc, hl]
      rfl
theorem dayF_no {l : List UInt8} (h : (l.drop (cntF isD l)).head? ≠ some 45) : (dayF rdF l).1 = 0 := by
  rcases Nat.eq_zero_or_pos (dayF rdF l).1 with h0 | h0
  · exact h0
  · exact absurd (day_dash h0) h
theorem dayF_b (r rest : List UInt8) (h : 0 < (dayF rdF r).1) : dayF rdF (r.take 10 ++ 32 :: rest) = dayF rdF r := by
  unfold dayF at h ⊢
  by_cases h10 : r.length < 10
  · rw [decide_eq_true h10, Bool.true_or] at h; exact absurd h (Nat.lt_irrefl 0)
  have hlt : (r.take 10).length = 10 := by rw [List.length_take]; omega
  rw [decide_eq_false h10, Bool.false_or] at h ⊢
  have e1 : decide ((r.take 10 ++ 32 :: rest).length < 10) = false := decide_eq_false (by rw [List.length_append, hlt]; omega)
  have e2 : (r.take 10 ++ 32 :: rest).drop 10 = 32 :: rest := by rw [List.drop_append_of_le_length (by omega), List.drop_of_length_le (by omega), List.nil_append]
  have e3 : (r.take 10 ++ 32 :: rest).take 10 = r.take 10 := by rw [List.take_append_of_le_length (by omega), List.take_take, Nat.min_self]
  have e4 : nextD (r.take 10 ++ 32 :: rest) = false := by unfold nextD; rw [e2]; rfl
  rw [e1, Bool.false_or, e4, e3]
  cases hn : nextD r
  · rfl
  · rw [hn] at h; exact absurd h (Nat.lt_irrefl 0)
end Go.Proofs.Ytikdjhlcbkkkfaa.AbsLexO
namespace Go.Proofs.Ytikdjhlcbkkkfaa.AbsLexO
open Go Go.Abs Go.Proofs
set_option maxRecDepth 100000
set_option linter.unusedVariables false
set_option linter.unusedSimpArgs false

attribute [local congr] h_opt2 h_opt h_condV h_cond
/-! a number written -/
def Mine (s s' : St) : Prop := ∀ y, (s'.rd.testBit y = true ∨ s'.wr.testBit y = true) → (s.rd.testBit y = true ∨ s.wr.testBit y = true) ∨ (s.next ≤ y ∧ y < s'.next)
theorem al_rd (s : St) (c : Blk) (h : s.next ≤ lim) : (al s c).rd = s.rd := (St.alloc_some (al_e s c h)).2.2.2.1
theorem al_wr (s : St) (c : Blk) (h : s.next ≤ lim) : (al s c).wr = Nat.lor s.wr (bit s.next) := (St.alloc_some (al_e s c h)).2.2.2.2.1
theorem seen_wr (s : St) (x : Nat) : (s.seen x).wr = s.wr := by unfold St.seen; rw [force_eq]
theorem Mine.refl (s : St) : Mine s s := fun y h => .inl h
theorem Mine.trans {a b c : St} (h1 : a.next ≤ b.next) (h2 : b.next ≤ c.next) (h : Mine a b) (g : Mine b c) : Mine a c := fun y hy => by
  rcases g y hy with h' | h'
  · rcases h y h' with h'' | h''
    · exact .inl h''
    · exact .inr ⟨h''.1, by omega⟩
  · exact .inr ⟨by omega, h'.2⟩
theorem Mine.al (s : St) (c : Blk) (h : s.next ≤ lim) : Mine s (al s c) := fun y hy => by
  rw [al_rd _ _ h, al_wr _ _ h, testBit_lor, testBit_bit, al_next _ _ h] at *
  rcases hy with h1 | h1
  · exact .inl (.inl h1)
  · rw [Bool.or_eq_true, decide_eq_true_eq] at h1
    rcases h1 with h1 | h1
    · exact .inl (.inr h1)
    · exact .inr ⟨by omega, by omega⟩
theorem Mine.seen (s0 s : St) (x : Nat) (h : Mine s0 s) (h1 : s0.next ≤ x) (h2 : x < s.next) : Mine s0 (s.seen x) := fun y hy => by
  rw [St.seen_rd, seen_wr, testBit_lor, testBit_bit] at hy
  rw [St.seen_next]
  rcases hy with h3 | h3
  · rw [Bool.or_eq_true, decide_eq_true_eq] at h3
    rcases h3 with h3 | h3
    · exact h y (.inl h3)
    · exact .inr ⟨by omega, by omega⟩
  · exact h y (.inr h3)
theorem Mine.jn {s s1 : St} (h : Mine (z0 s) s1) : Mine s (jn s s1) := fun y hy => by
  have key : (s1.rd.testBit y = true ∨ s1.wr.testBit y = true) → (s.rd.testBit y = true ∨ s.wr.testBit y = true) ∨ (s.next ≤ y ∧ y < (Abs.jn s s1).next) := fun h' => by
    rcases h y h' with h1 | h1
    · have e : Nat.testBit 0 y = false := Nat.zero_testBit y
      rcases h1 with h1 | h1
      · have h1 : Nat.testBit 0 y = true := h1
        rw [e] at h1; cases h1
      · have h1 : Nat.testBit 0 y = true := h1
        rw [e] at h1; cases h1
    · exact .inr h1
  rcases hy with h1 | h1
  · have h1 : (Nat.lor s.rd s1.rd).testBit y = true := h1
    rw [testBit_lor, Bool.or_eq_true] at h1
    rcases h1 with h1 | h1
    · exact .inl (.inl h1)
    · exact key (.inl h1)
  · have h1 : (Nat.lor s.wr s1.wr).testBit y = true := h1
    rw [testBit_lor, Bool.or_eq_true] at h1
    rcases h1 with h1 | h1
    · exact .inl (.inr h1)
    · exact key (.inr h1)
theorem Mine.of0 {s s1 : St} (h : Mine (z0 s) s1) (y : Nat) (hy : s1.rd.testBit y = true ∨ s1.wr.testBit y = true) : s.next ≤ y ∧ y < s1.next := by
  rcases h y hy with h1 | h1
  · have e : Nat.testBit 0 y = false := Nat.zero_testBit y
    rcases h1 with h1 | h1
    · have h1 : Nat.testBit 0 y = true := h1
      rw [e] at h1; cases h1
    · have h1 : Nat.testBit 0 y = true := h1
      rw [e] at h1; cases h1
  · exact h1
theorem rU_c (v : Value) (fs : Frm) (s s1 : St) : rU (some (v, s1)) fs s none = some (v, (⟨(s1.rd, s1.wr), s, s1, none⟩, jn s s1)) := by
  unfold rU
  rw [op2_s]
  rfl
theorem land_0 (a b : Nat) (h : ∀ y, a.testBit y = true → b.testBit y = true → False) : Nat.land a b = 0 := by
  apply Nat.eq_of_testBit_eq
  intro y
  rw [show (Nat.land a b).testBit y = (a.testBit y && b.testBit y) from Nat.testBit_and a b y, Nat.zero_testBit]
  cases h1 : a.testBit y
  · rfl
  · cases h2 : b.testBit y
    · rfl
    · exact (h y h1 h2).elim
theorem apartM_dis (a b : Nat × Nat) (h : ∀ y, (a.1.testBit y = true ∨ a.2.testBit y = true) → (b.1.testBit y = true ∨ b.2.testBit y = true) → False) : apartM a b = true := by
  unfold apartM
  rw [land_0 a.2 (Nat.lor b.1 b.2) (fun y h1 h2 => by
    rw [testBit_lor, Bool.or_eq_true] at h2
    exact h y (.inr h1) h2), land_0 a.1 b.2 (fun y h1 h2 => h y (.inl h1) (.inr h2))]
  rfl
theorem apartK_dis (a b : Mk) (ha : a.ld = none) (hb : b.ld = none) (h : ∀ y, (a.m.1.testBit y = true ∨ a.m.2.testBit y = true) → (b.m.1.testBit y = true ∨ b.m.2.testBit y = true) → False) : apartK a b = true := by
  unfold apartK
  rw [apartM_dis _ _ h, ldFree_n _ _ ha, ldFree_n _ _ hb]
  rfl
theorem apartAll_of (ms : List Mk) : ∀ un : List (Nat × Nat), (∀ p ∈ un, apartP ms p = true) → apartAll ms un = true
  | [], _ => rfl
  | p :: un, h => by
    have ih := apartAll_of ms un fun q hq => h q (List.mem_cons_of_mem _ hq)
    show (bif apartP ms p then apartAll ms un else false) = true
    rw [h p List.mem_cons_self, ih]; rfl
theorem apart22 (a0 a1 a2 a3 a4 a5 a6 a7 a8 a9 a10 : Mk) (h0 : KindOk a0 0) (h1 : KindOk a1 0) (h2 : KindOk a2 2) (h3 : KindOk a3 0) (h4 : KindOk a4 0) (h5 : KindOk a5 0) (h6 : KindOk a6 0) (h7 : KindOk a7 2) (h8 : KindOk a8 2) (h27 : apartK a2 a7 = true) (h28 : apartK a2 a8 = true) :
    apartAll [a0, a1, a2, a3, a4, a5, a6, a7, a8, a9, a10] [(0, 3), (1, 3), (2, 3), (0, 4), (1, 4), (2, 4), (0, 5), (1, 5), (2, 5), (0, 6), (1, 6), (2, 6), (0, 7), (1, 7), (2, 7), (0, 8), (1, 8), (2, 8)] = true := by
  apply apartAll_of
  intro p hp
  simp only [List.mem_cons, List.not_mem_nil, or_false] at hp
  rcases hp with rfl | rfl | rfl | rfl | rfl | rfl | rfl | rfl | rfl | rfl | rfl | rfl | rfl | rfl | rfl | rfl | rfl | rfl
  · exact apartK_ok h0 h3 rfl
  · exact apartK_ok h1 h3 rfl
  · exact apartK_ok h2 h3 rfl
  · exact apartK_ok h0 h4 rfl
  · exact apartK_ok h1 h4 rfl
  · exact apartK_ok h2 h4 rfl
  · exact apartK_ok h0 h5 rfl
  · exact apartK_ok h1 h5 rfl
  · exact apartK_ok h2 h5 rfl
  · exact apartK_ok h0 h6 rfl
  · exact apartK_ok h1 h6 rfl
  · exact apartK_ok h2 h6 rfl
  · exact apartK_ok h0 h7 rfl
  · exact apartK_ok h1 h7 rfl
  · exact h27
  · exact apartK_ok h0 h8 rfl
  · exact apartK_ok h1 h8 rfl
  · exact h28
/-- a digit's byte -/
def dgC (n : Nat) : UInt8 := UInt8.ofNat (48 + n)
def decF : Nat → Nat → List UInt8
  | 0, _ => []
  | k + 1, n => if n < 10 then [dgC n] else decF k (n / 10) ++ [dgC (n % 10)]
theorem conv8_u (m : Int) (rec : Rec) (fs : Frm) (s : St) (h0 : 0 ≤ m) (h : m < 256) : oConv .u8 (.v (.int .i64 m)) rec fs s = some (.int .u8 m, s) := by
  obtain ⟨m, rfl⟩ := Int.eq_ofNat_of_zero_le h0
  show (opt (mkInt .u8 (m : Int)) fun v => some (v, s)) = _
  rw [mkInt_eq, op_s]
  congr 3
  exact Abs.wrap_small .u8 m (by simp [topOf]; omega)
theorem byte_u (s : St) (b d : Nat) (rec : Rec) (hd : d < 10) (h : s.getC b = some [.int .u8 (48 + (d : Int))]) : oBytesStr (.v (.slice (some ⟨b, 0, none⟩) 1 1)) rec PT.nil s = some (.string ⟨⟨[dgC d]⟩⟩, s.seen b) := by
  show opt2 (s.read b 0 1) (fun c s => opt (bytesOf c) fun l => some (Value.string ⟨⟨l⟩⟩, s)) = _
  rw [read_u s b 0 1 _ h (by show 0 + 1 ≤ 1; omega), op2_s]
  show opt (some [UInt8.ofNat (48 + (d : Int)).toNat]) _ = _
  rw [op_s, show (48 + (d : Int)).toNat = 48 + d by omega]
  rfl
theorem bsD (x : Int) (rec : Rec) (s : St) (h : s.next ≤ lim) : oBuildSlice 1 [(.int .u8 0)] [(0, 1, (.v (.int .u8 x)))] rec PT.nil s = some (.slice (some ⟨s.next, 0, none⟩) 1 1, al s [.int .u8 x]) := bs_u 1 _ _ _ _ s (by kernel_rfl) h
theorem decF_len : ∀ (k n : Nat), (decF k n).length ≤ k
  | 0, _ => Nat.le_refl _
  | k + 1, n => by
    have ih := decF_len k (n / 10)
    unfold decF
    split
    · show 1 ≤ k + 1; omega
    · rw [List.length_append]; show _ + 1 ≤ _; omega
theorem r22 : ∀ (k n M : Nat) (s : St), n < 10 ^ (k + 1) → k ≤ 17 → k ≤ M → s.next + k + 1 ≤ lim → ∃ s', callN E (M + 1) 22 [.int .i64 (n : Int)] s = some (.string ⟨⟨decF (k + 1) n⟩⟩, s') ∧ Grew (k + 1) s s' ∧ Mine s s'
  | k, n, M, s, hn, hk, hM, hs => by
    have hlim : lim = 1000000000 := rfl
    have hp : (10 : Nat) ^ (k + 1) ≤ 10 ^ 18 := Nat.pow_le_pow_right (by omega) (by omega)
    have h18 : (10 : Nat) ^ 18 = 1000000000000000000 := by decide
    have e0 : decide ((n : Int) < 0) = false := decide_eq_false (by omega)
    rw [x22]; unfold F22 decF
    by_cases h10 : n < 10
    · have e1 : decide ((n : Int) < 10) = true := decide_eq_true (by omega)
      have ad : int2 addO (.int .i64 48) (.int .i64 (n : Int)) = some (.int .i64 (48 + (n : Int))) := add_e _ _ (by omega) (by omega)
      have hb := byte_u (al s [.int .u8 (48 + (n : Int))]) s.next n (callN E M) h10 (al_same s _ (by omega) rfl)
      rw [if_pos h10]
      refine ⟨(al s [.int .u8 (48 + (n : Int))]).seen s.next, ?_, (((Grew.refl s).al _ (by omega)).seen _).mono (by omega), (Mine.al s _ (by omega)).seen _ _ _ (Nat.le_refl _) (by rw [al_next _ _ (by omega)]; omega)⟩
      simp (disch := omega) only [es, cond_true, cond_false, eq_self, mov_v, e0, e1, ad, conv8_u, bsD, hb]
    · have e1 : decide ((n : Int) < 10) = false := decide_eq_false (by omega)
      rw [if_neg h10]
      obtain ⟨k, rfl⟩ : ∃ j, k = j + 1 := by
        cases k with
        | zero => omega
        | succ j => exact ⟨j, rfl⟩
      obtain ⟨M, rfl⟩ : ∃ j, M = j + 1 := ⟨M - 1, by omega⟩
      have hq : int2 quoO (.int .i64 (n : Int)) (.int .i64 10) = some (.int .i64 ((n / 10 : Nat) : Int)) := by rw [quo_e _ _ (by omega) (by omega) (by omega)]; rfl
      have hr : int2 remO (.int .i64 (n : Int)) (.int .i64 10) = some (.int .i64 ((n % 10 : Nat) : Int)) := by rw [rem_e _ _ (by omega) (by omega)]; rfl
      have ad : int2 addO (.int .i64 48) (.int .i64 ((n % 10 : Nat) : Int)) = some (.int .i64 (48 + ((n % 10 : Nat) : Int))) := add_e _ _ (by omega) (by omega)
      obtain ⟨s1, q1, g1, m1⟩ := r22 k (n / 10) M (z0 s) (by rw [Nat.pow_succ] at hn; omega) (by omega) (by omega) (by rw [z0_next]; omega)
      have g1n := g1.2.1
      have g1m := g1.1
      rw [z0_next] at g1n g1m
      obtain ⟨u, hu⟩ : ∃ u, jn s s1 = u := ⟨_, rfl⟩
      have un : u.next = s1.next := by rw [← hu]; rfl
      obtain ⟨z1, hz1⟩ : ∃ z, z0 u = z := ⟨_, rfl⟩
      have z1n : z1.next = u.next := by rw [← hz1]; rfl
      have b1 := bsD (48 + ((n % 10 : Nat) : Int)) (callN E (M + 1)) z1 (by omega)
      obtain ⟨a1, ha1⟩ : ∃ a, al z1 [.int .u8 (48 + ((n % 10 : Nat) : Int))] = a := ⟨_, rfl⟩
      rw [ha1] at b1
      have a1n : a1.next = z1.next + 1 := by rw [← ha1]; exact al_next _ _ (by omega)
      have a1m : Mine z1 a1 := by rw [← ha1]; exact Mine.al _ _ (by omega)
      have a1c : a1.getC z1.next = some [.int .u8 (48 + ((n % 10 : Nat) : Int))] := by rw [← ha1]; exact al_same _ _ (by omega) rfl
      obtain ⟨u2, hu2⟩ : ∃ x, jn u a1 = x := ⟨_, rfl⟩
      obtain ⟨z2, hz2⟩ : ∃ z, z0 u2 = z := ⟨_, rfl⟩
      have z2c : z2.getC z1.next = some [.int .u8 (48 + ((n % 10 : Nat) : Int))] := by rw [← hz2, ← hu2]; exact a1c
      have b2 := byte_u z2 z1.next (n % 10) (callN E (M + 1)) (by omega) z2c
      have cat : str2 catO (.string ⟨⟨decF (k + 1) (n / 10)⟩⟩) (.string ⟨⟨[dgC (n % 10)]⟩⟩) = some (.string ⟨⟨decF (k + 1) (n / 10) ++ [dgC (n % 10)]⟩⟩) := cat_u _ _ (by have := decF_len (k + 1) (n / 10); show _ + 1 ≤ _; omega)
      obtain ⟨u3, hu3⟩ : ∃ x, jn u2 (z2.seen z1.next) = x := ⟨_, rfl⟩
      have z0d : ∀ t : St, (⟨t.heap, t.next, 0, 0⟩ : St) = z0 t := fun t => rfl
      have pl : ∀ (v : Value) (t : St), rU (some (v, z0 t)) PT.nil t none = some (v, (⟨(0, 0), t, z0 t, none⟩, t)) := fun v t => rU_p v PT.nil t
      refine ⟨u3, ?_, ?_, ?_⟩
      · have b1' : oBuildSlice 1 [(.int .u8 0)] [(0, 1, (.v (.int .u8 (48 + ((n % 10 : Nat) : Int)))))] (callN E (M + 1)) PT.nil (z0 u) = some (.slice (some ⟨z1.next, 0, none⟩) 1 1, a1) := by rw [hz1]; exact b1
        have b2' : oBytesStr (.v (.slice (some ⟨z1.next, 0, none⟩) 1 1)) (callN E (M + 1)) PT.nil (z0 u2) = some (.string ⟨⟨[dgC (n % 10)]⟩⟩, z2.seen z1.next) := by rw [hz2]; exact b2
        have c1 := fun v => rU_c v PT.nil s s1
        have c2 := fun v => rU_c v PT.nil u a1
        have c3 := fun v => rU_c v PT.nil u2 (z2.seen z1.next)
        rw [hu] at c1
        rw [hu2] at c2
        rw [hu3] at c3
        simp (disch := omega) only [es, cond_true, cond_false, eq_self, mov_v, e0, e1, z0d, pl, hq, q1, c1, hr, ad, conv8_u, b1', c2, b2', c3, cat]
        rw [apart22]
        · rfl
        · exact ⟨rfl, rfl⟩
        · exact ⟨rfl, rfl⟩
        · exact rfl
        · exact ⟨rfl, rfl⟩
        · exact ⟨rfl, rfl⟩
        · exact ⟨rfl, rfl⟩
        · exact ⟨rfl, rfl⟩
        · exact rfl
        · exact rfl
        · refine apartK_dis _ _ rfl rfl (fun y h1 h2 => ?_)
          have h1 := Mine.of0 m1 y h1
          have h2 := Mine.of0 (s := u) (by rw [hz1]; exact a1m) y h2
          omega
        · refine apartK_dis _ _ rfl rfl (fun y h1 h2 => ?_)
          have h1 := Mine.of0 m1 y h1
          have h2 : (z2.seen z1.next).rd.testBit y = true ∨ (z2.seen z1.next).wr.testBit y = true := h2
          rw [St.seen_rd, seen_wr, testBit_lor, testBit_bit, ← hz2] at h2
          have e0 : Nat.testBit 0 y = false := Nat.zero_testBit y
          rcases h2 with h2 | h2
          · have h2 : (Nat.testBit 0 y || decide (z1.next = y)) = true := h2
            rw [e0, Bool.false_or, decide_eq_true_eq] at h2
            omega
          · have h2 : Nat.testBit 0 y = true := h2
            rw [e0] at h2; cases h2
      · have gu : Grew (k + 1) s u := by rw [← hu]; exact g1.z0
        have gz : Grew (k + 2) s a1 := ⟨by omega, by omega, fun y hy => by
          rw [← ha1, al_ne _ _ _ (by omega) (by omega), ← hz1]
          exact gu.2.2 y hy⟩
        rw [← hu3]
        refine ⟨?_, ?_, fun y hy => ?_⟩
        · show s.next ≤ (z2.seen z1.next).next
          rw [St.seen_next, ← hz2, ← hu2]; exact gz.1
        · show (z2.seen z1.next).next ≤ _
          rw [St.seen_next, ← hz2, ← hu2]; exact gz.2.1
        · rw [jn_getC, seen_getC, ← hz2, ← hu2]; exact gz.2.2 y hy
      · have m2 : Mine s u := by rw [← hu]; exact Mine.jn m1
        have m3 : Mine u u2 := by rw [← hu2]; exact Mine.jn (by rw [hz1]; exact a1m)
        have u2n : u2.next = a1.next := by rw [← hu2]; rfl
        have m4 : Mine s u2 := Mine.trans (by omega) (by omega) m2 m3
        have e : u3 = u2.seen z1.next := by rw [← hu3, ← hz2]; exact jn_seen _ _
        rw [e]
        exact Mine.seen _ _ _ m4 (by omega) (by omega)
end Go.Proofs.Ytikdjhlcbkkkfaa.AbsLexO
namespace Go.Proofs.Ytikdjhlcbkkkfaa.AbsLexO
open Go Go.Abs Go.Proofs
set_option maxRecDepth 100000
set_option linter.unusedVariables false
set_option linter.unusedSimpArgs false

attribute [local congr] h_opt2 h_opt h_condV h_cond
/-! padded numbers; days -/
def padF (w n : Nat) : List UInt8 := List.replicate (w - (decF w n).length) 48 ++ decF w n
theorem pad_lp (rec : Rec) (N w : Nat) (hw : w ≤ 100) (q : Value) (s : St) : ∀ (j : Nat) (x : List UInt8) (fuel : Nat), x.length + j = w → j < fuel →
    loopV (B23_l0 rec N ((.int .i64 (w : Int)), q)) fuel (.string ⟨⟨x⟩⟩) s = some (.exit 0, ((.string ⟨⟨List.replicate j 48 ++ x⟩⟩), s))
  | 0, x, fuel, hx, hf => by
    obtain ⟨fuel, rfl⟩ : ∃ m, fuel = m + 1 := ⟨fuel - 1, by omega⟩
    have e1 : decide ((x.length : Int) < (w : Int)) = false := decide_eq_false (by omega)
    rw [loopV_s, B23_l0]
    simp only [es, cond_true, cond_false, eq_self, lenS_u, e1]
    rfl
  | j + 1, x, fuel, hx, hf => by
    obtain ⟨fuel, rfl⟩ : ∃ m, fuel = m + 1 := ⟨fuel - 1, by omega⟩
    have e1 : decide ((x.length : Int) < (w : Int)) = true := decide_eq_true (by omega)
    have c : str2 catO (.string ⟨⟨[48]⟩⟩) (.string ⟨⟨x⟩⟩) = some (.string ⟨⟨48 :: x⟩⟩) := cat_u [48] x (by show 1 + _ ≤ _; omega)
    have ih := pad_lp rec N w hw q s j (48 :: x) fuel (by rw [List.length_cons]; omega) (by omega)
    rw [loopV_s, B23_l0]
    simp only [es, cond_true, cond_false, eq_self, lenS_u, e1, c, ih]
    rw [List.replicate_succ', List.append_assoc]
    rfl
theorem c23_0 (rec : Rec) (N : Nat) (k : Value × Value) (v : Value) (s : St) : C23_l0 rec N k (.exit 0) (v, s) = some (oneOf [v], s) := rfl
theorem r23 (M : Nat) (hM : 100 ≤ M) (w n : Nat) (hw : w ≤ 4) (hw1 : 1 ≤ w) (hn : n < 10 ^ w) (s : St) (hs : s.next + 10 ≤ lim) :
    ∃ s', callN E (M + 1) 23 [.int .i64 (n : Int), .int .i64 (w : Int)] s = some (.string ⟨⟨padF w n⟩⟩, s') ∧ Grew 4 s s' := by
  obtain ⟨M, rfl⟩ : ∃ m, M = m + 1 := ⟨M - 1, by omega⟩
  obtain ⟨k, rfl⟩ : ∃ k, w = k + 1 := ⟨w - 1, by omega⟩
  obtain ⟨s1, q1, g1, _⟩ := r22 k n M s hn (by omega) (by omega) (by omega)
  have hl := decF_len (k + 1) n
  have hp := pad_lp (callN E (M + 1)) (M + 1) (k + 1) (by omega) (.string ⟨⟨[]⟩⟩) s1 (k + 1 - (decF (k + 1) n).length) (decF (k + 1) n) (M + 1) (by omega) (by omega)
  refine ⟨s1, ?_, g1.mono (by omega)⟩
  rw [x23]; unfold F23
  simp only [es, cond_true, cond_false, eq_self, q1, hp]
  rw [c23_0]
  rfl
def b2 (n : Nat) : List UInt8 := [dgC (n / 10 % 10), dgC (n % 10)]
theorem r38 (M : Nat) (n : Nat) (hn : n ≤ 100000) (s : St) (hl : s.next ≤ lim) : ∃ s', callN E (M + 1) 38 [.int .i64 (n : Int)] s = some (.string ⟨⟨b2 n⟩⟩, s') ∧ Grew 1 s s' := by
  have hlim : lim = 1000000000 := rfl
  have q1 : int2 quoO (.int .i64 (n : Int)) (.int .i64 10) = some (.int .i64 ((n : Int) / 10)) := quo_e _ _ (by omega) (by omega) (by omega)
  have q2 : int2 remO (.int .i64 ((n : Int) / 10)) (.int .i64 10) = some (.int .i64 ((n : Int) / 10 % 10)) := rem_e _ _ (by omega) (by omega)
  have q3 : int2 addO (.int .i64 48) (.int .i64 ((n : Int) / 10 % 10)) = some (.int .i64 (48 + (n : Int) / 10 % 10)) := add_e _ _ (by omega) (by omega)
  have q4 : int2 remO (.int .i64 (n : Int)) (.int .i64 10) = some (.int .i64 ((n : Int) % 10)) := rem_e _ _ (by omega) (by omega)
  have q5 : int2 addO (.int .i64 48) (.int .i64 ((n : Int) % 10)) = some (.int .i64 (48 + (n : Int) % 10)) := add_e _ _ (by omega) (by omega)
  have bs : oBuildSlice 2 [(.int .u8 0), (.int .u8 0)] [(0, 1, (.v (.int .u8 (48 + (n : Int) / 10 % 10)))), (1, 1, (.v (.int .u8 (48 + (n : Int) % 10))))] (callN E M) PT.nil s = some (.slice (some ⟨s.next, 0, none⟩) 2 2, al s [.int .u8 (48 + (n : Int) / 10 % 10), .int .u8 (48 + (n : Int) % 10)]) := bs_u 2 _ _ _ _ s (by kernel_rfl) hl
  obtain ⟨s1, hs1⟩ : ∃ x, al s [.int .u8 (48 + (n : Int) / 10 % 10), .int .u8 (48 + (n : Int) % 10)] = x := ⟨_, rfl⟩
  have a3 : s1.getC s.next = some [.int .u8 (48 + (n : Int) / 10 % 10), .int .u8 (48 + (n : Int) % 10)] := by rw [← hs1]; exact al_same _ _ hl rfl
  have g1 : Grew 1 s s1 := by rw [← hs1]; exact (Grew.refl s).al _ hl
  rw [hs1] at bs
  have q6 : oBytesStr (.v (.slice (some ⟨s.next, 0, none⟩) 2 2)) (callN E M) PT.nil s1 = some (.string ⟨⟨b2 n⟩⟩, s1.seen s.next) := by
    show opt2 (s1.read s.next 0 2) (fun c s => opt (bytesOf c) fun l => some (Value.string ⟨⟨l⟩⟩, s)) = _
    rw [read_u s1 s.next 0 2 _ a3 (by show 0 + 2 ≤ 2; omega), op2_s]
    show opt (some [UInt8.ofNat (48 + (n : Int) / 10 % 10).toNat, UInt8.ofNat (48 + (n : Int) % 10).toNat]) _ = _
    rw [op_s, show (48 + (n : Int) / 10 % 10).toNat = 48 + n / 10 % 10 by omega, show (48 + (n : Int) % 10).toNat = 48 + n % 10 by omega]
    rfl
  refine ⟨s1.seen s.next, ?_, g1.seen _⟩
  rw [x38]; unfold F38
  simp (disch := omega) only [es, cond_true, cond_false, eq_self, q1, q2, q3, conv8_u, q4, q5, bs, q6]
theorem r45 (M : Nat) (y : Int) (s : St) : callN E (M + 1) 45 [.int .i64 y] s = some (.bool (leapF y), s) := by
  rw [x45]; unfold F45 leapF
  cases h1 : decide (y.tmod 4 = 0) <;> cases h2 : decide (y.tmod 100 = 0) <;> cases h3 : decide (y.tmod 400 = 0) <;> simp only [es, cond_true, cond_false, eq_self, rem_t _ 4 (by decide), rem_t _ 100 (by decide), rem_t _ 400 (by decide), h1, h2, h3] <;> rfl
theorem r46 (M : Nat) (y : Int) (k : Nat) (hk : k ≤ 11) (s : St) : callN E (M + 2) 46 [.int .i64 y, .int .i64 ((k : Int) + 1)] s = some (.int .i64 (daysF y ((k : Int) + 1)), s) := by
  rw [x46]; unfold F46
  have : k = 0 ∨ k = 1 ∨ k = 2 ∨ k = 3 ∨ k = 4 ∨ k = 5 ∨ k = 6 ∨ k = 7 ∨ k = 8 ∨ k = 9 ∨ k = 10 ∨ k = 11 := by omega
  have h1 : ∀ j : Int, (if j = 2 then (if leapF y then (29 : Int) else 28) else if j = 4 ∨ j = 6 ∨ j = 9 ∨ j = 11 then 30 else if 1 ≤ j ∧ j ≤ 12 then 31 else 0) = daysF y j := fun j => rfl
  generalize hm : (k : Int) + 1 = m
  have : m = 1 ∨ m = 2 ∨ m = 3 ∨ m = 4 ∨ m = 5 ∨ m = 6 ∨ m = 7 ∨ m = 8 ∨ m = 9 ∨ m = 10 ∨ m = 11 ∨ m = 12 := by omega
  clear hm h1
  rcases this with rfl | rfl | rfl | rfl | rfl | rfl | rfl | rfl | rfl | rfl | rfl | rfl
  case inr.inl =>
    simp only [es, cond_true, cond_false, eq_self, Int.reduceEq, J46_j0, J46_j1, J46_j2, r45]
    unfold daysF
    rw [if_pos rfl]
    cases leapF y <;> simp only [es, cond_true, cond_false, eq_self] <;> rfl
  all_goals
    simp only [es, cond_true, cond_false, eq_self, Int.reduceEq, J46_j0, J46_j1, J46_j2]
    rfl
theorem year_s : ∀ k : Nat, k < 300 → beforeF (1900 + (k : Int) + 1) = beforeF (1900 + (k : Int)) + 365 + (if leapF (1900 + (k : Int)) then 1 else 0) := by decide +kernel
theorem sum12 (y : Int) : sumTo y 12 = 365 + (if leapF y then 1 else 0) := by
  show 0 + daysF y 1 + daysF y 2 + daysF y 3 + daysF y 4 + daysF y 5 + daysF y 6 + daysF y 7 + daysF y 8 + daysF y 9 + daysF y 10 + daysF y 11 + daysF y 12 = _
  unfold daysF
  cases leapF y <;> rfl
theorem yr_l (M N : Nat) (q : Value × Value × Value × Value) (v : Int) (hv : v ≤ 109572) (s : St) :
    ∀ (j i fuel : Nat), i + j = 299 → j < fuel → beforeF (1900 + (i : Int)) ≤ v → ∃ i' : Nat, i' ≤ 299 ∧ loopV (B37_l0 (callN E (M + 1)) N q) fuel ((.int .i64 (v - beforeF (1900 + (i : Int)))), (.int .i64 (1900 + (i : Int)))) s = some (.exit 0, (((.int .i64 (v - beforeF (1900 + (i' : Int)))), (.int .i64 (1900 + (i' : Int)))), s)) ∧
      beforeF (1900 + (i' : Int)) ≤ v ∧ v < beforeF (1900 + (i' : Int) + 1)
  | j, i, fuel, hi, hf, h0 => by
    obtain ⟨fuel, rfl⟩ : ∃ m, fuel = m + 1 := ⟨fuel - 1, by omega⟩
    have hy := year_s i (by omega)
    have hb := before_in (1900 + (i : Int)) (by omega) (by omega)
    have hb1 := before_in (1900 + (i : Int) + 1) (by omega) (by omega)
    have b22 : beforeF 2200 = 109573 := by decide
    rw [loopV_s, B37_l0]
    have go : beforeF (1900 + (i : Int) + 1) ≤ v → ∃ i' : Nat, i' ≤ 299 ∧ loopV (B37_l0 (callN E (M + 1)) N q) fuel ((.int .i64 (v - beforeF (1900 + (i : Int) + 1))), (.int .i64 (1900 + (i : Int) + 1))) s = some (.exit 0, (((.int .i64 (v - beforeF (1900 + (i' : Int)))), (.int .i64 (1900 + (i' : Int)))), s)) ∧
      beforeF (1900 + (i' : Int)) ≤ v ∧ v < beforeF (1900 + (i' : Int) + 1) := fun h => by
      cases j with
      | zero =>
        obtain rfl : i = 299 := by omega
        have e : (1900 + ((299 : Nat) : Int) + 1) = 2200 := by decide
        rw [e, b22] at h
        omega
      | succ j =>
        have := yr_l M N q v hv s j (i + 1) fuel (by omega) (by omega) (by rw [Int.natCast_succ, ← Int.add_assoc]; exact h)
        rw [Int.natCast_succ, ← Int.add_assoc] at this
        exact this
    have ad : int2 addO (.int .i64 (1900 + (i : Int))) (.int .i64 1) = some (.int .i64 (1900 + (i : Int) + 1)) := add_e _ _ (by omega) (by omega)
    cases hl : leapF (1900 + (i : Int)) with
    | true =>
      rw [hl, if_pos rfl] at hy
      by_cases hd : v - beforeF (1900 + (i : Int)) < 366
      · have e1 := decide_eq_true hd
        refine ⟨i, by omega, ?_, h0, by omega⟩
        simp only [es, cond_true, cond_false, eq_self, r45, hl, e1]
      · have e1 := decide_eq_false hd
        have sb : int2 subO (.int .i64 (v - beforeF (1900 + (i : Int)))) (.int .i64 366) = some (.int .i64 (v - beforeF (1900 + (i : Int) + 1))) := by rw [sub_e _ _ (by omega) (by omega)]; congr 2; omega
        simp only [es, cond_true, cond_false, eq_self, r45, hl, e1, sb, ad]
        exact go (by omega)
    | false =>
      rw [hl, if_neg (by decide)] at hy
      by_cases hd : v - beforeF (1900 + (i : Int)) < 365
      · have e1 := decide_eq_true hd
        refine ⟨i, by omega, ?_, h0, by omega⟩
        simp only [es, cond_true, cond_false, eq_self, r45, hl, e1]
      · have e1 := decide_eq_false hd
        have sb : int2 subO (.int .i64 (v - beforeF (1900 + (i : Int)))) (.int .i64 365) = some (.int .i64 (v - beforeF (1900 + (i : Int) + 1))) := by rw [sub_e _ _ (by omega) (by omega)]; congr 2; omega
        simp only [es, cond_true, cond_false, eq_self, r45, hl, e1, sb, ad]
        exact go (by omega)
theorem mo_l (M N : Nat) (a b c d : Value) (y : Int) (v : Int) (hv : v < sumTo y 12) (s : St) :
    ∀ (j i fuel : Nat), i + j = 11 → j < fuel → sumTo y i ≤ v → ∃ i' : Nat, i' ≤ 11 ∧ loopV (B37_l1 (callN E (M + 2)) N (a, b, c, d, (.int .i64 y))) fuel ((.int .i64 (v - sumTo y i)), (.int .i64 ((i : Int) + 1))) s = some (.exit 2, (((.int .i64 (v - sumTo y i')), (.int .i64 ((i' : Int) + 1))), s)) ∧
      sumTo y i' ≤ v ∧ v < sumTo y (i' + 1)
  | j, i, fuel, hi, hf, h0 => by
    obtain ⟨fuel, rfl⟩ : ∃ m, fuel = m + 1 := ⟨fuel - 1, by omega⟩
    have hs : sumTo y (i + 1) = sumTo y i + daysF y ((i : Int) + 1) := rfl
    have h1 := sum_in y i (by omega)
    have h12 := sum_in y 12 (by omega)
    have hd := days_in y ((i : Int) + 1) (by omega) (by omega)
    rw [loopV_s, B37_l1]
    by_cases hc : daysF y ((i : Int) + 1) ≤ v - sumTo y i
    · have e1 := decide_eq_true hc
      have ad : int2 addO (.int .i64 ((i : Int) + 1)) (.int .i64 1) = some (.int .i64 (((i + 1 : Nat) : Int) + 1)) := by rw [add_e _ _ (by omega) (by omega)]; rfl
      have sb : int2 subO (.int .i64 (v - sumTo y i)) (.int .i64 (daysF y ((i : Int) + 1))) = some (.int .i64 (v - sumTo y (i + 1))) := by rw [sub_e _ _ (by omega) (by omega)]; congr 2; omega
      simp only [es, cond_true, cond_false, eq_self, r46 M y i (by omega), e1, sb, ad]
      cases j with
      | zero =>
        obtain rfl : i = 11 := by omega
        have : sumTo y (11 + 1) = sumTo y 12 := rfl
        omega
      | succ j => exact mo_l M N a b c d y v hv s j (i + 1) fuel (by omega) (by omega) (by omega)
    · have e1 := decide_eq_false hc
      refine ⟨i, by omega, ?_, h0, by omega⟩
      simp only [es, cond_true, cond_false, eq_self, r46 M y i (by omega), e1]
theorem c37_0 (rec : Rec) (N : Nat) (k : Value × Value × Value × Value) (v : Value × Value) (s : St) : C37_l0 rec N k (.exit 0) (v, s) = J37_r1 rec N (v.1, k.1, k.2.1, k.2.2.1, k.2.2.2, v.2) s := rfl
theorem c37_2 (rec : Rec) (N : Nat) (k : Value × Value × Value × Value × Value) (v : Value × Value) (s : St) : C37_l1 rec N k (.exit 2) (v, s) = J37_r0 rec N (v.1, k.2.2.2.2, v.2) s := rfl
theorem r37 (M : Nat) (hM : 1000 ≤ M) (v : Int) (h0 : 0 ≤ v) (hv : v ≤ 109572) (s : St) : ∃ y m d : Nat, callN E (M + 1) 37 [.int .i64 v] s = some (tupOf [.int .i64 (y : Int), .int .i64 (m : Int), .int .i64 (d : Int), .bool true], s) ∧
    ofR (y : Int) (m : Int) (d : Int) = (v, true) ∧ 1900 ≤ y ∧ y ≤ 2199 ∧ 1 ≤ m ∧ m ≤ 12 ∧ 1 ≤ d ∧ d ≤ 31 := by
  obtain ⟨M, rfl⟩ : ∃ m, M = m + 2 := ⟨M - 2, by omega⟩
  have b19 : beforeF (1900 + ((0 : Nat) : Int)) = 0 := by decide
  obtain ⟨i, hi, p1, p2, p3⟩ := yr_l (M + 1) (M + 2) ((.int .i64 0), (.int .i64 0), (.int .i64 0), (.bool false)) v hv s 299 0 (M + 2) rfl (by omega) (by rw [b19]; exact h0)
  rw [b19, Int.sub_zero] at p1
  have p1 : loopV (B37_l0 (callN E (M + 2)) (M + 2) ((.int .i64 0), (.int .i64 0), (.int .i64 0), (.bool false))) (M + 2) ((.int .i64 v), (.int .i64 1900)) s = some (.exit 0, (((.int .i64 (v - beforeF (1900 + (i : Int)))), (.int .i64 (1900 + (i : Int)))), s)) := p1
  have hy := year_s i (by omega)
  have hs := sum12 (1900 + (i : Int))
  obtain ⟨k, hk, t1, t2, t3⟩ := mo_l M (M + 2) (.int .i64 0) (.int .i64 0) (.int .i64 0) (.bool false) (1900 + (i : Int)) (v - beforeF (1900 + (i : Int))) (by omega) s 11 0 (M + 2) rfl (by omega) (by show (0 : Int) ≤ _; omega)
  have z0' : sumTo (1900 + (i : Int)) 0 = 0 := rfl
  rw [z0', Int.sub_zero] at t1
  have t1 : loopV (B37_l1 (callN E (M + 2)) (M + 2) ((.int .i64 0), (.int .i64 0), (.int .i64 0), (.bool false), (.int .i64 (1900 + (i : Int))))) (M + 2) ((.int .i64 (v - beforeF (1900 + (i : Int)))), (.int .i64 1)) s = some (.exit 2, (((.int .i64 (v - beforeF (1900 + (i : Int)) - sumTo (1900 + (i : Int)) k)), (.int .i64 ((k : Int) + 1))), s)) := t1
  have hsk : sumTo (1900 + (i : Int)) (k + 1) = sumTo (1900 + (i : Int)) k + daysF (1900 + (i : Int)) ((k : Int) + 1) := rfl
  have hd := days_in (1900 + (i : Int)) ((k : Int) + 1) (by omega) (by omega)
  obtain ⟨d, hdd⟩ : ∃ d : Nat, v - beforeF (1900 + (i : Int)) - sumTo (1900 + (i : Int)) k + 1 = (d : Int) := ⟨(v - beforeF (1900 + (i : Int)) - sumTo (1900 + (i : Int)) k + 1).toNat, by omega⟩
  have ad : int2 addO (.int .i64 (v - beforeF (1900 + (i : Int)) - sumTo (1900 + (i : Int)) k)) (.int .i64 1) = some (.int .i64 (d : Int)) := by rw [add_e _ _ (by omega) (by omega), hdd]
  have e0 : decide (v < 0) = false := decide_eq_false (by omega)
  have e1 : decide (109572 < v) = false := decide_eq_false (by omega)
  refine ⟨1900 + i, k + 1, d, ?_, ?_, by omega, by omega, by omega, by omega, by omega, by omega⟩
  · rw [x37]; unfold F37
    simp only [es, cond_true, cond_false, eq_self, e0, e1, p1]
    rw [c37_0]
    unfold J37_r1
    simp only [es, cond_true, cond_false, eq_self, t1]
    rw [c37_2]
    unfold J37_r0
    simp only [es, cond_true, cond_false, eq_self, ad]
    rfl
  · have ey : ((1900 + i : Nat) : Int) = 1900 + (i : Int) := by omega
    have em : ((k + 1 : Nat) : Int) = (k : Int) + 1 := by omega
    rw [ey, em]
    unfold ofR
    rw [if_pos ⟨by omega, by omega, by omega, by omega⟩, show ((k : Int) + 1 - 1).toNat = k by omega]
    congr 1
    omega
end Go.Proofs.Ytikdjhlcbkkkfaa.AbsLexO
namespace Go.Proofs.Ytikdjhlcbkkkfaa.AbsLexO
open Go Go.Abs Go.Proofs
set_option maxRecDepth 100000
set_option linter.unusedVariables false
set_option linter.unusedSimpArgs false

attribute [local congr] h_opt2 h_opt h_condV h_cond
/-! what is written, as bytes -/
theorem p16 : (10 : Nat) ^ (15 + 1) = 10000000000000000 := by decide
theorem dgC_nat : ∀ a : Nat, a < 10 → (dgC a).toNat = 48 + a := by decide
theorem dgC_isD : ∀ a : Nat, a < 10 → isD (dgC a) = true := by decide
theorem numF_app (most : Int) (c : UInt8) : ∀ (x : List UInt8) (a v : Int), numF most a x = v → 0 ≤ v → v * 10 + ((c.toNat : Int) - 48) ≤ most → numF most a (x ++ [c]) = v * 10 + ((c.toNat : Int) - 48)
  | [], a, v, h, h0, hm => by
    have e : a = v := h
    subst e
    show numF most a [c] = _
    rw [numF_c, decide_eq_false (by omega)]; rfl
  | b :: x, a, v, h, h0, hm => by
    rw [numF_c] at h
    rw [List.cons_append, numF_c]
    by_cases hc : most < a * 10 + ((b.toNat : Int) - 48)
    · rw [decide_eq_true hc] at h
      have e : (-1 : Int) = v := h
      omega
    · rw [decide_eq_false hc] at h ⊢
      exact numF_app most c x _ v h h0 hm
theorem decF_all : ∀ k n : Nat, (decF k n).all isD = true
  | 0, _ => rfl
  | k + 1, n => by
    unfold decF
    split
    · rename_i h
      show (isD (dgC n) && true) = true
      rw [dgC_isD n h]; rfl
    · rw [List.all_append, decF_all k (n / 10)]
      show (isD (dgC (n % 10)) && true) = true
      rw [dgC_isD _ (Nat.mod_lt _ (by decide))]; rfl
theorem decF_pos (k n : Nat) : 0 < (decF (k + 1) n).length := by
  unfold decF
  split
  · exact Nat.zero_lt_one
  · rw [List.length_append]; show 0 < _ + 1; omega
theorem decF_num (most : Int) : ∀ k n : Nat, n < 10 ^ (k + 1) → (n : Int) ≤ most → numF most 0 (decF (k + 1) n) = (n : Int)
  | k, n, hn, hm => by
    unfold decF
    by_cases h : n < 10
    · rw [if_pos h]
      show numF most 0 [dgC n] = _
      rw [numF_c, dgC_nat n h, decide_eq_false (by omega)]
      show (0 : Int) * 10 + (((48 + n : Nat) : Int) - 48) = _
      omega
    · rw [if_neg h]
      cases k with
      | zero => omega
      | succ k =>
        have ih := decF_num most k (n / 10) (by rw [Nat.pow_succ] at hn; omega) (by omega)
        have hd := dgC_nat (n % 10) (Nat.mod_lt _ (by decide))
        rw [numF_app most (dgC (n % 10)) _ 0 _ ih (by omega) (by rw [hd]; omega), hd]
        omega
theorem zeros_num (most : Int) (h0 : 0 ≤ most) (x : List UInt8) : ∀ j : Nat, numF most 0 (List.replicate j 48 ++ x) = numF most 0 x
  | 0 => rfl
  | j + 1 => by
    rw [List.replicate_succ, List.cons_append, numF_c]
    have e : (0 : Int) * 10 + (((48 : UInt8).toNat : Int) - 48) = 0 := by decide
    rw [e, decide_eq_false (by omega)]
    exact zeros_num most h0 x j
theorem zeros_all : ∀ j : Nat, (List.replicate j (48 : UInt8)).all isD = true
  | 0 => rfl
  | j + 1 => by
    rw [List.replicate_succ, List.all_cons, zeros_all j]; rfl
theorem padF_all (w n : Nat) : (padF w n).all isD = true := by
  unfold padF
  rw [List.all_append, zeros_all, decF_all]; rfl
theorem padF_len (w n : Nat) : (padF w n).length = w := by
  unfold padF
  have := decF_len w n
  rw [List.length_append, List.length_replicate]; omega
theorem padF_num (most : Int) (k n : Nat) (hn : n < 10 ^ (k + 1)) (hm : (n : Int) ≤ most) : numF most 0 (padF (k + 1) n) = (n : Int) := by
  unfold padF
  rw [zeros_num most (by omega), decF_num most k n hn hm]
def dayT (y m d : Nat) : List UInt8 := [dgC (y / 100 / 10 % 10), dgC (y / 100 % 10), dgC (y / 10 % 10), dgC (y % 10), 45, dgC (m / 10 % 10), dgC (m % 10), 45, dgC (d / 10 % 10), dgC (d % 10)]
theorem r24 (M : Nat) (hM : 2000 ≤ M) (v : Int) (h0 : 0 ≤ v) (hv : v ≤ 109572) (s : St) (hs : s.next + 10 ≤ lim) : ∃ (y m d : Nat) (s' : St), callN E (M + 1) 24 [.int .i64 v] s = some (.string ⟨⟨dayT y m d⟩⟩, s') ∧ Grew 4 s s' ∧
    ofR (y : Int) (m : Int) (d : Int) = (v, true) ∧ 1900 ≤ y ∧ y ≤ 2199 ∧ 1 ≤ m ∧ m ≤ 12 ∧ 1 ≤ d ∧ d ≤ 31 := by
  have hlim : lim = 1000000000 := rfl
  obtain ⟨M, rfl⟩ : ∃ m, M = m + 1 := ⟨M - 1, by omega⟩
  obtain ⟨y, m, d, q, hq, h1, h2, h3, h4, h5, h6⟩ := r37 M (by omega) v h0 hv s
  obtain ⟨s1, p1, g1⟩ := r38 M (y / 100) (by omega) s (by omega)
  obtain ⟨s2, p2, g2⟩ := r38 M y (by omega) s1 (by have := g1.2.1; omega)
  obtain ⟨s3, p3, g3⟩ := r38 M m (by omega) s2 (by have := g1.2.1; have := g2.2.1; omega)
  obtain ⟨s4, p4, g4⟩ := r38 M d (by omega) s3 (by have := g1.2.1; have := g2.2.1; have := g3.2.1; omega)
  have hqq : int2 quoO (.int .i64 (y : Int)) (.int .i64 100) = some (.int .i64 ((y / 100 : Nat) : Int)) := by rw [quo_e _ _ (by omega) (by omega) (by omega)]; rfl
  have c1 : str2 catO (.string ⟨⟨b2 (y / 100)⟩⟩) (.string ⟨⟨b2 y⟩⟩) = some (.string ⟨⟨b2 (y / 100) ++ b2 y⟩⟩) := cat_u _ _ (by show 2 + 2 ≤ _; omega)
  have c2 : str2 catO (.string ⟨⟨b2 (y / 100) ++ b2 y⟩⟩) (.string ⟨⟨[45]⟩⟩) = some (.string ⟨⟨(b2 (y / 100) ++ b2 y) ++ [45]⟩⟩) := cat_u _ _ (by show 4 + 1 ≤ _; omega)
  have c3 : str2 catO (.string ⟨⟨(b2 (y / 100) ++ b2 y) ++ [45]⟩⟩) (.string ⟨⟨b2 m⟩⟩) = some (.string ⟨⟨((b2 (y / 100) ++ b2 y) ++ [45]) ++ b2 m⟩⟩) := cat_u _ _ (by show 5 + 2 ≤ _; omega)
  have c4 : str2 catO (.string ⟨⟨((b2 (y / 100) ++ b2 y) ++ [45]) ++ b2 m⟩⟩) (.string ⟨⟨[45]⟩⟩) = some (.string ⟨⟨(((b2 (y / 100) ++ b2 y) ++ [45]) ++ b2 m) ++ [45]⟩⟩) := cat_u _ _ (by show 7 + 1 ≤ _; omega)
  have c5 : str2 catO (.string ⟨⟨(((b2 (y / 100) ++ b2 y) ++ [45]) ++ b2 m) ++ [45]⟩⟩) (.string ⟨⟨b2 d⟩⟩) = some (.string ⟨⟨((((b2 (y / 100) ++ b2 y) ++ [45]) ++ b2 m) ++ [45]) ++ b2 d⟩⟩) := cat_u _ _ (by show 8 + 2 ≤ _; omega)
  refine ⟨y, m, d, s4, ?_, ((g1.trans g2).trans g3).trans g4, hq, h1, h2, h3, h4, h5, h6⟩
  have n3 : nth [Value.int .i64 (y : Int), .int .i64 (m : Int), .int .i64 (d : Int), .bool true] 3 = some (.bool true) := rfl
  rw [x24]; unfold F24
  simp only [es, cond_true, cond_false, eq_self, q, n3, hqq, p1, p2, c1, c2, p3, c3, c4, p4, c5]
  rfl
theorem r11_2 (M : Nat) (hM : 2000 ≤ M) (n : Nat) (hn : n ≤ 4503599627370496) (s : St) (hs : s.next + 30 ≤ lim) : ∃ s', callN E (M + 1) 11 [.int .i64 2, .int .i64 (n : Int)] s = some (.string ⟨⟨decF 16 n⟩⟩, s') ∧ Grew 20 s s' := by
  obtain ⟨M, rfl⟩ : ∃ m, M = m + 1 := ⟨M - 1, by omega⟩
  obtain ⟨s1, q1, g1, _⟩ := r22 15 n M s (by rw [p16]; omega) (by omega) (by omega) (by omega)
  have e1 : decide ((n : Int) < 0) = false := decide_eq_false (by omega)
  have k1 : decide ((2 : Int) = 1) = false := rfl
  have k2 : decide ((2 : Int) = 2) = true := rfl
  refine ⟨s1, ?_, g1.mono (by omega)⟩
  rw [x11]; unfold F11
  simp only [es, cond_true, cond_false, eq_self, e1, k1, k2, q1]
theorem r11_3 (M : Nat) (hM : 2000 ≤ M) (n : Nat) (hn : n ≤ 4503599627370496) (s : St) (hs : s.next + 30 ≤ lim) : ∃ s', callN E (M + 1) 11 [.int .i64 3, .int .i64 (n : Int)] s = some (.string ⟨⟨36 :: (decF 16 (n / 100) ++ 46 :: padF 2 (n % 100))⟩⟩, s') ∧ Grew 24 s s' := by
  obtain ⟨M, rfl⟩ : ∃ m, M = m + 1 := ⟨M - 1, by omega⟩
  obtain ⟨s1, q1, g1, _⟩ := r22 15 (n / 100) M s (by rw [p16]; omega) (by omega) (by omega) (by omega)
  have g1n := g1.2.1
  obtain ⟨s2, q2, g2⟩ := r23 M (by omega) 2 (n % 100) (by omega) (by omega) (Nat.mod_lt _ (by decide)) s1 (by omega)
  have q2 : callN E (M + 1) 23 [.int .i64 ((n % 100 : Nat) : Int), .int .i64 2] s1 = some (.string ⟨⟨padF 2 (n % 100)⟩⟩, s2) := q2
  have e1 : decide ((n : Int) < 0) = false := decide_eq_false (by omega)
  have k1 : decide ((3 : Int) = 1) = false := rfl
  have k2 : decide ((3 : Int) = 2) = false := rfl
  have k3 : decide ((3 : Int) = 3) = true := rfl
  have hq : int2 quoO (.int .i64 (n : Int)) (.int .i64 100) = some (.int .i64 ((n / 100 : Nat) : Int)) := by rw [quo_e _ _ (by omega) (by omega) (by omega)]; rfl
  have hr : int2 remO (.int .i64 (n : Int)) (.int .i64 100) = some (.int .i64 ((n % 100 : Nat) : Int)) := by rw [rem_e _ _ (by omega) (by omega)]; rfl
  have hl := decF_len 16 (n / 100)
  have hp := padF_len 2 (n % 100)
  have c1 : str2 catO (.string ⟨⟨[36]⟩⟩) (.string ⟨⟨decF 16 (n / 100)⟩⟩) = some (.string ⟨⟨36 :: decF 16 (n / 100)⟩⟩) := cat_u [36] _ (by show 1 + _ ≤ _; omega)
  have c2 : str2 catO (.string ⟨⟨36 :: decF 16 (n / 100)⟩⟩) (.string ⟨⟨[46]⟩⟩) = some (.string ⟨⟨(36 :: decF 16 (n / 100)) ++ [46]⟩⟩) := cat_u _ [46] (by rw [List.length_cons]; show _ + 1 ≤ _; omega)
  have c3 : str2 catO (.string ⟨⟨(36 :: decF 16 (n / 100)) ++ [46]⟩⟩) (.string ⟨⟨padF 2 (n % 100)⟩⟩) = some (.string ⟨⟨((36 :: decF 16 (n / 100)) ++ [46]) ++ padF 2 (n % 100)⟩⟩) := cat_u _ _ (by rw [List.length_append, List.length_cons]; show _ + 1 + 1 + _ ≤ _; omega)
  refine ⟨s2, ?_, (g1.trans g2).mono (by omega)⟩
  rw [x11]; unfold F11
  simp only [es, cond_true, cond_false, eq_self, e1, k1, k2, k3, hq, hr, q1, q2, c1, c2, c3]
  rw [List.append_assoc]
  rfl
theorem r11_4 (M : Nat) (hM : 2000 ≤ M) (n : Nat) (hn : n ≤ 1000000000000) (s : St) (hs : s.next + 30 ≤ lim) : ∃ s', callN E (M + 1) 11 [.int .i64 4, .int .i64 (n : Int)] s = some (.string ⟨⟨decF 16 (n / 10000) ++ 46 :: (padF 4 (n % 10000) ++ [37])⟩⟩, s') ∧ Grew 24 s s' := by
  obtain ⟨M, rfl⟩ : ∃ m, M = m + 1 := ⟨M - 1, by omega⟩
  obtain ⟨s1, q1, g1, _⟩ := r22 15 (n / 10000) M s (by rw [p16]; omega) (by omega) (by omega) (by omega)
  have g1n := g1.2.1
  obtain ⟨s2, q2, g2⟩ := r23 M (by omega) 4 (n % 10000) (by omega) (by omega) (Nat.mod_lt _ (by decide)) s1 (by omega)
  have q2 : callN E (M + 1) 23 [.int .i64 ((n % 10000 : Nat) : Int), .int .i64 4] s1 = some (.string ⟨⟨padF 4 (n % 10000)⟩⟩, s2) := q2
  have e1 : decide ((n : Int) < 0) = false := decide_eq_false (by omega)
  have k1 : decide ((4 : Int) = 1) = false := rfl
  have k2 : decide ((4 : Int) = 2) = false := rfl
  have k3 : decide ((4 : Int) = 3) = false := rfl
  have k4 : decide ((4 : Int) = 4) = true := rfl
  have hq : int2 quoO (.int .i64 (n : Int)) (.int .i64 10000) = some (.int .i64 ((n / 10000 : Nat) : Int)) := by rw [quo_e _ _ (by omega) (by omega) (by omega)]; rfl
  have hr : int2 remO (.int .i64 (n : Int)) (.int .i64 10000) = some (.int .i64 ((n % 10000 : Nat) : Int)) := by rw [rem_e _ _ (by omega) (by omega)]; rfl
  have hl := decF_len 16 (n / 10000)
  have hp := padF_len 4 (n % 10000)
  have c1 : str2 catO (.string ⟨⟨decF 16 (n / 10000)⟩⟩) (.string ⟨⟨[46]⟩⟩) = some (.string ⟨⟨decF 16 (n / 10000) ++ [46]⟩⟩) := cat_u _ [46] (by show _ + 1 ≤ _; omega)
  have c2 : str2 catO (.string ⟨⟨decF 16 (n / 10000) ++ [46]⟩⟩) (.string ⟨⟨padF 4 (n % 10000)⟩⟩) = some (.string ⟨⟨(decF 16 (n / 10000) ++ [46]) ++ padF 4 (n % 10000)⟩⟩) := cat_u _ _ (by rw [List.length_append]; show _ + 1 + _ ≤ _; omega)
  have c3 : str2 catO (.string ⟨⟨(decF 16 (n / 10000) ++ [46]) ++ padF 4 (n % 10000)⟩⟩) (.string ⟨⟨[37]⟩⟩) = some (.string ⟨⟨((decF 16 (n / 10000) ++ [46]) ++ padF 4 (n % 10000)) ++ [37]⟩⟩) := cat_u _ _ (by rw [List.length_append, List.length_append]; show _ + 1 + _ + 1 ≤ _; omega)
  refine ⟨s2, ?_, (g1.trans g2).mono (by omega)⟩
  rw [x11]; unfold F11
  simp only [es, cond_true, cond_false, eq_self, e1, k1, k2, k3, k4, hq, hr, q1, q2, c1, c2, c3]
  rw [List.append_assoc, List.append_assoc]
  rfl
theorem r11_5 (M : Nat) (hM : 2002 ≤ M) (v : Int) (h0 : 0 ≤ v) (hv : v ≤ 109572) (s : St) (hs : s.next + 10 ≤ lim) : ∃ (y m d : Nat) (s' : St), callN E (M + 1) 11 [.int .i64 5, .int .i64 v] s = some (.string ⟨⟨dayT y m d⟩⟩, s') ∧ Grew 4 s s' ∧
    ofR (y : Int) (m : Int) (d : Int) = (v, true) ∧ 1900 ≤ y ∧ y ≤ 2199 ∧ 1 ≤ m ∧ m ≤ 12 ∧ 1 ≤ d ∧ d ≤ 31 := by
  obtain ⟨M, rfl⟩ : ∃ m, M = m + 1 := ⟨M - 1, by omega⟩
  obtain ⟨y, m, d, s', q, h⟩ := r24 M (by omega) v h0 hv s hs
  have e1 : decide (v < 0) = false := decide_eq_false (by omega)
  have k1 : decide ((5 : Int) = 1) = false := rfl
  have k2 : decide ((5 : Int) = 2) = false := rfl
  have k3 : decide ((5 : Int) = 3) = false := rfl
  have k4 : decide ((5 : Int) = 4) = false := rfl
  refine ⟨y, m, d, s', ?_, h⟩
  rw [x11]; unfold F11
  simp only [es, cond_true, cond_false, eq_self, e1, k1, k2, k3, k4, q]
end Go.Proofs.Ytikdjhlcbkkkfaa.AbsLexO
