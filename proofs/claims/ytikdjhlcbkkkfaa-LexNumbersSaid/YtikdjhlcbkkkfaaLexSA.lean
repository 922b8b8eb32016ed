import Derived.Test.YtikdjhlcbkkkfaaXLexO
namespace Go.Proofs.Ytikdjhlcbkkkfaa.AbsLexO
open Go Go.Abs Go.Proofs
set_option maxRecDepth 100000
set_option linter.unusedVariables false
set_option linter.unusedSimpArgs false

attribute [local congr] h_opt2 h_opt h_condV h_cond
/-! bytes -/
def isL (b : UInt8) : Bool := decide (97 ≤ (b.toNat : Int)) && decide ((b.toNat : Int) ≤ 122)
def isD (b : UInt8) : Bool := decide (48 ≤ (b.toNat : Int)) && decide ((b.toNat : Int) ≤ 57)
def isN (b : UInt8) : Bool := (isL b || isD b) || decide ((b.toNat : Int) = 95)
def nNl (b : UInt8) : Bool := !decide ((b.toNat : Int) = 10)
theorem r27 (M : Nat) (b : UInt8) (s : St) : callN E (M + 1) 27 [.int .u8 (b.toNat : Int)] s = some (.bool (isL b), s) := by
  rw [x27]; unfold F27 isL
  simp only [es, cond_true, cond_false, eq_self]
  cases decide (97 ≤ (b.toNat : Int)) <;> simp only [es, cond_true, cond_false, eq_self] <;> rfl
theorem r30 (M : Nat) (b : UInt8) (s : St) : callN E (M + 1) 30 [.int .u8 (b.toNat : Int)] s = some (.bool (isD b), s) := by
  rw [x30]; unfold F30 isD
  simp only [es, cond_true, cond_false, eq_self]
  cases decide (48 ≤ (b.toNat : Int)) <;> simp only [es, cond_true, cond_false, eq_self] <;> rfl
theorem r26 (M : Nat) (b : UInt8) (s : St) : callN E (M + 1) 26 [.int .u8 (b.toNat : Int)] s = some (.bool (nNl b), s) := by
  rw [x26]; unfold F26 nNl
  simp only [es, cond_true, cond_false, eq_self]
theorem r28 (M : Nat) (b : UInt8) (s : St) : callN E (M + 2) 28 [.int .u8 (b.toNat : Int)] s = some (.bool (isN b), s) := by
  rw [x28]; unfold F28 isN
  simp only [es, cond_true, cond_false, eq_self, r27]
  cases isL b <;> simp only [es, cond_true, cond_false, eq_self, r30]
  · cases isD b <;> simp only [es, cond_true, cond_false, eq_self] <;> rfl
  · rfl
/-! how many bytes are of a kind -/
def cntF (p : UInt8 → Bool) : List UInt8 → Nat
  | [] => 0
  | b :: l => bif p b then cntF p l + 1 else 0
theorem cntF_c (p : UInt8 → Bool) (b : UInt8) (l : List UInt8) : cntF p (b :: l) = bif p b then cntF p l + 1 else 0 := rfl
theorem cntF_le (p : UInt8 → Bool) : ∀ l : List UInt8, cntF p l ≤ l.length
  | [] => Nat.le_refl _
  | b :: l => by
    have := cntF_le p l
    unfold cntF
    cases p b <;> simp <;> omega
theorem while_l (M N : Nat) (g : FuncId) (p : UInt8 → Bool) (hp : ∀ b s, callN E M g [.int .u8 (b.toNat : Int)] s = some (.bool (p b), s)) (l : List UInt8) (hl : l.length ≤ 10000) :
    ∀ (r : List UInt8) (i fuel : Nat) (s : St), l.drop i = r → i + r.length = l.length → r.length < fuel →
      loopV (B25_l0 (callN E M) N ((.string ⟨⟨l⟩⟩), (.func (.func g) #[] #[]), (.int .i64 0))) fuel (.int .i64 (i : Int)) s = some (.exit 0, ((.int .i64 ((i + cntF p r : Nat) : Int)), s))
  | [], i, fuel, s, hr, hi, hf => by
    obtain ⟨fuel, rfl⟩ : ∃ m, fuel = m + 1 := ⟨fuel - 1, by simp at hf; omega⟩
    have e1 : decide ((i : Int) < (l.length : Int)) = false := decide_eq_false (by simp at hi; omega)
    rw [loopV_s, B25_l0]
    simp only [es, cond_true, cond_false, eq_self, lenS_u, e1]
    rfl
  | b :: r, i, fuel, s, hr, hi, hf => by
    obtain ⟨fuel, rfl⟩ : ∃ m, fuel = m + 1 := ⟨fuel - 1, by simp at hf; omega⟩
    simp only [List.length_cons] at hi hf
    have e1 : decide ((i : Int) < (l.length : Int)) = true := decide_eq_true (by omega)
    have ih := while_l M N g p hp l hl r (i + 1) fuel s (drop_next hr) (by omega) (by omega)
    have ha : int2 addO (.int .i64 (i : Int)) (.int .i64 1) = some (.int .i64 ((i + 1 : Nat) : Int)) := by rw [add_e _ _ (by omega) (by omega)]; rfl
    rw [loopV_s, B25_l0]
    simp only [es, cond_true, cond_false, eq_self, lenS_u, e1, idx_at hr, callV_u, hp, ha]
    rw [cntF_c]
    cases p b
    · simp only [es, cond_true, cond_false, eq_self]; rfl
    · simp only [es, cond_true, cond_false, eq_self]
      rw [ih]
      congr 5
      omega
theorem r25 (M : Nat) (hM : 10001 ≤ M) (g : FuncId) (p : UInt8 → Bool) (hp : ∀ b s, callN E M g [.int .u8 (b.toNat : Int)] s = some (.bool (p b), s)) (l : List UInt8) (hl : l.length ≤ 10000) (s : St) :
    callN E (M + 1) 25 [.string ⟨⟨l⟩⟩, .func (.func g) #[] #[]] s = some (.int .i64 (cntF p l : Int), s) := by
  rw [x25]; unfold F25
  have h : loopV (B25_l0 (callN E M) M ((.string ⟨⟨l⟩⟩), (.func (.func g) #[] #[]), (.int .i64 0))) M (.int .i64 0) s = some (.exit 0, ((.int .i64 (cntF p l : Int)), s)) := by
    have h := while_l M M g p hp l hl l 0 M s rfl (by omega) (by omega)
    rwa [Nat.zero_add] at h
  rw [h]
  unfold C25_l0
  simp only [es, cond_true, cond_false, eq_self, J25_r0]
/-! blanks -/
def isB (b : UInt8) : Bool := ((decide ((b.toNat : Int) = 32) || decide ((b.toNat : Int) = 9)) || decide ((b.toNat : Int) = 10)) || decide ((b.toNat : Int) = 13)
def skF : Bool → List UInt8 → Nat
  | _, [] => 0
  | false, b :: l => bif isB b then skF false l + 1 else bif decide ((b.toNat : Int) = 35) then skF true l + 1 else 0
  | true, b :: l => bif nNl b then skF true l + 1 else skF false l + 1
theorem skF_f (b : UInt8) (l : List UInt8) : skF false (b :: l) = bif isB b then skF false l + 1 else bif decide ((b.toNat : Int) = 35) then skF true l + 1 else 0 := rfl
theorem skF_t (b : UInt8) (l : List UInt8) : skF true (b :: l) = bif nNl b then skF true l + 1 else skF false l + 1 := rfl
theorem skF_le : ∀ (c : Bool) (l : List UInt8), skF c l ≤ l.length
  | c, [] => by cases c <;> exact Nat.le_refl _
  | false, b :: l => by
    have h1 := skF_le false l
    have h2 := skF_le true l
    rw [skF_f]
    cases isB b
    · cases decide ((b.toNat : Int) = 35) <;> simp <;> omega
    · simp; omega
  | true, b :: l => by
    have h1 := skF_le false l
    have h2 := skF_le true l
    rw [skF_t]
    cases nNl b <;> simp <;> omega
/-- a comment, to the line's end -/
theorem skF_c : ∀ l : List UInt8, skF true l = cntF nNl l + skF false (l.drop (cntF nNl l))
  | [] => rfl
  | b :: l => by
    rw [skF_t, cntF_c]
    cases h : nNl b
    · simp only [cond_false, List.drop_zero, Nat.zero_add]
      have hb : isB b = true := by
        unfold nNl at h
        unfold isB
        rw [Bool.not_eq_false'] at h
        rw [h]
        simp
      rw [skF_f, hb, cond_true]
    · simp only [cond_true, List.drop_succ_cons]
      rw [skF_c l]; omega
theorem blanks_l (M N : Nat) (hM : 10002 ≤ M) (l : List UInt8) (hl : l.length ≤ 9000) :
    ∀ (n : Nat) (r : List UInt8) (i fuel : Nat) (s : St), r.length ≤ n → l.drop i = r → i + r.length = l.length → r.length < fuel →
      loopV (B14_l0 (callN E M) N ((.string ⟨⟨l⟩⟩), (.int .i64 0))) fuel (.int .i64 (i : Int)) s = some (.exit 0, ((.int .i64 ((i + skF false r : Nat) : Int)), s))
  | n, [], i, fuel, s, hn, hr, hi, hf => by
    obtain ⟨fuel, rfl⟩ : ∃ m, fuel = m + 1 := ⟨fuel - 1, by simp at hf; omega⟩
    have e1 : decide ((i : Int) < (l.length : Int)) = false := decide_eq_false (by simp at hi; omega)
    rw [loopV_s, B14_l0]
    simp only [es, cond_true, cond_false, eq_self, lenS_u, e1]
    rfl
  | 0, b :: r, i, fuel, s, hn, hr, hi, hf => by simp at hn
  | n + 1, b :: r, i, fuel, s, hn, hr, hi, hf => by
    obtain ⟨fuel, rfl⟩ : ∃ m, fuel = m + 1 := ⟨fuel - 1, by simp at hf; omega⟩
    obtain ⟨M, rfl⟩ : ∃ m, M = m + 1 := ⟨M - 1, by omega⟩
    simp only [List.length_cons] at hi hf hn
    have e1 : decide ((i : Int) < (l.length : Int)) = true := decide_eq_true (by omega)
    have ha : int2 addO (.int .i64 (i : Int)) (.int .i64 1) = some (.int .i64 ((i + 1 : Nat) : Int)) := by rw [add_e _ _ (by omega) (by omega)]; rfl
    have hb : isB b = (((decide ((b.toNat : Int) = 32) || decide ((b.toNat : Int) = 9)) || decide ((b.toNat : Int) = 10)) || decide ((b.toNat : Int) = 13)) := rfl
    have key : ∀ k, 1 ≤ k → k ≤ r.length + 1 → loopV (B14_l0 (callN E (M + 1)) N ((.string ⟨⟨l⟩⟩), (.int .i64 0))) fuel (.int .i64 ((i + k : Nat) : Int)) s = some (.exit 0, ((.int .i64 ((i + k + skF false (l.drop (i + k)) : Nat) : Int)), s)) := by
      intro k h1 h2
      have hlen : (l.drop (i + k)).length = l.length - (i + k) := List.length_drop
      exact blanks_l (M + 1) N hM l hl n (l.drop (i + k)) (i + k) fuel s (by omega) rfl (by omega) (by omega)
    have hblank : isB b = true → loopV (B14_l0 (callN E (M + 1)) N ((.string ⟨⟨l⟩⟩), (.int .i64 0))) fuel (.int .i64 ((i + 1 : Nat) : Int)) s = some (.exit 0, ((.int .i64 ((i + skF false (b :: r) : Nat) : Int)), s)) := by
      intro h
      rw [key 1 (by omega) (by omega), drop_next hr]
      rw [skF_f, h, cond_true]
      congr 5; omega
    have hslice : ∀ s, oSliceS (.v (.string ⟨⟨l⟩⟩)) (some (.v (.int .i64 (i : Int)))) none (callN E (M + 1)) PT.nil s = some (.string ⟨⟨b :: r⟩⟩, s) := by
      intro s; rw [slS_lo l i (by omega), hr]
    have hlen : (b :: r).length ≤ 10000 := by simp; omega
    rw [loopV_s, B14_l0]
    simp only [es, cond_true, cond_false, eq_self, lenS_u, e1, idx_at hr]
    cases h1 : decide ((b.toNat : Int) = 32)
    rotate_left
    · simp only [es, cond_true, cond_false, eq_self, ha]
      exact hblank (by rw [hb, h1]; rfl)
    simp only [es, cond_true, cond_false, eq_self]
    cases h2 : decide ((b.toNat : Int) = 9)
    rotate_left
    · simp only [es, cond_true, cond_false, eq_self, ha]
      exact hblank (by rw [hb, h2]; simp)
    simp only [es, cond_true, cond_false, eq_self]
    cases h3 : decide ((b.toNat : Int) = 10)
    rotate_left
    · simp only [es, cond_true, cond_false, eq_self, ha]
      exact hblank (by rw [hb, h3]; simp)
    simp only [es, cond_true, cond_false, eq_self]
    cases h4 : decide ((b.toNat : Int) = 13)
    rotate_left
    · simp only [es, cond_true, cond_false, eq_self, ha]
      exact hblank (by rw [hb, h4]; simp)
    simp only [es, cond_true, cond_false, eq_self]
    have hbf : isB b = false := by rw [hb, h1, h2, h3, h4]; rfl
    cases h5 : decide ((b.toNat : Int) = 35)
    · simp only [es, cond_true, cond_false, eq_self]
      rw [skF_f, hbf, h5]
      rfl
    · have hn : nNl b = true := by
        unfold nNl
        rw [h3]; rfl
      have hle := cntF_le nNl r
      have hc : cntF nNl (b :: r) = cntF nNl r + 1 := by
        rw [cntF_c, hn, cond_true]
      have hcall : ∀ s, callN E (M + 1) 25 [.string ⟨⟨b :: r⟩⟩, .func (.func 26) #[] #[]] s = some (.int .i64 (((cntF nNl r + 1 : Nat)) : Int), s) := by
        intro s
        rw [r25 M (by omega) 26 nNl (fun b s => by obtain ⟨M, rfl⟩ : ∃ m, M = m + 1 := ⟨M - 1, by omega⟩; exact r26 M b s) (b :: r) hlen s, hc]
      have hadd : int2 addO (.int .i64 (i : Int)) (.int .i64 (((cntF nNl r + 1 : Nat)) : Int)) = some (.int .i64 ((i + (cntF nNl r + 1) : Nat) : Int)) := by rw [add_e _ _ (by omega) (by omega)]; congr 2
      simp only [es, cond_true, cond_false, eq_self, hslice, hcall, hadd]
      rw [key (cntF nNl r + 1) (by omega) (by omega)]
      have hd : l.drop (i + (cntF nNl r + 1)) = r.drop (cntF nNl r) := by
        rw [← List.drop_drop, hr, List.drop_succ_cons]
      rw [hd]
      rw [skF_f, hbf, h5, cond_false, cond_true, skF_c r]
      congr 5; omega
theorem r14 (M : Nat) (hM : 10002 ≤ M) (l : List UInt8) (hl : l.length ≤ 9000) (s : St) : callN E (M + 1) 14 [.string ⟨⟨l⟩⟩] s = some (.int .i64 (skF false l : Int), s) := by
  rw [x14]; unfold F14
  have h : loopV (B14_l0 (callN E M) M ((.string ⟨⟨l⟩⟩), (.int .i64 0))) M (.int .i64 0) s = some (.exit 0, ((.int .i64 (skF false l : Int)), s)) := by
    have h := blanks_l M M hM l hl l.length l 0 M s (Nat.le_refl _) rfl (by omega) (by omega)
    rwa [Nat.zero_add] at h
  rw [h]
  unfold C14_l0
  simp only [es, cond_true, cond_false, eq_self, J14_r0]
end Go.Proofs.Ytikdjhlcbkkkfaa.AbsLexO
namespace Go.Proofs.Ytikdjhlcbkkkfaa.AbsLexO
open Go Go.Abs Go.Proofs
set_option maxRecDepth 100000
set_option linter.unusedVariables false
set_option linter.unusedSimpArgs false

attribute [local congr] h_opt2 h_opt h_condV h_cond
/-! numbers -/
def numF (most : Int) : Int → List UInt8 → Int
  | v, [] => v
  | v, b :: l => bif decide (most < v * 10 + ((b.toNat : Int) - 48)) then -1 else numF most (v * 10 + ((b.toNat : Int) - 48)) l
theorem numF_c (most v : Int) (b : UInt8) (l : List UInt8) : numF most v (b :: l) = bif decide (most < v * 10 + ((b.toNat : Int) - 48)) then -1 else numF most (v * 10 + ((b.toNat : Int) - 48)) l := rfl
theorem isD_in {b : UInt8} (h : isD b = true) : 48 ≤ (b.toNat : Int) ∧ (b.toNat : Int) ≤ 57 := by
  unfold isD at h
  simpa using h
theorem numF_in (most : Int) : ∀ (l : List UInt8) (v : Int), l.all isD = true → 0 ≤ v → v ≤ most → numF most v l = -1 ∨ (0 ≤ numF most v l ∧ numF most v l ≤ most)
  | [], v, _, h0, h1 => .inr ⟨h0, h1⟩
  | b :: l, v, hd, h0, h1 => by
    rw [List.all_cons, Bool.and_eq_true] at hd
    have hb := isD_in hd.1
    rw [numF_c]
    by_cases h : most < v * 10 + ((b.toNat : Int) - 48)
    · rw [decide_eq_true h]; exact .inl rfl
    · rw [decide_eq_false h]; exact numF_in most l _ hd.2 (by omega) (by omega)
theorem num_l (rec : Rec) (N : Nat) (most : Int) (hm : most ≤ 100000000000000000) (nb c : Nat) (l : List UInt8) (hl : l.length ≤ 10000) (hd : l.all isD = true) :
    ∀ (r : List UInt8) (i fuel : Nat) (v : Int) (x : Value) (u : St), l.drop i = r → i + r.length = l.length → r.length < fuel → 0 ≤ v → v ≤ most → u.getC nb = some (ofBytes l) →
      ∃ e w u', loopV (B42_l0 rec N ((.int .i64 most), (.slice (some ⟨nb, 0, none⟩) l.length c), (.int .i64 (l.length : Int)))) fuel (x, (.int .i64 v), (.int .i64 (i : Int))) u = some (e, (w, u')) ∧ Still u u' ∧
        ((e = .ret ∧ w.1 = .int .i64 (numF most v r)) ∨ (e = .exit 0 ∧ w.2.1 = .int .i64 (numF most v r)))
  | [], i, fuel, v, x, u, hr, hi, hf, h0, h1, hg => by
    obtain ⟨fuel, rfl⟩ : ∃ m, fuel = m + 1 := ⟨fuel - 1, by simp at hf; omega⟩
    have e1 : decide ((i : Int) < (l.length : Int)) = false := decide_eq_false (by simp at hi; omega)
    rw [loopV_s, B42_l0]
    simp only [es, cond_true, cond_false, eq_self, e1]
    exact ⟨_, _, _, rfl, Still.refl _, .inr ⟨rfl, rfl⟩⟩
  | b :: r, i, fuel, v, x, u, hr, hi, hf, h0, h1, hg => by
    obtain ⟨fuel, rfl⟩ : ∃ m, fuel = m + 1 := ⟨fuel - 1, by simp at hf; omega⟩
    simp only [List.length_cons] at hi hf
    have e1 : decide ((i : Int) < (l.length : Int)) = true := decide_eq_true (by omega)
    have hb : isD b = true := by
      have : b ∈ l := by
        have : b ∈ l.drop i := by rw [hr]; exact List.mem_cons_self
        exact List.mem_of_mem_drop this
      exact List.all_eq_true.1 hd b this
    have hb := isD_in hb
    have ha : int2 addO (.int .i64 (i : Int)) (.int .i64 1) = some (.int .i64 ((i + 1 : Nat) : Int)) := by rw [add_e _ _ (by omega) (by omega)]; rfl
    have m1 : int2 mulO (.int .i64 v) (.int .i64 10) = some (.int .i64 (v * 10)) := mul_e _ _ (by omega) (by omega)
    have m2 := sub8_u (b.toNat : Int) (by omega) (by omega)
    have m3 : int2 addO (.int .i64 (v * 10)) (.int .i64 ((b.toNat : Int) - 48)) = some (.int .i64 (v * 10 + ((b.toNat : Int) - 48))) := add_e _ _ (by omega) (by omega)
    have hat : nth (ofBytes l) (i * 1) = some (.int .u8 (b.toNat : Int)) := by rw [Nat.mul_one]; exact ofBytes_at hr
    rw [loopV_s, B42_l0]
    simp (disch := omega) only [es, cond_true, cond_false, eq_self, e1, idxL0_u, load_u, hg, hat, m1, m2, conv64_u, m3]
    rw [numF_c]
    by_cases h : most < v * 10 + ((b.toNat : Int) - 48)
    · rw [decide_eq_true h]
      simp only [es, cond_true, cond_false, eq_self]
      exact ⟨_, _, _, rfl, Still.seen _ _, .inl ⟨rfl, rfl⟩⟩
    · rw [decide_eq_false h]
      simp only [es, cond_true, cond_false, eq_self, ha]
      obtain ⟨e, w, u', q1, q2, q3⟩ := num_l rec N most hm nb c l hl hd r (i + 1) fuel (v * 10 + ((b.toNat : Int) - 48)) x (u.seen nb) (drop_next hr) (by omega) (by omega) (by omega) (by omega) ((seen_getC _ _ _).trans hg)
      exact ⟨e, w, u', q1, (Still.seen u nb).trans q2, q3⟩
theorem r42 (M : Nat) (hM : 10001 ≤ M) (l : List UInt8) (hl : l.length ≤ 10000) (hd : l.all isD = true) (most : Int) (h0 : 0 ≤ most) (hm : most ≤ 100000000000000000) (s : St) (hs : s.next ≤ lim) :
    ∃ s', callN E (M + 1) 42 [.string ⟨⟨l⟩⟩, .int .i64 most] s = some (.int .i64 (numF most 0 l), s') ∧ Grew 1 s s' := by
  obtain ⟨e, w, u', q1, q2, q3⟩ := num_l (callN E M) M most hm s.next (UNK + 1) l hl hd l 0 M 0 (.int .i64 0) (al s (ofBytes l)) rfl (by omega) (by omega) (by omega) h0 (al_same s _ hs (ofBytes_map l))
  refine ⟨u', ?_, ((Grew.refl s).al _ hs).still q2⟩
  rw [x42]; unfold F42
  have hq : loopV (B42_l0 (callN E M) M ((.int .i64 most), (.slice (some ⟨s.next, 0, none⟩) l.length (UNK + 1)), (.int .i64 (l.length : Int)))) M ((.int .i64 0), (.int .i64 0), (.int .i64 0)) (al s (ofBytes l)) = some (e, (w, u')) := q1
  simp (disch := omega) only [es, cond_true, cond_false, eq_self, strBytes_u, hs, lenL_e, hq]
  unfold C42_l0
  rcases q3 with ⟨rfl, hw⟩ | ⟨rfl, hw⟩
  · simp only [es, cond_true, cond_false, eq_self, hw]
  · simp only [es, cond_true, cond_false, eq_self, J42_r0, hw]
/-! digits behind a dot -/
def plF (most : Nat) (l : List UInt8) : Nat := match l with
  | [] => 0
  | b :: l => bif decide ((b.toNat : Int) = 46) then (bif decide (cntF isD l ≤ most) then cntF isD l else 0) else 0
theorem plF_c (most : Nat) (b : UInt8) (l : List UInt8) : plF most (b :: l) = bif decide ((b.toNat : Int) = 46) then (bif decide (cntF isD l ≤ most) then cntF isD l else 0) else 0 := rfl
theorem r47 (M : Nat) (hM : 10003 ≤ M) (l : List UInt8) (hl : l.length ≤ 9000) (most : Nat) (s : St) : callN E (M + 1) 47 [.string ⟨⟨l⟩⟩, .int .i64 (most : Int)] s = some (.int .i64 (plF most l : Int), s) := by
  obtain ⟨M, rfl⟩ : ∃ m, M = m + 2 := ⟨M - 2, by omega⟩
  rw [x47]; unfold F47
  cases l with
  | nil =>
    have e1 : decide (([] : List UInt8) = []) = true := decide_eq_true rfl
    simp only [es, cond_true, cond_false, eq_self, eqs_u, e1]
    rfl
  | cons b l =>
    have e1 : decide ((b :: l : List UInt8) = []) = false := decide_eq_false (by simp)
    simp only [List.length_cons] at hl
    have hsl : ∀ s, oSliceS (.v (.string ⟨⟨b :: l⟩⟩)) (some (.v (.int .i64 1))) none (callN E (M + 2)) PT.nil s = some (.string ⟨⟨l⟩⟩, s) := fun s => slS_lo (b :: l) 1 (by simp) _ s
    have hw : ∀ s, callN E (M + 2) 25 [.string ⟨⟨l⟩⟩, .func (.func 30) #[] #[]] s = some (.int .i64 (cntF isD l : Int), s) := fun s => r25 (M + 1) (by omega) 30 isD (fun b s => r30 M b s) l (by omega) s
    simp only [es, cond_true, cond_false, eq_self, eqs_u, e1, idxS_0]
    cases h : decide ((b.toNat : Int) = 46)
    · simp only [es, cond_true, cond_false, eq_self]
      rw [plF_c, h]; rfl
    · simp only [es, cond_true, cond_false, eq_self, hsl, hw]
      rw [plF_c, h, cond_true]
      by_cases hc : cntF isD l ≤ most
      · have e2 : decide ((cntF isD l : Int) ≤ (most : Int)) = true := decide_eq_true (by omega)
        rw [decide_eq_true hc]
        simp only [es, cond_true, cond_false, eq_self, e2]
      · have e2 : decide ((cntF isD l : Int) ≤ (most : Int)) = false := decide_eq_false (by omega)
        rw [decide_eq_false hc]
        simp only [es, cond_true, cond_false, eq_self, e2]
        rfl
end Go.Proofs.Ytikdjhlcbkkkfaa.AbsLexO
namespace Go.Proofs.Ytikdjhlcbkkkfaa.AbsLexO
open Go Go.Abs Go.Proofs
set_option maxRecDepth 100000
set_option linter.unusedVariables false
set_option linter.unusedSimpArgs false

attribute [local congr] h_opt2 h_opt h_condV h_cond
theorem cntF_all (p : UInt8 → Bool) : ∀ l : List UInt8, (l.take (cntF p l)).all p = true
  | [] => rfl
  | b :: l => by
    rw [cntF_c]
    cases h : p b
    · rfl
    · rw [cond_true, List.take_succ_cons, List.all_cons, h, cntF_all p l]; rfl
theorem plF_two {m : Nat} {l : List UInt8} {n : Nat} (h : plF m l = n + 1) : ∃ r, l = 46 :: r ∧ cntF isD r = n + 1 ∧ n + 1 ≤ m := by
  cases l with
  | nil => cases h
  | cons b r =>
    rw [plF_c] at h
    by_cases hb : (b.toNat : Int) = 46
    · rw [decide_eq_true hb, cond_true] at h
      by_cases hc : cntF isD r ≤ m
      · rw [decide_eq_true hc, cond_true] at h
        refine ⟨r, ?_, h, by omega⟩
        have : b = 46 := UInt8.toNat_inj.1 (by have e : (46 : UInt8).toNat = 46 := rfl; rw [e]; omega)
        rw [this]
      · rw [decide_eq_false hc, cond_false] at h; cases h
    · rw [decide_eq_false hb, cond_false] at h; cases h
theorem plF_le (m : Nat) (l : List UInt8) : plF m l ≤ m := by
  cases l with
  | nil => exact Nat.zero_le _
  | cons b r =>
    rw [plF_c]
    cases decide ((b.toNat : Int) = 46)
    · exact Nat.zero_le _
    · by_cases hc : cntF isD r ≤ m
      · rw [decide_eq_true hc]; exact hc
      · rw [decide_eq_false hc]; exact Nat.zero_le _
def capF (m v : Int) : Int := bif decide (m < v) then -1 else v
/-- a money, behind its sign -/
def moneyF (l : List UInt8) : Nat × Int :=
  bif decide (cntF isD l = 0) then (0, 0) else
  bif decide (plF 2 (l.drop (cntF isD l)) = 2) then
    (1 + cntF isD l + 3, capF 4503599627370496 (bif decide (0 ≤ numF 4503599627370496 0 (l.take (cntF isD l))) then numF 4503599627370496 0 (l.take (cntF isD l)) * 100 + numF 100 0 ((l.drop (cntF isD l + 1)).take 2) else numF 4503599627370496 0 (l.take (cntF isD l))))
  else (1 + cntF isD l, capF 4503599627370496 (bif decide (0 ≤ numF 4503599627370496 0 (l.take (cntF isD l))) then numF 4503599627370496 0 (l.take (cntF isD l)) * 100 else numF 4503599627370496 0 (l.take (cntF isD l))))
theorem r39 (M : Nat) (hM : 10005 ≤ M) (l : List UInt8) (hl : l.length ≤ 8999) (s : St) (hs : s.next + 2 ≤ lim) :
    ∃ s', callN E (M + 1) 39 [.string ⟨⟨36 :: l⟩⟩] s = some (tupOf [.int .i64 ((moneyF l).1 : Int), .int .i64 (moneyF l).2], s') ∧ Grew 2 s s' := by
  obtain ⟨M, rfl⟩ : ∃ m, M = m + 2 := ⟨M - 2, by omega⟩
  have hk := cntF_le isD l
  have hall := cntF_all isD l
  generalize hkk : cntF isD l = k at hk hall
  have hw : ∀ s, callN E (M + 2) 25 [.string ⟨⟨l⟩⟩, .func (.func 30) #[] #[]] s = some (.int .i64 (k : Int), s) := fun s => by
    have := r25 (M + 1) (by omega) 30 isD (fun b s => r30 M b s) l (by omega) s
    rwa [hkk] at this
  have hsl0 : ∀ s, oSliceS (.v (.string ⟨⟨36 :: l⟩⟩)) (some (.v (.int .i64 1))) none (callN E (M + 2)) PT.nil s = some (.string ⟨⟨l⟩⟩, s) := fun s => slS_lo (36 :: l) 1 (by simp) _ s
  have h36 : ∀ s, oIdxS (.v (.string ⟨⟨36 :: l⟩⟩)) (.v (.int .i64 0)) (callN E (M + 2)) PT.nil s = some (.int .u8 36, s) := fun s => idxS_0 36 l _ _ s
  have hadd : int2 addO (.int .i64 1) (.int .i64 (k : Int)) = some (.int .i64 ((1 + k : Nat) : Int)) := by rw [add_e _ _ (by omega) (by omega)]; congr 2
  have hsl1 : ∀ s, oSliceS (.v (.string ⟨⟨36 :: l⟩⟩)) (some (.v (.int .i64 1))) (some (.v (.int .i64 ((1 + k : Nat) : Int)))) (callN E (M + 2)) PT.nil s = some (.string ⟨⟨l.take k⟩⟩, s) := fun s => by
    have := slS_lh (36 :: l) 1 (1 + k) (by omega) (by simp; omega) (callN E (M + 2)) s
    rwa [show 1 + k - 1 = k by omega] at this
  have hsl2 : ∀ s, oSliceS (.v (.string ⟨⟨36 :: l⟩⟩)) (some (.v (.int .i64 ((1 + k : Nat) : Int)))) none (callN E (M + 2)) PT.nil s = some (.string ⟨⟨l.drop k⟩⟩, s) := fun s => by
    rw [Nat.add_comm 1 k, slS_lo (36 :: l) (k + 1) (by simp; omega) (callN E (M + 2)) s, List.drop_succ_cons]
  rw [x39]; unfold F39 moneyF
  rw [hkk]
  have e36 : decide ((36 : Int) = 36) = true := decide_eq_true rfl
  simp only [es, cond_true, cond_false, eq_self, hsl0, hw, hadd, h36, e36]
  by_cases hk0 : k = 0
  · have e1 : decide (((1 + k : Nat) : Int) = 1) = true := decide_eq_true (by omega)
    rw [decide_eq_true hk0]
    simp only [es, cond_true, cond_false, eq_self, e1]
    exact ⟨s, rfl, (Grew.refl s).mono (by omega)⟩
  have e1 : decide (((1 + k : Nat) : Int) = 1) = false := decide_eq_false (by omega)
  rw [decide_eq_false hk0]
  obtain ⟨s1, n1, g1⟩ := r42 (M + 1) (by omega) (l.take k) (by simp; omega) hall 4503599627370496 (by omega) (by omega) s (by omega)
  have hv := numF_in 4503599627370496 (l.take k) 0 hall (by omega) (by omega)
  generalize hvv : numF 4503599627370496 0 (l.take k) = v at n1 hv
  have hp : ∀ s, callN E (M + 2) 47 [.string ⟨⟨l.drop k⟩⟩, .int .i64 2] s = some (.int .i64 (plF 2 (l.drop k) : Int), s) := fun s => r47 (M + 1) (by omega) (l.drop k) (by simp; omega) 2 s
  simp only [es, cond_true, cond_false, eq_self, e1, hsl1, n1, hsl2, hp]
  have g1' := g1.2.1
  by_cases hpl : plF 2 (l.drop k) = 2
  · have e2 : decide ((plF 2 (l.drop k) : Int) = 2) = true := decide_eq_true (by omega)
    rw [decide_eq_true hpl]
    obtain ⟨r, hr, hc, _⟩ := plF_two (n := 1) hpl
    have hdr : l.drop (k + 1) = r := by rw [← List.drop_drop, hr]; rfl
    have hrl : r.length + (k + 1) = l.length := by
      have := congrArg List.length hr
      rw [List.length_drop, List.length_cons] at this
      omega
    have hall2 : (r.take 2).all isD = true := by have := cntF_all isD r; rwa [hc] at this
    have hcr := cntF_le isD r
    by_cases h0 : 0 ≤ v
    · have e3 : decide (0 ≤ v) = true := decide_eq_true h0
      obtain ⟨s2, n2, g2⟩ := r42 (M + 1) (by omega) (r.take 2) (by simp; omega) hall2 100 (by omega) (by omega) s1 (by omega)
      have hv2 := numF_in 100 (r.take 2) 0 hall2 (by omega) (by omega)
      have hsl3 : ∀ s, oSliceS (.v (.string ⟨⟨36 :: l⟩⟩)) (some (.v (.int .i64 ((1 + k + 1 : Nat) : Int)))) (some (.v (.int .i64 ((1 + k + 3 : Nat) : Int)))) (callN E (M + 2)) PT.nil s = some (.string ⟨⟨r.take 2⟩⟩, s) := fun s => by
        rw [slS_lh (36 :: l) (1 + k + 1) (1 + k + 3) (by omega) (by simp; omega) (callN E (M + 2)) s, show 1 + k + 3 - (1 + k + 1) = 2 by omega, show (36 :: l).drop (1 + k + 1) = l.drop (k + 1) by rw [Nat.add_comm 1 k, List.drop_succ_cons], hdr]
      have a1 : int2 addO (.int .i64 ((1 + k : Nat) : Int)) (.int .i64 1) = some (.int .i64 ((1 + k + 1 : Nat) : Int)) := by rw [add_e _ _ (by omega) (by omega)]; congr 2
      have a3 : int2 addO (.int .i64 ((1 + k : Nat) : Int)) (.int .i64 3) = some (.int .i64 ((1 + k + 3 : Nat) : Int)) := by rw [add_e _ _ (by omega) (by omega)]; congr 2
      have m1 : int2 mulO (.int .i64 v) (.int .i64 100) = some (.int .i64 (v * 100)) := mul_e _ _ (by omega) (by omega)
      generalize hww : numF 100 0 (r.take 2) = w at n2 hv2
      have a4 : int2 addO (.int .i64 (v * 100)) (.int .i64 w) = some (.int .i64 (v * 100 + w)) := add_e _ _ (by omega) (by omega)
      rw [hdr, hww]
      refine ⟨s2, ?_, (g1.trans g2).mono (by omega)⟩
      by_cases hm : 4503599627370496 < v * 100 + w
      · have e4 := decide_eq_true hm
        simp only [es, cond_true, cond_false, eq_self, capF, J39_j0, e2, e3, m1, a1, a3, hsl3, n2, a4, e4]
      · have e4 := decide_eq_false hm
        simp only [es, cond_true, cond_false, eq_self, capF, J39_j0, e2, e3, m1, a1, a3, hsl3, n2, a4, e4]
    · have e3 : decide (0 ≤ v) = false := decide_eq_false h0
      have a3 : int2 addO (.int .i64 ((1 + k : Nat) : Int)) (.int .i64 3) = some (.int .i64 ((1 + k + 3 : Nat) : Int)) := by rw [add_e _ _ (by omega) (by omega)]; congr 2
      have e4 : decide (4503599627370496 < v) = false := decide_eq_false (by omega)
      refine ⟨s1, ?_, g1.mono (by omega)⟩
      simp only [es, cond_true, cond_false, eq_self, capF, J39_j0, e2, e3, a3, e4]
  · have e2 : decide ((plF 2 (l.drop k) : Int) = 2) = false := decide_eq_false (by omega)
    rw [decide_eq_false hpl]
    by_cases h0 : 0 ≤ v
    · have e3 : decide (0 ≤ v) = true := decide_eq_true h0
      have mn : min v 4503599627370496 = v := by omega
      have m1 : int2 mulO (.int .i64 v) (.int .i64 100) = some (.int .i64 (v * 100)) := mul_e _ _ (by omega) (by omega)
      refine ⟨s1, ?_, g1.mono (by omega)⟩
      by_cases hm : 4503599627370496 < v * 100
      · have e4 := decide_eq_true hm
        simp only [es, cond_true, cond_false, eq_self, capF, J39_j0, e2, e3, min_e, mn, m1, e4]
      · have e4 := decide_eq_false hm
        simp only [es, cond_true, cond_false, eq_self, capF, J39_j0, e2, e3, min_e, mn, m1, e4]
    · have e3 : decide (0 ≤ v) = false := decide_eq_false h0
      have e4 : decide (4503599627370496 < v) = false := decide_eq_false (by omega)
      refine ⟨s1, ?_, g1.mono (by omega)⟩
      simp only [es, cond_true, cond_false, eq_self, capF, J39_j0, e2, e3, e4]
end Go.Proofs.Ytikdjhlcbkkkfaa.AbsLexO
namespace Go.Proofs.Ytikdjhlcbkkkfaa.AbsLexO
open Go Go.Abs Go.Proofs
set_option maxRecDepth 100000
set_option linter.unusedVariables false
set_option linter.unusedSimpArgs false

attribute [local congr] h_opt2 h_opt h_condV h_cond
/-! rates -/
def rtE (l : List UInt8) : Nat := bif decide (0 < plF 4 (l.drop (cntF isD l))) then cntF isD l + (1 + plF 4 (l.drop (cntF isD l))) else cntF isD l
def rtV (l : List UInt8) : Int :=
  bif decide (0 ≤ numF 1000000000000 0 (l.take (cntF isD l))) then
    (bif decide (numF 1000000000000 0 (l.take (cntF isD l)) * 10000 ≤ 1000000000000) && decide (0 < plF 4 (l.drop (cntF isD l))) then
      numF 1000000000000 0 (l.take (cntF isD l)) * 10000 + numF 10000 0 ((l.drop (cntF isD l + 1)).take (plF 4 (l.drop (cntF isD l))) ++ List.replicate (4 - plF 4 (l.drop (cntF isD l))) 48)
    else numF 1000000000000 0 (l.take (cntF isD l)) * 10000)
  else numF 1000000000000 0 (l.take (cntF isD l))
def rateF (l : List UInt8) : Nat × Int :=
  bif decide (cntF isD l = 0) then (0, 0) else
  bif decide ((l.drop (rtE l)).head? = some 37) then (rtE l + 1, capF 1000000000000 (rtV l)) else (0, 0)
theorem r48 (M : Nat) (c : Nat) (hc : c ≤ 4) (s : St) : callN E (M + 1) 48 [.string ⟨⟨[48]⟩⟩, .int .i64 (c : Int)] s = some (.string ⟨⟨List.replicate c 48⟩⟩, s) := by
  by_cases h0 : c = 0
  · subst h0
    exact (by kernel_rfl : callN E (M + 1) 48 [.string ⟨⟨[48]⟩⟩, .int .i64 (.ofNat 0)] s = some (.string ⟨⟨List.replicate 0 48⟩⟩, s))
  by_cases h1 : c = 1
  · subst h1
    exact (by kernel_rfl : callN E (M + 1) 48 [.string ⟨⟨[48]⟩⟩, .int .i64 (.ofNat 1)] s = some (.string ⟨⟨List.replicate 1 48⟩⟩, s))
  by_cases h2 : c = 2
  · subst h2
    exact (by kernel_rfl : callN E (M + 1) 48 [.string ⟨⟨[48]⟩⟩, .int .i64 (.ofNat 2)] s = some (.string ⟨⟨List.replicate 2 48⟩⟩, s))
  by_cases h3 : c = 3
  · subst h3
    exact (by kernel_rfl : callN E (M + 1) 48 [.string ⟨⟨[48]⟩⟩, .int .i64 (.ofNat 3)] s = some (.string ⟨⟨List.replicate 3 48⟩⟩, s))
  by_cases h4 : c = 4
  · subst h4
    exact (by kernel_rfl : callN E (M + 1) 48 [.string ⟨⟨[48]⟩⟩, .int .i64 (.ofNat 4)] s = some (.string ⟨⟨List.replicate 4 48⟩⟩, s))
  omega
theorem head_37 {c : UInt8} (h : (c.toNat : Int) = 37) : c = 37 := UInt8.toNat_inj.1 (by have e : (37 : UInt8).toNat = 37 := rfl; rw [e]; omega)
theorem rate_j (M : Nat) (hM : 10003 ≤ M) (l : List UInt8) (hl : l.length ≤ 9000) (n k e : Nat) (hn : cntF isD l = n) (hk : plF 4 (l.drop n) = k) (he : rtE l = e) (s : St) (hs : s.next + 2 ≤ lim) :
    ∃ s', J40_j0 (callN E M) M ((.string ⟨⟨l⟩⟩), (.int .i64 (n : Int)), (.int .i64 (k : Int)), (.int .i64 (e : Int))) s = some (tupOf [.int .i64 ((rateF l).1 : Int), .int .i64 (rateF l).2], s') ∧ Grew 2 s s' := by
  obtain ⟨M, rfl⟩ : ∃ m, M = m + 2 := ⟨M - 2, by omega⟩
  have hnl := cntF_le isD l
  have hall := cntF_all isD l
  have hk4 := plF_le 4 (l.drop n)
  have hee : rtE l = (bif decide (0 < k) then n + (1 + k) else n) := by unfold rtE; rw [hn, hk]
  unfold rateF
  rw [he, hn]
  rw [hn] at hnl hall
  rw [hk] at hk4
  unfold J40_j0
  by_cases hn0 : n = 0
  · have e1 : decide ((n : Int) = 0) = true := decide_eq_true (by omega)
    rw [decide_eq_true hn0]
    simp only [es, cond_true, cond_false, eq_self, e1]
    exact ⟨s, rfl, (Grew.refl s).mono (by omega)⟩
  have e1 : decide ((n : Int) = 0) = false := decide_eq_false (by omega)
  rw [decide_eq_false hn0]
  cases hd : l.drop e with
  | nil =>
    have hle : l.length ≤ e := by simpa using hd
    have e2 : decide ((l.length : Int) ≤ (e : Int)) = true := decide_eq_true (by omega)
    have e3 : decide (([] : List UInt8).head? = some 37) = false := decide_eq_false (by simp)
    simp only [es, cond_true, cond_false, eq_self, e1, lenS_u, e2, e3]
    exact ⟨s, rfl, (Grew.refl s).mono (by omega)⟩
  | cons c r =>
    have hlt : e < l.length := by
      have := congrArg List.length hd
      rw [List.length_drop, List.length_cons] at this
      omega
    have e2 : decide ((l.length : Int) ≤ (e : Int)) = false := decide_eq_false (by omega)
    by_cases hc : (c.toNat : Int) = 37
    rotate_left
    · have e3 : decide ((c :: r).head? = some 37) = false := decide_eq_false (by intro h; simp at h; exact hc (by rw [h]; rfl))
      have e4 : decide ((c.toNat : Int) = 37) = false := decide_eq_false hc
      simp only [es, cond_true, cond_false, eq_self, e1, lenS_u, e2, e3, idx_at hd, e4]
      exact ⟨s, rfl, (Grew.refl s).mono (by omega)⟩
    have e3 : decide ((c :: r).head? = some 37) = true := decide_eq_true (by rw [head_37 hc]; rfl)
    have e4 : decide ((c.toNat : Int) = 37) = true := decide_eq_true hc
    obtain ⟨s1, n1, g1⟩ := r42 (M + 1) (by omega) (l.take n) (by simp; omega) hall 1000000000000 (by omega) (by omega) s (by omega)
    have hv := numF_in 1000000000000 (l.take n) 0 hall (by omega) (by omega)
    unfold rtV
    rw [hn, hk]
    generalize hvv : numF 1000000000000 0 (l.take n) = v at n1 hv
    have g1' := g1.2.1
    have hsl : ∀ s, oSliceS (.v (.string ⟨⟨l⟩⟩)) none (some (.v (.int .i64 (n : Int)))) (callN E (M + 2)) PT.nil s = some (.string ⟨⟨l.take n⟩⟩, s) := fun s => slS_hi l n (by omega) _ s
    have a1 : int2 addO (.int .i64 (e : Int)) (.int .i64 1) = some (.int .i64 ((e + 1 : Nat) : Int)) := by rw [add_e _ _ (by omega) (by omega)]; rfl
    by_cases h0 : 0 ≤ v
    rotate_left
    · have e5 : decide (0 ≤ v) = false := decide_eq_false h0
      have e6 : decide (1000000000000 < v) = false := decide_eq_false (by omega)
      refine ⟨s1, ?_, g1.mono (by omega)⟩
      simp only [es, cond_true, cond_false, eq_self, e1, lenS_u, e2, e3, idx_at hd, e4, hsl, n1, e5, e6, a1, capF]
    have e5 : decide (0 ≤ v) = true := decide_eq_true h0
    have m1 : int2 mulO (.int .i64 v) (.int .i64 10000) = some (.int .i64 (v * 10000)) := mul_e _ _ (by omega) (by omega)
    have plain : ∀ b : Bool, (decide (v * 10000 ≤ 1000000000000) && decide (0 < k)) = false → ∃ s', J40_j0 (callN E (M + 2)) (M + 2) ((.string ⟨⟨l⟩⟩), (.int .i64 (n : Int)), (.int .i64 (k : Int)), (.int .i64 (e : Int))) s = some (tupOf [.int .i64 ((e + 1 : Nat) : Int), .int .i64 (capF 1000000000000 (v * 10000))], s') ∧ Grew 2 s s' := by
      intro b hb
      unfold J40_j0
      refine ⟨s1, ?_, g1.mono (by omega)⟩
      by_cases h1 : v * 10000 ≤ 1000000000000
      · have e6 : decide (v * 10000 ≤ 1000000000000) = true := decide_eq_true h1
        have e7 : decide (0 < (k : Int)) = false := decide_eq_false (by rw [e6, Bool.true_and, decide_eq_false_iff_not] at hb; omega)
        have e8 : decide (1000000000000 < v * 10000) = false := decide_eq_false (by omega)
        simp only [es, cond_true, cond_false, eq_self, e1, lenS_u, e2, e3, idx_at hd, e4, hsl, n1, e5, m1, e6, e7, e8, a1, capF]
      · have e6 : decide (v * 10000 ≤ 1000000000000) = false := decide_eq_false h1
        have e8 : decide (1000000000000 < v * 10000) = true := decide_eq_true (by omega)
        simp only [es, cond_true, cond_false, eq_self, e1, lenS_u, e2, e3, idx_at hd, e4, hsl, n1, e5, m1, e6, e8, a1, capF]
    by_cases h1 : v * 10000 ≤ 1000000000000
    rotate_left
    · have e6 : decide (v * 10000 ≤ 1000000000000) = false := decide_eq_false h1
      have := plain true (by rw [e6]; rfl)
      unfold J40_j0 at this
      simpa only [es, cond_true, cond_false, eq_self, e3, e5, e6, Bool.false_and] using this
    by_cases h2 : 0 < k
    rotate_left
    · have e7 : decide (0 < k) = false := decide_eq_false h2
      have := plain true (by rw [e7, Bool.and_false])
      unfold J40_j0 at this
      simpa only [es, cond_true, cond_false, eq_self, e3, e5, e7, Bool.and_false] using this
    have e6 : decide (v * 10000 ≤ 1000000000000) = true := decide_eq_true h1
    have e7 : decide (0 < (k : Int)) = true := decide_eq_true (by omega)
    have e7' : decide (0 < k) = true := decide_eq_true h2
    rw [e7', cond_true, he] at hee
    obtain ⟨r', hr', hc', _⟩ := plF_two (m := 4) (l := l.drop n) (n := k - 1) (by omega)
    have hc' : cntF isD r' = k := by omega
    have hdr : l.drop (n + 1) = r' := by rw [← List.drop_drop, hr']; rfl
    have hall2 : ((r'.take k) ++ List.replicate (4 - k) 48).all isD = true := by
      rw [List.all_append, Bool.and_eq_true]
      refine ⟨by have := cntF_all isD r'; rwa [hc'] at this, ?_⟩
      rw [List.all_eq_true]
      intro x hx
      rw [List.eq_of_mem_replicate hx]
      rfl
    have hlen2 : ((r'.take k) ++ List.replicate (4 - k) (48 : UInt8)).length ≤ 10000 := by
      rw [List.length_append, List.length_take, List.length_replicate]; omega
    have a2 : int2 addO (.int .i64 (n : Int)) (.int .i64 1) = some (.int .i64 ((n + 1 : Nat) : Int)) := by rw [add_e _ _ (by omega) (by omega)]; rfl
    have hsl2 : ∀ s, oSliceS (.v (.string ⟨⟨l⟩⟩)) (some (.v (.int .i64 ((n + 1 : Nat) : Int)))) (some (.v (.int .i64 (e : Int)))) (callN E (M + 2)) PT.nil s = some (.string ⟨⟨r'.take k⟩⟩, s) := fun s => by
      rw [slS_lh l (n + 1) e (by omega) (by omega) (callN E (M + 2)) s, hdr, show e - (n + 1) = k by omega]
    have a3 : int2 subO (.int .i64 4) (.int .i64 (k : Int)) = some (.int .i64 ((4 - k : Nat) : Int)) := by rw [sub_e _ _ (by omega) (by omega)]; congr 2; omega
    obtain ⟨s2, n2, g2⟩ := r42 (M + 1) (by omega) _ hlen2 hall2 10000 (by omega) (by omega) (z0 s1) (by rw [z0_next]; omega)
    have hv2 := numF_in 10000 _ 0 hall2 (by omega) (by omega)
    rw [hdr]
    generalize hww : numF 10000 0 ((r'.take k) ++ List.replicate (4 - k) 48) = w at n2 hv2
    have a4 : int2 addO (.int .i64 (v * 10000)) (.int .i64 w) = some (.int .i64 (v * 10000 + w)) := add_e _ _ (by omega) (by omega)
    have hcat : str2 catO (.string ⟨⟨r'.take k⟩⟩) (.string ⟨⟨List.replicate (4 - k) 48⟩⟩) = some (.string ⟨⟨r'.take k ++ List.replicate (4 - k) 48⟩⟩) := cat_u _ _ (by rw [List.length_take, List.length_replicate]; omega)
    have hrep := r48 (M + 1) (4 - k) (by omega) (z0 s1)
    refine ⟨jn s1 s2, ?_, (g1.trans g2.z0).mono (by omega)⟩
    by_cases h3 : 1000000000000 < v * 10000 + w
    · have e8 := decide_eq_true h3
      simp only [es, cond_true, cond_false, eq_self, e1, lenS_u, e2, e3, idx_at hd, e4, hsl, n1, e5, m1, e6, e7, e7', Bool.and_self, a2, hsl2, a3, hrep, rV_s, jn_z, hcat, n2, a4, e8, a1, capF]
    · have e8 := decide_eq_false h3
      simp only [es, cond_true, cond_false, eq_self, e1, lenS_u, e2, e3, idx_at hd, e4, hsl, n1, e5, m1, e6, e7, e7', Bool.and_self, a2, hsl2, a3, hrep, rV_s, jn_z, hcat, n2, a4, e8, a1, capF]
theorem r40 (M : Nat) (hM : 10005 ≤ M) (l : List UInt8) (hl : l.length ≤ 9000) (s : St) (hs : s.next + 2 ≤ lim) :
    ∃ s', callN E (M + 1) 40 [.string ⟨⟨l⟩⟩] s = some (tupOf [.int .i64 ((rateF l).1 : Int), .int .i64 (rateF l).2], s') ∧ Grew 2 s s' := by
  obtain ⟨M, rfl⟩ : ∃ m, M = m + 2 := ⟨M - 2, by omega⟩
  have hnl := cntF_le isD l
  have hk4 := plF_le 4 (l.drop (cntF isD l))
  have hw : ∀ s, callN E (M + 2) 25 [.string ⟨⟨l⟩⟩, .func (.func 30) #[] #[]] s = some (.int .i64 (cntF isD l : Int), s) := fun s => r25 (M + 1) (by omega) 30 isD (fun b s => r30 M b s) l (by omega) s
  have hsl : ∀ s, oSliceS (.v (.string ⟨⟨l⟩⟩)) (some (.v (.int .i64 (cntF isD l : Int)))) none (callN E (M + 2)) PT.nil s = some (.string ⟨⟨l.drop (cntF isD l)⟩⟩, s) := fun s => slS_lo l _ hnl _ s
  have hp : ∀ s, callN E (M + 2) 47 [.string ⟨⟨l.drop (cntF isD l)⟩⟩, .int .i64 4] s = some (.int .i64 (plF 4 (l.drop (cntF isD l)) : Int), s) := fun s => r47 (M + 1) (by omega) _ (by simp; omega) 4 s
  have hj := fun e he => rate_j (M + 2) (by omega) l hl _ _ e rfl rfl he s hs
  have hE : rtE l = (bif decide (0 < plF 4 (l.drop (cntF isD l))) then cntF isD l + (1 + plF 4 (l.drop (cntF isD l))) else cntF isD l) := rfl
  rw [x40]; unfold F40
  generalize hk : plF 4 (l.drop (cntF isD l)) = k at hp hj hE hk4
  by_cases h : 0 < k
  · have e1 : decide (0 < (k : Int)) = true := decide_eq_true (by omega)
    rw [decide_eq_true h, cond_true] at hE
    have a1 : int2 addO (.int .i64 1) (.int .i64 (k : Int)) = some (.int .i64 ((1 + k : Nat) : Int)) := by rw [add_e _ _ (by omega) (by omega)]; congr 2
    have a2 : int2 addO (.int .i64 (cntF isD l : Int)) (.int .i64 ((1 + k : Nat) : Int)) = some (.int .i64 ((cntF isD l + (1 + k) : Nat) : Int)) := by rw [add_e _ _ (by omega) (by omega)]; congr 2
    simp only [es, cond_true, cond_false, eq_self, hw, hsl, hp, e1, a1, a2]
    exact hj _ hE
  · have e1 : decide (0 < (k : Int)) = false := decide_eq_false (by omega)
    rw [decide_eq_false h, cond_false] at hE
    simp only [es, cond_true, cond_false, eq_self, hw, hsl, hp, e1]
    exact hj _ hE
end Go.Proofs.Ytikdjhlcbkkkfaa.AbsLexO
namespace Go.Proofs.Ytikdjhlcbkkkfaa.AbsLexO
open Go Go.Abs Go.Proofs
set_option maxRecDepth 100000
set_option linter.unusedVariables false
set_option linter.unusedSimpArgs false

attribute [local congr] h_opt2 h_opt h_condV h_cond
/-! a number of any kind; its word -/
/-- how ten bytes are read as a day (told later) -/
def Rd (rd : List UInt8 → Int × Bool) : Prop := ∀ M, 10010 ≤ M → ∀ l : List UInt8, l.length = 10 → ∀ s : St, s.next + 3 ≤ lim → ∃ s', callN E M 49 [.string ⟨⟨l⟩⟩] s = some (tupOf [.int .i64 (rd l).1, .bool (rd l).2], s') ∧ Grew 3 s s'
def nextD (l : List UInt8) : Bool := match l.drop 10 with
  | c :: _ => isD c
  | [] => false
def dayF (rd : List UInt8 → Int × Bool) (l : List UInt8) : Nat × Int :=
  bif decide (l.length < 10) || nextD l then (0, 0) else bif (rd (l.take 10)).2 then (10, (rd (l.take 10)).1) else (0, 0)
theorem r41 {rd : List UInt8 → Int × Bool} (hrd : Rd rd) (M : Nat) (hM : 10011 ≤ M) (l : List UInt8) (hl : l.length ≤ 9000) (s : St) (hs : s.next + 3 ≤ lim) :
    ∃ s', callN E (M + 1) 41 [.string ⟨⟨l⟩⟩] s = some (tupOf [.int .i64 ((dayF rd l).1 : Int), .int .i64 (dayF rd l).2], s') ∧ Grew 3 s s' := by
  obtain ⟨M, rfl⟩ : ∃ m, M = m + 1 := ⟨M - 1, by omega⟩
  rw [x41]; unfold F41 dayF
  by_cases h1 : l.length < 10
  · have e1 : decide ((l.length : Int) < 10) = true := decide_eq_true (by omega)
    rw [decide_eq_true h1, Bool.true_or]
    simp only [es, cond_true, cond_false, eq_self, lenS_u, e1]
    exact ⟨s, rfl, (Grew.refl s).mono (by omega)⟩
  have e1 : decide ((l.length : Int) < 10) = false := decide_eq_false (by omega)
  rw [decide_eq_false h1, Bool.false_or]
  have hsl : ∀ s, oSliceS (.v (.string ⟨⟨l⟩⟩)) none (some (.v (.int .i64 10))) (callN E (M + 1)) PT.nil s = some (.string ⟨⟨l.take 10⟩⟩, s) := fun s => slS_hi l 10 (by omega) _ s
  obtain ⟨s1, n1, g1⟩ := hrd (M + 1) (by omega) (l.take 10) (by rw [List.length_take]; omega) s hs
  generalize hp : rd (l.take 10) = p at n1
  obtain ⟨v, b⟩ := p
  dsimp only at n1
  cases hd : l.drop 10 with
  | nil =>
    have hle : l.length ≤ 10 := by simpa using hd
    have e2 : decide (10 < (l.length : Int)) = false := decide_eq_false (by omega)
    have e3 : nextD l = false := by unfold nextD; rw [hd]
    rw [e3, cond_false]
    refine ⟨s1, ?_, g1⟩
    cases b <;> simp only [es, cond_true, cond_false, eq_self, lenS_u, e1, e2, hsl, n1] <;> rfl
  | cons c r =>
    have hlt : 10 < l.length := by
      have := congrArg List.length hd
      rw [List.length_drop, List.length_cons] at this
      omega
    have e2 : decide (10 < (l.length : Int)) = true := decide_eq_true (by omega)
    have e3 : nextD l = isD c := by unfold nextD; rw [hd]
    have hix : ∀ s, oIdxS (.v (.string ⟨⟨l⟩⟩)) (.v (.int .i64 10)) (callN E (M + 1)) PT.nil s = some (.int .u8 (c.toNat : Int), s) := fun s => idx_at (i := 10) hd _ _ s
    rw [e3]
    cases hc : isD c
    · refine ⟨s1, ?_, g1⟩
      cases b <;> simp only [es, cond_true, cond_false, eq_self, lenS_u, e1, e2, hix, r30, hc, hsl, n1] <;> rfl
    · refine ⟨s, ?_, (Grew.refl s).mono (by omega)⟩
      simp only [es, cond_true, cond_false, eq_self, lenS_u, e1, e2, hix, r30, hc]
      rfl
def cntN (l : List UInt8) : Nat × Int := (cntF isD l, numF 4503599627370496 0 (l.take (cntF isD l)))
theorem r31_3 (M : Nat) (hM : 10011 ≤ M) (l : List UInt8) (hl : l.length ≤ 9000) (s : St) (hs : s.next + 3 ≤ lim) :
    ∃ s', callN E (M + 1) 31 [.string ⟨⟨l⟩⟩, .int .i64 3] s = some (tupOf [.int .i64 ((cntN l).1 : Int), .int .i64 (cntN l).2], s') ∧ Grew 3 s s' := by
  obtain ⟨M, rfl⟩ : ∃ m, M = m + 2 := ⟨M - 2, by omega⟩
  have hnl := cntF_le isD l
  have hw : ∀ s, callN E (M + 2) 25 [.string ⟨⟨l⟩⟩, .func (.func 30) #[] #[]] s = some (.int .i64 (cntF isD l : Int), s) := fun s => r25 (M + 1) (by omega) 30 isD (fun b s => r30 M b s) l (by omega) s
  have hsl : ∀ s, oSliceS (.v (.string ⟨⟨l⟩⟩)) none (some (.v (.int .i64 (cntF isD l : Int)))) (callN E (M + 2)) PT.nil s = some (.string ⟨⟨l.take (cntF isD l)⟩⟩, s) := fun s => slS_hi l _ hnl _ s
  obtain ⟨s1, n1, g1⟩ := r42 (M + 1) (by omega) (l.take (cntF isD l)) (by simp; omega) (cntF_all isD l) 4503599627370496 (by omega) (by omega) s (by omega)
  have e4 : decide ((3 : Int) = 4) = false := rfl
  have e5 : decide ((3 : Int) = 5) = false := rfl
  have e6 : decide ((3 : Int) = 6) = false := rfl
  refine ⟨s1, ?_, g1.mono (by omega)⟩
  rw [x31]; unfold F31
  simp only [es, cond_true, cond_false, eq_self, e4, e5, e6, hw, hsl, n1]
  rfl
theorem r31_4 (M : Nat) (hM : 10011 ≤ M) (l : List UInt8) (hl : l.length ≤ 8999) (s : St) (hs : s.next + 3 ≤ lim) :
    ∃ s', callN E (M + 1) 31 [.string ⟨⟨36 :: l⟩⟩, .int .i64 4] s = some (tupOf [.int .i64 ((moneyF l).1 : Int), .int .i64 (moneyF l).2], s') ∧ Grew 3 s s' := by
  obtain ⟨M, rfl⟩ : ∃ m, M = m + 1 := ⟨M - 1, by omega⟩
  obtain ⟨s1, n1, g1⟩ := r39 M (by omega) l hl s (by omega)
  have e4 : decide ((4 : Int) = 4) = true := rfl
  refine ⟨s1, ?_, g1.mono (by omega)⟩
  rw [x31]; unfold F31
  simp only [es, cond_true, cond_false, eq_self, e4, n1]
theorem r31_5 (M : Nat) (hM : 10011 ≤ M) (l : List UInt8) (hl : l.length ≤ 9000) (s : St) (hs : s.next + 3 ≤ lim) :
    ∃ s', callN E (M + 1) 31 [.string ⟨⟨l⟩⟩, .int .i64 5] s = some (tupOf [.int .i64 ((rateF l).1 : Int), .int .i64 (rateF l).2], s') ∧ Grew 3 s s' := by
  obtain ⟨M, rfl⟩ : ∃ m, M = m + 1 := ⟨M - 1, by omega⟩
  obtain ⟨s1, n1, g1⟩ := r40 M (by omega) l hl s (by omega)
  have e4 : decide ((5 : Int) = 4) = false := rfl
  have e5 : decide ((5 : Int) = 5) = true := rfl
  refine ⟨s1, ?_, g1.mono (by omega)⟩
  rw [x31]; unfold F31
  simp only [es, cond_true, cond_false, eq_self, e4, e5, n1]
theorem r31_6 {rd : List UInt8 → Int × Bool} (hrd : Rd rd) (M : Nat) (hM : 10013 ≤ M) (l : List UInt8) (hl : l.length ≤ 9000) (s : St) (hs : s.next + 3 ≤ lim) :
    ∃ s', callN E (M + 1) 31 [.string ⟨⟨l⟩⟩, .int .i64 6] s = some (tupOf [.int .i64 ((dayF rd l).1 : Int), .int .i64 (dayF rd l).2], s') ∧ Grew 3 s s' := by
  obtain ⟨M, rfl⟩ : ∃ m, M = m + 1 := ⟨M - 1, by omega⟩
  obtain ⟨s1, n1, g1⟩ := r41 hrd M (by omega) l hl s (by omega)
  have e4 : decide ((6 : Int) = 4) = false := rfl
  have e5 : decide ((6 : Int) = 5) = false := rfl
  have e6 : decide ((6 : Int) = 6) = true := rfl
  refine ⟨s1, ?_, g1.mono (by omega)⟩
  rw [x31]; unfold F31
  simp only [es, cond_true, cond_false, eq_self, e4, e5, e6, n1]
abbrev zw : List Value := [(.int .i64 0), (.string ⟨⟨[]⟩⟩), (.int .i64 0), (.int .i64 0)]
def madeC (kk : Int) (l : List UInt8) (n : Nat) (v : Int) : List Value := bif decide (n = 0) || decide (v < 0) then zw else [.int .i64 kk, .string ⟨⟨l.take n⟩⟩, .int .i64 v, .int .i64 0]
theorem madeC_len (kk : Int) (l : List UInt8) (n : Nat) (v : Int) : (madeC kk l n v).length = 4 := by
  unfold madeC
  cases decide (n = 0) || decide (v < 0) <;> rfl
theorem madeC_map (kk : Int) (l : List UInt8) (n : Nat) (v : Int) : isMapB (madeC kk l n v) = false := by
  unfold madeC
  cases decide (n = 0) || decide (v < 0) <;> rfl
theorem build0 (rec : Rec) (s : St) : oBuild zw [] rec PT.nil s = some (aggOf zw, s) := by kernel_rfl
theorem build3 (kk v : Int) (l : List UInt8) (rec : Rec) (s : St) : oBuild zw [(0, 1, (.v (.int .i64 kk))), (1, 1, (.v (.string ⟨⟨l⟩⟩))), (2, 1, (.v (.int .i64 v)))] rec PT.nil s = some (aggOf [.int .i64 kk, .string ⟨⟨l⟩⟩, .int .i64 v, .int .i64 0], s) := by kernel_rfl
theorem r29 (M : Nat) (l : List UInt8) (kk : Int) (n : Nat) (v : Int) (hn : n ≤ l.length) (s : St) (hs : s.next + 4 ≤ lim)
    (hread : ∀ s : St, s.next + 3 ≤ lim → ∃ s', callN E M 31 [.string ⟨⟨l⟩⟩, .int .i64 kk] s = some (tupOf [.int .i64 (n : Int), .int .i64 v], s') ∧ Grew 3 s s') :
    ∃ s', callN E (M + 1) 29 [.string ⟨⟨l⟩⟩, .int .i64 kk] s = some (aggOf (madeC kk l n v), s') ∧ Grew 4 s s' := by
  have hlim : lim = 1000000000 := rfl
  obtain ⟨s2, n2, g2⟩ := hread (al s zw) (by rw [al_next _ _ (by omega)]; omega)
  have hz : s2.getC s.next = some zw := g2.get (al_same s zw (by omega) rfl) (by rw [al_next _ _ (by omega)]; omega)
  have hst : ∀ d : List Value, d.length = 4 → oStore 4 (.v (.pointer (some ⟨s.next, 0, none⟩))) (.v (aggOf d)) (callN E M) PT.nil s2 = some (UV, s2.set s.next (some d)) := fun d hd => storeall_u 4 s.next d zw _ _ s2 hz rfl hd
  have hfin : ∀ d : List Value, d.length = 4 → isMapB d = false → finX [.cell t4 (some 4)] .ret ((PT.put (.pointer (some ⟨s.next, 0, none⟩)) t4 PT.nil), s2.set s.next (some d)) = some (aggOf d, (s2.set s.next (some d)).seen s.next) := fun d hd hm => finc_u 4 s.next d t4 _ (set_same s2 s.next d (by omega) hm) hd
  refine ⟨(s2.set s.next (some (madeC kk l n v))).seen s.next, ?_, Grew.seen (Grew.set ((((Grew.refl s).al zw (by omega)).trans g2).mono (by omega)) s.next _ (by omega) (Nat.le_refl _)) _⟩
  rw [x29]; unfold F29
  have hnew := new_u zw (callN E M) PT.nil s (by omega)
  by_cases h1 : n = 0
  · have e1 : decide ((n : Int) = 0) = true := decide_eq_true (by omega)
    have hm : madeC kk l n v = zw := by unfold madeC; rw [decide_eq_true h1]; rfl
    rw [hm]
    simp only [es, cond_true, cond_false, eq_self, hnew, n2, e1, build0, hst zw rfl, hfin zw rfl rfl]
  have e1 : decide ((n : Int) = 0) = false := decide_eq_false (by omega)
  by_cases h2 : v < 0
  · have e2 : decide (v < 0) = true := decide_eq_true h2
    have hm : madeC kk l n v = zw := by unfold madeC; rw [e2, Bool.or_true]; rfl
    rw [hm]
    simp only [es, cond_true, cond_false, eq_self, hnew, n2, e1, e2, build0, hst zw rfl, hfin zw rfl rfl]
  have e2 : decide (v < 0) = false := decide_eq_false h2
  have hm : madeC kk l n v = [.int .i64 kk, .string ⟨⟨l.take n⟩⟩, .int .i64 v, .int .i64 0] := by unfold madeC; rw [e2, decide_eq_false h1]; rfl
  rw [hm]
  have hsl : ∀ s, oSliceS (.v (.string ⟨⟨l⟩⟩)) none (some (.v (.int .i64 (n : Int)))) (callN E M) PT.nil s = some (.string ⟨⟨l.take n⟩⟩, s) := fun s => slS_hi l n hn _ s
  simp only [es, cond_true, cond_false, eq_self, hnew, n2, e1, e2, hsl, build3, hst [.int .i64 kk, .string ⟨⟨l.take n⟩⟩, .int .i64 v, .int .i64 0] rfl, hfin [.int .i64 kk, .string ⟨⟨l.take n⟩⟩, .int .i64 v, .int .i64 0] rfl rfl]
end Go.Proofs.Ytikdjhlcbkkkfaa.AbsLexO
namespace Go.Proofs.Ytikdjhlcbkkkfaa.AbsLexO
open Go Go.Abs Go.Proofs
set_option maxRecDepth 100000
set_option linter.unusedVariables false
set_option linter.unusedSimpArgs false

/-! kept names -/
def KW : List (List UInt8) := [[105, 110, 112, 117, 116], [114, 117, 108, 101], [116, 97, 98, 108, 101], [98, 111, 111, 108], [99, 111, 117, 110, 116], [109, 111, 110, 101, 121], [114, 97, 116, 101], [100, 97, 116, 101], [109, 111, 110, 101, 121, 115], [105, 102], [116, 104, 101, 110], [101, 108, 115, 101], [97, 110, 100], [111, 114], [110, 111, 116], [109, 105, 110], [109, 97, 120], [115, 117, 109], [105, 110], [108, 101, 110], [97, 116], [116, 114, 117, 101], [102, 97, 108, 115, 101]]
def keptF (l : List UInt8) : Bool := KW.any fun w => decide (l = w)
theorem kstep (p q : Bool) (s : St) : condV (.bool p) (some (Value.bool p, s)) (some (Value.bool q, s)) = some (.bool (p || q), s) := by
  cases p <;> rfl
theorem klast (p : Bool) (rec : Rec) (N : Nat) (s : St) : J12_j0 rec N (.bool p) s = some (.bool p, s) := by
  unfold J12_j0 J12_j1
  cases p <;> rfl
theorem r12 (M : Nat) (l : List UInt8) (s : St) : callN E (M + 1) 12 [.string ⟨⟨l⟩⟩] s = some (.bool (keptF l), s) := by
  rw [x12]; unfold F12
  simp only [bin_e, eqs_u, op_s, op2_s, klast, kstep, J12_j1, oneOf_1]
  unfold keptF KW
  simp only [List.any_cons, List.any_nil, Bool.or_false]
attribute [local congr] h_opt2 h_opt h_condV h_cond
/-- a block of texts -/
def strV (l : List (List UInt8)) : List Value := l.map fun w => .string ⟨⟨w⟩⟩
theorem strV_at {L r : List (List UInt8)} {w : List UInt8} {i : Nat} (h : L.drop i = w :: r) : nth (strV L) (i * 1) = some (.string ⟨⟨w⟩⟩) ∧ i < L.length := by
  have hi : i < L.length := by
    have := congrArg List.length h
    rw [List.length_drop, List.length_cons] at this
    omega
  have hb : L[i] = w := by
    have := List.drop_eq_getElem_cons hi
    rw [h] at this
    exact (List.cons.inj this).1.symm
  refine ⟨?_, hi⟩
  unfold strV
  rw [Nat.mul_one, nth_eq, List.getElem?_map, List.getElem?_eq_getElem hi, hb]
  rfl
theorem drop_succ {α : Type} {L r : List α} {w : α} {i : Nat} (h : L.drop i = w :: r) : L.drop (i + 1) = r := by
  have : (L.drop i).drop 1 = r := by rw [h]; rfl
  rwa [List.drop_drop] at this
theorem kept_l (rec : Rec) (N : Nat) (nb c : Nat) (L : List (List UInt8)) (hL : L.length ≤ 1000) (l : List UInt8) :
    ∀ (r : List (List UInt8)) (i fuel : Nat) (x : Value) (u : St), L.drop i = r → i + r.length = L.length → r.length < fuel → u.getC nb = some (strV L) →
      ∃ e w u', loopV (B13_l0 rec N ((.string ⟨⟨l⟩⟩), (.slice (some ⟨nb, 0, none⟩) L.length c))) fuel (x, (.int .i64 (i : Int))) u = some (e, (w, u')) ∧ Still u u' ∧
        (((r.any fun w => decide (l = w)) = true ∧ e = .ret ∧ w.1 = .bool true) ∨ ((r.any fun w => decide (l = w)) = false ∧ e = .exit 0))
  | [], i, fuel, x, u, hr, hi, hf, hg => by
    obtain ⟨fuel, rfl⟩ : ∃ m, fuel = m + 1 := ⟨fuel - 1, by simp at hf; omega⟩
    have e1 : decide ((i : Int) < (L.length : Int)) = false := decide_eq_false (by simp at hi; omega)
    rw [loopV_s, B13_l0]
    simp only [es, cond_true, cond_false, eq_self, lenL_e, e1]
    exact ⟨_, _, _, rfl, Still.refl _, .inr ⟨rfl, rfl⟩⟩
  | w :: r, i, fuel, x, u, hr, hi, hf, hg => by
    obtain ⟨fuel, rfl⟩ : ∃ m, fuel = m + 1 := ⟨fuel - 1, by simp at hf; omega⟩
    simp only [List.length_cons] at hi hf
    have e1 : decide ((i : Int) < (L.length : Int)) = true := decide_eq_true (by omega)
    have ha : int2 addO (.int .i64 (i : Int)) (.int .i64 1) = some (.int .i64 ((i + 1 : Nat) : Int)) := by rw [add_e _ _ (by omega) (by omega)]; rfl
    obtain ⟨hat, hil⟩ := strV_at hr
    rw [loopV_s, B13_l0]
    simp (disch := omega) only [es, cond_true, cond_false, eq_self, lenL_e, e1, idxL0_u, load_u, hg, hat, eqs_u]
    rw [List.any_cons]
    by_cases h : w = l
    · have h1 : decide (w = l) = true := decide_eq_true h
      have h2 : decide (l = w) = true := decide_eq_true h.symm
      simp only [es, cond_true, cond_false, eq_self, h1, h2, Bool.true_or]
      exact ⟨_, _, _, rfl, Still.seen _ _, .inl ⟨trivial, rfl, rfl⟩⟩
    · have h1 : decide (w = l) = false := decide_eq_false h
      have h2 : decide (l = w) = false := decide_eq_false (fun e => h e.symm)
      simp only [es, cond_true, cond_false, eq_self, h1, h2, Bool.false_or, ha]
      obtain ⟨e, w', u', q1, q2, q3⟩ := kept_l rec N nb c L hL l r (i + 1) fuel x (u.seen nb) (drop_succ hr) (by omega) (by omega) ((seen_getC _ _ _).trans hg)
      exact ⟨e, w', u', q1, (Still.seen u nb).trans q2, q3⟩
theorem r13 (M : Nat) (hM : 10000 ≤ M) (l : List UInt8) (s : St) (hs : s.next ≤ lim) : ∃ s', callN E (M + 1) 13 [.string ⟨⟨l⟩⟩] s = some (.bool (keptF l), s') ∧ Grew 1 s s' := by
  obtain ⟨e, w, u', q1, q2, q3⟩ := kept_l (callN E M) M s.next 23 KW (by decide) l KW 0 M (.bool false) (al s (strV KW)) rfl (by decide) (by show 23 < M; omega) (al_same s _ hs rfl)
  have q1 : loopV (B13_l0 (callN E M) M ((.string ⟨⟨l⟩⟩), (.slice (some ⟨s.next, 0, none⟩) 23 23))) M ((.bool false), (.int .i64 0)) (al s (strV KW)) = some (e, (w, u')) := q1
  refine ⟨u', ?_, ((Grew.refl s).al _ hs).still q2⟩
  rw [x13]; unfold F13
  rw [bs_u (c := strV KW) (hc := ?_) (h := hs)]
  · simp only [es, cond_true, cond_false, eq_self, q1]
    unfold C13_l0 keptF
    rcases q3 with ⟨h, rfl, hw⟩ | ⟨h, rfl⟩
    · simp only [es, cond_true, cond_false, eq_self, hw, h]
    · simp only [es, cond_true, cond_false, eq_self, J13_r0, h]
  · kernel_rfl
/-! signs -/
def SG : List (List UInt8) := [[60, 61], [62, 61], [61, 61], [33, 61], [40], [41], [123], [125], [91], [93], [44], [59], [58], [61], [43], [45], [42], [47], [60], [62]]
def prefF (l w : List UInt8) : Bool := decide (w.length ≤ l.length) && decide (l.take w.length = w)
theorem r43 (M : Nat) (l w : List UInt8) (s : St) : callN E (M + 1) 43 [.string ⟨⟨l⟩⟩, .string ⟨⟨w⟩⟩] s = some (.bool (prefF l w), s) := by
  rw [x43]; unfold F43 prefF
  by_cases h : w.length ≤ l.length
  · have e1 : decide ((w.length : Int) ≤ (l.length : Int)) = true := decide_eq_true (by omega)
    rw [decide_eq_true h]
    simp only [es, cond_true, cond_false, eq_self, lenS_u, e1, slS_hi l w.length h, eqs_u]
    rfl
  · have e1 : decide ((w.length : Int) ≤ (l.length : Int)) = false := decide_eq_false (by omega)
    rw [decide_eq_false h]
    simp only [es, cond_true, cond_false, eq_self, lenS_u, e1]
    rfl
theorem r33 (M : Nat) (l w : List UInt8) (s : St) : callN E (M + 2) 33 [.string ⟨⟨l⟩⟩, .string ⟨⟨w⟩⟩] s = some (.bool (prefF l w), s) := by
  rw [x33]; unfold F33
  simp only [es, cond_true, cond_false, eq_self, r43]
theorem r32 (M : Nat) (s : St) (hs : s.next ≤ lim) : callN E (M + 1) 32 [] s = some (.slice (some ⟨s.next, 0, none⟩) 20 20, al s (strV SG)) := by
  rw [x32]; unfold F32
  rw [bs_u (c := strV SG) (hc := ?_) (h := hs)]
  · simp only [es, cond_true, cond_false, eq_self]
  · kernel_rfl
end Go.Proofs.Ytikdjhlcbkkkfaa.AbsLexO
namespace Go.Proofs.Ytikdjhlcbkkkfaa.AbsLexO
open Go Go.Abs Go.Proofs
set_option maxRecDepth 100000
set_option linter.unusedVariables false
set_option linter.unusedSimpArgs false

attribute [local congr] h_opt2 h_opt h_condV h_cond
/-! a word -/
def findS (l : List UInt8) : List (List UInt8) → Option (List UInt8)
  | [] => none
  | w :: r => bif prefF l w then some w else findS l r
theorem findS_pre {l w : List UInt8} : ∀ {r : List (List UInt8)}, findS l r = some w → prefF l w = true ∧ w ∈ r
  | [], h => by cases h
  | v :: r, h => by
    unfold findS at h
    cases hv : prefF l v with
    | true =>
      rw [hv, cond_true] at h
      cases h
      exact ⟨hv, List.mem_cons_self⟩
    | false =>
      rw [hv, cond_false] at h
      have := findS_pre h
      exact ⟨this.1, List.mem_cons_of_mem _ this.2⟩
theorem build2 (kk : Int) (l : List UInt8) (rec : Rec) (s : St) : oBuild zw [(0, 1, (.v (.int .i64 kk))), (1, 1, (.v (.string ⟨⟨l⟩⟩)))] rec PT.nil s = some (aggOf [.int .i64 kk, .string ⟨⟨l⟩⟩, .int .i64 0, .int .i64 0], s) := by kernel_rfl
theorem sign_l (M N : Nat) (nb c wb : Nat) (hwb : wb + 1 < 1099511627776) (hne : nb ≠ wb) (L : List (List UInt8)) (hL : L.length ≤ 1000) (l : List UInt8) :
    ∀ (r : List (List UInt8)) (i fuel : Nat) (u : St), L.drop i = r → i + r.length = L.length → r.length < fuel → u.getC nb = some (strV L) → u.getC wb = some zw →
      ∃ e v u', loopV (B15_l1 (callN E (M + 2)) N ((.string ⟨⟨l⟩⟩), (.pointer (some ⟨wb, 0, none⟩)), (.slice (some ⟨nb, 0, none⟩) L.length c), (.int .i64 (L.length : Int)))) fuel (.int .i64 (i : Int)) u = some (e, (v, u')) ∧ u'.next = u.next ∧ (∀ y, y ≠ wb → u'.getC y = u.getC y) ∧
        ((∃ w, findS l r = some w ∧ e = .ret ∧ u'.getC wb = some [.int .i64 7, .string ⟨⟨w⟩⟩, .int .i64 0, .int .i64 0]) ∨ (findS l r = none ∧ e = .exit 3 ∧ u'.getC wb = some zw))
  | [], i, fuel, u, hr, hi, hf, hg, hw => by
    obtain ⟨fuel, rfl⟩ : ∃ m, fuel = m + 1 := ⟨fuel - 1, by simp at hf; omega⟩
    have e1 : decide ((i : Int) < (L.length : Int)) = false := decide_eq_false (by simp at hi; omega)
    rw [loopV_s, B15_l1]
    simp only [es, cond_true, cond_false, eq_self, e1]
    exact ⟨_, _, _, rfl, rfl, fun _ _ => rfl, .inr ⟨rfl, rfl, hw⟩⟩
  | w :: r, i, fuel, u, hr, hi, hf, hg, hw => by
    obtain ⟨fuel, rfl⟩ : ∃ m, fuel = m + 1 := ⟨fuel - 1, by simp at hf; omega⟩
    simp only [List.length_cons] at hi hf
    have e1 : decide ((i : Int) < (L.length : Int)) = true := decide_eq_true (by omega)
    have ha : int2 addO (.int .i64 (i : Int)) (.int .i64 1) = some (.int .i64 ((i + 1 : Nat) : Int)) := by rw [add_e _ _ (by omega) (by omega)]; rfl
    obtain ⟨hat, hil⟩ := strV_at hr
    have hst : oStore 4 (.v (.pointer (some ⟨wb, 0, none⟩))) (.v (aggOf [.int .i64 7, .string ⟨⟨w⟩⟩, .int .i64 0, .int .i64 0])) (callN E (M + 2)) PT.nil (u.seen nb) = some (UV, (u.seen nb).set wb (some [.int .i64 7, .string ⟨⟨w⟩⟩, .int .i64 0, .int .i64 0])) :=
      storeall_u 4 wb [.int .i64 7, .string ⟨⟨w⟩⟩, .int .i64 0, .int .i64 0] zw _ _ _ ((seen_getC _ _ _).trans hw) rfl rfl
    rw [loopV_s, B15_l1]
    simp (disch := omega) only [es, cond_true, cond_false, eq_self, e1, idxL0_u, load_u, hg, hat, r33]
    unfold findS
    cases hp : prefF l w with
    | true =>
      simp only [es, cond_true, cond_false, eq_self, build2, hst]
      exact ⟨_, _, _, rfl, by rw [set_next, St.seen_next], fun y hy => (set_ne _ _ _ _ hwb hy).trans (seen_getC _ _ _), .inl ⟨w, rfl, rfl, set_same _ _ _ hwb rfl⟩⟩
    | false =>
      simp only [es, cond_true, cond_false, eq_self, ha]
      obtain ⟨e, v, u', q1, q2, q3, q4⟩ := sign_l M N nb c wb hwb hne L hL l r (i + 1) fuel (u.seen nb) (drop_succ hr) (by omega) (by omega) ((seen_getC _ _ _).trans hg) ((seen_getC _ _ _).trans hw)
      exact ⟨e, v, u', q1, by rw [q2, St.seen_next], fun y hy => (q3 y hy).trans (seen_getC _ _ _), q4⟩
def W0 : Int × Nat × Int := (0, 0, 0)
def mkW (kk : Int) (p : Nat × Int) : Int × Nat × Int := bif decide (p.1 = 0) || decide (p.2 < 0) then W0 else (kk, p.1, p.2)
/-- a text's first word: its kind (0: none), its bytes, its number -/
def wordF (rd : List UInt8 → Int × Bool) (l : List UInt8) : Int × Nat × Int := match l with
  | [] => W0
  | b :: t => bif isL b then (bif decide (32 < cntF isN l) then W0 else (bif keptF (l.take (cntF isN l)) then 2 else 1, cntF isN l, 0))
    else bif decide ((b.toNat : Int) = 36) then mkW 4 (moneyF t)
    else bif isD b then (bif decide (0 < (dayF rd l).1) then mkW 6 (dayF rd l) else bif decide (0 < (rateF l).1) then mkW 5 (rateF l) else mkW 3 (cntN l))
    else (match findS l SG with
      | some w => (7, w.length, 0)
      | none => W0)
def wcell (l : List UInt8) (w : Int × Nat × Int) : List Value := bif decide (w.1 = 0) then zw else [.int .i64 w.1, .string ⟨⟨l.take w.2.1⟩⟩, .int .i64 w.2.2, .int .i64 0]
theorem wcell_len (l : List UInt8) (w : Int × Nat × Int) : (wcell l w).length = 4 := by
  unfold wcell; cases decide (w.1 = 0) <;> rfl
theorem wcell_map (l : List UInt8) (w : Int × Nat × Int) : isMapB (wcell l w) = false := by
  unfold wcell; cases decide (w.1 = 0) <;> rfl
theorem wcell_0 (l : List UInt8) : wcell l W0 = zw := rfl
theorem wcell_mk (l : List UInt8) (kk : Int) (p : Nat × Int) (hk : kk ≠ 0) : wcell l (mkW kk p) = madeC kk l p.1 p.2 := by
  unfold mkW madeC
  cases decide (p.1 = 0) || decide (p.2 < 0)
  · rw [cond_false, cond_false]
    unfold wcell
    rw [decide_eq_false (show ¬ (kk, p.1, p.2).1 = 0 from hk)]
    rfl
  · rfl
theorem wcell_sg (l w : List UInt8) (h : prefF l w = true) : wcell l (7, w.length, 0) = [.int .i64 7, .string ⟨⟨w⟩⟩, .int .i64 0, .int .i64 0] := by
  unfold prefF at h
  rw [Bool.and_eq_true, decide_eq_true_eq, decide_eq_true_eq] at h
  unfold wcell
  show [Value.int .i64 7, .string ⟨⟨l.take w.length⟩⟩, .int .i64 0, .int .i64 0] = _
  rw [h.2]
end Go.Proofs.Ytikdjhlcbkkkfaa.AbsLexO
