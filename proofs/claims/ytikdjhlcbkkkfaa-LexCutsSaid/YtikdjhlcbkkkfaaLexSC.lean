import Derived.Test.YtikdjhlcbkkkfaaLexSB
namespace Go.Proofs.Ytikdjhlcbkkkfaa.AbsLexO
open Go Go.Abs Go.Proofs
set_option maxRecDepth 100000
set_option linter.unusedVariables false
set_option linter.unusedSimpArgs false

attribute [local congr] h_opt2 h_opt h_condV h_cond
/-! the document's own cutting -/
theorem r16 (M : Nat) (b : UInt8) (s : St) : callN E (M + 1) 16 [.int .u8 (b.toNat : Int)] s = some (.bool (isL b), s) := by
  rw [x16]; unfold F16 isL
  simp only [es, cond_true, cond_false, eq_self]
  cases decide (97 ≤ (b.toNat : Int)) <;> simp only [es, cond_true, cond_false, eq_self] <;> rfl
theorem r17 (M : Nat) (b : UInt8) (s : St) : callN E (M + 1) 17 [.int .u8 (b.toNat : Int)] s = some (.bool (isD b), s) := by
  rw [x17]; unfold F17 isD
  simp only [es, cond_true, cond_false, eq_self]
  cases decide (48 ≤ (b.toNat : Int)) <;> simp only [es, cond_true, cond_false, eq_self] <;> rfl
theorem run_l (M N : Nat) (l : List UInt8) (hl : l.length ≤ 9000) (a : Nat) (z : Value) :
    ∀ (r : List UInt8) (i fuel : Nat) (s : St), l.drop (a + i) = r → a + i + r.length = l.length → r.length < fuel →
      loopV (B19_l0 (callN E (M + 1)) N ((.string ⟨⟨l⟩⟩), (.int .i64 (a : Int)), z)) fuel (.int .i64 (i : Int)) s = some (.exit 0, ((.int .i64 ((i + cntF isD r : Nat) : Int)), s))
  | [], i, fuel, s, hr, hi, hf => by
    obtain ⟨fuel, rfl⟩ : ∃ m, fuel = m + 1 := ⟨fuel - 1, by simp at hf; omega⟩
    simp only [List.length_nil] at hi
    have a1 : int2 addO (.int .i64 (a : Int)) (.int .i64 (i : Int)) = some (.int .i64 ((a + i : Nat) : Int)) := by rw [add_e _ _ (by omega) (by omega)]; congr 2
    have e1 : decide (((a + i : Nat) : Int) < (l.length : Int)) = false := decide_eq_false (by omega)
    rw [loopV_s, B19_l0]
    simp only [es, cond_true, cond_false, eq_self, a1, lenS_u, e1]
    rfl
  | b :: r, i, fuel, s, hr, hi, hf => by
    obtain ⟨fuel, rfl⟩ : ∃ m, fuel = m + 1 := ⟨fuel - 1, by simp at hf; omega⟩
    simp only [List.length_cons] at hi hf
    have a1 : int2 addO (.int .i64 (a : Int)) (.int .i64 (i : Int)) = some (.int .i64 ((a + i : Nat) : Int)) := by rw [add_e _ _ (by omega) (by omega)]; congr 2
    have e1 : decide (((a + i : Nat) : Int) < (l.length : Int)) = true := decide_eq_true (by omega)
    have ha : int2 addO (.int .i64 (i : Int)) (.int .i64 1) = some (.int .i64 ((i + 1 : Nat) : Int)) := by rw [add_e _ _ (by omega) (by omega)]; rfl
    rw [loopV_s, B19_l0]
    simp only [es, cond_true, cond_false, eq_self, a1, lenS_u, e1, idx_at hr, r17]
    rw [cntF_c]
    cases hb : isD b
    · simp only [es, cond_true, cond_false, eq_self]
      rfl
    · simp only [es, cond_true, cond_false, eq_self, ha]
      rw [run_l M N l hl a z r (i + 1) fuel s (by have := drop_next hr; rwa [Nat.add_assoc] at this) (by omega) (by omega)]
      congr 5
      omega
theorem r19 (M : Nat) (hM : 10000 ≤ M) (l : List UInt8) (hl : l.length ≤ 9000) (a : Nat) (ha : a ≤ l.length) (s : St) : callN E (M + 1) 19 [.string ⟨⟨l⟩⟩, .int .i64 (a : Int)] s = some (.int .i64 (cntF isD (l.drop a) : Int), s) := by
  obtain ⟨M, rfl⟩ : ∃ m, M = m + 1 := ⟨M - 1, by omega⟩
  have hd : (l.drop a).length = l.length - a := List.length_drop
  have h : loopV (B19_l0 (callN E (M + 1)) (M + 1) ((.string ⟨⟨l⟩⟩), (.int .i64 (a : Int)), (.int .i64 0))) (M + 1) (.int .i64 0) s = some (.exit 0, ((.int .i64 (cntF isD (l.drop a) : Int)), s)) := by
    have := run_l M (M + 1) l hl a (.int .i64 0) (l.drop a) 0 (M + 1) s rfl (by omega) (by omega)
    rwa [Nat.zero_add] at this
  rw [x19]; unfold F19
  rw [h]
  unfold C19_l0
  simp only [es, cond_true, cond_false, eq_self, J19_r0]
/-- a number of digits, or none -/
def numR (most : Int) (l : List UInt8) : Int × Bool := bif decide (0 ≤ numF most 0 l) then (numF most 0 l, true) else (0, false)
theorem numR_l (rec : Rec) (N : Nat) (most : Int) (h0m : 0 ≤ most) (hm : most ≤ 100000000000000000) (l : List UInt8) (hl : l.length ≤ 10000) (hd : l.all isD = true) (s : St) :
    ∀ (r : List UInt8) (i fuel : Nat) (v : Int) (x y : Value), l.drop i = r → i + r.length = l.length → r.length < fuel → 0 ≤ v → v ≤ most →
      ∃ e w, loopV (B36_l0 rec N ((.string ⟨⟨l⟩⟩), (.int .i64 most))) fuel (x, y, (.int .i64 v), (.int .i64 (i : Int))) s = some (e, (w, s)) ∧
        ((e = .ret ∧ numF most v r = -1 ∧ w.1 = .int .i64 0 ∧ w.2.1 = .bool false) ∨ (e = .exit 0 ∧ 0 ≤ numF most v r ∧ w.2.2.1 = .int .i64 (numF most v r)))
  | [], i, fuel, v, x, y, hr, hi, hf, h0, h1 => by
    obtain ⟨fuel, rfl⟩ : ∃ m, fuel = m + 1 := ⟨fuel - 1, by simp at hf; omega⟩
    have e1 : decide ((i : Int) < (l.length : Int)) = false := decide_eq_false (by simp at hi; omega)
    rw [loopV_s, B36_l0]
    simp only [es, cond_true, cond_false, eq_self, lenS_u, e1]
    exact ⟨_, _, rfl, .inr ⟨rfl, h0, rfl⟩⟩
  | b :: r, i, fuel, v, x, y, hr, hi, hf, h0, h1 => by
    obtain ⟨fuel, rfl⟩ : ∃ m, fuel = m + 1 := ⟨fuel - 1, by simp at hf; omega⟩
    simp only [List.length_cons] at hi hf
    have e1 : decide ((i : Int) < (l.length : Int)) = true := decide_eq_true (by omega)
    have hb : isD b = true := by
      have : b ∈ l := List.mem_of_mem_drop (i := i) (by rw [hr]; exact List.mem_cons_self)
      exact List.all_eq_true.1 hd b this
    have hb := isD_in hb
    have ha : int2 addO (.int .i64 (i : Int)) (.int .i64 1) = some (.int .i64 ((i + 1 : Nat) : Int)) := by rw [add_e _ _ (by omega) (by omega)]; rfl
    have d1 : int2 quoO (.int .i64 most) (.int .i64 10) = some (.int .i64 (most / 10)) := quo_e _ _ h0m (by omega) (by omega)
    have m1 : int2 mulO (.int .i64 10) (.int .i64 v) = some (.int .i64 (10 * v)) := mul_e _ _ (by omega) (by omega)
    have m2 := sub8_u (b.toNat : Int) (by omega) (by omega)
    have m3 : int2 addO (.int .i64 (10 * v)) (.int .i64 ((b.toNat : Int) - 48)) = some (.int .i64 (v * 10 + ((b.toNat : Int) - 48))) := by rw [add_e _ _ (by omega) (by omega), Int.mul_comm]
    rw [loopV_s, B36_l0, numF_c]
    by_cases hq : most / 10 < v
    · have e2 := decide_eq_true hq
      have e3 : decide (most < v * 10 + ((b.toNat : Int) - 48)) = true := decide_eq_true (by omega)
      rw [e3]
      simp only [es, cond_true, cond_false, eq_self, lenS_u, e1, d1, e2]
      exact ⟨_, _, rfl, .inl ⟨rfl, trivial, rfl, rfl⟩⟩
    have e2 := decide_eq_false hq
    by_cases h : most < v * 10 + ((b.toNat : Int) - 48)
    · have e3 := decide_eq_true h
      rw [e3]
      simp (disch := omega) only [es, cond_true, cond_false, eq_self, lenS_u, e1, d1, e2, m1, idx_at hr, m2, conv64_u, m3, e3]
      exact ⟨_, _, rfl, .inl ⟨rfl, trivial, rfl, rfl⟩⟩
    · have e3 := decide_eq_false h
      rw [e3]
      simp (disch := omega) only [es, cond_true, cond_false, eq_self, lenS_u, e1, d1, e2, m1, idx_at hr, m2, conv64_u, m3, e3, ha]
      exact numR_l rec N most h0m hm l hl hd s r (i + 1) fuel (v * 10 + ((b.toNat : Int) - 48)) x y (drop_next hr) (by omega) (by omega) (by omega) (by omega)
theorem r36 (M : Nat) (hM : 10001 ≤ M) (l : List UInt8) (hl : l.length ≤ 10000) (hd : l.all isD = true) (most : Int) (h0 : 0 ≤ most) (hm : most ≤ 100000000000000000) (s : St) :
    callN E (M + 1) 36 [.string ⟨⟨l⟩⟩, .int .i64 most] s = some (tupOf [.int .i64 (numR most l).1, .bool (numR most l).2], s) := by
  obtain ⟨e, w, q1, q2⟩ := numR_l (callN E M) M most h0 hm l hl hd s l 0 M 0 (.int .i64 0) (.bool false) rfl (by omega) (by omega) (by omega) h0
  have q1 : loopV (B36_l0 (callN E M) M ((.string ⟨⟨l⟩⟩), (.int .i64 most))) M ((.int .i64 0), (.bool false), (.int .i64 0), (.int .i64 0)) s = some (e, (w, s)) := q1
  rw [x36]; unfold F36
  rw [q1, op2_s]
  unfold C36_l0 numR
  rcases q2 with ⟨rfl, h1, h2, h3⟩ | ⟨rfl, h1, h2⟩
  · rw [h1, decide_eq_false (by decide)]
    simp only [es, cond_true, cond_false, eq_self, h2, h3]
  · rw [decide_eq_true h1]
    simp only [es, cond_true, cond_false, eq_self, J36_r0, h2]
theorem numF_small (most : Int) : ∀ (l : List UInt8) (v : Int) (k : Nat), l.all isD = true → l.length ≤ k → 0 ≤ v → v * 10 ^ k + (10 ^ k - 1) ≤ most → 0 ≤ numF most v l ∧ numF most v l ≤ v * 10 ^ l.length + (10 ^ l.length - 1)
  | [], v, k, _, _, h0, _ => ⟨h0, by show v ≤ v * 10 ^ 0 + (10 ^ 0 - 1); omega⟩
  | b :: l, v, k, hd, hk, h0, hm => by
    rw [List.all_cons, Bool.and_eq_true] at hd
    have hb := isD_in hd.1
    simp only [List.length_cons] at hk
    obtain ⟨k, rfl⟩ : ∃ j, k = j + 1 := ⟨k - 1, by omega⟩
    have hp : (10 : Int) ^ (k + 1) = 10 ^ k * 10 := Int.pow_succ ..
    have hp2 : (10 : Int) ^ (l.length + 1) = 10 ^ l.length * 10 := Int.pow_succ ..
    have hpos : (1 : Int) ≤ 10 ^ k := Int.pow_pos (by decide)
    have hpos2 : (1 : Int) ≤ 10 ^ l.length := Int.pow_pos (by decide)
    rw [hp] at hm
    have e : v * (10 ^ k * 10) = (v * 10) * 10 ^ k := by rw [Int.mul_comm (10 ^ k) 10, Int.mul_assoc]
    have hle : (v * 10 + ((b.toNat : Int) - 48)) * 10 ^ k + (10 ^ k - 1) ≤ most := by
      have : ((b.toNat : Int) - 48) * 10 ^ k ≤ 9 * 10 ^ k := Int.mul_le_mul_of_nonneg_right (by omega) (by omega)
      rw [Int.add_mul]
      omega
    have hnn : 0 ≤ (v * 10 + ((b.toNat : Int) - 48)) := by omega
    have hv : v * 10 + ((b.toNat : Int) - 48) ≤ most := by
      have : (v * 10 + ((b.toNat : Int) - 48)) * 1 ≤ (v * 10 + ((b.toNat : Int) - 48)) * 10 ^ k := Int.mul_le_mul_of_nonneg_left hpos hnn
      omega
    rw [numF_c, decide_eq_false (by omega), cond_false]
    obtain ⟨i1, i2⟩ := numF_small most l _ k hd.2 (by omega) hnn hle
    refine ⟨i1, ?_⟩
    rw [List.length_cons, hp2]
    have e2 : v * (10 ^ l.length * 10) = (v * 10) * 10 ^ l.length := by rw [Int.mul_comm (10 ^ l.length) 10, Int.mul_assoc]
    have : ((b.toNat : Int) - 48) * 10 ^ l.length ≤ 9 * 10 ^ l.length := Int.mul_le_mul_of_nonneg_right (by omega) (by omega)
    rw [Int.add_mul] at i2
    omega
/-- the bound does not matter if it is not reached -/
theorem numF_most (m n : Int) : ∀ (l : List UInt8) (v : Int) (k : Nat), l.all isD = true → l.length ≤ k → 0 ≤ v → v * 10 ^ k + (10 ^ k - 1) ≤ m → v * 10 ^ k + (10 ^ k - 1) ≤ n → numF m v l = numF n v l
  | [], v, k, _, _, _, _, _ => rfl
  | b :: l, v, k, hd, hk, h0, hm, hn => by
    rw [List.all_cons, Bool.and_eq_true] at hd
    have hb := isD_in hd.1
    simp only [List.length_cons] at hk
    obtain ⟨k, rfl⟩ : ∃ j, k = j + 1 := ⟨k - 1, by omega⟩
    have hp : (10 : Int) ^ (k + 1) = 10 ^ k * 10 := Int.pow_succ ..
    have hpos : (1 : Int) ≤ 10 ^ k := Int.pow_pos (by decide)
    rw [hp] at hm hn
    have e : v * (10 ^ k * 10) = (v * 10) * 10 ^ k := by rw [Int.mul_comm (10 ^ k) 10, Int.mul_assoc]
    have hb9 : ((b.toNat : Int) - 48) * 10 ^ k ≤ 9 * 10 ^ k := Int.mul_le_mul_of_nonneg_right (by omega) (by omega)
    have hnn : 0 ≤ (v * 10 + ((b.toNat : Int) - 48)) := by omega
    have h1 : (v * 10 + ((b.toNat : Int) - 48)) * 1 ≤ (v * 10 + ((b.toNat : Int) - 48)) * 10 ^ k := Int.mul_le_mul_of_nonneg_left hpos hnn
    have hle : (v * 10 + ((b.toNat : Int) - 48)) * 10 ^ k + (10 ^ k - 1) ≤ m := by rw [Int.add_mul]; omega
    have hle2 : (v * 10 + ((b.toNat : Int) - 48)) * 10 ^ k + (10 ^ k - 1) ≤ n := by rw [Int.add_mul]; omega
    rw [numF_c, numF_c, decide_eq_false (by omega), decide_eq_false (by omega), cond_false, cond_false]
    exact numF_most m n l _ k hd.2 (by omega) hnn hle hle2
end Go.Proofs.Ytikdjhlcbkkkfaa.AbsLexO
namespace Go.Proofs.Ytikdjhlcbkkkfaa.AbsLexO
open Go Go.Abs Go.Proofs
set_option maxRecDepth 100000
set_option linter.unusedVariables false
set_option linter.unusedSimpArgs false

attribute [local congr] h_opt2 h_opt h_condV h_cond
/-- a whole and a part -/
def twoR (mw mp c mx cap : Int) (w p : List UInt8) : Int × Bool :=
  bif !(numR mw w).2 || decide (cap < (numR mw w).1) then (0, false) else bif decide (mx < c * (numR mw w).1 + (numR mp p).1) then (0, false) else (c * (numR mw w).1 + (numR mp p).1, true)
theorem numR_in {most : Int} {l : List UInt8} (hd : l.all isD = true) (h0 : 0 ≤ most) : 0 ≤ (numR most l).1 ∧ (numR most l).1 ≤ most := by
  have := numF_in most l 0 hd (by omega) h0
  unfold numR
  by_cases h : 0 ≤ numF most 0 l
  · rw [decide_eq_true h, cond_true]; dsimp only; omega
  · rw [decide_eq_false h]; exact ⟨Int.le_refl _, h0⟩
theorem r20 (M : Nat) (hM : 10003 ≤ M) (w p : List UInt8) (hw : w.length ≤ 10000) (hp : p.length ≤ 10000) (hdw : w.all isD = true) (hdp : p.all isD = true) (s : St) :
    callN E (M + 1) 20 [.string ⟨⟨w⟩⟩, .string ⟨⟨p⟩⟩] s = some (tupOf [.int .i64 (twoR 4503599627370496 99 100 4503599627370496 45035996273704 w p).1, .bool (twoR 4503599627370496 99 100 4503599627370496 45035996273704 w p).2], s) := by
  obtain ⟨M, rfl⟩ : ∃ m, M = m + 1 := ⟨M - 1, by omega⟩
  have q1 := fun s => r36 M (by omega) w hw hdw 4503599627370496 (by omega) (by omega) s
  have q2 := fun s => r36 M (by omega) p hp hdp 99 (by omega) (by omega) s
  have i1 := numR_in (most := 4503599627370496) hdw (by omega)
  have i2 := numR_in (most := 99) hdp (by omega)
  rw [x20]; unfold F20 twoR
  obtain ⟨a, ha⟩ : ∃ a, numR 4503599627370496 w = a := ⟨_, rfl⟩
  obtain ⟨c, hc⟩ : ∃ c, numR 99 p = c := ⟨_, rfl⟩
  rw [ha] at q1 i1 ⊢
  rw [hc] at q2 i2 ⊢
  obtain ⟨a, ok⟩ := a
  obtain ⟨c, ok2⟩ := c
  dsimp only at q1 q2 i1 i2 ⊢
  cases ok with
  | false => simp only [es, cond_true, cond_false, eq_self, q1, q2, Bool.true_or]
  | true =>
    by_cases h1 : 45035996273704 < a
    · have e1 := decide_eq_true h1
      simp only [es, cond_true, cond_false, eq_self, q1, q2, e1, Bool.false_or]
    have e1 := decide_eq_false h1
    have m1 : int2 mulO (.int .i64 100) (.int .i64 a) = some (.int .i64 (100 * a)) := mul_e _ _ (by omega) (by omega)
    have a1 : int2 addO (.int .i64 (100 * a)) (.int .i64 c) = some (.int .i64 (100 * a + c)) := add_e _ _ (by omega) (by omega)
    by_cases h2 : 4503599627370496 < 100 * a + c
    · have e2 := decide_eq_true h2
      simp only [es, cond_true, cond_false, eq_self, q1, q2, e1, Bool.false_or, m1, a1, e2]
    · have e2 := decide_eq_false h2
      simp only [es, cond_true, cond_false, eq_self, q1, q2, e1, Bool.false_or, m1, a1, e2]
def pad4 (p : List UInt8) : List UInt8 := p ++ List.replicate (4 - p.length) 48
theorem pad_l (rec : Rec) (N : Nat) (k : Value × Value × Value) (s : St) : ∀ (j : Nat) (p : List UInt8) (fuel : Nat), p.length + j = 4 → j < fuel → loopV (B35_l0 rec N k) fuel (.string ⟨⟨p⟩⟩) s = some (.exit 0, ((.string ⟨⟨pad4 p⟩⟩), s))
  | 0, p, fuel, hp, hf => by
    obtain ⟨fuel, rfl⟩ : ∃ m, fuel = m + 1 := ⟨fuel - 1, by omega⟩
    have e1 : decide ((p.length : Int) < 4) = false := decide_eq_false (by omega)
    rw [loopV_s, B35_l0]
    simp only [es, cond_true, cond_false, eq_self, lenS_u, e1]
    unfold pad4
    rw [show 4 - p.length = 0 by omega]
    show some _ = some (AExit.exit 0, (Value.string ⟨⟨p ++ []⟩⟩, s))
    rw [List.append_nil]
  | j + 1, p, fuel, hp, hf => by
    obtain ⟨fuel, rfl⟩ : ∃ m, fuel = m + 1 := ⟨fuel - 1, by omega⟩
    have e1 : decide ((p.length : Int) < 4) = true := decide_eq_true (by omega)
    have c1 : str2 catO (.string ⟨⟨p⟩⟩) (.string ⟨⟨[48]⟩⟩) = some (.string ⟨⟨p ++ [48]⟩⟩) := cat_u _ _ (by show p.length + 1 ≤ _; omega)
    rw [loopV_s, B35_l0]
    simp only [es, cond_true, cond_false, eq_self, lenS_u, e1, c1]
    rw [pad_l rec N k s j (p ++ [48]) fuel (by rw [List.length_append]; show p.length + 1 + j = 4; omega) (by omega)]
    have : pad4 (p ++ [48]) = pad4 p := by
      unfold pad4
      rw [List.length_append, show 4 - p.length = (4 - (p.length + [(48 : UInt8)].length)) + 1 by show _ = 4 - (p.length + 1) + 1; omega, List.replicate_succ, List.append_assoc]
      rfl
    rw [this]
theorem pad_all {p : List UInt8} (h : p.all isD = true) : (pad4 p).all isD = true := by
  unfold pad4
  rw [List.all_append, h, Bool.true_and, List.all_eq_true]
  intro x hx
  rw [List.eq_of_mem_replicate hx]
  rfl
theorem pad_len {p : List UInt8} (h : p.length ≤ 4) : (pad4 p).length = 4 := by
  unfold pad4
  rw [List.length_append, List.length_replicate]; omega
theorem r35 (M : Nat) (hM : 10003 ≤ M) (w p : List UInt8) (hw : w.length ≤ 10000) (hp : p.length ≤ 4) (hdw : w.all isD = true) (hdp : p.all isD = true) (s : St) :
    callN E (M + 1) 35 [.string ⟨⟨w⟩⟩, .string ⟨⟨p⟩⟩] s = some (tupOf [.int .i64 (twoR 1000000000000 9999 10000 1000000000000 100000000 w (pad4 p)).1, .bool (twoR 1000000000000 9999 10000 1000000000000 100000000 w (pad4 p)).2], s) := by
  obtain ⟨M, rfl⟩ : ∃ m, M = m + 1 := ⟨M - 1, by omega⟩
  have hl := pad_l (callN E (M + 1)) (M + 1) ((.string ⟨⟨w⟩⟩), (.int .i64 0), (.bool false)) s (4 - p.length) p (M + 1) (by omega) (by omega)
  have q1 := fun s => r36 M (by omega) w hw hdw 1000000000000 (by omega) (by omega) s
  have q2 := fun s => r36 M (by omega) (pad4 p) (by rw [pad_len hp]; omega) (pad_all hdp) 9999 (by omega) (by omega) s
  have i1 := numR_in (most := 1000000000000) hdw (by omega)
  have i2 := numR_in (most := 9999) (pad_all hdp) (by omega)
  rw [x35]; unfold F35 twoR
  rw [hl, op2_s]
  unfold C35_l0
  simp only [es, cond_true, cond_false, eq_self]
  unfold J35_r0
  obtain ⟨a, ha⟩ : ∃ a, numR 1000000000000 w = a := ⟨_, rfl⟩
  obtain ⟨c, hc⟩ : ∃ c, numR 9999 (pad4 p) = c := ⟨_, rfl⟩
  rw [ha] at q1 i1 ⊢
  rw [hc] at q2 i2 ⊢
  obtain ⟨a, ok⟩ := a
  obtain ⟨c, ok2⟩ := c
  dsimp only at q1 q2 i1 i2 ⊢
  cases ok with
  | false => simp only [es, cond_true, cond_false, eq_self, q1, q2, Bool.true_or]
  | true =>
    by_cases h1 : 100000000 < a
    · have e1 := decide_eq_true h1
      simp only [es, cond_true, cond_false, eq_self, q1, q2, e1, Bool.false_or]
    have e1 := decide_eq_false h1
    have m1 : int2 mulO (.int .i64 10000) (.int .i64 a) = some (.int .i64 (10000 * a)) := mul_e _ _ (by omega) (by omega)
    have a1 : int2 addO (.int .i64 (10000 * a)) (.int .i64 c) = some (.int .i64 (10000 * a + c)) := add_e _ _ (by omega) (by omega)
    by_cases h2 : 1000000000000 < 10000 * a + c
    · have e2 := decide_eq_true h2
      simp only [es, cond_true, cond_false, eq_self, q1, q2, e1, Bool.false_or, m1, a1, e2]
    · have e2 := decide_eq_false h2
      simp only [es, cond_true, cond_false, eq_self, q1, q2, e1, Bool.false_or, m1, a1, e2]
/-! signs -/
def SG2 : List (List UInt8) := [[60, 61], [62, 61], [61, 61], [33, 61]]
def SG1 : List UInt8 := [40, 41, 123, 125, 91, 93, 44, 59, 58, 61, 43, 45, 42, 47, 60, 62]
theorem two_l (rec : Rec) (N : Nat) (b : UInt8) (t : List UInt8) (nb c : Nat) :
    ∀ (r : List (List UInt8)) (i fuel : Nat) (x : Value) (u : St), SG2.drop i = r → i + r.length = 4 → r.length < fuel → u.getC nb = some (strV SG2) →
      ∃ e w u', loopV (B21_l0 rec N ((.string ⟨⟨b :: t⟩⟩), (.slice (some ⟨nb, 0, none⟩) 4 c))) fuel (x, (.int .i64 (i : Int))) u = some (e, (w, u')) ∧ Still u u' ∧
        ((∃ v, findS (b :: t) r = some v ∧ e = .ret ∧ w.1 = .string ⟨⟨v⟩⟩) ∨ (findS (b :: t) r = none ∧ e = .exit 0 ∧ w.1 = x))
  | [], i, fuel, x, u, hr, hi, hf, hg => by
    obtain ⟨fuel, rfl⟩ : ∃ m, fuel = m + 1 := ⟨fuel - 1, by simp at hf; omega⟩
    have e1 : decide ((i : Int) < 4) = false := decide_eq_false (by simp at hi; omega)
    rw [loopV_s, B21_l0]
    simp only [es, cond_true, cond_false, eq_self, lenL_e]
    have e1 : decide ((i : Int) < ((4 : Nat) : Int)) = false := e1
    simp only [es, cond_true, cond_false, eq_self, e1]
    exact ⟨_, _, _, rfl, Still.refl _, .inr ⟨rfl, rfl, rfl⟩⟩
  | w :: r, i, fuel, x, u, hr, hi, hf, hg => by
    obtain ⟨fuel, rfl⟩ : ∃ m, fuel = m + 1 := ⟨fuel - 1, by simp at hf; omega⟩
    simp only [List.length_cons] at hi hf
    have e1 : decide ((i : Int) < ((4 : Nat) : Int)) = true := decide_eq_true (by omega)
    have ha : int2 addO (.int .i64 (i : Int)) (.int .i64 1) = some (.int .i64 ((i + 1 : Nat) : Int)) := by rw [add_e _ _ (by omega) (by omega)]; rfl
    obtain ⟨hat, hil⟩ := strV_at hr
    have hwl : w.length = 2 := by
      have : w ∈ SG2 := List.mem_of_mem_drop (i := i) (by rw [hr]; exact List.mem_cons_self)
      have h2 : ∀ w ∈ SG2, w.length = 2 := by decide
      exact h2 w this
    have ih := two_l rec N b t nb c r (i + 1) fuel x
    rw [loopV_s, B21_l0]
    unfold findS
    by_cases h2 : 2 ≤ (b :: t).length
    · have e2 : decide ((2 : Int) ≤ ((b :: t).length : Int)) = true := decide_eq_true (by omega)
      have hsl : ∀ s, oSliceS (.v (.string ⟨⟨b :: t⟩⟩)) none (some (.v (.int .i64 2))) rec PT.nil s = some (.string ⟨⟨(b :: t).take 2⟩⟩, s) := fun s => slS_hi (b :: t) 2 h2 rec s
      have hp : prefF (b :: t) w = decide ((b :: t).take 2 = w) := by
        unfold prefF
        rw [hwl, decide_eq_true h2]; rfl
      rw [hp]
      cases hh : decide ((b :: t).take 2 = w)
      · simp (disch := omega) only [es, cond_true, cond_false, eq_self, lenL_e, e1, lenS_u, e2, hsl, idxL0_u, load_u, hg, hat, eqs_u, hh, ha]
        obtain ⟨e, w', u', q1, q2, q3⟩ := ih (u.seen nb) (drop_succ hr) (by omega) (by omega) ((seen_getC _ _ _).trans hg)
        exact ⟨e, w', u', q1, (Still.seen u nb).trans q2, q3⟩
      · simp (disch := omega) only [es, cond_true, cond_false, eq_self, lenL_e, e1, lenS_u, e2, hsl, idxL0_u, load_u, seen_getC, hg, hat, eqs_u, hh]
        exact ⟨_, _, _, rfl, (Still.seen _ _).trans (Still.seen _ _), .inl ⟨w, rfl, rfl, rfl⟩⟩
    · have e2 : decide ((2 : Int) ≤ ((b :: t).length : Int)) = false := decide_eq_false (by omega)
      have hp : prefF (b :: t) w = false := by
        unfold prefF
        rw [hwl, decide_eq_false h2]; rfl
      rw [hp]
      simp only [es, cond_true, cond_false, eq_self, lenL_e, e1, lenS_u, e2, ha]
      exact ih u (drop_succ hr) (by omega) (by omega) hg
def sg1F (b : UInt8) (r : List UInt8) : Bool := r.any fun c => decide ((b.toNat : Int) = (c.toNat : Int))
theorem one_l (rec : Rec) (N : Nat) (b : UInt8) (t : List UInt8) (s : St) :
    ∀ (r : List UInt8) (i fuel : Nat) (x : Value), SG1.drop i = r → i + r.length = 16 → r.length < fuel →
      ∃ e w, loopV (B21_l1 rec N ((.string ⟨⟨b :: t⟩⟩), (.string ⟨⟨SG1⟩⟩))) fuel (x, (.int .i64 (i : Int))) s = some (e, (w, s)) ∧
        ((sg1F b r = true ∧ e = .ret ∧ w.1 = .string ⟨⟨[b]⟩⟩) ∨ (sg1F b r = false ∧ e = .exit 2))
  | [], i, fuel, x, hr, hi, hf => by
    obtain ⟨fuel, rfl⟩ : ∃ m, fuel = m + 1 := ⟨fuel - 1, by simp at hf; omega⟩
    have e1 : decide ((i : Int) < (SG1.length : Int)) = false := decide_eq_false (by simp at hi; show ¬ (i : Int) < 16; omega)
    rw [loopV_s, B21_l1]
    simp only [es, cond_true, cond_false, eq_self, lenS_u, e1]
    exact ⟨_, _, rfl, .inr ⟨rfl, rfl⟩⟩
  | c :: r, i, fuel, x, hr, hi, hf => by
    obtain ⟨fuel, rfl⟩ : ∃ m, fuel = m + 1 := ⟨fuel - 1, by simp at hf; omega⟩
    simp only [List.length_cons] at hi hf
    have e1 : decide ((i : Int) < (SG1.length : Int)) = true := decide_eq_true (by show (i : Int) < 16; omega)
    have ha : int2 addO (.int .i64 (i : Int)) (.int .i64 1) = some (.int .i64 ((i + 1 : Nat) : Int)) := by rw [add_e _ _ (by omega) (by omega)]; rfl
    have hsl : ∀ s, oSliceS (.v (.string ⟨⟨b :: t⟩⟩)) none (some (.v (.int .i64 1))) rec PT.nil s = some (.string ⟨⟨[b]⟩⟩, s) := fun s => slS_hi (b :: t) 1 (by simp) rec s
    have hany : sg1F b (c :: r) = (decide ((b.toNat : Int) = (c.toNat : Int)) || sg1F b r) := rfl
    rw [loopV_s, B21_l1, hany]
    cases hh : decide ((b.toNat : Int) = (c.toNat : Int))
    · simp only [es, cond_true, cond_false, eq_self, lenS_u, e1, idxS_0, idx_at hr, hh, ha, Bool.false_or]
      exact one_l rec N b t s r (i + 1) fuel x (drop_next hr) (by omega) (by omega)
    · simp only [es, cond_true, cond_false, eq_self, lenS_u, e1, idxS_0, idx_at hr, hh, hsl, Bool.true_or]
      exact ⟨_, _, rfl, .inl ⟨trivial, rfl, rfl⟩⟩
theorem findS_c (l w : List UInt8) (r : List (List UInt8)) : findS l (w :: r) = bif prefF l w then some w else findS l r := rfl
theorem findS_app (l : List UInt8) : ∀ (A B : List (List UInt8)), findS l (A ++ B) = (match findS l A with
    | some w => some w
    | none => findS l B)
  | [], B => rfl
  | w :: A, B => by
    rw [List.cons_append, findS_c, findS_c, findS_app l A B]
    cases prefF l w <;> rfl
theorem pref_one (c b : UInt8) (t : List UInt8) : prefF (b :: t) [c] = (c == b) := by
  unfold prefF
  rw [decide_eq_true (show [c].length ≤ (b :: t).length by simp)]
  show decide ([b] = [c]) = _
  by_cases h : b = c
  · subst h; simp
  · rw [decide_eq_false (by simp [h])]
    simp [Ne.symm h]
theorem findS_one (b : UInt8) (t : List UInt8) : ∀ r : List UInt8, findS (b :: t) (r.map fun c => [c]) = (bif sg1F b r then some [b] else none)
  | [] => rfl
  | c :: r => by
    have hany : sg1F b (c :: r) = (decide ((b.toNat : Int) = (c.toNat : Int)) || sg1F b r) := rfl
    rw [hany]
    show (bif prefF (b :: t) [c] then some [c] else findS (b :: t) (r.map fun c => [c])) = _
    rw [pref_one, findS_one b t r]
    by_cases h : (b.toNat : Int) = (c.toNat : Int)
    · have : c = b := UInt8.toNat_inj.1 (by omega)
      subst this
      rw [decide_eq_true h]; simp
    · have hne : (c == b) = false := by
        rw [beq_eq_false_iff_ne]
        intro e; exact h (by rw [e])
      rw [decide_eq_false h]; simp [hne]
def sgT (l : List UInt8) : List UInt8 := match findS l SG with
  | some w => w
  | none => []
theorem r21 (M : Nat) (hM : 10000 ≤ M) (b : UInt8) (t : List UInt8) (s : St) (hs : s.next ≤ lim) : ∃ s', callN E (M + 1) 21 [.string ⟨⟨b :: t⟩⟩] s = some (.string ⟨⟨sgT (b :: t)⟩⟩, s') ∧ Grew 1 s s' := by
  obtain ⟨e, w, u', q1, q2, q3⟩ := two_l (callN E M) M b t s.next 4 SG2 0 M (.string ⟨⟨[]⟩⟩) (al s (strV SG2)) rfl (by decide) (by show 4 < M; omega) (al_same s _ hs rfl)
  have q1 : loopV (B21_l0 (callN E M) M ((.string ⟨⟨b :: t⟩⟩), (.slice (some ⟨s.next, 0, none⟩) 4 4))) M ((.string ⟨⟨[]⟩⟩), (.int .i64 0)) (al s (strV SG2)) = some (e, (w, u')) := q1
  obtain ⟨e2, w2, p1, p2⟩ := one_l (callN E M) M b t u' SG1 0 M w.1 rfl (by decide) (by show 16 < M; omega)
  have p1 : loopV (B21_l1 (callN E M) M ((.string ⟨⟨b :: t⟩⟩), (.string ⟨⟨[40, 41, 123, 125, 91, 93, 44, 59, 58, 61, 43, 45, 42, 47, 60, 62]⟩⟩))) M (w.1, (.int .i64 0)) u' = some (e2, (w2, u')) := p1
  have hsg : sgT (b :: t) = (match findS (b :: t) SG2 with
    | some w => w
    | none => bif sg1F b SG1 then [b] else []) := by
    unfold sgT
    have : SG = SG2 ++ SG1.map fun c => [c] := rfl
    rw [this, findS_app, findS_one]
    cases findS (b :: t) SG2 with
    | some w => rfl
    | none => cases sg1F b SG1 <;> rfl
  refine ⟨u', ?_, ((Grew.refl s).al _ hs).still q2⟩
  rw [x21]; unfold F21
  rw [bs_u (c := strV SG2) (hc := ?_) (h := hs)]
  · simp only [es, cond_true, cond_false, eq_self, q1]
    unfold C21_l0
    rw [hsg]
    rcases q3 with ⟨v, h1, rfl, h2⟩ | ⟨h1, rfl, h2⟩
    · rw [h1]
      simp only [es, cond_true, cond_false, eq_self, h2]
    · rw [h1]
      simp only [es, cond_true, cond_false, eq_self]
      unfold J21_r1
      simp only [p1, es, cond_true, cond_false, eq_self]
      unfold C21_l1
      rcases p2 with ⟨h3, rfl, h4⟩ | ⟨h3, rfl⟩
      · rw [h3]
        simp only [es, cond_true, cond_false, eq_self, h4]
      · rw [h3]
        simp only [es, cond_true, cond_false, eq_self, J21_r0]
  · kernel_rfl
end Go.Proofs.Ytikdjhlcbkkkfaa.AbsLexO
namespace Go.Proofs.Ytikdjhlcbkkkfaa.AbsLexO
open Go Go.Abs Go.Proofs
set_option maxRecDepth 100000
set_option linter.unusedVariables false
set_option linter.unusedSimpArgs false

attribute [local congr] h_opt2 h_opt h_condV h_cond
/-! the document's days -/
theorem r45 (M : Nat) (y : Int) (s : St) : callN E (M + 1) 45 [.int .i64 y] s = some (.bool (leapF y), s) := by
  rw [x45]; unfold F45 leapF
  cases h1 : decide (y.tmod 4 = 0) <;> cases h2 : decide (y.tmod 100 = 0) <;> cases h3 : decide (y.tmod 400 = 0) <;> simp only [es, cond_true, cond_false, eq_self, rem_t _ 4 (by decide), rem_t _ 100 (by decide), rem_t _ 400 (by decide), h1, h2, h3] <;> rfl
theorem r46 (M : Nat) (y m : Int) (s : St) : callN E (M + 2) 46 [.int .i64 y, .int .i64 m] s = some (.int .i64 (daysF y m), s) := by
  rw [x46]; unfold F46
  by_cases hm : 1 ≤ m ∧ m ≤ 12
  · have : m = 1 ∨ m = 2 ∨ m = 3 ∨ m = 4 ∨ m = 5 ∨ m = 6 ∨ m = 7 ∨ m = 8 ∨ m = 9 ∨ m = 10 ∨ m = 11 ∨ m = 12 := by omega
    rcases this with rfl | rfl | rfl | rfl | rfl | rfl | rfl | rfl | rfl | rfl | rfl | rfl
    case inr.inl =>
      simp only [es, cond_true, cond_false, eq_self, Int.reduceEq, J46_j0, J46_j1, J46_j2, r45]
      unfold daysF
      rw [if_pos rfl]
      cases leapF y <;> simp only [es, cond_true, cond_false, eq_self] <;> rfl
    all_goals
      simp only [es, cond_true, cond_false, eq_self, Int.reduceEq, J46_j0, J46_j1, J46_j2]
      rfl
  · have e1 : decide (m = 1) = false := decide_eq_false (by omega)
    have e2 : decide (m = 2) = false := decide_eq_false (by omega)
    have e3 : decide (m = 3) = false := decide_eq_false (by omega)
    have e4 : decide (m = 4) = false := decide_eq_false (by omega)
    have e5 : decide (m = 5) = false := decide_eq_false (by omega)
    have e6 : decide (m = 6) = false := decide_eq_false (by omega)
    have e7 : decide (m = 7) = false := decide_eq_false (by omega)
    have e8 : decide (m = 8) = false := decide_eq_false (by omega)
    have e9 : decide (m = 9) = false := decide_eq_false (by omega)
    have e10 : decide (m = 10) = false := decide_eq_false (by omega)
    have e11 : decide (m = 11) = false := decide_eq_false (by omega)
    have e12 : decide (m = 12) = false := decide_eq_false (by omega)
    simp only [es, cond_true, cond_false, eq_self, e1, e2, e3, e4, e5, e6, e7, e8, e9, e10, e11, e12, J46_j0, J46_j1, J46_j2]
    unfold daysF
    rw [if_neg (by omega), if_neg (by omega), if_neg (by omega)]
theorem year_step : ∀ k : Nat, k < 300 → beforeF (1900 + (k : Int) + 1) = beforeF (1900 + (k : Int)) + 365 + (if leapF (1900 + (k : Int)) then 1 else 0) := by decide +kernel
theorem years_l (M N : Nat) (y : Nat) (hy : y ≤ 299) (b c d e : Value) (s : St) :
    ∀ (j i fuel : Nat), i + j = y → j < fuel → loopV (B44_l0 (callN E (M + 1)) N ((.int .i64 (1900 + (y : Int))), b, c, d, e)) fuel ((.int .i64 (beforeF (1900 + (i : Int)))), (.int .i64 (1900 + (i : Int)))) s = some (.exit 0, (((.int .i64 (beforeF (1900 + (y : Int)))), (.int .i64 (1900 + (y : Int)))), s))
  | 0, i, fuel, hi, hf => by
    obtain ⟨fuel, rfl⟩ : ∃ m, fuel = m + 1 := ⟨fuel - 1, by omega⟩
    obtain rfl : i = y := by omega
    have e1 : decide (1900 + (i : Int) < 1900 + (i : Int)) = false := decide_eq_false (by omega)
    rw [loopV_s, B44_l0]
    simp only [es, cond_true, cond_false, eq_self, e1]
  | j + 1, i, fuel, hi, hf => by
    obtain ⟨fuel, rfl⟩ : ∃ m, fuel = m + 1 := ⟨fuel - 1, by omega⟩
    have e1 : decide (1900 + (i : Int) < 1900 + (y : Int)) = true := decide_eq_true (by omega)
    have hb := before_in (1900 + (i : Int)) (by omega) (by omega)
    have hst := year_step i (by omega)
    have a1 : int2 addO (.int .i64 (beforeF (1900 + (i : Int)))) (.int .i64 365) = some (.int .i64 (beforeF (1900 + (i : Int)) + 365)) := add_e _ _ (by omega) (by omega)
    have a2 : int2 addO (.int .i64 (beforeF (1900 + (i : Int)) + 365)) (.int .i64 1) = some (.int .i64 (beforeF (1900 + (i : Int)) + 365 + 1)) := add_e _ _ (by omega) (by omega)
    have a3 : int2 addO (.int .i64 (1900 + (i : Int))) (.int .i64 1) = some (.int .i64 (1900 + ((i + 1 : Nat) : Int))) := by rw [add_e _ _ (by omega) (by omega)]; congr 2
    have ih := years_l M N y hy b c d e s j (i + 1) fuel (by omega) (by omega)
    rw [show 1900 + ((i + 1 : Nat) : Int) = 1900 + (i : Int) + 1 by omega, hst, show 1900 + (i : Int) + 1 = 1900 + ((i + 1 : Nat) : Int) by omega] at ih
    rw [loopV_s, B44_l0]
    cases hl : leapF (1900 + (i : Int))
    · simp only [es, cond_true, cond_false, eq_self, e1, a1, r45, hl, a3]
      rw [hl] at ih
      have e0 : beforeF (1900 + (i : Int)) + 365 + (if false = true then (1 : Int) else 0) = beforeF (1900 + (i : Int)) + 365 := by simp
      rw [e0] at ih
      exact ih
    · simp only [es, cond_true, cond_false, eq_self, e1, a1, r45, hl, a2, a3]
      rw [hl] at ih
      have e0 : beforeF (1900 + (i : Int)) + 365 + (if true = true then (1 : Int) else 0) = beforeF (1900 + (i : Int)) + 365 + 1 := by simp
      rw [e0] at ih
      exact ih
theorem mon_l (M N : Nat) (y : Int) (m : Nat) (hy1 : 1900 ≤ y) (hy2 : y ≤ 2199) (hm : m ≤ 11) (a b c : Value) (s : St) :
    ∀ (j i fuel : Nat), i + j = m → j < fuel → loopV (B44_l1 (callN E (M + 2)) N ((.int .i64 y), (.int .i64 ((m : Int) + 1)), a, b, c)) fuel ((.int .i64 (beforeF y + sumTo y i)), (.int .i64 ((i : Int) + 1))) s = some (.exit 2, (((.int .i64 (beforeF y + sumTo y m)), (.int .i64 ((m : Int) + 1))), s))
  | 0, i, fuel, hi, hf => by
    obtain ⟨fuel, rfl⟩ : ∃ m, fuel = m + 1 := ⟨fuel - 1, by omega⟩
    obtain rfl : i = m := by omega
    have e1 : decide ((i : Int) + 1 < (i : Int) + 1) = false := decide_eq_false (by omega)
    rw [loopV_s, B44_l1]
    simp only [es, cond_true, cond_false, eq_self, e1]
  | j + 1, i, fuel, hi, hf => by
    obtain ⟨fuel, rfl⟩ : ∃ m, fuel = m + 1 := ⟨fuel - 1, by omega⟩
    have e1 : decide ((i : Int) + 1 < (m : Int) + 1) = true := decide_eq_true (by omega)
    have hb := before_in y hy1 (by omega)
    have hs := sum_in y i (by omega)
    have hd := days_in y ((i : Int) + 1) (by omega) (by omega)
    have a1 : int2 addO (.int .i64 (beforeF y + sumTo y i)) (.int .i64 (daysF y ((i : Int) + 1))) = some (.int .i64 (beforeF y + sumTo y (i + 1))) := by
      rw [add_e _ _ (by omega) (by omega), Int.add_assoc]; rfl
    have a2 : int2 addO (.int .i64 ((i : Int) + 1)) (.int .i64 1) = some (.int .i64 (((i + 1 : Nat) : Int) + 1)) := by rw [add_e _ _ (by omega) (by omega)]; rfl
    rw [loopV_s, B44_l1]
    simp only [es, cond_true, cond_false, eq_self, e1, r46, a1, a2]
    exact mon_l M N y m hy1 hy2 hm a b c s j (i + 1) fuel (by omega) (by omega)
theorem r44 (M : Nat) (hM : 1000 ≤ M) (y m d : Int) (s : St) : callN E (M + 1) 44 [.int .i64 y, .int .i64 m, .int .i64 d] s = some (tupOf [.int .i64 (ofR y m d).1, .bool (ofR y m d).2], s) := by
  obtain ⟨M, rfl⟩ : ∃ m, M = m + 2 := ⟨M - 2, by omega⟩
  rw [x44]; unfold F44 ofR
  have dm : ¬ (1 ≤ m ∧ m ≤ 12) → daysF y m = 0 := fun h => by unfold daysF; rw [if_neg (by omega), if_neg (by omega), if_neg (by omega)]
  by_cases h1 : y < 1900
  · have e1 := decide_eq_true h1
    rw [if_neg (by omega)]
    simp only [es, cond_true, cond_false, eq_self, e1, Q44_q0, J44_j0]
  have e1 := decide_eq_false h1
  by_cases h2 : 2199 < y
  · have e2 := decide_eq_true h2
    rw [if_neg (by omega)]
    simp only [es, cond_true, cond_false, eq_self, e1, e2, Q44_q0, J44_j0]
  have e2 := decide_eq_false h2
  by_cases h3 : m < 1
  · have e3 := decide_eq_true h3
    rw [if_neg (by have := dm (by omega); omega)]
    simp only [es, cond_true, cond_false, eq_self, e1, e2, e3, Q44_q0, J44_j0]
  have e3 := decide_eq_false h3
  by_cases h4 : 12 < m
  · have e4 := decide_eq_true h4
    rw [if_neg (by have := dm (by omega); omega)]
    simp only [es, cond_true, cond_false, eq_self, e1, e2, e3, e4, Q44_q0, J44_j0]
  have e4 := decide_eq_false h4
  by_cases h5 : d < 1
  · have e5 := decide_eq_true h5
    rw [if_neg (by omega)]
    simp only [es, cond_true, cond_false, eq_self, e1, e2, e3, e4, Q44_q0, e5, J44_j0]
  have e5 := decide_eq_false h5
  by_cases h6 : daysF y m < d
  · have e6 := decide_eq_true h6
    rw [if_neg (by omega)]
    simp only [es, cond_true, cond_false, eq_self, e1, e2, e3, e4, Q44_q0, e5, r46, e6, J44_j0]
  have e6 := decide_eq_false h6
  rw [if_pos (by omega)]
  obtain ⟨k, rfl⟩ : ∃ k : Nat, m = (k : Int) + 1 := ⟨(m - 1).toNat, by omega⟩
  obtain ⟨z, rfl⟩ : ∃ z : Nat, y = 1900 + (z : Int) := ⟨(y - 1900).toNat, by omega⟩
  have hb := before_in (1900 + (z : Int)) (by omega) (by omega)
  have hs := sum_in (1900 + (z : Int)) k (by omega)
  have hd := days_in (1900 + (z : Int)) ((k : Int) + 1) (by omega) (by omega)
  have hy : loopV (B44_l0 (callN E (M + 2)) (M + 2) ((.int .i64 (1900 + (z : Int))), (.int .i64 ((k : Int) + 1)), (.int .i64 d), (.int .i64 0), (.bool false))) (M + 2) ((.int .i64 0), (.int .i64 1900)) s = some (.exit 0, (((.int .i64 (beforeF (1900 + (z : Int)))), (.int .i64 (1900 + (z : Int)))), s)) :=
    years_l (M + 1) (M + 2) z (by omega) (.int .i64 ((k : Int) + 1)) (.int .i64 d) (.int .i64 0) (.bool false) s z 0 (M + 2) (by omega) (by omega)
  have hl := mon_l M (M + 2) (1900 + (z : Int)) k (by omega) (by omega) (by omega) (.int .i64 d) (.int .i64 0) (.bool false) s k 0 (M + 2) (by omega) (by omega)
  have hl : loopV (B44_l1 (callN E (M + 2)) (M + 2) ((.int .i64 (1900 + (z : Int))), (.int .i64 ((k : Int) + 1)), (.int .i64 d), (.int .i64 0), (.bool false))) (M + 2) ((.int .i64 (beforeF (1900 + (z : Int)))), (.int .i64 1)) s = some (.exit 2, (((.int .i64 (beforeF (1900 + (z : Int)) + sumTo (1900 + (z : Int)) k)), (.int .i64 ((k : Int) + 1))), s)) := by
    have e : beforeF (1900 + (z : Int)) + sumTo (1900 + (z : Int)) 0 = beforeF (1900 + (z : Int)) := Int.add_zero _
    rw [e] at hl
    exact hl
  have a1 : int2 addO (.int .i64 (beforeF (1900 + (z : Int)) + sumTo (1900 + (z : Int)) k)) (.int .i64 d) = some (.int .i64 (beforeF (1900 + (z : Int)) + sumTo (1900 + (z : Int)) k + d)) := add_e _ _ (by omega) (by omega)
  have a2 : int2 subO (.int .i64 (beforeF (1900 + (z : Int)) + sumTo (1900 + (z : Int)) k + d)) (.int .i64 1) = some (.int .i64 (beforeF (1900 + (z : Int)) + sumTo (1900 + (z : Int)) k + d - 1)) := sub_e _ _ (by omega) (by omega)
  simp only [es, cond_true, cond_false, eq_self, e1, e2, e3, e4, Q44_q0, e5, r46, e6, J44_j0, J44_j1, hy]
  unfold C44_l0
  simp only [es, cond_true, cond_false, eq_self, J44_r1, hl]
  unfold C44_l1
  simp only [es, cond_true, cond_false, eq_self, J44_r0, a1, a2]
  rw [show ((k : Int) + 1 - 1).toNat = k by omega]
end Go.Proofs.Ytikdjhlcbkkkfaa.AbsLexO
namespace Go.Proofs.Ytikdjhlcbkkkfaa.AbsLexO
open Go Go.Abs Go.Proofs
set_option maxRecDepth 100000
set_option linter.unusedVariables false
set_option linter.unusedSimpArgs false

attribute [local congr] h_opt2 h_opt h_condV h_cond
/-! the document's ReadDay -/
abbrev T3 := Int × Int × Int
def blk3 (v : T3) : List Value := [.int .i64 v.1, .int .i64 v.2.1, .int .i64 v.2.2]
def upd (i : Nat) (v : T3) (c : Int) : T3 := if 7 < i then (v.1, v.2.1, 10 * v.2.2 + c) else if 4 < i then (v.1, 10 * v.2.1 + c, v.2.2) else (10 * v.1 + c, v.2.1, v.2.2)
def vF : Nat → List UInt8 → T3 → Option T3
  | _, [], v => some v
  | i, b :: r, v => if i = 4 ∨ i = 7 then vF (i + 1) r v else bif isD b then vF (i + 1) r (upd i v ((b.toNat : Int) - 48)) else none
def in3 (i : Nat) (v : T3) : Prop := (0 ≤ v.1 ∧ v.1 < 10 ^ i) ∧ (0 ≤ v.2.1 ∧ v.2.1 < 10 ^ i) ∧ (0 ≤ v.2.2 ∧ v.2.2 < 10 ^ i)
theorem in3_up {i : Nat} {v : T3} (h : in3 i v) : in3 (i + 1) v := by
  have hp : (10 : Int) ^ (i + 1) = 10 ^ i * 10 := Int.pow_succ ..
  obtain ⟨⟨h1, h2⟩, ⟨h3, h4⟩, h5, h6⟩ := h
  refine ⟨⟨h1, ?_⟩, ⟨h3, ?_⟩, h5, ?_⟩ <;> rw [hp] <;> omega
theorem in3_upd {i : Nat} {v : T3} {c : Int} (h : in3 i v) (h0 : 0 ≤ c) (h9 : c ≤ 9) : in3 (i + 1) (upd i v c) := by
  have hp : (10 : Int) ^ (i + 1) = 10 ^ i * 10 := Int.pow_succ ..
  obtain ⟨⟨h1, h2⟩, ⟨h3, h4⟩, h5, h6⟩ := h
  unfold upd
  split
  · refine ⟨⟨h1, ?_⟩, ⟨h3, ?_⟩, ?_, ?_⟩ <;> dsimp only <;> first | omega | (rw [hp]; omega)
  · split
    · refine ⟨⟨h1, ?_⟩, ⟨?_, ?_⟩, h5, ?_⟩ <;> dsimp only <;> first | omega | (rw [hp]; omega)
    · refine ⟨⟨?_, ?_⟩, ⟨h3, ?_⟩, h5, ?_⟩ <;> dsimp only <;> first | omega | (rw [hp]; omega)
set_option maxHeartbeats 1000000 in
theorem rd_l (rec : Rec) (N : Nat) (l : List UInt8) (hl : l.length = 10) (vb : Nat) (hvb : vb + 1 < 1099511627776) :
    ∀ (r : List UInt8) (i fuel : Nat) (v : T3) (x y : Value) (u : St), l.drop i = r → i + r.length = 10 → r.length < fuel → in3 i v → u.getC vb = some (blk3 v) →
      ∃ e w u', loopV (B34_l0 rec N ((.string ⟨⟨l⟩⟩), (.slice (some ⟨vb, 0, none⟩) 3 3))) fuel (x, y, (.int .i64 (i : Int))) u = some (e, (w, u')) ∧ u'.next = u.next ∧ (∀ z, z ≠ vb → u'.getC z = u.getC z) ∧
        ((e = .ret ∧ vF i r v = none ∧ w.1 = .int .i64 0 ∧ w.2.1 = .bool false) ∨ (∃ v', e = .exit 0 ∧ vF i r v = some v' ∧ u'.getC vb = some (blk3 v')))
  | [], i, fuel, v, x, y, u, hr, hi, hf, hv, hg => by
    obtain ⟨fuel, rfl⟩ : ∃ m, fuel = m + 1 := ⟨fuel - 1, by simp at hf; omega⟩
    have e1 : decide ((i : Int) < 10) = false := decide_eq_false (by simp at hi; omega)
    rw [loopV_s, B34_l0]
    simp only [es, cond_true, cond_false, eq_self, e1]
    exact ⟨_, _, _, rfl, rfl, fun _ _ => rfl, .inr ⟨v, rfl, rfl, hg⟩⟩
  | b :: r, i, fuel, v, x, y, u, hr, hi, hf, hv, hg => by
    obtain ⟨fuel, rfl⟩ : ∃ m, fuel = m + 1 := ⟨fuel - 1, by simp at hf; omega⟩
    simp only [List.length_cons] at hi hf
    have e1 : decide ((i : Int) < 10) = true := decide_eq_true (by omega)
    have ha : int2 addO (.int .i64 (i : Int)) (.int .i64 1) = some (.int .i64 ((i + 1 : Nat) : Int)) := by rw [add_e _ _ (by omega) (by omega)]; rfl
    have hb8 : b.toNat < 256 := b.toNat_lt
    rw [loopV_s, B34_l0]
    unfold vF
    by_cases h47 : i = 4 ∨ i = 7
    · rw [if_pos h47]
      have ih := rd_l rec N l hl vb hvb r (i + 1) fuel v x y u (drop_next hr) (by omega) (by omega) (in3_up hv) hg
      by_cases h4 : i = 4
      · have e2 : decide ((i : Int) = 4) = true := decide_eq_true (by omega)
        simp only [es, cond_true, cond_false, eq_self, e1, e2, J34_j1, ha]
        exact ih
      · have e2 : decide ((i : Int) = 4) = false := decide_eq_false (by omega)
        have e3 : decide ((i : Int) = 7) = true := decide_eq_true (by omega)
        simp only [es, cond_true, cond_false, eq_self, e1, e2, e3, J34_j1, ha]
        exact ih
    rw [if_neg h47]
    have e2 : decide ((i : Int) = 4) = false := decide_eq_false (by omega)
    have e3 : decide ((i : Int) = 7) = false := decide_eq_false (by omega)
    by_cases h48 : (b.toNat : Int) < 48
    · have e4 := decide_eq_true h48
      have hd : isD b = false := by unfold isD; rw [decide_eq_false (show ¬ 48 ≤ (b.toNat : Int) by omega)]; rfl
      rw [hd]
      simp only [es, cond_true, cond_false, eq_self, e1, e2, e3, idx_at hr, e4]
      exact ⟨_, _, _, rfl, rfl, fun _ _ => rfl, .inl ⟨rfl, trivial, rfl, rfl⟩⟩
    have e4 := decide_eq_false h48
    by_cases h57 : 57 < (b.toNat : Int)
    · have e5 := decide_eq_true h57
      have hd : isD b = false := by unfold isD; rw [decide_eq_false (show ¬ (b.toNat : Int) ≤ 57 by omega), Bool.and_false]
      rw [hd]
      simp only [es, cond_true, cond_false, eq_self, e1, e2, e3, idx_at hr, e4, e5]
      exact ⟨_, _, _, rfl, rfl, fun _ _ => rfl, .inl ⟨rfl, trivial, rfl, rfl⟩⟩
    have e5 := decide_eq_false h57
    have hd : isD b = true := by unfold isD; rw [decide_eq_true (show 48 ≤ (b.toNat : Int) by omega), decide_eq_true (show (b.toNat : Int) ≤ 57 by omega)]; rfl
    rw [hd]
    have m2 := sub8_u (b.toNat : Int) (by omega) (by omega)
    have hp : (10 : Int) ^ i ≤ 10 ^ 10 := by
      have := Nat.pow_le_pow_right (show 0 < 10 by omega) (show i ≤ 10 by omega)
      exact_mod_cast this
    have h10 : (10 : Int) ^ 10 = 10000000000 := by decide
    have hv2 := hv
    obtain ⟨⟨b1, b2⟩, ⟨b3, b4⟩, b5, b6⟩ := hv2
    have nx : ∀ k : Nat, k < 3 → ∀ z (w : St), w.getC vb = some (blk3 v) → oStore 1 (.v (.pointer (some ⟨vb, k, none⟩))) (.v (.int .i64 z)) rec PT.nil w = some (UV, w.set vb (some ((blk3 v).set k (.int .i64 z)))) := fun k hk z w hw => store1_u vb k _ (blk3 v) _ _ _ rfl hw hk
    have fin : ∀ (v' : T3) (w : St), v' = upd i v ((b.toNat : Int) - 48) → w.next = u.next → (∀ z, z ≠ vb → w.getC z = u.getC z) → w.getC vb = some (blk3 v') → ∃ e w2 u', loopV (B34_l0 rec N ((.string ⟨⟨l⟩⟩), (.slice (some ⟨vb, 0, none⟩) 3 3))) fuel (x, y, (.int .i64 ((i + 1 : Nat) : Int))) w = some (e, (w2, u')) ∧ u'.next = u.next ∧ (∀ z, z ≠ vb → u'.getC z = u.getC z) ∧
        ((e = .ret ∧ vF (i + 1) r (upd i v ((b.toNat : Int) - 48)) = none ∧ w2.1 = .int .i64 0 ∧ w2.2.1 = .bool false) ∨ (∃ v', e = .exit 0 ∧ vF (i + 1) r (upd i v ((b.toNat : Int) - 48)) = some v' ∧ u'.getC vb = some (blk3 v'))) := by
      intro v' w hv' hn ho hc
      subst hv'
      obtain ⟨e, w2, u', q1, q2, q3, q4⟩ := rd_l rec N l hl vb hvb r (i + 1) fuel _ x y w (drop_next hr) (by omega) (by omega) (in3_upd hv (by omega) (by omega)) hc
      exact ⟨e, w2, u', q1, q2.trans hn, fun z hz => (q3 z hz).trans (ho z hz), q4⟩
    have hset : ∀ (k : Nat) (z : Value) (v' : T3), (blk3 v).set k z = blk3 v' → ((u.seen vb).set vb (some ((blk3 v).set k z))).next = u.next ∧ (∀ q, q ≠ vb → ((u.seen vb).set vb (some ((blk3 v).set k z))).getC q = u.getC q) ∧ ((u.seen vb).set vb (some ((blk3 v).set k z))).getC vb = some (blk3 v') := fun k z v' h =>
      ⟨by rw [set_next, St.seen_next], fun q hq => by rw [set_ne _ _ _ _ hvb hq, seen_getC], by rw [h]; exact set_same _ _ _ hvb rfl⟩
    have i0 : ∀ w, oIdxAddrL 1 (.v (.slice (some ⟨vb, 0, none⟩) 3 3)) (.v (.int .i64 0)) rec PT.nil w = some (.pointer (some ⟨vb, 0, none⟩), w) := fun w => idxL0_u 1 vb 3 3 0 rec PT.nil w (by omega)
    have i1 : ∀ w, oIdxAddrL 1 (.v (.slice (some ⟨vb, 0, none⟩) 3 3)) (.v (.int .i64 1)) rec PT.nil w = some (.pointer (some ⟨vb, 1, none⟩), w) := fun w => idxL0_u 1 vb 3 3 1 rec PT.nil w (by omega)
    have i2 : ∀ w, oIdxAddrL 1 (.v (.slice (some ⟨vb, 0, none⟩) 3 3)) (.v (.int .i64 2)) rec PT.nil w = some (.pointer (some ⟨vb, 2, none⟩), w) := fun w => idxL0_u 1 vb 3 3 2 rec PT.nil w (by omega)
    have v0 : nth (blk3 v) 0 = some (.int .i64 v.1) := rfl
    have v1 : nth (blk3 v) 1 = some (.int .i64 v.2.1) := rfl
    have v2 : nth (blk3 v) 2 = some (.int .i64 v.2.2) := rfl
    have hgs : (u.seen vb).getC vb = some (blk3 v) := (seen_getC _ _ _).trans hg
    by_cases h7 : 7 < i
    · have e6 : decide (4 < (i : Int)) = true := decide_eq_true (by omega)
      have e7 : decide (7 < (i : Int)) = true := decide_eq_true (by omega)
      have m1 : int2 mulO (.int .i64 10) (.int .i64 v.2.2) = some (.int .i64 (10 * v.2.2)) := mul_e _ _ (by omega) (by omega)
      have a1 : int2 addO (.int .i64 (10 * v.2.2)) (.int .i64 ((b.toNat : Int) - 48)) = some (.int .i64 (10 * v.2.2 + ((b.toNat : Int) - 48))) := add_e _ _ (by omega) (by omega)
      have st := nx 2 (by omega) (10 * v.2.2 + ((b.toNat : Int) - 48)) _ hgs
      simp (disch := omega) only [es, cond_true, cond_false, eq_self, e1, e2, e3, idx_at hr, e4, e5, e6, J34_j0, e7, i2, load_u, hg, v2, m1, m2, conv64_u, a1, st, J34_j1, ha]
      obtain ⟨z1, z2, z3⟩ := hset 2 (.int .i64 (10 * v.2.2 + ((b.toNat : Int) - 48))) (v.1, v.2.1, 10 * v.2.2 + ((b.toNat : Int) - 48)) rfl
      exact fin _ _ (by unfold upd; rw [if_pos h7]) z1 z2 z3
    have e7 : decide (7 < (i : Int)) = false := decide_eq_false (by omega)
    by_cases h4 : 4 < i
    · have e6 : decide (4 < (i : Int)) = true := decide_eq_true (by omega)
      have m1 : int2 mulO (.int .i64 10) (.int .i64 v.2.1) = some (.int .i64 (10 * v.2.1)) := mul_e _ _ (by omega) (by omega)
      have a1 : int2 addO (.int .i64 (10 * v.2.1)) (.int .i64 ((b.toNat : Int) - 48)) = some (.int .i64 (10 * v.2.1 + ((b.toNat : Int) - 48))) := add_e _ _ (by omega) (by omega)
      have st := nx 1 (by omega) (10 * v.2.1 + ((b.toNat : Int) - 48)) _ hgs
      simp (disch := omega) only [es, cond_true, cond_false, eq_self, e1, e2, e3, idx_at hr, e4, e5, e6, J34_j0, e7, i1, load_u, hg, v1, m1, m2, conv64_u, a1, st, J34_j1, ha]
      obtain ⟨z1, z2, z3⟩ := hset 1 (.int .i64 (10 * v.2.1 + ((b.toNat : Int) - 48))) (v.1, 10 * v.2.1 + ((b.toNat : Int) - 48), v.2.2) rfl
      exact fin _ _ (by unfold upd; rw [if_neg h7, if_pos h4]) z1 z2 z3
    · have e6 : decide (4 < (i : Int)) = false := decide_eq_false (by omega)
      have m1 : int2 mulO (.int .i64 10) (.int .i64 v.1) = some (.int .i64 (10 * v.1)) := mul_e _ _ (by omega) (by omega)
      have a1 : int2 addO (.int .i64 (10 * v.1)) (.int .i64 ((b.toNat : Int) - 48)) = some (.int .i64 (10 * v.1 + ((b.toNat : Int) - 48))) := add_e _ _ (by omega) (by omega)
      have st := nx 0 (by omega) (10 * v.1 + ((b.toNat : Int) - 48)) _ hgs
      simp (disch := omega) only [es, cond_true, cond_false, eq_self, e1, e2, e3, idx_at hr, e4, e5, e6, J34_j0, e7, i0, load_u, hg, v0, m1, m2, conv64_u, a1, st, J34_j1, ha]
      obtain ⟨z1, z2, z3⟩ := hset 0 (.int .i64 (10 * v.1 + ((b.toNat : Int) - 48))) (10 * v.1 + ((b.toNat : Int) - 48), v.2.1, v.2.2) rfl
      exact fin _ _ (by unfold upd; rw [if_neg h7, if_neg h4]) z1 z2 z3
theorem ofR_neg (y m d : Int) (h : y = -1 ∨ m = -1 ∨ d = -1) : ofR y m d = (0, false) := by
  unfold ofR
  rw [if_neg]
  intro hh
  rcases h with rfl | rfl | rfl
  · omega
  · have : daysF y (-1) = 0 := by unfold daysF; rw [if_neg (by omega), if_neg (by omega), if_neg (by omega)]
    omega
  · omega
theorem numL_1 (b : UInt8) (l : List UInt8) (a : Int) (h : isD b = false) : numL a (b :: l) = -1 := by rw [numL_c, h]; rfl
theorem numL_2 (b : UInt8) (l : List UInt8) (a : Int) (h : isD b = true) : numL a (b :: l) = numL (10 * a + ((b.toNat : Int) - 48)) l := by rw [numL_c, h, Int.mul_comm]; rfl
theorem vF_y (i : Nat) (b : UInt8) (r : List UInt8) (v : T3) (h : ¬ (i = 4 ∨ i = 7)) (hd : isD b = true) : vF i (b :: r) v = vF (i + 1) r (upd i v ((b.toNat : Int) - 48)) := by
  show (if i = 4 ∨ i = 7 then _ else bif isD b then _ else _) = _
  rw [if_neg h, hd]; rfl
theorem vF_n (i : Nat) (b : UInt8) (r : List UInt8) (v : T3) (h : ¬ (i = 4 ∨ i = 7)) (hd : isD b = false) : vF i (b :: r) v = none := by
  show (if i = 4 ∨ i = 7 then _ else bif isD b then _ else _) = _
  rw [if_neg h, hd]; rfl
theorem vF_s (i : Nat) (b : UInt8) (r : List UInt8) (v : T3) (h : i = 4 ∨ i = 7) : vF i (b :: r) v = vF (i + 1) r v := by
  show (if i = 4 ∨ i = 7 then _ else _) = _
  rw [if_pos h]
theorem vF_y1 (i : Nat) (b : UInt8) (r : List UInt8) (y m d : Int) (h : i < 4) (hd : isD b = true) : vF i (b :: r) (y, m, d) = vF (i + 1) r (10 * y + ((b.toNat : Int) - 48), m, d) := by
  rw [vF_y _ _ _ _ (by omega) hd]; unfold upd; rw [if_neg (by omega), if_neg (by omega)]
theorem vF_y2 (i : Nat) (b : UInt8) (r : List UInt8) (y m d : Int) (h : 4 < i ∧ i < 7) (hd : isD b = true) : vF i (b :: r) (y, m, d) = vF (i + 1) r (y, 10 * m + ((b.toNat : Int) - 48), d) := by
  rw [vF_y _ _ _ _ (by omega) hd]; unfold upd; rw [if_neg (by omega), if_pos (by omega)]
theorem vF_y3 (i : Nat) (b : UInt8) (r : List UInt8) (y m d : Int) (h : 7 < i) (hd : isD b = true) : vF i (b :: r) (y, m, d) = vF (i + 1) r (y, m, 10 * d + ((b.toNat : Int) - 48)) := by
  rw [vF_y _ _ _ _ (by omega) hd]; unfold upd; rw [if_pos (by omega)]
theorem vF_ten (b0 b1 b2 b3 b4 b5 b6 b7 b8 b9 : UInt8) : (vF 0 [b0, b1, b2, b3, b4, b5, b6, b7, b8, b9] (0, 0, 0) = none ∧ ofR (numL 0 [b0, b1, b2, b3]) (numL 0 [b5, b6]) (numL 0 [b8, b9]) = (0, false)) ∨
    vF 0 [b0, b1, b2, b3, b4, b5, b6, b7, b8, b9] (0, 0, 0) = some (numL 0 [b0, b1, b2, b3], numL 0 [b5, b6], numL 0 [b8, b9]) := by
  cases h0 : isD b0
  · exact .inl ⟨vF_n _ _ _ _ (by decide) h0, ofR_neg _ _ _ (.inl (numL_1 _ _ _ h0))⟩
  rw [vF_y1 _ _ _ _ _ _ (by decide) h0, numL_2 _ _ _ h0]
  cases h1 : isD b1
  · exact .inl ⟨vF_n _ _ _ _ (by decide) h1, ofR_neg _ _ _ (.inl (numL_1 _ _ _ h1))⟩
  rw [vF_y1 _ _ _ _ _ _ (by decide) h1, numL_2 _ _ _ h1]
  cases h2 : isD b2
  · exact .inl ⟨vF_n _ _ _ _ (by decide) h2, ofR_neg _ _ _ (.inl (numL_1 _ _ _ h2))⟩
  rw [vF_y1 _ _ _ _ _ _ (by decide) h2, numL_2 _ _ _ h2]
  cases h3 : isD b3
  · exact .inl ⟨vF_n _ _ _ _ (by decide) h3, ofR_neg _ _ _ (.inl (numL_1 _ _ _ h3))⟩
  rw [vF_y1 _ _ _ _ _ _ (by decide) h3, numL_2 _ _ _ h3, vF_s _ _ _ _ (by decide)]
  cases h5 : isD b5
  · exact .inl ⟨vF_n _ _ _ _ (by decide) h5, ofR_neg _ _ _ (.inr (.inl (numL_1 _ _ _ h5)))⟩
  rw [vF_y2 _ _ _ _ _ _ (by decide) h5, numL_2 _ _ _ h5]
  cases h6 : isD b6
  · exact .inl ⟨vF_n _ _ _ _ (by decide) h6, ofR_neg _ _ _ (.inr (.inl (numL_1 _ _ _ h6)))⟩
  rw [vF_y2 _ _ _ _ _ _ (by decide) h6, numL_2 _ _ _ h6, vF_s _ _ _ _ (by decide)]
  cases h8 : isD b8
  · exact .inl ⟨vF_n _ _ _ _ (by decide) h8, ofR_neg _ _ _ (.inr (.inr (numL_1 _ _ _ h8)))⟩
  rw [vF_y3 _ _ _ _ _ _ (by decide) h8, numL_2 _ _ _ h8]
  cases h9 : isD b9
  · exact .inl ⟨vF_n _ _ _ _ (by decide) h9, ofR_neg _ _ _ (.inr (.inr (numL_1 _ _ _ h9)))⟩
  rw [vF_y3 _ _ _ _ _ _ (by decide) h9, numL_2 _ _ _ h9]
  exact .inr rfl
theorem c34_x (rec : Rec) (N : Nat) (k : Value × Value) (v : Value × Value × Value) (s : St) : C34_l0 rec N k (.exit 0) (v, s) = J34_r0 rec N k.2 s := rfl
theorem c34_r (rec : Rec) (N : Nat) (k : Value × Value) (v : Value × Value × Value) (s : St) : C34_l0 rec N k .ret (v, s) = some (oneOf [v.1, v.2.1], s) := rfl
theorem r34 (M : Nat) (hM : 1010 ≤ M) (l : List UInt8) (hl : l.length = 10) (s : St) (hs : s.next + 1 ≤ lim) : ∃ s', callN E (M + 1) 34 [.string ⟨⟨l⟩⟩] s = some (tupOf [.int .i64 (rdF l).1, .bool (rdF l).2], s') ∧ Grew 1 s s' := by
  have hlim : lim = 1000000000 := rfl
  obtain ⟨M, rfl⟩ : ∃ m, M = m + 1 := ⟨M - 1, by omega⟩
  obtain ⟨b0, b1, b2, b3, b4, b5, b6, b7, b8, b9, rfl⟩ := ten hl
  have i4 : ∀ s, oIdxS (.v (.string ⟨⟨[b0, b1, b2, b3, b4, b5, b6, b7, b8, b9]⟩⟩)) (.v (.int .i64 4)) (callN E (M + 1)) PT.nil s = some (.int .u8 (b4.toNat : Int), s) := fun s => idx_at (i := 4) (l := [b0, b1, b2, b3, b4, b5, b6, b7, b8, b9]) (r := [b5, b6, b7, b8, b9]) rfl _ _ s
  have i7 : ∀ s, oIdxS (.v (.string ⟨⟨[b0, b1, b2, b3, b4, b5, b6, b7, b8, b9]⟩⟩)) (.v (.int .i64 7)) (callN E (M + 1)) PT.nil s = some (.int .u8 (b7.toNat : Int), s) := fun s => idx_at (i := 7) (l := [b0, b1, b2, b3, b4, b5, b6, b7, b8, b9]) (r := [b8, b9]) rfl _ _ s
  have el : decide ((([b0, b1, b2, b3, b4, b5, b6, b7, b8, b9] : List UInt8).length : Int) = 10) = true := rfl
  rw [x34]; unfold F34
  have hrd : rdF [b0, b1, b2, b3, b4, b5, b6, b7, b8, b9] = bif decide ((b4.toNat : Int) = 45) && decide ((b7.toNat : Int) = 45) then ofR (numL 0 [b0, b1, b2, b3]) (numL 0 [b5, b6]) (numL 0 [b8, b9]) else (0, false) := rfl
  rw [hrd]
  cases h4 : decide ((b4.toNat : Int) = 45)
  · refine ⟨s, ?_, (Grew.refl s).mono (by omega)⟩
    simp only [es, cond_true, cond_false, eq_self, lenS_u, el, i4, h4, Bool.false_and]
  cases h7 : decide ((b7.toNat : Int) = 45)
  · refine ⟨s, ?_, (Grew.refl s).mono (by omega)⟩
    simp only [es, cond_true, cond_false, eq_self, lenS_u, el, i4, h4, i7, h7, Bool.and_false]
  have hbs : oBuildSlice 3 [(.int .i64 0), (.int .i64 0), (.int .i64 0)] [(0, 1, (.v (.int .i64 0))), (1, 1, (.v (.int .i64 0))), (2, 1, (.v (.int .i64 0)))] (callN E (M + 1)) PT.nil s = some (.slice (some ⟨s.next, 0, none⟩) 3 3, al s (blk3 (0, 0, 0))) := bs_u 3 _ _ _ _ s (by kernel_rfl) (by omega)
  obtain ⟨e, w, u', q1, q2, q3, q4⟩ := rd_l (callN E (M + 1)) (M + 1) [b0, b1, b2, b3, b4, b5, b6, b7, b8, b9] rfl s.next (by omega) [b0, b1, b2, b3, b4, b5, b6, b7, b8, b9] 0 (M + 1) (0, 0, 0) (.int .i64 0) (.bool false) (al s (blk3 (0, 0, 0))) rfl rfl (by show 10 < M + 1; omega) ⟨⟨by decide, by decide⟩, ⟨by decide, by decide⟩, by decide, by decide⟩ (al_same s _ (by omega) rfl)
  have q1 : loopV (B34_l0 (callN E (M + 1)) (M + 1) ((.string ⟨⟨[b0, b1, b2, b3, b4, b5, b6, b7, b8, b9]⟩⟩), (.slice (some ⟨s.next, 0, none⟩) 3 3))) (M + 1) ((.int .i64 0), (.bool false), (.int .i64 0)) (al s (blk3 (0, 0, 0))) = some (e, (w, u')) := q1
  rw [al_next _ _ (by omega)] at q2
  have gg : Grew 1 s u' := ⟨by omega, by omega, fun y hy => (q3 y (by omega)).trans (al_ne _ _ _ (by omega) (by omega))⟩
  have e45 : decide ((45 : Int) = 45) = true := rfl
  rcases q4 with ⟨rfl, h1, h2, h3⟩ | ⟨v', rfl, h1, h2⟩
  · have ho : ofR (numL 0 [b0, b1, b2, b3]) (numL 0 [b5, b6]) (numL 0 [b8, b9]) = (0, false) := by
      rcases vF_ten b0 b1 b2 b3 b4 b5 b6 b7 b8 b9 with ⟨_, h⟩ | h
      · exact h
      · rw [h] at h1; cases h1
    refine ⟨u', ?_, gg⟩
    simp only [es, cond_true, cond_false, eq_self, lenS_u, el, i4, h4, i7, h7, hbs, q1, Bool.and_self]
    rw [c34_r, h2, h3, ho]
    rfl
  · have hv : v' = (numL 0 [b0, b1, b2, b3], numL 0 [b5, b6], numL 0 [b8, b9]) := by
      rcases vF_ten b0 b1 b2 b3 b4 b5 b6 b7 b8 b9 with ⟨h, _⟩ | h
      · rw [h] at h1; cases h1
      · rw [h] at h1; exact (Option.some.inj h1).symm
    have j0 : ∀ w, oIdxAddrL 1 (.v (.slice (some ⟨s.next, 0, none⟩) 3 3)) (.v (.int .i64 0)) (callN E (M + 1)) PT.nil w = some (.pointer (some ⟨s.next, 0, none⟩), w) := fun w => idxL0_u 1 s.next 3 3 0 _ PT.nil w (by omega)
    have j1 : ∀ w, oIdxAddrL 1 (.v (.slice (some ⟨s.next, 0, none⟩) 3 3)) (.v (.int .i64 1)) (callN E (M + 1)) PT.nil w = some (.pointer (some ⟨s.next, 1, none⟩), w) := fun w => idxL0_u 1 s.next 3 3 1 _ PT.nil w (by omega)
    have j2 : ∀ w, oIdxAddrL 1 (.v (.slice (some ⟨s.next, 0, none⟩) 3 3)) (.v (.int .i64 2)) (callN E (M + 1)) PT.nil w = some (.pointer (some ⟨s.next, 2, none⟩), w) := fun w => idxL0_u 1 s.next 3 3 2 _ PT.nil w (by omega)
    have v0 : nth (blk3 v') 0 = some (.int .i64 v'.1) := rfl
    have v1 : nth (blk3 v') 1 = some (.int .i64 v'.2.1) := rfl
    have v2 : nth (blk3 v') 2 = some (.int .i64 v'.2.2) := rfl
    have h44 := fun s => r44 M (by omega) v'.1 v'.2.1 v'.2.2 s
    refine ⟨((u'.seen s.next).seen s.next).seen s.next, ?_, ((gg.seen _).seen _).seen _⟩
    simp only [es, cond_true, cond_false, eq_self, lenS_u, el, i4, h4, i7, h7, hbs, q1, Bool.and_self]
    rw [c34_x]
    unfold J34_r0
    simp only [es, cond_true, cond_false, eq_self, j0, j1, j2, load_u, seen_getC, h2, v0, v1, v2, h44, rV_s, jn_z]
    rw [hv]
end Go.Proofs.Ytikdjhlcbkkkfaa.AbsLexO
namespace Go.Proofs.Ytikdjhlcbkkkfaa.AbsLexO
open Go Go.Abs Go.Proofs
set_option maxRecDepth 100000
set_option linter.unusedVariables false
set_option linter.unusedSimpArgs false

attribute [local congr] h_opt2 h_opt h_condV h_cond
/-! the document's words that begin with digits -/
theorem fin18 (b : Nat) (c : Blk) (v : Value) (s : St) (h : s.getC b = some c) (hn : c.length = 4) : finX [.cell t4 (some 4), .tmp t5] .ret ((PT.put v t5 (PT.put (.pointer (some ⟨b, 0, none⟩)) t4 PT.nil)), s) = some (tupOf [aggOf c, v], s.seen b) := by
  have e4 : (PT.put v t5 (PT.put (.pointer (some ⟨b, 0, none⟩)) t4 PT.nil) : Frm).get t4 = some (.pointer (some ⟨b, 0, none⟩)) := by kernel_rfl
  have e5 : (PT.put v t5 (PT.put (.pointer (some ⟨b, 0, none⟩)) t4 PT.nil) : Frm).get t5 = some v := by kernel_rfl
  have h1 : res1 (PT.put v t5 (PT.put (.pointer (some ⟨b, 0, none⟩)) t4 PT.nil)) s (.cell t4 (some 4)) = some (aggOf c, s.seen b) := by
    show (match orU ((PT.put v t5 (PT.put (.pointer (some ⟨b, 0, none⟩)) t4 PT.nil) : Frm).get t4) with
      | .pointer (some p) => opt2 (s.read p.block p.off 4) fun c s => some (aggOf c, s)
      | _ => none) = _
    rw [e4]
    show (opt2 (s.read b 0 4) fun c s => some (aggOf c, s)) = _
    rw [read_u s b 0 4 c h (by omega), op2_s, List.drop_zero, List.take_of_length_le (by omega)]
  rw [finX_r, res_c, h1, op2_s, res_t, res_n, op2_s, op2_s, e5]
  rfl
theorem len_tk (p : UInt8 → Bool) (l : List UInt8) : (l.take (cntF p l)).length = cntF p l := by rw [List.length_take]; have := cntF_le p l; omega
theorem plF_dt {m : Nat} {l : List UInt8} (h : plF m l ≠ 0) : ∃ r, l = 46 :: r ∧ cntF isD r = plF m l ∧ plF m l ≤ m := by
  obtain ⟨n, hn⟩ : ∃ n, plF m l = n + 1 := ⟨plF m l - 1, by omega⟩
  obtain ⟨r, h1, h2, h3⟩ := plF_two hn
  exact ⟨r, h1, by rw [h2, hn], by rw [hn]; exact h3⟩
/-- a number, or none -/
def oR (x : Int) : Int × Bool := bif decide (x < 0) then (0, false) else (x, true)
theorem oR_n {x : Int} (h : x < 0) : oR x = (0, false) := by unfold oR; rw [decide_eq_true h]; rfl
theorem oR_p {x : Int} (h : ¬ x < 0) : oR x = (x, true) := by unfold oR; rw [decide_eq_false h]; rfl
theorem cap_n {m x : Int} (h : m < x) : capF m x = -1 := by unfold capF; rw [decide_eq_true h]; rfl
theorem cap_p {m x : Int} (h : ¬ m < x) : capF m x = x := by unfold capF; rw [decide_eq_false h]; rfl
section
variable {mw mp c mx cap v q : Int} {w p : List UInt8}
theorem numR_n {m : Int} {l : List UInt8} (h : ¬ 0 ≤ numF m 0 l) : numR m l = (0, false) := by unfold numR; rw [decide_eq_false h]; rfl
theorem numR_p {m x : Int} {l : List UInt8} (h : numF m 0 l = x) (h0 : 0 ≤ x) : numR m l = (x, true) := by unfold numR; rw [h, decide_eq_true h0]; rfl
theorem two_no (h : numR mw w = (0, false)) : twoR mw mp c mx cap w p = (0, false) := by unfold twoR; rw [h]; rfl
theorem two_big (h : numR mw w = (v, true)) (hc : cap < v) : twoR mw mp c mx cap w p = (0, false) := by
  unfold twoR; rw [h]; show (bif !true || decide (cap < v) then _ else _) = _
  rw [decide_eq_true hc]; rfl
theorem two_over (h : numR mw w = (v, true)) (h2 : numR mp p = (q, true)) (hc : ¬ cap < v) (hm : mx < c * v + q) : twoR mw mp c mx cap w p = (0, false) := by
  unfold twoR; rw [h, h2]; show (bif !true || decide (cap < v) then _ else bif decide (mx < c * v + q) then _ else _) = _
  rw [decide_eq_false hc, decide_eq_true hm]; rfl
theorem two_ok (h : numR mw w = (v, true)) (h2 : numR mp p = (q, true)) (hc : ¬ cap < v) (hm : ¬ mx < c * v + q) : twoR mw mp c mx cap w p = (c * v + q, true) := by
  unfold twoR; rw [h, h2]; show (bif !true || decide (cap < v) then _ else bif decide (mx < c * v + q) then _ else (c * v + q, true)) = _
  rw [decide_eq_false hc, decide_eq_false hm]; rfl
end
/-- a part of a number, with noughts -/
theorem two_rate (r : List UInt8) (part : List UInt8) (hpart : part = bif decide (0 < plF 4 (r.drop (cntF isD r))) then (r.drop (cntF isD r + 1)).take (plF 4 (r.drop (cntF isD r))) else []) :
    part.length ≤ 4 ∧ part.all isD = true ∧ twoR 1000000000000 9999 10000 1000000000000 100000000 (r.take (cntF isD r)) (pad4 part) = oR (capF 1000000000000 (rtV r)) := by
  have hall := cntF_all isD r
  have hk4 := plF_le 4 (r.drop (cntF isD r))
  have hv := numF_in 1000000000000 (r.take (cntF isD r)) 0 hall (by omega) (by omega)
  have hpt : part.length = plF 4 (r.drop (cntF isD r)) ∧ part.all isD = true := by
    by_cases hk : 0 < plF 4 (r.drop (cntF isD r))
    · rw [decide_eq_true hk, cond_true] at hpart
      obtain ⟨q, hq, hqc, _⟩ := plF_dt (m := 4) (l := r.drop (cntF isD r)) (by omega)
      have hd : r.drop (cntF isD r + 1) = q := by rw [← List.drop_drop, hq]; rfl
      rw [hpart, hd, ← hqc]
      exact ⟨len_tk isD q, cntF_all isD q⟩
    · rw [decide_eq_false hk, cond_false] at hpart
      rw [hpart]
      exact ⟨by show 0 = _; omega, rfl⟩
  have hpl : part.length ≤ 4 := by omega
  have hpa := pad_all hpt.2
  have hpn := pad_len hpl
  have hsm := numF_small 9999 (pad4 part) 0 4 hpa (by omega) (by omega) (by decide)
  have hmo := numF_most 10000 9999 (pad4 part) 0 4 hpa (by omega) (by omega) (by decide) (by decide)
  rw [hpn] at hsm
  have h104 : (0 : Int) * 10 ^ 4 + (10 ^ 4 - 1) = 9999 := by decide
  rw [h104] at hsm
  refine ⟨hpl, hpt.2, ?_⟩
  have hrt : rtV r = bif decide (0 ≤ numF 1000000000000 0 (r.take (cntF isD r))) then
      (bif decide (numF 1000000000000 0 (r.take (cntF isD r)) * 10000 ≤ 1000000000000) && decide (0 < plF 4 (r.drop (cntF isD r))) then
        numF 1000000000000 0 (r.take (cntF isD r)) * 10000 + numF 9999 0 (pad4 part)
      else numF 1000000000000 0 (r.take (cntF isD r)) * 10000)
    else numF 1000000000000 0 (r.take (cntF isD r)) := by
    unfold rtV
    by_cases hk : 0 < plF 4 (r.drop (cntF isD r))
    · rw [decide_eq_true hk, cond_true] at hpart
      have e : (r.drop (cntF isD r + 1)).take (plF 4 (r.drop (cntF isD r))) ++ List.replicate (4 - plF 4 (r.drop (cntF isD r))) 48 = pad4 part := by
        unfold pad4
        rw [hpt.1, hpart]
      rw [e, hmo]
    · rw [decide_eq_false hk]
      simp only [Bool.and_false, cond_false]
  have h0p : ¬ 0 < plF 4 (r.drop (cntF isD r)) → numF 9999 0 (pad4 part) = 0 := by
    intro hk
    rw [decide_eq_false hk, cond_false] at hpart
    rw [hpart]; rfl
  rw [hrt]
  obtain ⟨v, hvv⟩ : ∃ v, numF 1000000000000 0 (r.take (cntF isD r)) = v := ⟨_, rfl⟩
  obtain ⟨p, hpp⟩ : ∃ p, numF 9999 0 (pad4 part) = p := ⟨_, rfl⟩
  rw [hvv] at hv ⊢
  rw [hpp] at hsm h0p ⊢
  have n2 := numR_p hpp (by omega)
  by_cases h0 : 0 ≤ v
  rotate_left
  · rw [two_no (numR_n (by rw [hvv]; exact h0)), decide_eq_false h0, cond_false, cap_p (by omega), oR_n (by omega)]
  have n1 := numR_p hvv h0
  rw [decide_eq_true h0, cond_true]
  by_cases h8 : 100000000 < v
  · rw [two_big n1 h8, decide_eq_false (show ¬ v * 10000 ≤ 1000000000000 by omega), Bool.false_and, cond_false, cap_n (by omega), oR_n (by omega)]
  rw [decide_eq_true (show v * 10000 ≤ 1000000000000 by omega), Bool.true_and]
  by_cases hk : 0 < plF 4 (r.drop (cntF isD r))
  · rw [decide_eq_true hk, cond_true]
    by_cases hc : 1000000000000 < 10000 * v + p
    · rw [two_over n1 n2 h8 hc, cap_n (by omega), oR_n (by omega)]
    · rw [two_ok n1 n2 h8 hc, cap_p (by omega), oR_p (by omega), Int.mul_comm]
  · have hp0 := h0p hk
    subst hp0
    rw [decide_eq_false hk, cond_false]
    rw [two_ok n1 n2 h8 (by omega), cap_p (by omega), oR_p (by omega), Int.mul_comm, Int.add_zero]
theorem two_money (r : List UInt8) (part : List UInt8) (hpart : part = bif decide (plF 2 (r.drop (cntF isD r)) = 2) then (r.drop (cntF isD r + 1)).take 2 else []) (h0c : cntF isD r ≠ 0) :
    part.length ≤ 2 ∧ part.all isD = true ∧ twoR 4503599627370496 99 100 4503599627370496 45035996273704 (r.take (cntF isD r)) part = oR (moneyF r).2 := by
  have hall := cntF_all isD r
  have hv := numF_in 4503599627370496 (r.take (cntF isD r)) 0 hall (by omega) (by omega)
  obtain ⟨v, hvv⟩ : ∃ v, numF 4503599627370496 0 (r.take (cntF isD r)) = v := ⟨_, rfl⟩
  rw [hvv] at hv
  unfold moneyF
  rw [decide_eq_false h0c, cond_false, hvv]
  by_cases hk : plF 2 (r.drop (cntF isD r)) = 2
  · rw [decide_eq_true hk, cond_true] at hpart
    obtain ⟨q, hq, hqc, _⟩ := plF_dt (m := 2) (l := r.drop (cntF isD r)) (by omega)
    have hd : r.drop (cntF isD r + 1) = q := by rw [← List.drop_drop, hq]; rfl
    rw [hd] at hpart ⊢
    have hpl : part.length = 2 := by rw [hpart, ← hk, ← hqc]; exact len_tk isD q
    have hpa : part.all isD = true := by rw [hpart, ← hk, ← hqc]; exact cntF_all isD q
    refine ⟨by omega, hpa, ?_⟩
    have hsm := numF_small 99 part 0 2 hpa (by omega) (by omega) (by decide)
    have hmo := numF_most 100 99 part 0 2 hpa (by omega) (by omega) (by decide) (by decide)
    rw [hpl] at hsm
    have h104 : (0 : Int) * 10 ^ 2 + (10 ^ 2 - 1) = 99 := by decide
    rw [h104] at hsm
    rw [decide_eq_true hk, cond_true, ← hpart, hmo]
    obtain ⟨p, hpp⟩ : ∃ p, numF 99 0 part = p := ⟨_, rfl⟩
    rw [hpp] at hsm ⊢
    have n2 := numR_p hpp (by omega)
    dsimp only
    by_cases h0 : 0 ≤ v
    rotate_left
    · rw [two_no (numR_n (by rw [hvv]; exact h0)), decide_eq_false h0, cond_false, cap_p (by omega), oR_n (by omega)]
    have n1 := numR_p hvv h0
    rw [decide_eq_true h0, cond_true]
    by_cases h8 : 45035996273704 < v
    · rw [two_big n1 h8, cap_n (by omega), oR_n (by omega)]
    by_cases hc : 4503599627370496 < 100 * v + p
    · rw [two_over n1 n2 h8 hc, cap_n (by omega), oR_n (by omega)]
    · rw [two_ok n1 n2 h8 hc, cap_p (by omega), oR_p (by omega), Int.mul_comm]
  · rw [decide_eq_false hk, cond_false] at hpart
    refine ⟨by rw [hpart]; exact Nat.zero_le _, by rw [hpart]; rfl, ?_⟩
    rw [decide_eq_false hk, cond_false]
    have n2 : numR 99 part = (0, true) := by rw [hpart]; rfl
    dsimp only
    by_cases h0 : 0 ≤ v
    rotate_left
    · rw [two_no (numR_n (by rw [hvv]; exact h0)), decide_eq_false h0, cond_false, cap_p (by omega), oR_n (by omega)]
    have n1 := numR_p hvv h0
    rw [decide_eq_true h0, cond_true]
    by_cases h8 : 45035996273704 < v
    · rw [two_big n1 h8, cap_n (by omega), oR_n (by omega)]
    by_cases hc : 4503599627370496 < 100 * v + 0
    · rw [two_over n1 n2 h8 hc, cap_n (by omega), oR_n (by omega)]
    · rw [two_ok n1 n2 h8 hc, cap_p (by omega), oR_p (by omega), Int.mul_comm, Int.add_zero]
theorem two_cnt (r : List UInt8) : numR 4503599627370496 (r.take (cntF isD r)) = oR (cntN r).2 := by
  unfold numR cntN oR
  dsimp only
  by_cases h : 0 ≤ numF 4503599627370496 0 (r.take (cntF isD r))
  · rw [decide_eq_true h, decide_eq_false (by omega)]; rfl
  · rw [decide_eq_false h, decide_eq_true (by omega)]; rfl
/-- a word's cells, its place among them -/
def wat (r : List UInt8) (w : Int × Nat × Int) (a : Nat) : List Value := bif decide (w.1 = 0) then zw else [.int .i64 w.1, .string ⟨⟨r.take w.2.1⟩⟩, .int .i64 w.2.2, .int .i64 (a : Int)]
theorem buildA (kk v a : Int) (l : List UInt8) (rec : Rec) (s : St) : oBuild zw [(0, 1, (.v (.int .i64 kk))), (1, 1, (.v (.string ⟨⟨l⟩⟩))), (2, 1, (.v (.int .i64 v))), (3, 1, (.v (.int .i64 a)))] rec PT.nil s = some (aggOf [.int .i64 kk, .string ⟨⟨l⟩⟩, .int .i64 v, .int .i64 a], s) := by kernel_rfl
theorem mk_0 {kk : Int} {p : Nat × Int} (h : p.2 < 0) : mkW kk p = W0 := by
  unfold mkW; rw [decide_eq_true h, Bool.or_true]; rfl
theorem mk_1 {kk : Int} {p : Nat × Int} (h : ¬ p.2 < 0) (h0 : p.1 ≠ 0) : mkW kk p = (kk, p.1, p.2) := by
  unfold mkW; rw [decide_eq_false h, decide_eq_false h0]; rfl
end Go.Proofs.Ytikdjhlcbkkkfaa.AbsLexO
