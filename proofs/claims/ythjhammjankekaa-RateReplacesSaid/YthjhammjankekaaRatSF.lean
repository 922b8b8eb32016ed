import Derived.Test.YthjhammjankekaaRatSD
namespace Go.Proofs.Ythjhammjankekaa.AbsRatO
open Go Go.Abs Go.Proofs
set_option maxRecDepth 100000
set_option linter.unusedVariables false
set_option linter.unusedSimpArgs false
/-! RateDays: the plain law: a sum is the sum of its days' rates -/
def atF (r : Int) : List (Int × Int) → Int → Int
  | [], _ => r
  | p :: l, d => if d < p.1 then r else atF p.2 l d
theorem atF_rate : ∀ (m : List (Int × Int)) (d r : Int) (k : Nat), Behind m d k → (if k = 0 then r else rateK m k) = atF r m d
  | [], d, r, k, h => by
    have : k = 0 := by simpa using h.1
    subst this; rfl
  | p :: m, d, r, 0, h => by
    have := h.2.2 0 (by simp) (Nat.le_refl _)
    rw [if_pos rfl]
    unfold atF
    rw [if_pos (by simpa using this)]
  | p :: m, d, r, k + 1, h => by
    have h0 : p.1 ≤ d := h.2.1 0 (by simp) (by omega)
    have hb : Behind m d k := ⟨by simpa using h.1, fun x hx hk => h.2.1 (x + 1) (by simpa using hx) (by omega), fun x hx hk => h.2.2 (x + 1) (by simpa using hx) (by omega)⟩
    have ih := atF_rate m d p.2 k hb
    rw [if_neg (by omega)]
    unfold atF
    rw [if_neg (by omega), ← ih]
    cases k with
    | zero => rfl
    | succ k =>
      have hk : k < m.length := hb.1
      have hk' : k + 1 < (p :: m).length := by simpa using hk
      rw [if_neg (by omega)]
      show (if h : k + 1 < (p :: m).length then (p :: m)[k + 1].2 else 0) = (if h : k < m.length then m[k].2 else 0)
      rw [dif_pos hk, dif_pos hk']
      rfl
theorem rate_atF (m : List (Int × Int)) (d : Int) (k : Nat) (h : Behind m d k) : rateK m k = atF 0 m d := by
  rw [← atF_rate m d 0 k h]
  cases k with
  | zero => rfl
  | succ k => rfl
theorem gain_step {d e r f t : Int} (h : f ≤ t) : gain d e r f (t + 1) = gain d e r f t + (if d ≤ t ∧ t < e then r else 0) := by
  unfold gain
  by_cases h1 : d ≤ t ∧ t < e
  · rw [if_pos h1, if_pos (by omega)]
    by_cases h2 : 0 < min e t - max d f
    · rw [if_pos h2]
      have : min e (t + 1) - max d f = (min e t - max d f) + 1 := by omega
      rw [this, Int.add_mul, Int.one_mul]
    · rw [if_neg h2]
      have : min e (t + 1) - max d f = 1 := by omega
      rw [this, Int.one_mul, Int.zero_add]
  · rw [if_neg h1, Int.add_zero]
    by_cases h2 : 0 < min e t - max d f
    · have e2 : min e (t + 1) - max d f = min e t - max d f := by omega
      rw [e2]
    · rw [if_neg h2, if_neg (by omega)]
theorem sumP_later (f t : Int) (h : f ≤ t) : ∀ (m : List (Int × Int)) (r : Int), (∀ p ∈ m, t < p.1) → sumP f (t + 1) m = sumP f t m ∧ atF r m t = r
  | [], r, _ => ⟨rfl, rfl⟩
  | p :: m, r, hm => by
    have hp := hm p (List.mem_cons_self ..)
    obtain ⟨a, _⟩ := sumP_later f t h m r fun q hq => hm q (List.mem_cons_of_mem _ hq)
    constructor
    · show gain _ _ _ _ _ + _ = gain _ _ _ _ _ + _
      rw [a, gain_step h, if_neg (by omega), Int.add_zero]
    · unfold atF
      rw [if_pos hp]
theorem sumP_step (f t : Int) (h : f ≤ t) (ht : t ≤ 109572) : ∀ (m : List (Int × Int)) (r : Int), Grows m → sumP f (t + 1) m = sumP f t m + (if ∃ p ∈ m, p.1 ≤ t then atF r m t else 0)
  | [], r, _ => by
    rw [if_neg (by simp)]
    rfl
  | p :: m, r, hg => by
    have hg' := List.pairwise_cons.1 hg
    by_cases h1 : t < p.1
    · have all : ∀ q ∈ p :: m, t < q.1 := fun q hq => by
        rcases List.mem_cons.1 hq with e | e
        · rw [e]; exact h1
        · have := hg'.1 q e; omega
      rw [(sumP_later f t h (p :: m) r all).1, if_neg (by
        rintro ⟨q, hq, hle⟩
        have := all q hq
        omega), Int.add_zero]
    · rw [if_pos ⟨p, List.mem_cons_self .., by omega⟩]
      have e1 : atF r (p :: m) t = atF p.2 m t := by
        show (if t < p.1 then r else atF p.2 m t) = _
        rw [if_neg h1]
      rw [e1]
      show gain _ _ _ _ _ + sumP f (t + 1) m = gain _ _ _ _ _ + sumP f t m + _
      by_cases h2 : t < nxt m
      · have all : ∀ q ∈ m, t < q.1 := by
          cases m with
          | nil => intro q hq; cases hq
          | cons q m =>
            intro q' hq'
            have hq : t < q.1 := h2
            rcases List.mem_cons.1 hq' with e | e
            · rw [e]; exact hq
            · have := (List.pairwise_cons.1 hg'.2).1 q' e; omega
        obtain ⟨a, b⟩ := sumP_later f t h m p.2 all
        rw [a, b, gain_step h, if_pos ⟨by omega, h2⟩]
        omega
      · have ih := sumP_step f t h ht m p.2 hg'.2
        rw [ih, gain_step h, if_neg (by omega), Int.add_zero, Int.add_assoc]
        congr 2
        cases m with
        | nil =>
          exfalso
          have : nxt [] = 109573 := rfl
          omega
        | cons q m =>
          have hq : ¬ t < q.1 := h2
          rw [if_pos ⟨q, List.mem_cons_self .., by omega⟩]
theorem sumP_at (f t : Int) (h : f ≤ t) (ht : t ≤ 109572) (m : List (Int × Int)) (hg : Grows m) : sumP f (t + 1) m = sumP f t m + atF 0 m t := by
  rw [sumP_step f t h ht m 0 hg]
  by_cases hx : ∃ p ∈ m, p.1 ≤ t
  · rw [if_pos hx]
  · rw [if_neg hx]
    have := (sumP_later f t h m 0 fun p hp => by
      rcases Int.lt_or_le t p.1 with h | h
      · exact h
      · exact absurd ⟨p, hp, h⟩ hx).2
    rw [this]
theorem sumP_nil (f : Int) : ∀ m : List (Int × Int), sumP f f m = 0
  | [] => rfl
  | p :: m => by
    show gain _ _ _ _ _ + sumP f f m = 0
    rw [sumP_nil f m]
    unfold gain
    rw [if_neg (by omega)]
    rfl
/-- the days' rates, added -/
def sumA (m : List (Int × Int)) (f : Int) : Nat → Int
  | 0 => 0
  | n + 1 => sumA m f n + atF 0 m (f + n)
theorem sumP_sumA (m : List (Int × Int)) (hg : Grows m) (f : Int) : ∀ n : Nat, f + n ≤ 109573 → sumP f (f + n) m = sumA m f n
  | 0, _ => by
    rw [show f + ((0 : Nat) : Int) = f by omega]
    exact sumP_nil f m
  | n + 1, h => by
    have ih := sumP_sumA m hg f n (by omega)
    rw [show f + ((n + 1 : Nat) : Int) = (f + n) + 1 by omega, sumP_at f (f + n) (by omega) (by omega) m hg, ih]
    rfl
theorem sumA_add (m : List (Int × Int)) (f : Int) (c : Nat) : ∀ n : Nat, sumA m f (c + n) = sumA m f c + sumA m (f + c) n
  | 0 => by
    show sumA m f c = sumA m f c + 0
    rw [Int.add_zero]
  | n + 1 => by
    show sumA m f (c + n) + atF 0 m (f + ((c + n : Nat) : Int)) = sumA m f c + (sumA m (f + c) n + atF 0 m (f + c + n))
    rw [sumA_add m f c n, show f + ((c + n : Nat) : Int) = f + c + n by omega, Int.add_assoc]
theorem atF_bound (m : List (Int × Int)) (hm : ∀ p ∈ m, 0 ≤ p.2 ∧ p.2 ≤ 1000000000) (d : Int) : ∀ r : Int, 0 ≤ r ∧ r ≤ 1000000000 → 0 ≤ atF r m d ∧ atF r m d ≤ 1000000000 := by
  induction m with
  | nil => intro r h; exact h
  | cons p m ih =>
    intro r h
    unfold atF
    split
    · exact h
    · exact ih (fun q hq => hm q (List.mem_cons_of_mem _ hq)) p.2 (hm p (List.mem_cons_self ..))
theorem sumA_bound (m : List (Int × Int)) (hm : ∀ p ∈ m, 0 ≤ p.2 ∧ p.2 ≤ 1000000000) (f : Int) : ∀ n : Nat, 0 ≤ sumA m f n ∧ sumA m f n ≤ n * 1000000000
  | 0 => ⟨Int.le_refl _, by simp [sumA]⟩
  | n + 1 => by
    have h1 := sumA_bound m hm f n
    have h2 := atF_bound m hm (f + n) 0 (by omega)
    show 0 ≤ sumA m f n + atF 0 m (f + n) ∧ sumA m f n + atF 0 m (f + n) ≤ _
    omega
end Go.Proofs.Ythjhammjankekaa.AbsRatO
namespace Go.Proofs.Ythjhammjankekaa.AbsRatO
open Go Go.Abs Go.Proofs
set_option maxRecDepth 100000
set_option linter.unusedVariables false
set_option linter.unusedSimpArgs false
/-! RateReplaces: the plain law: puts at days that are apart, in any order -/
theorem insP_mem {d r : Int} {q : Int × Int} : ∀ {l : List (Int × Int)}, Grows l → (q ∈ insP l d r ↔ q = (d, r) ∨ (q ∈ l ∧ q.1 ≠ d))
  | [], _ => by simp [insP]
  | p :: l, h => by
    have h' := List.pairwise_cons.1 h
    have ih := insP_mem (d := d) (r := r) (q := q) h'.2
    unfold insP
    by_cases h1 : d < p.1
    · rw [if_pos h1]
      constructor
      · intro hq
        rcases List.mem_cons.1 hq with e | e
        · exact .inl e
        · refine .inr ⟨e, ?_⟩
          rcases List.mem_cons.1 e with e | e
          · rw [e]; omega
          · have := h'.1 q e; omega
      · rintro (e | ⟨e, _⟩)
        · rw [e]; exact List.mem_cons_self ..
        · exact List.mem_cons_of_mem _ e
    · rw [if_neg h1]
      by_cases h2 : d = p.1
      · rw [if_pos h2]
        constructor
        · intro hq
          rcases List.mem_cons.1 hq with e | e
          · exact .inl e
          · have := h'.1 q e
            exact .inr ⟨List.mem_cons_of_mem _ e, by omega⟩
        · rintro (e | ⟨e, hne⟩)
          · rw [e]; exact List.mem_cons_self ..
          · rcases List.mem_cons.1 e with e | e
            · rw [e] at hne; omega
            · exact List.mem_cons_of_mem _ e
      · rw [if_neg h2]
        constructor
        · intro hq
          rcases List.mem_cons.1 hq with e | e
          · exact .inr ⟨by rw [e]; exact List.mem_cons_self .., by rw [e]; omega⟩
          · rcases ih.1 e with e | ⟨e, hne⟩
            · exact .inl e
            · exact .inr ⟨List.mem_cons_of_mem _ e, hne⟩
        · rintro (e | ⟨e, hne⟩)
          · exact List.mem_cons_of_mem _ (ih.2 (.inl e))
          · rcases List.mem_cons.1 e with e | e
            · rw [e]; exact List.mem_cons_self ..
            · exact List.mem_cons_of_mem _ (ih.2 (.inr ⟨e, hne⟩))
def DaysApart (L : List (Int × Int)) : Prop := L.Pairwise fun a b => a.1 ≠ b.1
theorem putAll_mem {q : Int × Int} : ∀ (L m : List (Int × Int)), Okl m → DaysApart L → (q ∈ putAll m L ↔ (q ∈ L ∧ putE q.1 q.2 = 0) ∨ (q ∈ m ∧ ∀ p ∈ L, putE p.1 p.2 = 0 → p.1 ≠ q.1))
  | [], m, _, _ => by simp [putAll]
  | p :: L, m, hm, hd => by
    have hd' := List.pairwise_cons.1 hd
    have ih := putAll_mem (q := q) L (putV m p.1 p.2) (hm.put _ _) hd'.2
    show q ∈ putAll (putV m p.1 p.2) L ↔ _
    rw [ih]
    by_cases he : putE p.1 p.2 = 0
    · have hpv : putV m p.1 p.2 = insP m p.1 p.2 := if_pos he
      rw [hpv, insP_mem hm.1]
      constructor
      · rintro (⟨a, b⟩ | ⟨a | ⟨a, b⟩, c⟩)
        · exact .inl ⟨List.mem_cons_of_mem _ a, b⟩
        · have : q = p := a
          exact .inl ⟨by rw [this]; exact List.mem_cons_self .., by rw [this]; exact he⟩
        · refine .inr ⟨a, fun p' hp' hp0 => ?_⟩
          rcases List.mem_cons.1 hp' with e | e
          · rw [e]; exact fun h => b h.symm
          · exact c p' e hp0
      · rintro (⟨a, b⟩ | ⟨a, b⟩)
        · rcases List.mem_cons.1 a with e | e
          · exact .inr ⟨.inl (by rw [e]), fun p' hp' _ => by rw [e]; exact fun h => hd'.1 p' hp' h.symm⟩
          · exact .inl ⟨e, b⟩
        · exact .inr ⟨.inr ⟨a, fun h => b p (List.mem_cons_self ..) he h.symm⟩, fun p' hp' => b p' (List.mem_cons_of_mem _ hp')⟩
    · have hpv : putV m p.1 p.2 = m := if_neg he
      rw [hpv]
      constructor
      · rintro (⟨a, b⟩ | ⟨a, b⟩)
        · exact .inl ⟨List.mem_cons_of_mem _ a, b⟩
        · refine .inr ⟨a, fun p' hp' hp0 => ?_⟩
          rcases List.mem_cons.1 hp' with e | e
          · rw [e] at hp0; exact absurd hp0 he
          · exact b p' e hp0
      · rintro (⟨a, b⟩ | ⟨a, b⟩)
        · rcases List.mem_cons.1 a with e | e
          · rw [e] at b; exact absurd b he
          · exact .inl ⟨e, b⟩
        · exact .inr ⟨a, fun p' hp' => b p' (List.mem_cons_of_mem _ hp')⟩
theorem grows_ext : ∀ {l l' : List (Int × Int)}, Grows l → Grows l' → (∀ q, q ∈ l ↔ q ∈ l') → l = l'
  | [], [], _, _, _ => rfl
  | [], q :: l', _, _, h => by have := (h q).2 (List.mem_cons_self ..); cases this
  | p :: l, [], _, _, h => by have := (h p).1 (List.mem_cons_self ..); cases this
  | p :: l, q :: l', hg, hg', h => by
    have a := List.pairwise_cons.1 hg
    have b := List.pairwise_cons.1 hg'
    have hpq : p = q := by
      rcases List.mem_cons.1 ((h p).1 (List.mem_cons_self ..)) with e | e
      · exact e
      · rcases List.mem_cons.1 ((h q).2 (List.mem_cons_self ..)) with e' | e'
        · exact e'.symm
        · have x := b.1 p e
          have y := a.1 q e'
          omega
    subst hpq
    have ih : l = l' := grows_ext a.2 b.2 fun x => by
      constructor
      · intro hx
        rcases List.mem_cons.1 ((h x).1 (List.mem_cons_of_mem _ hx)) with e | e
        · have := a.1 x hx
          rw [e] at this
          omega
        · exact e
      · intro hx
        rcases List.mem_cons.1 ((h x).2 (List.mem_cons_of_mem _ hx)) with e | e
        · have := b.1 x hx
          rw [e] at this
          omega
        · exact e
    rw [ih]
theorem putAll_rev (L : List (Int × Int)) (hd : DaysApart L) : putAll [] L.reverse = putAll [] L := by
  have hr : DaysApart L.reverse := by
    unfold DaysApart
    rw [List.pairwise_reverse]
    exact hd.imp fun h e => h e.symm
  refine grows_ext (putAll_ok _ [] okl_nil).1.1 (putAll_ok _ [] okl_nil).1.1 fun q => ?_
  rw [putAll_mem L.reverse [] okl_nil hr, putAll_mem L [] okl_nil hd]
  simp
theorem atF_later (d : Int) : ∀ (l : List (Int × Int)) (r : Int), (∀ p ∈ l, d < p.1) → atF r l d = r
  | [], r, _ => rfl
  | p :: l, r, h => by
    show (if d < p.1 then r else _) = r
    rw [if_pos (h p (List.mem_cons_self ..))]
theorem atF_insP (d r : Int) : ∀ (l : List (Int × Int)) (x : Int), Grows l → atF x (insP l d r) d = r
  | [], x, _ => by
    show (if d < d then x else r) = r
    rw [if_neg (by omega)]
  | p :: l, x, h => by
    have h' := List.pairwise_cons.1 h
    unfold insP
    by_cases h1 : d < p.1
    · rw [if_pos h1]
      show (if d < d then x else (if d < p.1 then r else _)) = r
      rw [if_neg (by omega), if_pos h1]
    · rw [if_neg h1]
      by_cases h2 : d = p.1
      · rw [if_pos h2]
        show (if d < d then x else atF r l d) = r
        rw [if_neg (by omega)]
        exact atF_later d l r fun q hq => by have := h'.1 q hq; omega
      · rw [if_neg h2]
        show (if d < p.1 then x else atF p.2 (insP l d r) d) = r
        rw [if_neg h1]
        exact atF_insP d r l p.2 h'.2
/-- two tables that share nothing -/
structure Two2 (u : St) (ta : Nat) (va : Value) (ma : List (Int × Int)) (tb : Nat) (vb : Value) (mb : List (Int × Int)) : Prop where
  a : Tab u ta va ma
  b : Tab u tb vb mb
  ne : ta ≠ tb
  ab : blkOf va ≠ some tb
  ba : blkOf vb ≠ some ta
  vv : ∀ y, blkOf va = some y → blkOf vb ≠ some y
theorem Two2.swap {u : St} {ta tb : Nat} {va vb : Value} {ma mb : List (Int × Int)} (h : Two2 u ta va ma tb vb mb) : Two2 u tb vb mb ta va ma :=
  ⟨h.b, h.a, fun e => h.ne e.symm, h.ba, h.ab, fun y hy hy' => h.vv y hy' hy⟩
theorem Two2.put {u u' : St} {ta tb : Nat} {va vb va' : Value} {ma mb ma' : List (Int × Int)} (h : Two2 u ta va ma tb vb mb) (ht : Tab u' ta va' ma') (hn : u.next ≤ u'.next) (hk : ∀ y, y < u.next → y ≠ ta → blkOf va ≠ some y → u'.getC y = u.getC y) (hf : ∀ b, blkOf va' = some b → blkOf va = some b ∨ u.next ≤ b) : Two2 u' ta va' ma' tb vb mb := by
  refine ⟨ht, h.b.keep hn (hk tb h.b.lt (fun e => h.ne e.symm) h.ab) fun y hy => hk y (h.b.blt y hy) (fun e => h.ba (by rw [hy, e])) fun e => h.vv y e hy, h.ne, fun e => ?_, h.ba, fun y hy => ?_⟩
  · rcases hf tb e with e | e
    · exact h.ab e
    · have := h.b.lt; omega
  · rcases hf y hy with e | e
    · exact h.vv y e
    · intro e'
      have := h.b.blt y e'
      omega
theorem Two2.keep {u u' : St} {ta tb : Nat} {va vb : Value} {ma mb : List (Int × Int)} (h : Two2 u ta va ma tb vb mb) (hn : u.next ≤ u'.next) (hk : ∀ y, y < u.next → u'.getC y = u.getC y) : Two2 u' ta va ma tb vb mb :=
  ⟨h.a.keep hn (hk ta h.a.lt) fun y hy => hk y (h.a.blt y hy), h.b.keep hn (hk tb h.b.lt) fun y hy => hk y (h.b.blt y hy), h.ne, h.ab, h.ba, h.vv⟩
end Go.Proofs.Ythjhammjankekaa.AbsRatO
namespace Go.Proofs.Ythjhammjankekaa.AbsRatO
open Go Go.Abs Go.Proofs
set_option maxRecDepth 100000
set_option linter.unusedVariables false
set_option linter.unusedSimpArgs false
attribute [local congr] opt2_cg opt_cg condV_cg cond_cg
/-! RateReplaces: the loops -/
set_option maxHeartbeats 2000000 in
theorem loopF0 (rec : Rec) (N : Nat) (s0 : St) (a0 : Value) (L : List (Int × Int)) (hL : L.length ≤ 60) (hin : Inp s0 a0 L) (i : Nat) (hi : i < L.length) (x1 x2 x7 x8 : Value) :
    ∀ (fuel k : Nat) (fs : Frm) (u : St), Alike s0 u → fs.get t0 = some a0 → fs.get t1 = some x1 → fs.get t2 = some x2 → fs.get t7 = some x7 → fs.get t8 = some x8 → fs.get t9 = some (.int .i64 (i : Int)) → fs.get t10 = some (.int .i64 (k : Int)) → k ≤ i → (∀ x (h : x < L.length), x < k → L[x].1 ≠ L[i].1) → i - k < fuel →
    (∃ fs' u', loopF (c6_l0 rec N) fuel fs u = some (.ret, fs', u') ∧ Alike s0 u' ∧ fs'.get t6 = some (.bool true)) ∨
    (∃ fs' u', loopF (c6_l0 rec N) fuel fs u = some (.exit 2, fs', u') ∧ Alike s0 u' ∧ fs'.get t0 = some a0 ∧ fs'.get t1 = some x1 ∧ fs'.get t2 = some x2 ∧ fs'.get t7 = some x7 ∧ fs'.get t8 = some x8 ∧ fs'.get t9 = some (.int .i64 (i : Int)) ∧ ∀ x (h : x < L.length), x < i → L[x].1 ≠ L[i].1) := by
  intro fuel
  induction fuel with
  | zero => intro k fs u _ _ _ _ _ _ _ _ _ _ h; omega
  | succ fuel ih =>
    intro k fs u hu g0 g1 g2 g7 g8 g9 g10 hk hno hf
    rw [loop_s, d6_l0]
    unfold D6_l0
    by_cases hlt : k < i
    · have e1 : decide ((k : Int) < (i : Int)) = true := decide_eq_true (by omega)
      have hkl : k < L.length := by omega
      obtain ⟨ixk, hs0⟩ := hin.idx hkl
      obtain ⟨ixi, _⟩ := hin.idx hi
      have lk := (Inp.load hkl).1
      have li := (Inp.load hi).1
      have hu0 : u.getC 0 = some (flatV L) := (hu.2 0).trans hs0
      have al2 : Alike s0 ((u.seen 0).seen 0) := ⟨by simp only [St.seen_next, hu.1], fun y => by simp only [seen_getC, hu.2]⟩
      have hai : int2 addO (.int .i64 (k : Int)) (.int .i64 1) = some (.int .i64 ((k + 1 : Nat) : Int)) := by rw [add_e _ _ (by omega) (by omega)]; rfl
      by_cases he : L[k].1 = L[i].1
      · have e2 : decide (L[k].1 = L[i].1) = true := decide_eq_true he
        left
        simp (disch := first | omega | (simp only [s0_getC, seen_getC, hu0])) only [op2_s', op_s', op2_op, op2_op2, op2_cond, ev_v', call_r', map_c', map_n', bin_e', pick_e', not_e, ext_e', nth_z', nth_1', nth_2', nth_3', gval_e, gval_u', cmp_e, orUndef_t', orUndef_f', condV_t', condV_f', cond_true, cond_false, eqI_eq, neI_eq, ltI_eq, leI_eq, gtI_eq', geI_eq, Bool.not_true, Bool.not_false, beq_self_eq_true, tf_beq, ft_beq, eq_self, decide_true, decide_false, oneOf1, orU_some, g0, g1, g2, g7, g8, g9, g10, e1, mov_f', rU_p, ixk, ixi, fieldAddr_e, lk, li, rU_l, e2, hai, thenX_r']
        rw [apartKs [0, 0, 0, 0, 1, 0, 0, 0, 0, 1, 0] (by simp [allK, KindOk]) _ (by kernel_rfl)]
        simp (disch := first | omega | (simp only [s0_getC, seen_getC, hu0])) only [op2_s', op_s', op2_op, op2_op2, op2_cond, ev_v', call_r', map_c', map_n', bin_e', pick_e', not_e, ext_e', nth_z', nth_1', nth_2', nth_3', gval_e, gval_u', cmp_e, orUndef_t', orUndef_f', condV_t', condV_f', cond_true, cond_false, eqI_eq, neI_eq, ltI_eq, leI_eq, gtI_eq', geI_eq, Bool.not_true, Bool.not_false, beq_self_eq_true, tf_beq, ft_beq, eq_self, decide_true, decide_false, oneOf1, orU_some, g0, g1, g2, g7, g8, g9, g10, e1, mov_f', rU_p, ixk, ixi, fieldAddr_e, lk, li, rU_l, e2, hai, thenX_r']
        exact ⟨_, _, rfl, al2, by kernel_rfl⟩
      · have e2 : decide (L[k].1 = L[i].1) = false := decide_eq_false he
        simp (disch := first | omega | (simp only [s0_getC, seen_getC, hu0])) only [op2_s', op_s', op2_op, op2_op2, op2_cond, ev_v', call_r', map_c', map_n', bin_e', pick_e', not_e, ext_e', nth_z', nth_1', nth_2', nth_3', gval_e, gval_u', cmp_e, orUndef_t', orUndef_f', condV_t', condV_f', cond_true, cond_false, eqI_eq, neI_eq, ltI_eq, leI_eq, gtI_eq', geI_eq, Bool.not_true, Bool.not_false, beq_self_eq_true, tf_beq, ft_beq, eq_self, decide_true, decide_false, oneOf1, orU_some, g0, g1, g2, g7, g8, g9, g10, e1, mov_f', rU_p, ixk, ixi, fieldAddr_e, lk, li, rU_l, e2, hai, thenX_n']
        rw [apartKs [0, 0, 0, 0, 1, 0, 0, 0, 0, 1, 0] (by simp [allK, KindOk]) _ (by kernel_rfl)]
        simp (disch := first | omega | (simp only [s0_getC, seen_getC, hu0])) only [op2_s', op_s', op2_op, op2_op2, op2_cond, ev_v', call_r', map_c', map_n', bin_e', pick_e', not_e, ext_e', nth_z', nth_1', nth_2', nth_3', gval_e, gval_u', cmp_e, orUndef_t', orUndef_f', condV_t', condV_f', cond_true, cond_false, eqI_eq, neI_eq, ltI_eq, leI_eq, gtI_eq', geI_eq, Bool.not_true, Bool.not_false, beq_self_eq_true, tf_beq, ft_beq, eq_self, decide_true, decide_false, oneOf1, orU_some, g0, g1, g2, g7, g8, g9, g10, e1, mov_f', rU_p, ixk, ixi, fieldAddr_e, lk, li, rU_l, e2, hai, thenX_n']
        exact ih (k + 1) _ _ al2 ((by kernel_rfl : _ = fs.get t0).trans g0) ((by kernel_rfl : _ = fs.get t1).trans g1) ((by kernel_rfl : _ = fs.get t2).trans g2) ((by kernel_rfl : _ = fs.get t7).trans g7) ((by kernel_rfl : _ = fs.get t8).trans g8) ((by kernel_rfl : _ = fs.get t9).trans g9) (by kernel_rfl) (by omega) (fun x h hx => by
          rcases Nat.lt_or_eq_of_le (Nat.le_of_lt_succ hx) with h1 | h1
          · exact hno x h h1
          · subst h1; exact he) (by omega)
    · have e1 : decide ((k : Int) < (i : Int)) = false := decide_eq_false (by omega)
      right
      simp only [op2_s', op_s', op2_op, op2_op2, op2_cond, ev_v', call_r', map_c', map_n', bin_e', pick_e', not_e, ext_e', nth_z', nth_1', nth_2', nth_3', gval_e, gval_u', cmp_e, orUndef_t', orUndef_f', condV_t', condV_f', cond_true, cond_false, eqI_eq, neI_eq, ltI_eq, leI_eq, gtI_eq', geI_eq, Bool.not_true, Bool.not_false, beq_self_eq_true, tf_beq, ft_beq, eq_self, decide_true, decide_false, oneOf1, orU_some, g9, g10, e1, thenX_e']
      exact ⟨_, _, rfl, hu, (by kernel_rfl : _ = fs.get t0).trans g0, (by kernel_rfl : _ = fs.get t1).trans g1, (by kernel_rfl : _ = fs.get t2).trans g2, (by kernel_rfl : _ = fs.get t7).trans g7, (by kernel_rfl : _ = fs.get t8).trans g8, (by kernel_rfl : _ = fs.get t9).trans g9, fun x h hx => hno x h (by omega)⟩
theorem loopF1 (rec : Rec) (N : Nat) (hN : 2000 ≤ N) (s0 : St) (a0 : Value) (L : List (Int × Int)) (hL : L.length ≤ 60) (hin : Inp s0 a0 L) (x1 x2 x7 x8 : Value) :
    ∀ (fuel i : Nat) (fs : Frm) (u : St), Alike s0 u → fs.get t0 = some a0 → fs.get t1 = some x1 → fs.get t2 = some x2 → fs.get t7 = some x7 → fs.get t8 = some x8 → fs.get t9 = some (.int .i64 (i : Int)) → i ≤ L.length → (∀ y x (h : x < L.length) (h' : y < L.length), x < y → y < i → L[x].1 ≠ L[y].1) → L.length - i < fuel →
    (∃ fs' u', loopF (c6_l1 rec N) fuel fs u = some (.ret, fs', u') ∧ Alike s0 u' ∧ fs'.get t6 = some (.bool true)) ∨
    (∃ fs' u', loopF (c6_l1 rec N) fuel fs u = some (.exit 0, fs', u') ∧ Alike s0 u' ∧ fs'.get t0 = some a0 ∧ fs'.get t1 = some x1 ∧ fs'.get t2 = some x2 ∧ fs'.get t7 = some x7 ∧ fs'.get t8 = some x8 ∧ DaysApart L) := by
  intro fuel
  induction fuel with
  | zero => intro i fs u _ _ _ _ _ _ _ _ _ h; omega
  | succ fuel ih =>
    intro i fs u hu g0 g1 g2 g7 g8 g9 hi hno hf
    have hlen := hin.len
    rw [loop_s, d6_l1]
    unfold D6_l1
    by_cases hlt : i < L.length
    · have e1 : decide ((i : Int) < (L.length : Int)) = true := decide_eq_true (by omega)
      simp only [op2_s', op_s', op2_op, op2_op2, op2_cond, ev_v', call_r', map_c', map_n', bin_e', pick_e', not_e, ext_e', nth_z', nth_1', nth_2', nth_3', gval_e, gval_u', cmp_e, orUndef_t', orUndef_f', condV_t', condV_f', cond_true, cond_false, eqI_eq, neI_eq, ltI_eq, leI_eq, gtI_eq', geI_eq, Bool.not_true, Bool.not_false, beq_self_eq_true, tf_beq, ft_beq, eq_self, decide_true, decide_false, oneOf1, orU_some, g0, g9, hlen, e1]
      rcases loopF0 rec N s0 a0 L hL hin i hlt x1 x2 x7 x8 N 0 (PT.put (.int .i64 0) t10 (PT.put (.bool true) t45 (PT.put (.int .i64 (L.length : Int)) t44 (PT.put a0 t43 (PT.put (.int .i64 (i : Int)) t42 fs))))) u hu ((by kernel_rfl : _ = fs.get t0).trans g0) ((by kernel_rfl : _ = fs.get t1).trans g1) ((by kernel_rfl : _ = fs.get t2).trans g2) ((by kernel_rfl : _ = fs.get t7).trans g7) ((by kernel_rfl : _ = fs.get t8).trans g8) ((by kernel_rfl : _ = fs.get t9).trans g9) (by kernel_rfl) (by omega) (fun x h hx => absurd hx (by omega)) (by omega) with ⟨fs1, u1, r1, r2, r3⟩ | ⟨fs1, u1, r1, r2, p0, p1, p2, p7, p8, p9, hn⟩
      · left
        rw [r1]
        simp only [op2_s', blkX_r, thenX_r']
        exact ⟨_, _, rfl, r2, r3⟩
      · rw [r1]
        have hai : int2 addO (.int .i64 (i : Int)) (.int .i64 1) = some (.int .i64 ((i + 1 : Nat) : Int)) := by rw [add_e _ _ (by omega) (by omega)]; rfl
        simp only [op2_s', blkX_e, Nat.beq_refl, cond_true, blkX_n, thenX_n', d6_r0, D6_r0, op2_s', op_s', op2_op, op2_op2, op2_cond, ev_v', call_r', map_c', map_n', bin_e', pick_e', not_e, ext_e', nth_z', nth_1', nth_2', nth_3', gval_e, gval_u', cmp_e, orUndef_t', orUndef_f', condV_t', condV_f', cond_true, cond_false, eqI_eq, neI_eq, ltI_eq, leI_eq, gtI_eq', geI_eq, Bool.not_true, Bool.not_false, beq_self_eq_true, tf_beq, ft_beq, eq_self, decide_true, decide_false, oneOf1, orU_some, p9, hai]
        exact ih (i + 1) _ u1 r2 ((by kernel_rfl : _ = fs1.get t0).trans p0) ((by kernel_rfl : _ = fs1.get t1).trans p1) ((by kernel_rfl : _ = fs1.get t2).trans p2) ((by kernel_rfl : _ = fs1.get t7).trans p7) ((by kernel_rfl : _ = fs1.get t8).trans p8) (by kernel_rfl) (by omega) (fun y x h h' hx hy => by
          rcases Nat.lt_or_eq_of_le (Nat.le_of_lt_succ hy) with h1 | h1
          · exact hno y x h h' hx h1
          · subst h1; exact hn x h hx) (by omega)
    · have e1 : decide ((i : Int) < (L.length : Int)) = false := decide_eq_false (by omega)
      right
      simp only [op2_s', op_s', op2_op, op2_op2, op2_cond, ev_v', call_r', map_c', map_n', bin_e', pick_e', not_e, ext_e', nth_z', nth_1', nth_2', nth_3', gval_e, gval_u', cmp_e, orUndef_t', orUndef_f', condV_t', condV_f', cond_true, cond_false, eqI_eq, neI_eq, ltI_eq, leI_eq, gtI_eq', geI_eq, Bool.not_true, Bool.not_false, beq_self_eq_true, tf_beq, ft_beq, eq_self, decide_true, decide_false, oneOf1, orU_some, g0, g9, hlen, e1, thenX_e']
      exact ⟨_, _, rfl, hu, (by kernel_rfl : _ = fs.get t0).trans g0, (by kernel_rfl : _ = fs.get t1).trans g1, (by kernel_rfl : _ = fs.get t2).trans g2, (by kernel_rfl : _ = fs.get t7).trans g7, (by kernel_rfl : _ = fs.get t8).trans g8, List.pairwise_iff_getElem.2 fun x y h h' hx => hno y x h h' hx (by omega)⟩
set_option maxHeartbeats 4000000 in
theorem loopF2 (M : Nat) (hM : 2000 ≤ M) (s0 : St) (a0 : Value) (L : List (Int × Int)) (hL : L.length ≤ 60) (hin : Inp s0 a0 L) (ta tb B : Nat) (hB : B + 1000 ≤ lim) (x1 x2 : Value) :
    ∀ (fuel i : Nat) (fs : Frm) (u : St) (va vb : Value), (∀ y, y < 8 → u.getC y = s0.getC y) → 8 ≤ u.next → u.next ≤ B + 9 * i → fs.get t0 = some a0 → fs.get t1 = some x1 → fs.get t2 = some x2 → fs.get t7 = some (.pointer (some ⟨ta, 0, none⟩)) → fs.get t8 = some (.pointer (some ⟨tb, 0, none⟩)) → fs.get t11 = some (.int .i64 (i : Int)) → Two2 u ta va (putAll [] (L.take i)) tb vb (putAll [] (L.reverse.take i)) → i ≤ L.length → L.length - i < fuel →
    ∃ fs' u' va' vb', loopF (c6_l2 (callN E (M + 4)) (M + 4)) fuel fs u = some (.exit 4, fs', u') ∧ (∀ y, y < 8 → u'.getC y = s0.getC y) ∧ 8 ≤ u'.next ∧ u'.next ≤ B + 540 ∧ fs'.get t1 = some x1 ∧ fs'.get t2 = some x2 ∧ fs'.get t7 = some (.pointer (some ⟨ta, 0, none⟩)) ∧ fs'.get t8 = some (.pointer (some ⟨tb, 0, none⟩)) ∧ Two2 u' ta va' (putAll [] L) tb vb' (putAll [] L.reverse) := by
  intro fuel
  induction fuel with
  | zero => intro i fs u va vb _ _ _ _ _ _ _ _ _ _ _ h; omega
  | succ fuel ih =>
    intro i fs u va vb hlow h8 hnx g0 g1 g2 g7 g8 g11 two hi hf
    have hlen := hin.len
    rw [loop_s, d6_l2]
    unfold D6_l2
    by_cases hlt : i < L.length
    · have e1 : decide ((i : Int) < (L.length : Int)) = true := decide_eq_true (by omega)
      have hj : L.length - 1 - i < L.length := by omega
      obtain ⟨hidx, hs0⟩ := hin.idx hlt
      obtain ⟨hidj, _⟩ := hin.idx hj
      obtain ⟨la, lb⟩ := Inp.load hlt
      obtain ⟨ka, kb⟩ := Inp.load hj
      have hu0 : u.getC 0 = some (flatV L) := (hlow 0 (by omega)).trans hs0
      obtain ⟨oka, okla⟩ := putAll_ok (L.take i) [] okl_nil
      obtain ⟨okb, oklb⟩ := putAll_ok (L.reverse.take i) [] okl_nil
      have hma : (putAll [] (L.take i)).length < 256 := by
        have : (L.take i).length ≤ 60 := by simp; omega
        simp at okla; omega
      have hmb : (putAll [] (L.reverse.take i)).length < 256 := by
        have : (L.reverse.take i).length ≤ 60 := by simp; omega
        simp at oklb; omega
      obtain ⟨z1, hz1⟩ : ∃ z : St, z = ⟨((u.seen 0).seen 0).heap, ((u.seen 0).seen 0).next, 0, 0⟩ := ⟨_, rfl⟩
      have z1g : ∀ y, z1.getC y = u.getC y := fun y => by rw [hz1]; simp only [s0_getC, seen_getC]
      have z1n : z1.next = u.next := by rw [hz1]; show ((u.seen 0).seen 0).next = _; simp only [St.seen_next]
      have two1 := two.keep (u' := z1) (by rw [z1n]; exact Nat.le_refl _) fun y _ => z1g y
      obtain ⟨va', u1, p1, p2, p3, p4, p5, p6⟩ := put M hM z1 ta va _ L[i].1 L[i].2 hma oka two1.a (by rw [z1n]; omega)
      have two2 := two1.put p2 p3 p5 p6
      rw [z1n] at p3 p4 p5 p6
      have p1' : callN E (M + 4) 14 [.pointer (some ⟨ta, 0, none⟩), .int .i64 L[i].1, .int .i64 L[i].2] (⟨((u.seen 0).seen 0).heap, ((u.seen 0).seen 0).next, 0, 0⟩ : St) = _ := hz1 ▸ p1
      have low1 : ∀ y, y < 8 → u1.getC y = s0.getC y := fun y hy => by
        rw [p5 y (by omega) (by have := two.a.lo; omega) (fun e => by have := two.a.blo y e; omega), z1g, hlow y hy]
      obtain ⟨J, hJ⟩ : ∃ J, J = jn ((u.seen 0).seen 0) u1 := ⟨_, rfl⟩
      have Jg : ∀ y, J.getC y = u1.getC y := fun y => by rw [hJ]; exact jn_getC _ _ y
      have Jn : J.next = u1.next := by rw [hJ]; exact jn_next _ _
      have hJ0 : J.getC 0 = some (flatV L) := (Jg 0).trans ((low1 0 (by omega)).trans hs0)
      obtain ⟨z2, hz2⟩ : ∃ z : St, z = ⟨((J.seen 0).seen 0).heap, ((J.seen 0).seen 0).next, 0, 0⟩ := ⟨_, rfl⟩
      have z2g : ∀ y, z2.getC y = u1.getC y := fun y => by rw [hz2]; simp only [s0_getC, seen_getC, Jg]
      have z2n : z2.next = u1.next := by rw [hz2]; show ((J.seen 0).seen 0).next = _; simp only [St.seen_next, Jn]
      have two3 := (two2.keep (u' := z2) (by rw [z2n]; exact Nat.le_refl _) fun y _ => z2g y).swap
      obtain ⟨vb', u2, q1, q2, q3, q4, q5, q6⟩ := put M hM z2 tb vb _ L[L.length - 1 - i].1 L[L.length - 1 - i].2 hmb okb two3.a (by rw [z2n]; omega)
      have two4 := (two3.put q2 q3 q5 q6).swap
      rw [z2n] at q3 q4 q5 q6
      have q1' : callN E (M + 4) 14 [.pointer (some ⟨tb, 0, none⟩), .int .i64 L[L.length - 1 - i].1, .int .i64 L[L.length - 1 - i].2] (⟨((J.seen 0).seen 0).heap, ((J.seen 0).seen 0).next, 0, 0⟩ : St) = _ := hz2 ▸ q1
      have rc1 := fun v fs s => rU_c v fs s u1
      have rc2 := fun v fs s => rU_c v fs s u2
      have hai : int2 addO (.int .i64 (i : Int)) (.int .i64 1) = some (.int .i64 ((i + 1 : Nat) : Int)) := by rw [add_e _ _ (by omega) (by omega)]; rfl
      have s1 : int2 subO (.int .i64 (L.length : Int)) (.int .i64 1) = some (.int .i64 ((L.length : Int) - 1)) := sub_e _ _ (by omega) (by omega)
      have s2 : int2 subO (.int .i64 ((L.length : Int) - 1)) (.int .i64 (i : Int)) = some (.int .i64 ((L.length - 1 - i : Nat) : Int)) := by
        rw [sub_e _ _ (by omega) (by omega)]
        congr 2
        omega
      have tw : Two2 (jn ((J.seen 0).seen 0) u2) ta va' (putAll [] (L.take (i + 1))) tb vb' (putAll [] (L.reverse.take (i + 1))) := by
        rw [putAll_take L i hlt, putAll_take L.reverse i (by simpa using hlt), List.getElem_reverse]
        exact two4.keep (by rw [jn_next]; exact Nat.le_refl _) fun y _ => jn_getC _ _ _
      have low2 : ∀ y, y < 8 → (jn ((J.seen 0).seen 0) u2).getC y = s0.getC y := fun y hy => by
        rw [jn_getC, q5 y (by omega) (by have := two.b.lo; omega) (fun e => by have := two.b.blo y e; omega), z2g, low1 y hy]
      simp (disch := first | omega | (simp only [s0_getC, seen_getC, hu0, hJ0])) only [op2_s', op_s', op2_op, op2_op2, op2_cond, ev_v', call_r', map_c', map_n', bin_e', pick_e', not_e, ext_e', nth_z', nth_1', nth_2', nth_3', gval_e, gval_u', cmp_e, orUndef_t', orUndef_f', condV_t', condV_f', cond_true, cond_false, eqI_eq, neI_eq, ltI_eq, leI_eq, gtI_eq', geI_eq, Bool.not_true, Bool.not_false, beq_self_eq_true, tf_beq, ft_beq, eq_self, decide_true, decide_false, oneOf1, orU_some, g0, g1, g2, g7, g8, g11, hlen, e1, mov_f', rU_p, hidx, hidj, fieldAddr_e, la, lb, ka, kb, rU_l, p1', rc1, ← hJ, q1', rc2, s1, s2, hai, thenX_n']
      rw [apartKs [0, 0, 0, 0, 0, 1, 0, 0, 0, 0, 1, 2] (by simp [allK, KindOk]) _ (by kernel_rfl)]
      simp (disch := first | omega | (simp only [s0_getC, seen_getC, hu0, hJ0])) only [op2_s', op_s', op2_op, op2_op2, op2_cond, ev_v', call_r', map_c', map_n', bin_e', pick_e', not_e, ext_e', nth_z', nth_1', nth_2', nth_3', gval_e, gval_u', cmp_e, orUndef_t', orUndef_f', condV_t', condV_f', cond_true, cond_false, eqI_eq, neI_eq, ltI_eq, leI_eq, gtI_eq', geI_eq, Bool.not_true, Bool.not_false, beq_self_eq_true, tf_beq, ft_beq, eq_self, decide_true, decide_false, oneOf1, orU_some, g0, g1, g2, g7, g8, g11, hlen, e1, mov_f', rU_p, hidx, hidj, fieldAddr_e, la, lb, ka, kb, rU_l, p1', rc1, ← hJ, q1', rc2, s1, s2, hai, thenX_n']
      rw [apartKs [0, 0, 0, 0, 0, 1, 0, 0, 0, 0, 1, 2] (by simp [allK, KindOk]) _ (by kernel_rfl)]
      simp (disch := first | omega | (simp only [s0_getC, seen_getC, hu0, hJ0])) only [op2_s', op_s', op2_op, op2_op2, op2_cond, ev_v', call_r', map_c', map_n', bin_e', pick_e', not_e, ext_e', nth_z', nth_1', nth_2', nth_3', gval_e, gval_u', cmp_e, orUndef_t', orUndef_f', condV_t', condV_f', cond_true, cond_false, eqI_eq, neI_eq, ltI_eq, leI_eq, gtI_eq', geI_eq, Bool.not_true, Bool.not_false, beq_self_eq_true, tf_beq, ft_beq, eq_self, decide_true, decide_false, oneOf1, orU_some, g0, g1, g2, g7, g8, g11, hlen, e1, mov_f', rU_p, hidx, hidj, fieldAddr_e, la, lb, ka, kb, rU_l, p1', rc1, ← hJ, q1', rc2, s1, s2, hai, thenX_n']
      exact ih (i + 1) _ (jn ((J.seen 0).seen 0) u2) va' vb' low2 (by rw [jn_next]; omega) (by rw [jn_next]; omega) ((by kernel_rfl : _ = fs.get t0).trans g0) ((by kernel_rfl : _ = fs.get t1).trans g1) ((by kernel_rfl : _ = fs.get t2).trans g2) ((by kernel_rfl : _ = fs.get t7).trans g7) ((by kernel_rfl : _ = fs.get t8).trans g8) (by kernel_rfl) tw (by omega) (by omega)
    · have e1 : decide ((i : Int) < (L.length : Int)) = false := decide_eq_false (by omega)
      rw [List.take_of_length_le (by omega), List.take_of_length_le (by simp; omega)] at two
      simp only [op2_s', op_s', op2_op, op2_op2, op2_cond, ev_v', call_r', map_c', map_n', bin_e', pick_e', not_e, ext_e', nth_z', nth_1', nth_2', nth_3', gval_e, gval_u', cmp_e, orUndef_t', orUndef_f', condV_t', condV_f', cond_true, cond_false, eqI_eq, neI_eq, ltI_eq, leI_eq, gtI_eq', geI_eq, Bool.not_true, Bool.not_false, beq_self_eq_true, tf_beq, ft_beq, eq_self, decide_true, decide_false, oneOf1, orU_some, g0, g11, hlen, e1, thenX_e']
      exact ⟨_, _, va, vb, rfl, hlow, h8, by omega, (by kernel_rfl : _ = fs.get t1).trans g1, (by kernel_rfl : _ = fs.get t2).trans g2, (by kernel_rfl : _ = fs.get t7).trans g7, (by kernel_rfl : _ = fs.get t8).trans g8, two⟩
end Go.Proofs.Ythjhammjankekaa.AbsRatO
namespace Go.Proofs.Ythjhammjankekaa.AbsRatO
open Go Go.Abs Go.Proofs
set_option maxRecDepth 100000
set_option linter.unusedVariables false
set_option linter.unusedSimpArgs false
attribute [local congr] opt2_cg opt_cg condV_cg cond_cg
/-! RateReplaces: the law -/
/-- regions without a write -/
theorem apartR (n : Nat) {ms : List Mk} (h : ∀ m ∈ ms, m.m.2 = 0) (hn : ms.length = n) : ∀ (un : List (Nat × Nat)), un.all (fun p => Nat.blt p.1 n && Nat.blt p.2 n) = true → apartAll ms un = true
  | [], _ => rfl
  | p :: un, hu => by
    rw [List.all_cons, Bool.and_eq_true, Bool.and_eq_true, blt_eq', blt_eq', decide_eq_true_eq, decide_eq_true_eq] at hu
    have ih := apartR n h hn un hu.2
    have e : ∀ i (hi : i < ms.length), nth ms i = some ms[i] ∧ (ms[i]).m.2 = 0 := fun i hi => ⟨by rw [nth_eq, List.getElem?_eq_getElem hi], h _ (List.getElem_mem hi)⟩
    obtain ⟨a1, a2⟩ := e p.1 (by rw [hn]; exact hu.1.1)
    obtain ⟨b1, b2⟩ := e p.2 (by rw [hn]; exact hu.1.2)
    have hb : ∀ x, hasBit 0 x = false := fun x => by rw [hasBit_eq]; exact Nat.zero_testBit x
    have fr : ∀ l w : Mk, w.m.2 = 0 → ldFree l w = true := fun l w hw => by
      unfold ldFree
      rw [hw]
      cases l.ld with
      | none => rfl
      | some q =>
        show (bif hasBit 0 q.1 then _ else true) = true
        rw [hb]; rfl
    have am : ∀ a b : Nat × Nat, a.2 = 0 → b.2 = 0 → apartM a b = true := fun a b ha hb => by
      unfold apartM
      rw [ha, hb, show Nat.land 0 (Nat.lor b.1 0) = 0 from Nat.zero_and _, show Nat.land a.1 0 = 0 from Nat.and_zero _]
      rfl
    have hp : apartP ms p = true := by
      unfold apartP
      rw [a1, b1]
      show apartK _ _ = true
      unfold apartK
      rw [fr _ _ b2, fr _ _ a2, am _ _ a2 b2]
      rfl
    show (bif apartP ms p then apartAll ms un else false) = true
    rw [hp]; exact ih
theorem rU_r (v : Value) (x : Nat) (fs : Frm) (s : St) : rU (some (v, St.seen ⟨s.heap, s.next, 0, 0⟩ x)) fs s none = some (v, (⟨((St.seen ⟨s.heap, s.next, 0, 0⟩ x).rd, 0), s, St.seen ⟨s.heap, s.next, 0, 0⟩ x, none⟩, s.seen x)) := by
  have e : (⟨(St.seen ⟨s.heap, s.next, 0, 0⟩ x).heap, (St.seen ⟨s.heap, s.next, 0, 0⟩ x).next, Nat.lor s.rd (St.seen ⟨s.heap, s.next, 0, 0⟩ x).rd, Nat.lor s.wr (St.seen ⟨s.heap, s.next, 0, 0⟩ x).wr⟩ : St) = s.seen x := by
    unfold St.seen
    rw [force_eq, force_eq]
    show (⟨s.heap, s.next, Nat.lor s.rd (Nat.lor 0 (bit x)), Nat.lor s.wr 0⟩ : St) = _
    rw [lor_0, show Nat.lor 0 (bit x) = bit x from Nat.zero_or _]
  have e2 : (St.seen ⟨s.heap, s.next, 0, 0⟩ x).wr = 0 := by rw [St.seen_wr]
  unfold rU
  rw [op2_s', e]
  show some (v, ((⟨((St.seen ⟨s.heap, s.next, 0, 0⟩ x).rd, (St.seen ⟨s.heap, s.next, 0, 0⟩ x).wr), s, _, none⟩ : Mk), s.seen x)) = _
  rw [e2]
theorem SlcU.idx2 {s : St} {v : Value} {l : List (Int × Int)} (h : SlcU s v l) {i : Nat} (hi : i < l.length) : ∃ sb, (∀ (rec : Rec) (w : St), oIdxAddrL 2 (.v v) (.v (.int .i64 (i : Int))) rec PT.nil w = some (.pointer (some ⟨sb, 0 + i * 2, none⟩), w)) ∧
    (∀ (rec : Rec) (z : St), (∀ y, z.getC y = s.getC y) → oLoadN 2 (.v (.pointer (some ⟨sb, 0 + i * 2, none⟩))) rec PT.nil z = some (aggOf [.int .i64 l[i].1, .int .i64 l[i].2], z.seen sb)) := by
  rcases h with ⟨rfl, rfl⟩ | ⟨sb, rfl, h1, h2, h3⟩
  · exact absurd hi (by simp)
  · exact ⟨sb, fun rec w => idxL_e _ _ _ _ _ _ rec PT.nil w hi, fun rec z h => load2_e sb (0 + i * 2) _ _ _ rec PT.nil z ((h sb).trans h2) (by rw [flat_len]; omega) (by rw [Nat.zero_add]; exact flat_two l i hi)⟩
theorem eqs_same (a b : Int) (rec : Rec) (s : St) : oEqs true [(0, eqN), (1, eqN)] (.v (aggOf [.int .i64 a, .int .i64 b])) (.v (aggOf [.int .i64 a, .int .i64 b])) rec PT.nil s = some (.bool false, s) := by
  have e1 : eqI a a = true := by rw [eqI_eq]; exact decide_eq_true rfl
  have e2 : eqI b b = true := by rw [eqI_eq]; exact decide_eq_true rfl
  show opt (opt (some (eqI a a)) fun x => opt (opt (some (eqI b b)) fun x => opt (some true) fun c => some (x && c)) fun c => some (x && c)) (fun r => some (Value.bool (bif true then !r else r), s)) = _
  rw [e1, e2]
  rfl
set_option maxHeartbeats 2000000 in
theorem cmp6 (rec : Rec) (N : Nat) (s : St) (x w : Value) (m : List (Int × Int)) (hl : m.length ≤ 1000) (hx : SlcU s x m) (hw : SlcU s w m) (x1 x2 x7 : Value) :
    ∀ (fuel i : Nat) (fs : Frm) (u : St), Alike s u → fs.get t1 = some x1 → fs.get t2 = some x2 → fs.get t7 = some x7 → fs.get t13 = some x → fs.get t14 = some w → fs.get t15 = some (.int .i64 (i : Int)) → i ≤ m.length → m.length - i < fuel →
    ∃ fs' u', loopF (c6_l3 rec N) fuel fs u = some (.exit 6, fs', u') ∧ Alike s u' ∧ fs'.get t1 = some x1 ∧ fs'.get t2 = some x2 ∧ fs'.get t7 = some x7 ∧ fs'.get t13 = some x := by
  intro fuel
  induction fuel with
  | zero => intro i fs u _ _ _ _ _ _ _ _ h; omega
  | succ fuel ih =>
    intro i fs u hu g1 g2 g7 g13 g14 g15 hi hf
    have hlx := hx.len
    rw [loop_s, d6_l3]
    unfold D6_l3
    by_cases hlt : i < m.length
    · have e1 : decide ((i : Int) < (m.length : Int)) = true := decide_eq_true (by omega)
      obtain ⟨xb, xi, xa⟩ := hx.idx2 hlt
      obtain ⟨wb, wi, wa⟩ := hw.idx2 hlt
      have un := hu.1
      have ug := hu.2
      clear hu
      have hai : int2 addO (.int .i64 (i : Int)) (.int .i64 1) = some (.int .i64 ((i + 1 : Nat) : Int)) := by rw [add_e _ _ (by omega) (by omega)]; rfl
      simp (disch := (intro y; simp only [s0_getC, seen_getC, ug])) only [op2_s', op_s', op2_op, op2_op2, op2_cond, ev_v', call_r', map_c', map_n', bin_e', pick_e', not_e, ext_e', nth_z', nth_1', nth_2', nth_3', gval_e, gval_u', cmp_e, orUndef_t', orUndef_f', condV_t', condV_f', cond_true, cond_false, eqI_eq, neI_eq, ltI_eq, leI_eq, gtI_eq', geI_eq, Bool.not_true, Bool.not_false, beq_self_eq_true, tf_beq, ft_beq, eq_self, decide_true, decide_false, oneOf1, orU_some, g1, g2, g7, g13, g14, g15, hlx, e1, mov_f', rU_p, xi, wi, xa, wa, rU_r, eqs_same, hai, thenX_n']
      rw [apartR 9 (by simp) rfl _ (by kernel_rfl)]
      simp (disch := (intro y; simp only [s0_getC, seen_getC, ug])) only [op2_s', op_s', op2_op, op2_op2, op2_cond, ev_v', call_r', map_c', map_n', bin_e', pick_e', not_e, ext_e', nth_z', nth_1', nth_2', nth_3', gval_e, gval_u', cmp_e, orUndef_t', orUndef_f', condV_t', condV_f', cond_true, cond_false, eqI_eq, neI_eq, ltI_eq, leI_eq, gtI_eq', geI_eq, Bool.not_true, Bool.not_false, beq_self_eq_true, tf_beq, ft_beq, eq_self, decide_true, decide_false, oneOf1, orU_some, g1, g2, g7, g13, g14, g15, hlx, e1, mov_f', rU_p, xi, wi, xa, wa, rU_r, eqs_same, hai, thenX_n']
      exact ih (i + 1) _ ((u.seen xb).seen wb) ⟨by simp only [St.seen_next, un], fun y => by simp only [seen_getC, ug]⟩ ((by kernel_rfl : _ = fs.get t1).trans g1) ((by kernel_rfl : _ = fs.get t2).trans g2) ((by kernel_rfl : _ = fs.get t7).trans g7) ((by kernel_rfl : _ = fs.get t13).trans g13) ((by kernel_rfl : _ = fs.get t14).trans g14) (by kernel_rfl) (by omega) (by omega)
    · have e1 : decide ((i : Int) < (m.length : Int)) = false := decide_eq_false (by omega)
      simp only [op2_s', op_s', op2_op, op2_op2, op2_cond, ev_v', call_r', map_c', map_n', bin_e', pick_e', not_e, ext_e', nth_z', nth_1', nth_2', nth_3', gval_e, gval_u', cmp_e, orUndef_t', orUndef_f', condV_t', condV_f', cond_true, cond_false, eqI_eq, neI_eq, ltI_eq, leI_eq, gtI_eq', geI_eq, Bool.not_true, Bool.not_false, beq_self_eq_true, tf_beq, ft_beq, eq_self, decide_true, decide_false, oneOf1, orU_some, g13, g15, hlx, e1, thenX_e']
      exact ⟨_, _, rfl, hu, (by kernel_rfl : _ = fs.get t1).trans g1, (by kernel_rfl : _ = fs.get t2).trans g2, (by kernel_rfl : _ = fs.get t7).trans g7, (by kernel_rfl : _ = fs.get t13).trans g13⟩
theorem repl_r1 (M : Nat) (hM : 2000 ≤ M) (u : St) (ta : Nat) (va xv : Value) (m : List (Int × Int)) (d r : Int) (hm : m.length ≤ 100) (ho : Okl m) (tab : Tab u ta va m) (hd : 0 ≤ d ∧ d ≤ 100000) (hr : 0 ≤ r ∧ r ≤ 1000000000) (h8 : 8 ≤ u.next) (hn : u.next + 2000 ≤ lim) (hxl : ∀ (rec : Rec) (w : St), oLenL (.v xv) rec PT.nil w = some (.int .i64 (m.length : Int), w)) (fs : Frm) (g1 : fs.get t1 = some (.int .i64 d)) (g2 : fs.get t2 = some (.int .i64 r)) (g7 : fs.get t7 = some (.pointer (some ⟨ta, 0, none⟩))) (g13 : fs.get t13 = some xv) :
    ∃ fs' u', c6_r1 (callN E (M + 4)) (M + 4) fs u = some (.ret, fs', u') ∧ fs'.get t6 = some (.bool true) ∧ ∀ y, y < 8 → u'.getC y = u.getC y := by
  obtain ⟨tc, vc, u1, a1, a2, a3, a4, a5, a6, a7⟩ := copy (M + 2) u ta va m (by omega) tab.cell tab.sl (by omega)
  have a1' : callN E (M + 4) 21 [.pointer (some ⟨ta, 0, none⟩)] u = some (.pointer (some ⟨tc, 0, none⟩), u1) := a1
  have n1 := a6.1
  have n1' := a6.2.1
  have tw1 : Two2 u1 tc vc m ta va m := by
    have := tab.lt
    refine ⟨⟨by omega, a3, a4, a5, fun b hb => by have := a7 b hb; omega⟩, tab.grew a6, by omega, fun e => by have := a7 _ e; omega, fun e => by have := tab.blt _ e; omega, fun y hy hy' => by have := a7 y hy; have := tab.blt y hy'; omega⟩
  have E1 : putE d r = 0 := by unfold putE; rw [if_neg (by omega), if_neg (by omega)]
  have hq : 0 ≤ r / 2 ∧ r / 2 ≤ 1000000000 := by omega
  have E2 : putE d (r / 2) = 0 := by unfold putE; rw [if_neg (by omega), if_neg (by omega)]
  obtain ⟨vc1, u2, b1, b2, b3, b4, b5, b6⟩ := put M hM u1 tc vc m d r (by omega) ho tw1.a (by omega)
  have tw2 := tw1.put b2 b3 b5 b6
  rw [E1] at b1
  have ho1 := ho.put d r
  have hl1 := putV_len m d r
  obtain ⟨vc2, u3, c1, c2, c3, c4, c5, c6⟩ := put M hM u2 tc vc1 _ d (r / 2) (by omega) ho1 tw2.a (by omega)
  have tw3 := tw2.put c2 c3 c5 c6
  rw [E2] at c1
  have ho2 := ho1.put d (r / 2)
  have hl2 := putV_len (putV m d r) d (r / 2)
  obtain ⟨k, u4, d1, d2, d3⟩ := at_ M hM u3 tc _ d (by omega) ho2.1.sorted tw3.a.at (by omega)
  have hat : rateK (putV (putV m d r) d (r / 2)) k = r / 2 := by
    rw [rate_atF _ d k d3]
    unfold putV
    rw [if_pos E2]
    exact atF_insP d (r / 2) _ 0 ho1.1
  rw [hat] at d1
  have tw4 := tw3.keep d2.1 d2.2.2
  have m1 := d2.1
  have m2 := d2.2.1
  obtain ⟨sv, u5, e1, e2, e3, e4⟩ := steps (M + 2) u4 ta va m (by omega) tw4.b.cell tw4.b.sl (by omega)
  have e1' : callN E (M + 4) 18 [.pointer (some ⟨ta, 0, none⟩)] u4 = some (sv, u5) := e1
  have hsl := e2.len
  have z1 : decide ((0 : Int) = 0) = true := rfl
  have z2 : decide (r / 2 = r / 2) = true := decide_eq_true rfl
  have z3 : decide ((m.length : Int) = (m.length : Int)) = true := decide_eq_true rfl
  have qu : int2 quoO (.int .i64 r) (.int .i64 2) = some (.int .i64 (r / 2)) := quo_e _ _ (by omega) (by omega) (by omega)
  rw [d6_r1]
  unfold D6_r1
  simp only [op2_s', op_s', op2_op, op2_op2, op2_cond, ev_v', call_r', map_c', map_n', bin_e', pick_e', not_e, ext_e', nth_z', nth_1', nth_2', nth_3', gval_e, gval_u', cmp_e, orUndef_t', orUndef_f', condV_t', condV_f', cond_true, cond_false, eqI_eq, neI_eq, ltI_eq, leI_eq, gtI_eq', geI_eq, Bool.not_true, Bool.not_false, beq_self_eq_true, tf_beq, ft_beq, eq_self, decide_true, decide_false, oneOf1, orU_some, g1, g2, g7, g13, a1', b1, qu, c1, z1, d1, z2, e1', hsl, hxl, z3]
  have hlo := tab.lo
  have m3 := e3.1
  refine ⟨_, _, rfl, by kernel_rfl, fun y hy => ?_⟩
  have hvc : blkOf vc ≠ some y := fun e => by have := a7 y e; omega
  have hvc1 : blkOf vc1 ≠ some y := fun e => by
    rcases b6 y e with h | h
    · exact hvc h
    · omega
  rw [e3.2.2 y (by omega), d2.2.2 y (by omega), c5 y (by omega) (by omega) hvc1, b5 y (by omega) (by omega) hvc, a6.2.2 y (by omega)]
theorem k6 (M : Nat) (a b c : Value) (s : St) : callN E (M + 1) 6 [a, b, c] s = callF (callN E M) M c6 [a, b, c] s := by kernel_rfl
set_option maxHeartbeats 2000000 in
theorem replaces (M : Nat) (hM : 2000 ≤ M) (s s1 : St) (a0 : Value) (L : List (Int × Int)) (d r : Int) (hin : Inp s a0 L) (haw : callN E (M + 4) 12 [] s = some (.bool true, s1)) (h8 : 8 ≤ s1.next) (hn : s1.next ≤ 2000) (hlow : s1.getC 0 = s.getC 0) :
    ∃ u', callN E (M + 5) 6 [a0, .int .i64 d, .int .i64 r] s = some (.bool true, u') ∧ u'.getC 0 = s.getC 0 := by
  have hlim : lim = 1000000000 := rfl
  have hlen := hin.len
  rw [k6, d6]
  unfold D6
  by_cases h1 : (30 : Int) < (L.length : Int)
  · have e1 : decide ((30 : Int) < (L.length : Int)) = true := decide_eq_true h1
    exact ⟨s1, by simp only [op2_s', op_s', op2_op, op2_op2, op2_cond, ev_v', call_r', map_c', map_n', bin_e', pick_e', not_e, ext_e', nth_z', nth_1', nth_2', nth_3', gval_e, gval_u', cmp_e, orUndef_t', orUndef_f', condV_t', condV_f', cond_true, cond_false, eqI_eq, neI_eq, ltI_eq, leI_eq, gtI_eq', geI_eq, Bool.not_true, Bool.not_false, beq_self_eq_true, tf_beq, ft_beq, eq_self, decide_true, decide_false, oneOf1, orU_some, haw, hlen, gtI_eq', e1], hlow⟩
  have e1 : decide ((30 : Int) < (L.length : Int)) = false := decide_eq_false h1
  by_cases h2 : d < 0
  · have e2 : decide (d < 0) = true := decide_eq_true h2
    exact ⟨s1, by simp only [op2_s', op_s', op2_op, op2_op2, op2_cond, ev_v', call_r', map_c', map_n', bin_e', pick_e', not_e, ext_e', nth_z', nth_1', nth_2', nth_3', gval_e, gval_u', cmp_e, orUndef_t', orUndef_f', condV_t', condV_f', cond_true, cond_false, eqI_eq, neI_eq, ltI_eq, leI_eq, gtI_eq', geI_eq, Bool.not_true, Bool.not_false, beq_self_eq_true, tf_beq, ft_beq, eq_self, decide_true, decide_false, oneOf1, orU_some, haw, hlen, gtI_eq', e1, e2], hlow⟩
  have e2 : decide (d < 0) = false := decide_eq_false h2
  by_cases h3 : 100000 < d
  · have e3 : decide (100000 < d) = true := decide_eq_true h3
    exact ⟨s1, by simp only [op2_s', op_s', op2_op, op2_op2, op2_cond, ev_v', call_r', map_c', map_n', bin_e', pick_e', not_e, ext_e', nth_z', nth_1', nth_2', nth_3', gval_e, gval_u', cmp_e, orUndef_t', orUndef_f', condV_t', condV_f', cond_true, cond_false, eqI_eq, neI_eq, ltI_eq, leI_eq, gtI_eq', geI_eq, Bool.not_true, Bool.not_false, beq_self_eq_true, tf_beq, ft_beq, eq_self, decide_true, decide_false, oneOf1, orU_some, haw, hlen, gtI_eq', e1, e2, e3], hlow⟩
  have e3 : decide (100000 < d) = false := decide_eq_false h3
  by_cases h4 : r < 0
  · have e4 : decide (r < 0) = true := decide_eq_true h4
    exact ⟨s1, by simp only [op2_s', op_s', op2_op, op2_op2, op2_cond, ev_v', call_r', map_c', map_n', bin_e', pick_e', not_e, ext_e', nth_z', nth_1', nth_2', nth_3', gval_e, gval_u', cmp_e, orUndef_t', orUndef_f', condV_t', condV_f', cond_true, cond_false, eqI_eq, neI_eq, ltI_eq, leI_eq, gtI_eq', geI_eq, Bool.not_true, Bool.not_false, beq_self_eq_true, tf_beq, ft_beq, eq_self, decide_true, decide_false, oneOf1, orU_some, haw, hlen, gtI_eq', e1, e2, e3, e4], hlow⟩
  have e4 : decide (r < 0) = false := decide_eq_false h4
  by_cases h5 : 1000000000 < r
  · have e5 : decide (1000000000 < r) = true := decide_eq_true h5
    exact ⟨s1, by simp only [op2_s', op_s', op2_op, op2_op2, op2_cond, ev_v', call_r', map_c', map_n', bin_e', pick_e', not_e, ext_e', nth_z', nth_1', nth_2', nth_3', gval_e, gval_u', cmp_e, orUndef_t', orUndef_f', condV_t', condV_f', cond_true, cond_false, eqI_eq, neI_eq, ltI_eq, leI_eq, gtI_eq', geI_eq, Bool.not_true, Bool.not_false, beq_self_eq_true, tf_beq, ft_beq, eq_self, decide_true, decide_false, oneOf1, orU_some, haw, hlen, gtI_eq', e1, e2, e3, e4, e5], hlow⟩
  have e5 : decide (1000000000 < r) = false := decide_eq_false h5
  obtain ⟨ua, n1, n2, n3, n4⟩ := new_tab (M + 3) s1 (by omega)
  have n1' : callN E (M + 4) 13 [] s1 = some (.pointer (some ⟨s1.next, 0, none⟩), ua) := n1
  obtain ⟨u0, o1, o2, o3, o4⟩ := new_tab (M + 3) ua (by omega)
  have o1' : callN E (M + 4) 13 [] ua = some (.pointer (some ⟨ua.next, 0, none⟩), u0) := o1
  have low0 : ∀ y, y < 8 → u0.getC y = s1.getC y := fun y hy => by rw [o4 y (by omega), n4 y (by omega)]
  have hin0 : Inp u0 a0 L := by
    rcases hin with h | ⟨c, h1, h2⟩
    · exact .inl h
    · exact .inr ⟨c, h1, fun e => by rw [low0 0 (by omega), hlow]; exact h2 e⟩
  have two0 : ∀ u1, Alike u0 u1 → Two2 u1 s1.next (.slice none 0 0) (putAll [] (L.take 0)) ua.next (.slice none 0 0) (putAll [] (L.reverse.take 0)) := fun u1 hu =>
    ⟨⟨h8, by rw [hu.1]; omega, by rw [hu.2, o4 _ (by omega), n3], .inl ⟨rfl, rfl⟩, fun b hb => by cases hb⟩, ⟨by omega, by rw [hu.1]; omega, by rw [hu.2, o3], .inl ⟨rfl, rfl⟩, fun b hb => by cases hb⟩, by omega, fun e => (by cases e), fun e => (by cases e), fun y e => (by cases e)⟩
  have key : ∀ fs : Frm, fs.get t0 = some a0 → fs.get t1 = some (.int .i64 d) → fs.get t2 = some (.int .i64 r) → fs.get t7 = some (.pointer (some ⟨s1.next, 0, none⟩)) → fs.get t8 = some (.pointer (some ⟨ua.next, 0, none⟩)) → fs.get t9 = some (.int .i64 0) →
      ∃ u', (opt2 (loopF (c6_l1 (callN E (M + 4)) (M + 4)) (M + 4) fs u0) fun e r => opt2 (blkX 0 e r) fun e r => opt2 (thenX (c6_r3 (callN E (M + 4)) (M + 4)) e r) fun e r => finX [.tmp t6] e r) = some (.bool true, u') ∧ u'.getC 0 = s.getC 0 := by
    intro fs g0 g1 g2 g7 g8 g9
    rcases loopF1 (callN E (M + 4)) (M + 4) (by omega) u0 a0 L (by omega) hin0 (.int .i64 d) (.int .i64 r) (.pointer (some ⟨s1.next, 0, none⟩)) (.pointer (some ⟨ua.next, 0, none⟩)) (M + 4) 0 fs u0 (Alike.refl _) g0 g1 g2 g7 g8 g9 (by omega) (fun y x h h' hx hy => absurd hy (by omega)) (by omega) with ⟨fs1, u1, r1, r2, r3⟩ | ⟨fs1, u1, r1, r2, p0, p1, p2, p7, p8, hd⟩
    · refine ⟨u1, ?_, by rw [r2.2, low0 0 (by omega), hlow]⟩
      rw [r1]
      simp only [op2_s', blkX_r, thenX_r', finX_r', res_t, res_n, r3, orU_some, oneOf1]
    · have hin1 : Inp u1 a0 L := by
        rcases hin0 with h | ⟨c, h1, h2⟩
        · exact .inl h
        · exact .inr ⟨c, h1, fun e => (r2.2 0).trans (h2 e)⟩
      obtain ⟨fs2, u2, va, vb, q1, q2, q3, q4, w1, w2, w7, w8, two⟩ := loopF2 M hM u1 a0 L (by omega) hin1 s1.next ua.next u1.next (by rw [r2.1]; omega) (.int .i64 d) (.int .i64 r) (M + 4) 0 (PT.put (.int .i64 0) t11 fs1) u1 (.slice none 0 0) (.slice none 0 0) (fun _ _ => rfl) (by rw [r2.1]; omega) (by omega) ((by kernel_rfl : _ = fs1.get t0).trans p0) ((by kernel_rfl : _ = fs1.get t1).trans p1) ((by kernel_rfl : _ = fs1.get t2).trans p2) ((by kernel_rfl : _ = fs1.get t7).trans p7) ((by kernel_rfl : _ = fs1.get t8).trans p8) (by kernel_rfl) (two0 u1 r2) (by omega) (by omega)
      rw [putAll_rev L hd] at two
      have hu1 := r2.1
      obtain ⟨ok, okl⟩ := putAll_ok L [] okl_nil
      have hm : (putAll [] L).length ≤ 60 := by simp at okl; omega
      obtain ⟨x, u3, c1, c2, c3, c4⟩ := steps (M + 2) u2 s1.next va _ (by omega) two.a.cell two.a.sl (by omega)
      have c1' : callN E (M + 4) 18 [.pointer (some ⟨s1.next, 0, none⟩)] u2 = some (x, u3) := c1
      have two3 := two.keep c3.1 c3.2.2
      have m1 := c3.1
      have m2 := c3.2.1
      obtain ⟨w, u4, f1, f2, f3, f4⟩ := steps (M + 2) u3 ua.next vb _ (by omega) two3.b.cell two3.b.sl (by omega)
      have f1' : callN E (M + 4) 18 [.pointer (some ⟨ua.next, 0, none⟩)] u3 = some (w, u4) := f1
      have two4 := two3.keep f3.1 f3.2.2
      have m3 := f3.1
      have m4 := f3.2.1
      have sx4 : SlcU u4 x (putAll [] L) := c2.keep f3.1 fun b hb => f3.2.2 b (c2.blt b hb)
      have hlx := c2.len
      have hlw := f2.len
      have elen : decide (((putAll [] L).length : Int) = ((putAll [] L).length : Int)) = true := decide_eq_true rfl
      obtain ⟨fs3, u5, j1, j2, i1, i2, i7, i13⟩ := cmp6 (callN E (M + 4)) (M + 4) u4 x w _ (by omega) sx4 f2 (.int .i64 d) (.int .i64 r) (.pointer (some ⟨s1.next, 0, none⟩)) (M + 4) 0 (PT.put (.int .i64 0) t15 (PT.put (.bool false) t107 (PT.put (.int .i64 ((putAll [] L).length : Int)) t106 (PT.put w t105 (PT.put (.int .i64 ((putAll [] L).length : Int)) t104 (PT.put x t103 (PT.put w t14 (PT.put x t13 (PT.put w t102 (PT.put (.pointer (some ⟨ua.next, 0, none⟩)) t101 (PT.put x t100 (PT.put (.pointer (some ⟨s1.next, 0, none⟩)) t99 fs2)))))))))))) u4 (Alike.refl _) ((by kernel_rfl : _ = fs2.get t1).trans w1) ((by kernel_rfl : _ = fs2.get t2).trans w2) ((by kernel_rfl : _ = fs2.get t7).trans w7) (by kernel_rfl) (by kernel_rfl) (by kernel_rfl) (by omega) (by omega)
      have tab5 := two4.a.keep (u := u5) (by rw [j2.1]; exact Nat.le_refl _) (j2.2 _) fun b _ => j2.2 b
      obtain ⟨fs4, u6, y1, y2, y3⟩ := repl_r1 M hM u5 s1.next va x _ d r (by omega) ok tab5 (by omega) (by omega) (by rw [j2.1]; omega) (by rw [j2.1]; omega) hlx fs3 i1 i2 i7 i13
      refine ⟨u6, ?_, ?_⟩
      · rw [r1]
        simp only [op2_s', blkX_e, Nat.beq_refl, thenX_n', cond_true, d6_r3, D6_r3]
        rw [q1]
        simp only [op2_s', blkX_e, Nat.beq_refl, thenX_n', d6_r2, D6_r2, op2_s', op_s', op2_op, op2_op2, op2_cond, ev_v', call_r', map_c', map_n', bin_e', pick_e', not_e, ext_e', nth_z', nth_1', nth_2', nth_3', gval_e, gval_u', cmp_e, orUndef_t', orUndef_f', condV_t', condV_f', cond_true, cond_false, eqI_eq, neI_eq, ltI_eq, leI_eq, gtI_eq', geI_eq, Bool.not_true, Bool.not_false, beq_self_eq_true, tf_beq, ft_beq, eq_self, decide_true, decide_false, oneOf1, orU_some, w7, w8, c1', f1', hlx, hlw, neI_eq, elen]
        rw [j1]
        simp only [op2_s', blkX_e, Nat.beq_refl, thenX_n', cond_true]
        rw [y1]
        simp only [op2_s', finX_r', res_t, res_n, y2, orU_some, oneOf1]
      · rw [y3 0 (by omega), j2.2, f3.2.2 0 (by omega), c3.2.2 0 (by omega), q2 0 (by omega), r2.2, low0 0 (by omega), hlow]
  simp only [op2_s', op_s', op2_op, op2_op2, op2_cond, ev_v', call_r', map_c', map_n', bin_e', pick_e', not_e, ext_e', nth_z', nth_1', nth_2', nth_3', gval_e, gval_u', cmp_e, orUndef_t', orUndef_f', condV_t', condV_f', cond_true, cond_false, eqI_eq, neI_eq, ltI_eq, leI_eq, gtI_eq', geI_eq, Bool.not_true, Bool.not_false, beq_self_eq_true, tf_beq, ft_beq, eq_self, decide_true, decide_false, oneOf1, orU_some, haw, hlen, gtI_eq', e1, e2, e3, e4, e5, n1', o1']
  exact key _ (by kernel_rfl) (by kernel_rfl) (by kernel_rfl) (by kernel_rfl) (by kernel_rfl) (by kernel_rfl)
theorem lawRateReplaces {v : Value} {L : List (Int × Int)} {W : World} (hv : PairsAt .i64 .i64 W v L) (d r : Int) : Calls Try.prog 6 [v, .int .i64 d, .int .i64 r].toArray W fun e w' => e = .returned (.bool true) ∧ RowKit.Below W.heap.size W w' := by
  refine pairs_law mixed exOk (E := E) (n := 3004) ⟨fnsOk, known⟩ (rest := [.int .i64 d, .int .i64 r]) rfl hv fun s a hs ha => ?_
  obtain ⟨s1, h1, h2, h3, h4⟩ := awake L s hs
  obtain ⟨u', r1, r2⟩ := replaces 2999 (by decide) s s1 a L d r (inp L s a hs ha) h1 h2 h3 h4
  exact ⟨u', r1, kept r2 L hs⟩
end Go.Proofs.Ythjhammjankekaa.AbsRatO
