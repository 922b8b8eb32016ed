import Derived.Test.YthjhammjankekaaRatSD
namespace Go.Proofs.Ythjhammjankekaa.AbsRatO
open Go Go.Abs Go.Proofs
set_option maxRecDepth 100000
set_option linter.unusedVariables false
set_option linter.unusedSimpArgs false
/-! RateDays: the plain law: a sum is the sum of its days' rates -/
def atF (r : Int) : List (Int × Int) → Int → Int
  | [], _ => r
  | p :: l, d => if d < p.1 then r else atF p.2 l d
theorem atF_rate : ∀ (m : List (Int × Int)) (d r : Int) (k : Nat), Behind m d k → (if k = 0 then r else rateK m k) = atF r m d
  | [], d, r, k, h => by
    have : k = 0 := by simpa using h.1
    subst this; rfl
  | p :: m, d, r, 0, h => by
    have := h.2.2 0 (by simp) (Nat.le_refl _)
    rw [if_pos rfl]
    unfold atF
    rw [if_pos (by simpa using this)]
  | p :: m, d, r, k + 1, h => by
    have h0 : p.1 ≤ d := h.2.1 0 (by simp) (by omega)
    have hb : Behind m d k := ⟨by simpa using h.1, fun x hx hk => h.2.1 (x + 1) (by simpa using hx) (by omega), fun x hx hk => h.2.2 (x + 1) (by simpa using hx) (by omega)⟩
    have ih := atF_rate m d p.2 k hb
    rw [if_neg (by omega)]
    unfold atF
    rw [if_neg (by omega), ← ih]
    cases k with
    | zero => rfl
    | succ k =>
      have hk : k < m.length := hb.1
      have hk' : k + 1 < (p :: m).length := by simpa using hk
      rw [if_neg (by omega)]
      show (if h : k + 1 < (p :: m).length then (p :: m)[k + 1].2 else 0) = (if h : k < m.length then m[k].2 else 0)
      rw [dif_pos hk, dif_pos hk']
      rfl
theorem rate_atF (m : List (Int × Int)) (d : Int) (k : Nat) (h : Behind m d k) : rateK m k = atF 0 m d := by
  rw [← atF_rate m d 0 k h]
  cases k with
  | zero => rfl
  | succ k => rfl
theorem gain_step {d e r f t : Int} (h : f ≤ t) : gain d e r f (t + 1) = gain d e r f t + (if d ≤ t ∧ t < e then r else 0) := by
  unfold gain
  by_cases h1 : d ≤ t ∧ t < e
  · rw [if_pos h1, if_pos (by omega)]
    by_cases h2 : 0 < min e t - max d f
    · rw [if_pos h2]
      have : min e (t + 1) - max d f = (min e t - max d f) + 1 := by omega
      rw [this, Int.add_mul, Int.one_mul]
    · rw [if_neg h2]
      have : min e (t + 1) - max d f = 1 := by omega
      rw [this, Int.one_mul, Int.zero_add]
  · rw [if_neg h1, Int.add_zero]
    by_cases h2 : 0 < min e t - max d f
    · have e2 : min e (t + 1) - max d f = min e t - max d f := by omega
      rw [e2]
    · rw [if_neg h2, if_neg (by omega)]
theorem sumP_later (f t : Int) (h : f ≤ t) : ∀ (m : List (Int × Int)) (r : Int), (∀ p ∈ m, t < p.1) → sumP f (t + 1) m = sumP f t m ∧ atF r m t = r
  | [], r, _ => ⟨rfl, rfl⟩
  | p :: m, r, hm => by
    have hp := hm p (List.mem_cons_self ..)
    obtain ⟨a, _⟩ := sumP_later f t h m r fun q hq => hm q (List.mem_cons_of_mem _ hq)
    constructor
    · show gain _ _ _ _ _ + _ = gain _ _ _ _ _ + _
      rw [a, gain_step h, if_neg (by omega), Int.add_zero]
    · unfold atF
      rw [if_pos hp]
theorem sumP_step (f t : Int) (h : f ≤ t) (ht : t ≤ 109572) : ∀ (m : List (Int × Int)) (r : Int), Grows m → sumP f (t + 1) m = sumP f t m + (if ∃ p ∈ m, p.1 ≤ t then atF r m t else 0)
  | [], r, _ => by
    rw [if_neg (by simp)]
    rfl
  | p :: m, r, hg => by
    have hg' := List.pairwise_cons.1 hg
    by_cases h1 : t < p.1
    · have all : ∀ q ∈ p :: m, t < q.1 := fun q hq => by
        rcases List.mem_cons.1 hq with e | e
        · rw [e]; exact h1
        · have := hg'.1 q e; omega
      rw [(sumP_later f t h (p :: m) r all).1, if_neg (by
        rintro ⟨q, hq, hle⟩
        have := all q hq
        omega), Int.add_zero]
    · rw [if_pos ⟨p, List.mem_cons_self .., by omega⟩]
      have e1 : atF r (p :: m) t = atF p.2 m t := by
        show (if t < p.1 then r else atF p.2 m t) = _
        rw [if_neg h1]
      rw [e1]
      show gain _ _ _ _ _ + sumP f (t + 1) m = gain _ _ _ _ _ + sumP f t m + _
      by_cases h2 : t < nxt m
      · have all : ∀ q ∈ m, t < q.1 := by
          cases m with
          | nil => intro q hq; cases hq
          | cons q m =>
            intro q' hq'
            have hq : t < q.1 := h2
            rcases List.mem_cons.1 hq' with e | e
            · rw [e]; exact hq
            · have := (List.pairwise_cons.1 hg'.2).1 q' e; omega
        obtain ⟨a, b⟩ := sumP_later f t h m p.2 all
        rw [a, b, gain_step h, if_pos ⟨by omega, h2⟩]
        omega
      · have ih := sumP_step f t h ht m p.2 hg'.2
        rw [ih, gain_step h, if_neg (by omega), Int.add_zero, Int.add_assoc]
        congr 2
        cases m with
        | nil =>
          exfalso
          have : nxt [] = 109573 := rfl
          omega
        | cons q m =>
          have hq : ¬ t < q.1 := h2
          rw [if_pos ⟨q, List.mem_cons_self .., by omega⟩]
theorem sumP_at (f t : Int) (h : f ≤ t) (ht : t ≤ 109572) (m : List (Int × Int)) (hg : Grows m) : sumP f (t + 1) m = sumP f t m + atF 0 m t := by
  rw [sumP_step f t h ht m 0 hg]
  by_cases hx : ∃ p ∈ m, p.1 ≤ t
  · rw [if_pos hx]
  · rw [if_neg hx]
    have := (sumP_later f t h m 0 fun p hp => by
      rcases Int.lt_or_le t p.1 with h | h
      · exact h
      · exact absurd ⟨p, hp, h⟩ hx).2
    rw [this]
theorem sumP_nil (f : Int) : ∀ m : List (Int × Int), sumP f f m = 0
  | [] => rfl
  | p :: m => by
    show gain _ _ _ _ _ + sumP f f m = 0
    rw [sumP_nil f m]
    unfold gain
    rw [if_neg (by omega)]
    rfl
/-- the days' rates, added -/
def sumA (m : List (Int × Int)) (f : Int) : Nat → Int
  | 0 => 0
  | n + 1 => sumA m f n + atF 0 m (f + n)
theorem sumP_sumA (m : List (Int × Int)) (hg : Grows m) (f : Int) : ∀ n : Nat, f + n ≤ 109573 → sumP f (f + n) m = sumA m f n
  | 0, _ => by
    rw [show f + ((0 : Nat) : Int) = f by omega]
    exact sumP_nil f m
  | n + 1, h => by
    have ih := sumP_sumA m hg f n (by omega)
    rw [show f + ((n + 1 : Nat) : Int) = (f + n) + 1 by omega, sumP_at f (f + n) (by omega) (by omega) m hg, ih]
    rfl
theorem sumA_add (m : List (Int × Int)) (f : Int) (c : Nat) : ∀ n : Nat, sumA m f (c + n) = sumA m f c + sumA m (f + c) n
  | 0 => by
    show sumA m f c = sumA m f c + 0
    rw [Int.add_zero]
  | n + 1 => by
    show sumA m f (c + n) + atF 0 m (f + ((c + n : Nat) : Int)) = sumA m f c + (sumA m (f + c) n + atF 0 m (f + c + n))
    rw [sumA_add m f c n, show f + ((c + n : Nat) : Int) = f + c + n by omega, Int.add_assoc]
theorem atF_bound (m : List (Int × Int)) (hm : ∀ p ∈ m, 0 ≤ p.2 ∧ p.2 ≤ 1000000000) (d : Int) : ∀ r : Int, 0 ≤ r ∧ r ≤ 1000000000 → 0 ≤ atF r m d ∧ atF r m d ≤ 1000000000 := by
  induction m with
  | nil => intro r h; exact h
  | cons p m ih =>
    intro r h
    unfold atF
    split
    · exact h
    · exact ih (fun q hq => hm q (List.mem_cons_of_mem _ hq)) p.2 (hm p (List.mem_cons_self ..))
theorem sumA_bound (m : List (Int × Int)) (hm : ∀ p ∈ m, 0 ≤ p.2 ∧ p.2 ≤ 1000000000) (f : Int) : ∀ n : Nat, 0 ≤ sumA m f n ∧ sumA m f n ≤ n * 1000000000
  | 0 => ⟨Int.le_refl _, by simp [sumA]⟩
  | n + 1 => by
    have h1 := sumA_bound m hm f n
    have h2 := atF_bound m hm (f + n) 0 (by omega)
    show 0 ≤ sumA m f n + atF 0 m (f + n) ∧ sumA m f n + atF 0 m (f + n) ≤ _
    omega
end Go.Proofs.Ythjhammjankekaa.AbsRatO
namespace Go.Proofs.Ythjhammjankekaa.AbsRatO
open Go Go.Abs Go.Proofs
set_option maxRecDepth 100000
set_option linter.unusedVariables false
set_option linter.unusedSimpArgs false
attribute [local congr] opt2_cg opt_cg condV_cg cond_cg
/-! RateDays: the run -/
set_option maxHeartbeats 2000000 in
theorem loopD (M : Nat) (hM : 2000 ≤ M) (s0 : St) (a0 : Value) (L : List (Int × Int)) (hL : L.length ≤ 60) (hin : Inp s0 a0 L) (tb B : Nat) (hB : B + 1000 ≤ lim) (x1 x2 x3 : Value) :
    ∀ (fuel i : Nat) (fs : Frm) (u : St) (v : Value), (∀ y, y < 8 → u.getC y = s0.getC y) → 8 ≤ u.next → u.next ≤ B + 9 * i → fs.get t0 = some a0 → fs.get t1 = some x1 → fs.get t2 = some x2 → fs.get t3 = some x3 → fs.get t9 = some (.pointer (some ⟨tb, 0, none⟩)) → fs.get t10 = some (.int .i64 (i : Int)) → Tab u tb v (putAll [] (L.take i)) → i ≤ L.length → L.length - i < fuel →
    ∃ fs' u' v', loopF (c5_l0 (callN E (M + 4)) (M + 4)) fuel fs u = some (.exit 0, fs', u') ∧ (∀ y, y < 8 → u'.getC y = s0.getC y) ∧ 8 ≤ u'.next ∧ u'.next ≤ B + 540 ∧ fs'.get t1 = some x1 ∧ fs'.get t2 = some x2 ∧ fs'.get t3 = some x3 ∧ fs'.get t9 = some (.pointer (some ⟨tb, 0, none⟩)) ∧ Tab u' tb v' (putAll [] L) := by
  intro fuel
  induction fuel with
  | zero => intro i fs u v _ _ _ _ _ _ _ _ _ _ _ h; omega
  | succ fuel ih =>
    intro i fs u v hlow h8 hnx g0 g1 g2 g3 g9 g10 tab hi hf
    have hlen := hin.len
    rw [loop_s, d5_l0]
    unfold D5_l0
    by_cases hlt : i < L.length
    · have e1 : decide ((i : Int) < (L.length : Int)) = true := decide_eq_true (by omega)
      obtain ⟨hidx, hs0⟩ := hin.idx hlt
      obtain ⟨la, lb⟩ := Inp.load hlt
      have hu0 : u.getC 0 = some (flatV L) := (hlow 0 (by omega)).trans hs0
      obtain ⟨ok, okl⟩ := putAll_ok (L.take i) [] okl_nil
      have hml : (putAll [] (L.take i)).length < 256 := by
        have : (L.take i).length ≤ 60 := by simp; omega
        simp at okl; omega
      obtain ⟨z2, hz2⟩ : ∃ z : St, z = ⟨((u.seen 0).seen 0).heap, ((u.seen 0).seen 0).next, 0, 0⟩ := ⟨_, rfl⟩
      have z2g : ∀ y, z2.getC y = u.getC y := fun y => by rw [hz2]; simp only [s0_getC, seen_getC]
      have z2n : z2.next = u.next := by rw [hz2]; show ((u.seen 0).seen 0).next = _; simp only [St.seen_next]
      obtain ⟨v', u2, q1, q2, q3, q4, q5, q6⟩ := put M hM z2 tb v _ L[i].1 L[i].2 hml ok
        (tab.keep (by rw [z2n]; exact Nat.le_refl _) (z2g tb) fun b hb => z2g b) (by rw [z2n]; omega)
      rw [z2n] at q3 q4 q5 q6
      have q1' : callN E (M + 4) 14 [.pointer (some ⟨tb, 0, none⟩), .int .i64 L[i].1, .int .i64 L[i].2] (⟨((u.seen 0).seen 0).heap, ((u.seen 0).seen 0).next, 0, 0⟩ : St) = _ := hz2 ▸ q1
      have rc2 := fun v fs s => rU_c v fs s u2
      have hai : int2 addO (.int .i64 (i : Int)) (.int .i64 1) = some (.int .i64 ((i + 1 : Nat) : Int)) := by rw [add_e _ _ (by omega) (by omega)]; rfl
      have tw : Tab (jn ((u.seen 0).seen 0) u2) tb v' (putAll [] (L.take (i + 1))) := by
        rw [putAll_take L i hlt]
        exact q2.keep (by rw [jn_next]; exact Nat.le_refl _) (jn_getC _ _ _) fun b _ => jn_getC _ _ _
      have low2 : ∀ y, y < 8 → (jn ((u.seen 0).seen 0) u2).getC y = s0.getC y := fun y hy => by
        rw [jn_getC, q5 y (by omega) (by have := tab.lo; omega) (fun e => by have := tab.blo y e; omega), z2g, hlow y hy]
      simp (disch := first | omega | (simp only [s0_getC, seen_getC, hu0])) only [op2_s', op_s', op2_op, op2_op2, op2_cond, ev_v', call_r', map_c', map_n', bin_e', pick_e', not_e, ext_e', nth_z', nth_1', nth_2', nth_3', gval_e, gval_u', cmp_e, orUndef_t', orUndef_f', condV_t', condV_f', cond_true, cond_false, eqI_eq, neI_eq, ltI_eq, leI_eq, gtI_eq', geI_eq, Bool.not_true, Bool.not_false, beq_self_eq_true, tf_beq, ft_beq, eq_self, decide_true, decide_false, oneOf1, orU_some, g0, g1, g2, g3, g9, g10, hlen, e1, mov_f', rU_p, hidx, fieldAddr_e, la, lb, rU_l, q1', rc2, hai, thenX_n']
      rw [apartKs [0, 0, 0, 0, 0, 1, 0, 0, 0, 0, 1, 2] (by simp [allK, KindOk]) _ (by kernel_rfl)]
      simp (disch := first | omega | (simp only [s0_getC, seen_getC, hu0])) only [op2_s', op_s', op2_op, op2_op2, op2_cond, ev_v', call_r', map_c', map_n', bin_e', pick_e', not_e, ext_e', nth_z', nth_1', nth_2', nth_3', gval_e, gval_u', cmp_e, orUndef_t', orUndef_f', condV_t', condV_f', cond_true, cond_false, eqI_eq, neI_eq, ltI_eq, leI_eq, gtI_eq', geI_eq, Bool.not_true, Bool.not_false, beq_self_eq_true, tf_beq, ft_beq, eq_self, decide_true, decide_false, oneOf1, orU_some, g0, g1, g2, g3, g9, g10, hlen, e1, mov_f', rU_p, hidx, fieldAddr_e, la, lb, rU_l, q1', rc2, hai, thenX_n']
      obtain ⟨fs', u', v'', r1, r2⟩ := ih (i + 1) _ (jn ((u.seen 0).seen 0) u2) v' low2 (by rw [jn_next]; omega) (by rw [jn_next]; omega) ((by kernel_rfl : _ = fs.get t0).trans g0) ((by kernel_rfl : _ = fs.get t1).trans g1) ((by kernel_rfl : _ = fs.get t2).trans g2) ((by kernel_rfl : _ = fs.get t3).trans g3) ((by kernel_rfl : _ = fs.get t9).trans g9) (by kernel_rfl) tw (by omega) (by omega)
      exact ⟨fs', u', v'', r1, r2⟩
    · have e1 : decide ((i : Int) < (L.length : Int)) = false := decide_eq_false (by omega)
      have hiL : i = L.length := by omega
      rw [List.take_of_length_le (by omega)] at tab
      simp only [op2_s', op_s', op2_op, op2_op2, op2_cond, ev_v', call_r', map_c', map_n', bin_e', pick_e', not_e, ext_e', nth_z', nth_1', nth_2', nth_3', gval_e, gval_u', cmp_e, orUndef_t', orUndef_f', condV_t', condV_f', cond_true, cond_false, eqI_eq, neI_eq, ltI_eq, leI_eq, gtI_eq', geI_eq, Bool.not_true, Bool.not_false, beq_self_eq_true, tf_beq, ft_beq, eq_self, decide_true, decide_false, oneOf1, orU_some, g0, g10, hlen, e1, thenX_e']
      exact ⟨_, _, v, rfl, hlow, h8, by omega, (by kernel_rfl : _ = fs.get t1).trans g1, (by kernel_rfl : _ = fs.get t2).trans g2, (by kernel_rfl : _ = fs.get t3).trans g3, (by kernel_rfl : _ = fs.get t9).trans g9, tab⟩
/-- the days one by one -/
theorem loopE (M : Nat) (hM : 2000 ≤ M) (s0 : St) (tb : Nat) (v : Value) (m : List (Int × Int)) (hm : m.length ≤ 256) (ho : Okl m) (tab : Tab s0 tb v m) (f : Int) (n : Nat) (hf : 0 ≤ f ∧ f ≤ 109572) (hn : n ≤ 400) (hfn : f + n ≤ 109573) (hl : s0.next + 1000 ≤ lim) (x3 : Value) :
    ∀ (fuel i : Nat) (fs : Frm) (u : St), Grew (2 * i) s0 u → fs.get t1 = some (.int .i64 f) → fs.get t2 = some (.int .i64 (n : Int)) → fs.get t3 = some x3 → fs.get t9 = some (.pointer (some ⟨tb, 0, none⟩)) → fs.get t11 = some (.int .i64 (sumA m f i)) → fs.get t12 = some (.int .i64 (i : Int)) → i ≤ n → n - i < fuel →
    ∃ fs' u', loopF (c5_l1 (callN E (M + 4)) (M + 4)) fuel fs u = some (.exit 2, fs', u') ∧ Grew 800 s0 u' ∧ fs'.get t1 = some (.int .i64 f) ∧ fs'.get t2 = some (.int .i64 (n : Int)) ∧ fs'.get t3 = some x3 ∧ fs'.get t9 = some (.pointer (some ⟨tb, 0, none⟩)) ∧ fs'.get t11 = some (.int .i64 (sumA m f n)) := by
  intro fuel
  induction fuel with
  | zero => intro i fs u _ _ _ _ _ _ _ _ h; omega
  | succ fuel ih =>
    intro i fs u hu g1 g2 g3 g9 g11 g12 hi hfu
    rw [loop_s, d5_l1]
    unfold D5_l1
    have u1 := hu.1
    have u2 := hu.2.1
    by_cases hlt : i < n
    · have e1 : decide ((i : Int) < (n : Int)) = true := decide_eq_true (by omega)
      obtain ⟨k, u', a1, a2, a3⟩ := at_ M hM u tb m (f + i) (by omega) ho.1.sorted (tab.grew hu).at (by omega)
      rw [rate_atF m (f + i) k a3] at a1
      have ad : int2 addO (.int .i64 f) (.int .i64 (i : Int)) = some (.int .i64 (f + i)) := add_e _ _ (by omega) (by omega)
      have rb : ∀ p ∈ m, 0 ≤ p.2 ∧ p.2 ≤ 1000000000 := fun p hp => (ho.2 p hp).2
      have b1 := sumA_bound m rb f i
      have b2 := atF_bound m rb (f + i) 0 (by omega)
      have aq : int2 addO (.int .i64 (sumA m f i)) (.int .i64 (atF 0 m (f + i))) = some (.int .i64 (sumA m f (i + 1))) := add_e _ _ (by omega) (by omega)
      have hai : int2 addO (.int .i64 (i : Int)) (.int .i64 1) = some (.int .i64 ((i + 1 : Nat) : Int)) := by rw [add_e _ _ (by omega) (by omega)]; rfl
      simp only [op2_s', op_s', op2_op, op2_op2, op2_cond, ev_v', call_r', map_c', map_n', bin_e', pick_e', not_e, ext_e', nth_z', nth_1', nth_2', nth_3', gval_e, gval_u', cmp_e, orUndef_t', orUndef_f', condV_t', condV_f', cond_true, cond_false, eqI_eq, neI_eq, ltI_eq, leI_eq, gtI_eq', geI_eq, Bool.not_true, Bool.not_false, beq_self_eq_true, tf_beq, ft_beq, eq_self, decide_true, decide_false, oneOf1, orU_some, g1, g2, g3, g9, g11, g12, e1, ad, a1, aq, hai, thenX_n']
      have hg : Grew (2 * (i + 1)) s0 u' := by
        have := hu.trans a2
        rwa [show 2 * i + 2 = 2 * (i + 1) by omega] at this
      exact ih (i + 1) _ u' hg ((by kernel_rfl : _ = fs.get t1).trans g1) ((by kernel_rfl : _ = fs.get t2).trans g2) ((by kernel_rfl : _ = fs.get t3).trans g3) ((by kernel_rfl : _ = fs.get t9).trans g9) (by kernel_rfl) (by kernel_rfl) (by omega) (by omega)
    · have e1 : decide ((i : Int) < (n : Int)) = false := decide_eq_false (by omega)
      have hin : i = n := by omega
      subst hin
      simp only [op2_s', op_s', op2_op, op2_op2, op2_cond, ev_v', call_r', map_c', map_n', bin_e', pick_e', not_e, ext_e', nth_z', nth_1', nth_2', nth_3', gval_e, gval_u', cmp_e, orUndef_t', orUndef_f', condV_t', condV_f', cond_true, cond_false, eqI_eq, neI_eq, ltI_eq, leI_eq, gtI_eq', geI_eq, Bool.not_true, Bool.not_false, beq_self_eq_true, tf_beq, ft_beq, eq_self, decide_true, decide_false, oneOf1, orU_some, g2, g12, e1, thenX_e']
      exact ⟨_, _, rfl, ⟨u1, by omega, hu.2.2⟩, (by kernel_rfl : _ = fs.get t1).trans g1, (by kernel_rfl : _ = fs.get t2).trans g2, (by kernel_rfl : _ = fs.get t3).trans g3, (by kernel_rfl : _ = fs.get t9).trans g9, (by kernel_rfl : _ = fs.get t11).trans g11⟩
theorem days_r0 (M : Nat) (hM : 2000 ≤ M) (u : St) (tb : Nat) (v : Value) (m : List (Int × Int)) (f : Int) (n c : Nat) (hm : m.length ≤ 256) (ho : Okl m) (tab : Tab u tb v m) (hf : 0 ≤ f ∧ f ≤ 109572) (hc : c ≤ n) (hn4 : n ≤ 400) (hfn : f + n ≤ 109573) (h8 : 8 ≤ u.next) (hn : u.next + 2000 ≤ lim) (fs : Frm) (g1 : fs.get t1 = some (.int .i64 f)) (g2 : fs.get t2 = some (.int .i64 (n : Int))) (g3 : fs.get t3 = some (.int .i64 (c : Int))) (g9 : fs.get t9 = some (.pointer (some ⟨tb, 0, none⟩))) (g11 : fs.get t11 = some (.int .i64 (sumA m f n))) :
    ∃ fs' u', c5_r0 (callN E (M + 4)) (M + 4) fs u = some (.ret, fs', u') ∧ fs'.get t8 = some (.bool true) ∧ Grew 800 u u' := by
  have cl : ∀ x : Int, 0 ≤ x → x ≤ 109573 → clamp x = x := fun x h h' => by unfold clamp; omega
  obtain ⟨w1, a1, a2⟩ := sum (M + 3) (by omega) u tb v m f (f + n) (by omega) ho tab h8 (by omega)
  have a1' : callN E (M + 4) 16 [.pointer (some ⟨tb, 0, none⟩), .int .i64 f, .int .i64 (f + n)] u = some (.int .i64 (sumA m f n), w1) := by
    rw [cl f (by omega) (by omega), cl (f + n) (by omega) (by omega), sumP_sumA m ho.1 f n (by omega)] at a1
    exact a1
  have t1' := tab.grew a2
  have n1 := a2.1
  have n1' := a2.2.1
  obtain ⟨w2, b1, b2⟩ := sum (M + 3) (by omega) w1 tb v m f (f + c) (by omega) ho t1' (by omega) (by omega)
  have b1' : callN E (M + 4) 16 [.pointer (some ⟨tb, 0, none⟩), .int .i64 f, .int .i64 (f + c)] w1 = some (.int .i64 (sumA m f c), w2) := by
    rw [cl f (by omega) (by omega), cl (f + c) (by omega) (by omega), sumP_sumA m ho.1 f c (by omega)] at b1
    exact b1
  have t2' := t1'.grew b2
  have n2 := b2.1
  have n2' := b2.2.1
  obtain ⟨w3, d1, d2⟩ := sum (M + 3) (by omega) w2 tb v m (f + c) (f + n) (by omega) ho t2' (by omega) (by omega)
  have efn : f + (n : Int) = (f + c) + ((n - c : Nat) : Int) := by omega
  have d1' : callN E (M + 4) 16 [.pointer (some ⟨tb, 0, none⟩), .int .i64 (f + c), .int .i64 (f + n)] w2 = some (.int .i64 (sumA m (f + c) (n - c)), w3) := by
    rw [cl (f + c) (by omega) (by omega), cl (f + n) (by omega) (by omega)] at d1
    have := sumP_sumA m ho.1 (f + c) (n - c) (by omega)
    rw [← efn] at this
    rw [this] at d1
    exact d1
  have rb : ∀ p ∈ m, 0 ≤ p.2 ∧ p.2 ≤ 1000000000 := fun p hp => (ho.2 p hp).2
  have hadd := sumA_add m f c (n - c)
  rw [show c + (n - c) = n by omega] at hadd
  have q1 := sumA_bound m rb f c
  have q2 := sumA_bound m rb (f + c) (n - c)
  have e1 : decide (sumA m f n = sumA m f n) = true := decide_eq_true rfl
  have p1 : int2 addO (.int .i64 f) (.int .i64 (n : Int)) = some (.int .i64 (f + n)) := add_e _ _ (by omega) (by omega)
  have p2 : int2 addO (.int .i64 f) (.int .i64 (c : Int)) = some (.int .i64 (f + c)) := add_e _ _ (by omega) (by omega)
  have p3 : int2 addO (.int .i64 (sumA m f c)) (.int .i64 (sumA m (f + c) (n - c))) = some (.int .i64 (sumA m f n)) := by rw [hadd]; exact add_e _ _ (by omega) (by omega)
  rw [d5_r0]
  unfold D5_r0
  simp only [op2_s', op_s', op2_op, op2_op2, op2_cond, ev_v', call_r', map_c', map_n', bin_e', pick_e', not_e, ext_e', nth_z', nth_1', nth_2', nth_3', gval_e, gval_u', cmp_e, orUndef_t', orUndef_f', condV_t', condV_f', cond_true, cond_false, eqI_eq, neI_eq, ltI_eq, leI_eq, gtI_eq', geI_eq, Bool.not_true, Bool.not_false, beq_self_eq_true, tf_beq, ft_beq, eq_self, decide_true, decide_false, oneOf1, orU_some, g1, g2, g3, g9, g11, p1, a1', e1, p2, b1', d1', p3]
  have n3 := d2.1
  have n3' := d2.2.1
  exact ⟨_, _, rfl, by kernel_rfl, by omega, by omega, fun y hy => by rw [d2.2.2 y (by omega), b2.2.2 y (by omega), a2.2.2 y hy]⟩
theorem k5 (M : Nat) (a b c d : Value) (s : St) : callN E (M + 1) 5 [a, b, c, d] s = callF (callN E M) M c5 [a, b, c, d] s := by kernel_rfl
set_option maxHeartbeats 2000000 in
theorem days (M : Nat) (hM : 2000 ≤ M) (s s1 : St) (a0 : Value) (L : List (Int × Int)) (f n c : Int) (hin : Inp s a0 L) (haw : callN E (M + 4) 12 [] s = some (.bool true, s1)) (h8 : 8 ≤ s1.next) (hn : s1.next ≤ 2000) (hlow : s1.getC 0 = s.getC 0) :
    ∃ u', callN E (M + 5) 5 [a0, .int .i64 f, .int .i64 n, .int .i64 c] s = some (.bool true, u') ∧ u'.getC 0 = s.getC 0 := by
  have hlim : lim = 1000000000 := rfl
  have hlen := hin.len
  rw [k5, d5]
  unfold D5
  by_cases h1 : (40 : Int) < (L.length : Int)
  · have e1 : decide ((40 : Int) < (L.length : Int)) = true := decide_eq_true h1
    exact ⟨s1, by simp only [op2_s', op_s', op2_op, op2_op2, op2_cond, ev_v', call_r', map_c', map_n', bin_e', pick_e', not_e, ext_e', nth_z', nth_1', nth_2', nth_3', gval_e, gval_u', cmp_e, orUndef_t', orUndef_f', condV_t', condV_f', cond_true, cond_false, eqI_eq, neI_eq, ltI_eq, leI_eq, gtI_eq', geI_eq, Bool.not_true, Bool.not_false, beq_self_eq_true, tf_beq, ft_beq, eq_self, decide_true, decide_false, oneOf1, orU_some, haw, hlen, gtI_eq', e1], hlow⟩
  have e1 : decide ((40 : Int) < (L.length : Int)) = false := decide_eq_false h1
  by_cases h2 : f < 0
  · have e2 : decide (f < 0) = true := decide_eq_true h2
    exact ⟨s1, by simp only [op2_s', op_s', op2_op, op2_op2, op2_cond, ev_v', call_r', map_c', map_n', bin_e', pick_e', not_e, ext_e', nth_z', nth_1', nth_2', nth_3', gval_e, gval_u', cmp_e, orUndef_t', orUndef_f', condV_t', condV_f', cond_true, cond_false, eqI_eq, neI_eq, ltI_eq, leI_eq, gtI_eq', geI_eq, Bool.not_true, Bool.not_false, beq_self_eq_true, tf_beq, ft_beq, eq_self, decide_true, decide_false, oneOf1, orU_some, haw, hlen, gtI_eq', e1, e2], hlow⟩
  have e2 : decide (f < 0) = false := decide_eq_false h2
  by_cases h3 : 109572 < f
  · have e3 : decide (109572 < f) = true := decide_eq_true h3
    exact ⟨s1, by simp only [op2_s', op_s', op2_op, op2_op2, op2_cond, ev_v', call_r', map_c', map_n', bin_e', pick_e', not_e, ext_e', nth_z', nth_1', nth_2', nth_3', gval_e, gval_u', cmp_e, orUndef_t', orUndef_f', condV_t', condV_f', cond_true, cond_false, eqI_eq, neI_eq, ltI_eq, leI_eq, gtI_eq', geI_eq, Bool.not_true, Bool.not_false, beq_self_eq_true, tf_beq, ft_beq, eq_self, decide_true, decide_false, oneOf1, orU_some, haw, hlen, gtI_eq', e1, e2, e3], hlow⟩
  have e3 : decide (109572 < f) = false := decide_eq_false h3
  by_cases h4 : n < 0
  · have e4 : decide (n < 0) = true := decide_eq_true h4
    exact ⟨s1, by simp only [op2_s', op_s', op2_op, op2_op2, op2_cond, ev_v', call_r', map_c', map_n', bin_e', pick_e', not_e, ext_e', nth_z', nth_1', nth_2', nth_3', gval_e, gval_u', cmp_e, orUndef_t', orUndef_f', condV_t', condV_f', cond_true, cond_false, eqI_eq, neI_eq, ltI_eq, leI_eq, gtI_eq', geI_eq, Bool.not_true, Bool.not_false, beq_self_eq_true, tf_beq, ft_beq, eq_self, decide_true, decide_false, oneOf1, orU_some, haw, hlen, gtI_eq', e1, e2, e3, e4], hlow⟩
  have e4 : decide (n < 0) = false := decide_eq_false h4
  by_cases h5 : 400 < n
  · have e5 : decide (400 < n) = true := decide_eq_true h5
    exact ⟨s1, by simp only [op2_s', op_s', op2_op, op2_op2, op2_cond, ev_v', call_r', map_c', map_n', bin_e', pick_e', not_e, ext_e', nth_z', nth_1', nth_2', nth_3', gval_e, gval_u', cmp_e, orUndef_t', orUndef_f', condV_t', condV_f', cond_true, cond_false, eqI_eq, neI_eq, ltI_eq, leI_eq, gtI_eq', geI_eq, Bool.not_true, Bool.not_false, beq_self_eq_true, tf_beq, ft_beq, eq_self, decide_true, decide_false, oneOf1, orU_some, haw, hlen, gtI_eq', e1, e2, e3, e4, e5], hlow⟩
  have e5 : decide (400 < n) = false := decide_eq_false h5
  have sb : int2 subO (.int .i64 109572) (.int .i64 f) = some (.int .i64 (109572 - f)) := sub_e _ _ (by omega) (by omega)
  by_cases h6 : 109572 - f < n
  · have e6 : decide (109572 - f < n) = true := decide_eq_true h6
    exact ⟨s1, by simp only [op2_s', op_s', op2_op, op2_op2, op2_cond, ev_v', call_r', map_c', map_n', bin_e', pick_e', not_e, ext_e', nth_z', nth_1', nth_2', nth_3', gval_e, gval_u', cmp_e, orUndef_t', orUndef_f', condV_t', condV_f', cond_true, cond_false, eqI_eq, neI_eq, ltI_eq, leI_eq, gtI_eq', geI_eq, Bool.not_true, Bool.not_false, beq_self_eq_true, tf_beq, ft_beq, eq_self, decide_true, decide_false, oneOf1, orU_some, haw, hlen, gtI_eq', e1, e2, e3, e4, e5, sb, e6], hlow⟩
  have e6 : decide (109572 - f < n) = false := decide_eq_false h6
  by_cases h7 : c < 0
  · have e7 : decide (c < 0) = true := decide_eq_true h7
    exact ⟨s1, by simp only [op2_s', op_s', op2_op, op2_op2, op2_cond, ev_v', call_r', map_c', map_n', bin_e', pick_e', not_e, ext_e', nth_z', nth_1', nth_2', nth_3', gval_e, gval_u', cmp_e, orUndef_t', orUndef_f', condV_t', condV_f', cond_true, cond_false, eqI_eq, neI_eq, ltI_eq, leI_eq, gtI_eq', geI_eq, Bool.not_true, Bool.not_false, beq_self_eq_true, tf_beq, ft_beq, eq_self, decide_true, decide_false, oneOf1, orU_some, haw, hlen, gtI_eq', e1, e2, e3, e4, e5, sb, e6, e7], hlow⟩
  have e7 : decide (c < 0) = false := decide_eq_false h7
  by_cases h9 : n < c
  · have e9 : decide (n < c) = true := decide_eq_true h9
    exact ⟨s1, by simp only [op2_s', op_s', op2_op, op2_op2, op2_cond, ev_v', call_r', map_c', map_n', bin_e', pick_e', not_e, ext_e', nth_z', nth_1', nth_2', nth_3', gval_e, gval_u', cmp_e, orUndef_t', orUndef_f', condV_t', condV_f', cond_true, cond_false, eqI_eq, neI_eq, ltI_eq, leI_eq, gtI_eq', geI_eq, Bool.not_true, Bool.not_false, beq_self_eq_true, tf_beq, ft_beq, eq_self, decide_true, decide_false, oneOf1, orU_some, haw, hlen, gtI_eq', e1, e2, e3, e4, e5, sb, e6, e7, e9], hlow⟩
  have e9 : decide (n < c) = false := decide_eq_false h9
  obtain ⟨n', rfl⟩ : ∃ n' : Nat, n = n' := ⟨n.toNat, by omega⟩
  obtain ⟨c', rfl⟩ : ∃ c' : Nat, c = c' := ⟨c.toNat, by omega⟩
  obtain ⟨u0, n1, n2, n3, n4⟩ := new_tab (M + 3) s1 (by omega)
  have n1' : callN E (M + 4) 13 [] s1 = some (.pointer (some ⟨s1.next, 0, none⟩), u0) := n1
  have hin0 : Inp u0 a0 L := by
    rcases hin with h | ⟨c, h1, h2⟩
    · exact .inl h
    · exact .inr ⟨c, h1, fun e => by rw [n4 0 (by omega), hlow]; exact h2 e⟩
  have tab0 : Tab u0 s1.next (.slice none 0 0) (putAll [] (L.take 0)) := ⟨h8, by omega, n3, .inl ⟨rfl, rfl⟩, fun b hb => by cases hb⟩
  have key : ∀ fs : Frm, fs.get t0 = some a0 → fs.get t1 = some (.int .i64 f) → fs.get t2 = some (.int .i64 (n' : Int)) → fs.get t3 = some (.int .i64 (c' : Int)) → fs.get t9 = some (.pointer (some ⟨s1.next, 0, none⟩)) → fs.get t10 = some (.int .i64 0) →
      ∃ u', (opt2 (loopF (c5_l0 (callN E (M + 4)) (M + 4)) (M + 4) fs u0) fun e r => opt2 (blkX 0 e r) fun e r => opt2 (thenX (c5_r1 (callN E (M + 4)) (M + 4)) e r) fun e r => finX [.tmp t8] e r) = some (.bool true, u') ∧ u'.getC 0 = s.getC 0 := by
    intro fs g0 g1 g2 g3 g9 g10
    obtain ⟨fs1, u1, v1, r1, r2, r3, r4, p1, p2, p3, p9, tab⟩ := loopD M hM u0 a0 L (by omega) hin0 s1.next u0.next (by omega) (.int .i64 f) (.int .i64 (n' : Int)) (.int .i64 (c' : Int)) (M + 4) 0 fs u0 (.slice none 0 0) (fun _ _ => rfl) (by omega) (by omega) g0 g1 g2 g3 g9 g10 tab0 (by omega) (by omega)
    obtain ⟨ok, okl⟩ := putAll_ok L [] okl_nil
    have hm : (putAll [] L).length ≤ 60 := by simp at okl; omega
    obtain ⟨fs2, u2, c1, c2, o1, o2, o3, o9, o11⟩ := loopE M hM u1 s1.next v1 _ (by omega) ok tab f n' (by omega) (by omega) (by omega) (by omega) (.int .i64 (c' : Int)) (M + 4) 0 (PT.put (.int .i64 0) t12 (PT.put (.int .i64 0) t11 fs1)) u1 ⟨by omega, by omega, fun _ _ => rfl⟩ ((by kernel_rfl : _ = fs1.get t1).trans p1) ((by kernel_rfl : _ = fs1.get t2).trans p2) ((by kernel_rfl : _ = fs1.get t3).trans p3) ((by kernel_rfl : _ = fs1.get t9).trans p9) (by kernel_rfl) (by kernel_rfl) (by omega) (by omega)
    have q5 := c2.1
    have q6 := c2.2.1
    obtain ⟨fs3, u3, f1, f2, f3⟩ := days_r0 M hM u2 s1.next v1 _ f n' c' (by omega) ok (tab.grew c2) (by omega) (by omega) (by omega) (by omega) (by omega) (by omega) fs2 o1 o2 o3 o9 o11
    refine ⟨u3, ?_, ?_⟩
    · rw [r1]
      simp only [op2_s', blkX_e, Nat.beq_refl, thenX_n', cond_true, d5_r1, D5_r1]
      rw [c1]
      simp only [op2_s', blkX_e, Nat.beq_refl, thenX_n', cond_true]
      rw [f1]
      simp only [op2_s', finX_r', res_t, res_n, f2, orU_some, oneOf1]
    · rw [f3.2.2 0 (by omega), c2.2.2 0 (by omega), r2 0 (by omega), n4 0 (by omega), hlow]
  simp only [op2_s', op_s', op2_op, op2_op2, op2_cond, ev_v', call_r', map_c', map_n', bin_e', pick_e', not_e, ext_e', nth_z', nth_1', nth_2', nth_3', gval_e, gval_u', cmp_e, orUndef_t', orUndef_f', condV_t', condV_f', cond_true, cond_false, eqI_eq, neI_eq, ltI_eq, leI_eq, gtI_eq', geI_eq, Bool.not_true, Bool.not_false, beq_self_eq_true, tf_beq, ft_beq, eq_self, decide_true, decide_false, oneOf1, orU_some, haw, hlen, gtI_eq', e1, e2, e3, e4, e5, sb, e6, e7, e9, n1']
  exact key _ (by kernel_rfl) (by kernel_rfl) (by kernel_rfl) (by kernel_rfl) (by kernel_rfl) (by kernel_rfl)
theorem lawRateDays {v : Value} {L : List (Int × Int)} {W : World} (hv : PairsAt .i64 .i64 W v L) (f n c : Int) : Calls Try.prog 5 [v, .int .i64 f, .int .i64 n, .int .i64 c].toArray W fun e w' => e = .returned (.bool true) ∧ RowKit.Below W.heap.size W w' := by
  refine pairs_law mixed exOk (E := E) (n := 3004) ⟨fnsOk, known⟩ (rest := [.int .i64 f, .int .i64 n, .int .i64 c]) rfl hv fun s a hs ha => ?_
  obtain ⟨s1, h1, h2, h3, h4⟩ := awake L s hs
  obtain ⟨u', r1, r2⟩ := days 2999 (by decide) s s1 a L f n c (inp L s a hs ha) h1 h2 h3 h4
  exact ⟨u', r1, kept r2 L hs⟩
end Go.Proofs.Ythjhammjankekaa.AbsRatO
