import Derived.Test.YtdfmhjbmenfaeaaDoorSymO
import Derived.Test.YtdfmhjbmenfaeaaDoorSymM
namespace Go.Proofs.YtdfmhjbmenfaeaaDoor.AbsCalD
open Go Go.Abs Go.Proofs
set_option maxRecDepth 100000
set_option linter.unusedVariables false
set_option linter.unusedSimpArgs false
attribute [local congr] opt2_cg opt_cg condV_cg cond_cg
/-! ReadDay and Read, whole -/
def ofR (y m d : Int) : Int × Bool := if 1900 ≤ y ∧ y ≤ 2199 ∧ 1 ≤ d ∧ d ≤ daysF y m then (beforeF y + sumTo y (m - 1).toNat + d - 1, true) else (0, false)
def pV (p : Int × Bool) : Value := tupOf [.int .i64 p.1, .bool p.2]
theorem ofR_in {y m d : Int} (h : 1900 ≤ y ∧ y ≤ 2199 ∧ 1 ≤ d ∧ d ≤ daysF y m) : ∃ k : Nat, m = (k : Int) + 1 ∧ k ≤ 11 ∧ pV (ofR y m d) = ofV y k d ∧ IsDate (ofR y m d).1 y k d := by
  obtain ⟨k, rfl, hk⟩ := days_pos (show 1 ≤ daysF y m by omega)
  have e : ((k : Int) + 1 - 1).toNat = k := by omega
  have er : ofR y ((k : Int) + 1) d = (beforeF y + sumTo y k + d - 1, true) := by
    unfold ofR
    rw [if_pos h, e]
  exact ⟨k, rfl, hk, by rw [er]; rfl, by rw [er]; exact ⟨h.1, h.2.1, hk, h.2.2.1, h.2.2.2, rfl⟩⟩
theorem ofR_out {y m d : Int} (h : ¬ (1900 ≤ y ∧ y ≤ 2199 ∧ 1 ≤ d ∧ d ≤ daysF y m)) : ofR y m d = (0, false) := by
  unfold ofR
  rw [if_neg h]
theorem e11r (N : Nat) (y m d : Int) (s : St) : callN E (N + 500) 11 [.int .i64 y, .int .i64 m, .int .i64 d] s = some (pV (ofR y m d), s) := by
  by_cases h : 1900 ≤ y ∧ y ≤ 2199 ∧ 1 ≤ d ∧ d ≤ daysF y m
  · obtain ⟨k, rfl, hk, h1, h2⟩ := ofR_in h
    rw [h1]
    exact e11 N y d k s h.1 h.2.1 hk h.2.2.1 h.2.2.2
  · rw [ofR_out h]
    exact e11o N y m d s h
theorem e19r (N : Nat) (y m d : Int) (s : St) : callN E (N + 500) 19 [.int .i64 y, .int .i64 m, .int .i64 d] s = some (pV (ofR y m d), s) := by
  by_cases h : 1900 ≤ y ∧ y ≤ 2199 ∧ 1 ≤ d ∧ d ≤ daysF y m
  · obtain ⟨k, rfl, hk, h1, h2⟩ := ofR_in h
    rw [h1]
    exact e19 N y d k s h.1 h.2.1 hk h.2.2.1 h.2.2.2
  · rw [ofR_out h]
    exact e19o N y m d s h
theorem ne45 {b : UInt8} (h : b ≠ 45) : decide ((b.toNat : Int) = 45) = false := decide_eq_false fun e => h (by
  have e : b.toNat = 45 := by omega
  exact UInt8.toNat_inj.1 (by rw [e]; rfl))
/-- a text of the shape of a day -/
def Shape (l : List UInt8) : Prop := ∃ b0 b1 b2 b3 b5 b6 b8 b9 : UInt8, l = [b0, b1, b2, b3, 45, b5, b6, 45, b8, b9]
theorem ten {l : List UInt8} (h : l.length = 10) : ∃ b0 b1 b2 b3 b4 b5 b6 b7 b8 b9 : UInt8, l = [b0, b1, b2, b3, b4, b5, b6, b7, b8, b9] := by
  match l, h with
  | [b0, b1, b2, b3, b4, b5, b6, b7, b8, b9], _ => exact ⟨_, _, _, _, _, _, _, _, _, _, rfl⟩
theorem ix4 (b0 b1 b2 b3 b4 b5 b6 b7 b8 b9 : UInt8) (rec : Rec) (s : St) : oIdxS (.v (.string ⟨⟨[b0, b1, b2, b3, b4, b5, b6, b7, b8, b9]⟩⟩)) (.v (.int .i64 4)) rec PT.nil s = some (.int .u8 (b4.toNat : Int), s) := idxS_e [b0, b1, b2, b3, b4, b5, b6, b7, b8, b9] 4 (by show 4 < 10; decide) rec PT.nil s
theorem ix7 (b0 b1 b2 b3 b4 b5 b6 b7 b8 b9 : UInt8) (rec : Rec) (s : St) : oIdxS (.v (.string ⟨⟨[b0, b1, b2, b3, b4, b5, b6, b7, b8, b9]⟩⟩)) (.v (.int .i64 7)) rec PT.nil s = some (.int .u8 (b7.toNat : Int), s) := idxS_e [b0, b1, b2, b3, b4, b5, b6, b7, b8, b9] 7 (by show 7 < 10; decide) rec PT.nil s
theorem no13 (rec : Rec) (N : Nat) (l : List UInt8) (h : ¬ Shape l) (s : St) : callF rec N c13 [.string ⟨⟨l⟩⟩] s = some (noV, s) := by
  rw [d13]
  unfold D13
  by_cases hl : l.length = 10
  · obtain ⟨b0, b1, b2, b3, b4, b5, b6, b7, b8, b9, rfl⟩ := ten hl
    have el : decide ((([b0, b1, b2, b3, b4, b5, b6, b7, b8, b9] : List UInt8).length : Int) = 10) = true := rfl
    by_cases h4 : b4 = 45
    · subst h4
      have h7 : b7 ≠ 45 := fun e => h (by subst e; exact ⟨_, _, _, _, _, _, _, _, rfl⟩)
      simp only [op2_s', op_s', op2_op, op2_op2, op2_cond, ev_v', call_r', map_c', map_n', bin_e', pick_e', not_e, ext_e', nth_z', nth_1', nth_2', nth_3', gval_e, gval_u', cmp_e, orUndef_t', orUndef_f', condV_t', condV_f', cond_true, cond_false, eqI_eq, neI_eq, ltI_eq, leI_eq, gtI_eq', geI_eq, Bool.not_true, Bool.not_false, beq_self_eq_true, tf_beq, ft_beq, eq_self, decide_true, decide_false, oneOf1, orU_some, lenS_e, el, ix4, ix7, ne45 h7, show decide (((45 : UInt8).toNat : Int) = 45) = true from rfl]
      rfl
    · simp only [op2_s', op_s', op2_op, op2_op2, op2_cond, ev_v', call_r', map_c', map_n', bin_e', pick_e', not_e, ext_e', nth_z', nth_1', nth_2', nth_3', gval_e, gval_u', cmp_e, orUndef_t', orUndef_f', condV_t', condV_f', cond_true, cond_false, eqI_eq, neI_eq, ltI_eq, leI_eq, gtI_eq', geI_eq, Bool.not_true, Bool.not_false, beq_self_eq_true, tf_beq, ft_beq, eq_self, decide_true, decide_false, oneOf1, orU_some, lenS_e, el, ix4, ix7, ne45 h4]
      rfl
  · have el : decide ((l.length : Int) = 10) = false := decide_eq_false (by omega)
    simp only [op2_s', op_s', op2_op, op2_op2, op2_cond, ev_v', call_r', map_c', map_n', bin_e', pick_e', not_e, ext_e', nth_z', nth_1', nth_2', nth_3', gval_e, gval_u', cmp_e, orUndef_t', orUndef_f', condV_t', condV_f', cond_true, cond_false, eqI_eq, neI_eq, ltI_eq, leI_eq, gtI_eq', geI_eq, Bool.not_true, Bool.not_false, beq_self_eq_true, tf_beq, ft_beq, eq_self, decide_true, decide_false, oneOf1, orU_some, lenS_e, el]
    rfl
theorem no25 (rec : Rec) (N : Nat) (l : List UInt8) (h : ¬ Shape l) (s : St) : callF rec N c25 [.string ⟨⟨l⟩⟩] s = some (noV, s) := by
  rw [d25]
  unfold D25
  by_cases hl : l.length = 10
  · obtain ⟨b0, b1, b2, b3, b4, b5, b6, b7, b8, b9, rfl⟩ := ten hl
    have el : decide ((([b0, b1, b2, b3, b4, b5, b6, b7, b8, b9] : List UInt8).length : Int) = 10) = true := rfl
    by_cases h4 : b4 = 45
    · subst h4
      have h7 : b7 ≠ 45 := fun e => h (by subst e; exact ⟨_, _, _, _, _, _, _, _, rfl⟩)
      simp only [op2_s', op_s', op2_op, op2_op2, op2_cond, ev_v', call_r', map_c', map_n', bin_e', pick_e', not_e, ext_e', nth_z', nth_1', nth_2', nth_3', gval_e, gval_u', cmp_e, orUndef_t', orUndef_f', condV_t', condV_f', cond_true, cond_false, eqI_eq, neI_eq, ltI_eq, leI_eq, gtI_eq', geI_eq, Bool.not_true, Bool.not_false, beq_self_eq_true, tf_beq, ft_beq, eq_self, decide_true, decide_false, oneOf1, orU_some, lenS_e, el, ix4, ix7, ne45 h7, show decide (((45 : UInt8).toNat : Int) = 45) = true from rfl]
      rfl
    · simp only [op2_s', op_s', op2_op, op2_op2, op2_cond, ev_v', call_r', map_c', map_n', bin_e', pick_e', not_e, ext_e', nth_z', nth_1', nth_2', nth_3', gval_e, gval_u', cmp_e, orUndef_t', orUndef_f', condV_t', condV_f', cond_true, cond_false, eqI_eq, neI_eq, ltI_eq, leI_eq, gtI_eq', geI_eq, Bool.not_true, Bool.not_false, beq_self_eq_true, tf_beq, ft_beq, eq_self, decide_true, decide_false, oneOf1, orU_some, lenS_e, el, ix4, ix7, ne45 h4]
      rfl
  · have el : decide ((l.length : Int) = 10) = false := decide_eq_false (by omega)
    simp only [op2_s', op_s', op2_op, op2_op2, op2_cond, ev_v', call_r', map_c', map_n', bin_e', pick_e', not_e, ext_e', nth_z', nth_1', nth_2', nth_3', gval_e, gval_u', cmp_e, orUndef_t', orUndef_f', condV_t', condV_f', cond_true, cond_false, eqI_eq, neI_eq, ltI_eq, leI_eq, gtI_eq', geI_eq, Bool.not_true, Bool.not_false, beq_self_eq_true, tf_beq, ft_beq, eq_self, decide_true, decide_false, oneOf1, orU_some, lenS_e, el]
    rfl
theorem build3 (rec : Rec) (s : St) : oBuildSlice 3 [(.int .i64 0), (.int .i64 0), (.int .i64 0)] [(0, 1, (.v (.int .i64 0))), (1, 1, (.v (.int .i64 0))), (2, 1, (.v (.int .i64 0)))] rec PT.nil s = opt2 (s.alloc [.int .i64 0, .int .i64 0, .int .i64 0]) fun b s => some (.slice (some ⟨b, 0, none⟩) 3 3, s) := by kernel_rfl
theorem rest25 (N : Nat) (vb : Nat) (v : Int × Int × Int) (fs : Frm) (s : St) (g4 : fs.get t4 = some (.slice (some ⟨vb, 0, none⟩) 3 3)) (hb : s.getC vb = some (blk3 v)) :
    ∃ fs', D25_r0 (callN E (N + 500)) (N + 500) fs s = some (.ret, fs', ((s.seen vb).seen vb).seen vb) ∧ fs'.get t2 = some (.int .i64 (ofR v.1 v.2.1 v.2.2).1) ∧ fs'.get t3 = some (.bool (ofR v.1 v.2.1 v.2.2).2) := by
  unfold D25_r0
  have ix : ∀ (i : Nat) (w : St), i < 3 → oIdxAddrL 1 (.v (.slice (some ⟨vb, 0, none⟩) 3 3)) (.v (.int .i64 (i : Int))) (callN E (N + 500)) PT.nil w = some (.pointer (some ⟨vb, 0 + i * 1, none⟩), w) := fun i w h => idxL_e 1 vb 0 3 3 i (callN E (N + 500)) PT.nil w h
  have ix0 := fun w => ix 0 w (by omega)
  have ix1 := fun w => ix 1 w (by omega)
  have ix2 := fun w => ix 2 w (by omega)
  have l0 : ∀ (z : St), z.getC vb = some (blk3 v) → oLoad1 (.v (.pointer (some ⟨vb, 0 + 0 * 1, none⟩))) (callN E (N + 500)) PT.nil z = some (.int .i64 v.1, z.seen vb) := fun z hz => load1_e vb _ _ _ _ PT.nil z hz rfl
  have l1 : ∀ (z : St), z.getC vb = some (blk3 v) → oLoad1 (.v (.pointer (some ⟨vb, 0 + 1 * 1, none⟩))) (callN E (N + 500)) PT.nil z = some (.int .i64 v.2.1, z.seen vb) := fun z hz => load1_e vb _ _ _ _ PT.nil z hz rfl
  have l2 : ∀ (z : St), z.getC vb = some (blk3 v) → oLoad1 (.v (.pointer (some ⟨vb, 0 + 2 * 1, none⟩))) (callN E (N + 500)) PT.nil z = some (.int .i64 v.2.2, z.seen vb) := fun z hz => load1_e vb _ _ _ _ PT.nil z hz rfl
  have c19 := fun s => e19r N v.1 v.2.1 v.2.2 s
  unfold pV at c19
  have ix0' : ∀ w, oIdxAddrL 1 (.v (.slice (some ⟨vb, 0, none⟩) 3 3)) (.v (.int .i64 0)) (callN E (N + 500)) PT.nil w = some (.pointer (some ⟨vb, 0 + 0 * 1, none⟩), w) := ix0
  have ix1' : ∀ w, oIdxAddrL 1 (.v (.slice (some ⟨vb, 0, none⟩) 3 3)) (.v (.int .i64 1)) (callN E (N + 500)) PT.nil w = some (.pointer (some ⟨vb, 0 + 1 * 1, none⟩), w) := ix1
  have ix2' : ∀ w, oIdxAddrL 1 (.v (.slice (some ⟨vb, 0, none⟩) 3 3)) (.v (.int .i64 2)) (callN E (N + 500)) PT.nil w = some (.pointer (some ⟨vb, 0 + 2 * 1, none⟩), w) := ix2
  simp (disch := first | omega | (simp only [s0_getC, seen_getC, hb])) only [op2_s', op_s', op2_op, op2_op2, op2_cond, ev_v', call_r', map_c', map_n', bin_e', pick_e', not_e, ext_e', nth_z', nth_1', nth_2', nth_3', gval_e, gval_u', cmp_e, orUndef_t', orUndef_f', condV_t', condV_f', cond_true, cond_false, eqI_eq, neI_eq, ltI_eq, leI_eq, gtI_eq', geI_eq, Bool.not_true, Bool.not_false, beq_self_eq_true, tf_beq, ft_beq, eq_self, decide_true, decide_false, oneOf1, orU_some, g4, mov_f', rU_p, ix0', ix1', ix2', l0, l1, l2, rU_l, c19]
  rw [apartKs [0, 0, 1, 0, 0, 1, 0, 0, 1, 0, 0, 0, 0, 0] (by simp [allK, KindOk]) _ (by kernel_rfl)]
  simp only [cond_true]
  exact ⟨_, rfl, by kernel_rfl, by kernel_rfl⟩
theorem k25 (M : Nat) (a : Value) (s : St) : callN E (M + 1) 25 [a] s = callF (callN E M) M c25 [a] s := by kernel_rfl
theorem k13 (M : Nat) (a : Value) (s : St) : callN E (M + 1) 13 [a] s = callF (callN E M) M c13 [a] s := by kernel_rfl
/-- what a text of the shape says -/
noncomputable def ofL (l : List UInt8) : Int × Bool := by
  classical
  exact if okD l 10 then ofR (vals l 10).1 (vals l 10).2.1 (vals l 10).2.2 else (0, false)
theorem yes25 (N : Nat) (s : St) (l : List UInt8) (h : Shape l) (hn : s.next ≤ lim) (h8 : 8 ≤ s.next) : ∃ s', callN E (N + 501) 25 [.string ⟨⟨l⟩⟩] s = some (pV (ofL l), s') ∧ Grew 1 s s' := by
  obtain ⟨s1, a1, a2, a3, a4⟩ := alloc_e s [.int .i64 0, .int .i64 0, .int .i64 0] hn rfl
  have hlim : lim = 1000000000 := rfl
  have x1 := build3 (callN E (N + 500)) s
  rw [a1, op2_s'] at x1
  have hl : l.length = 10 := by obtain ⟨_, _, _, _, _, _, _, _, rfl⟩ := h; rfl
  have key : ∀ fs : Frm, fs.get t0 = some (.string ⟨⟨l⟩⟩) → fs.get t4 = some (.slice (some ⟨s.next, 0, none⟩) 3 3) → fs.get t5 = some (.int .i64 0) → ∃ s', (opt2 (loopF (c25_l0 (callN E (N + 500)) (N + 500)) (N + 500) fs s1) fun e r => opt2 (blkX 0 e r) fun e r => opt2 (thenX (c25_r0 (callN E (N + 500)) (N + 500)) e r) fun e r => finX [.tmp t2, .tmp t3] e r) = some (pV (ofL l), s') ∧ Grew 1 s s' := by
    intro fs g0 g4 g5
    obtain ⟨e, fs', u', r1, r2, r3, r4⟩ := loop25 (callN E (N + 500)) (N + 500) s1 s.next h8 (by omega) l hl (N + 500) 0 fs s1 rfl (fun _ _ => rfl) a3 (fun j hj => absurd hj (Nat.not_lt_zero j)) g0 g4 g5 (by omega) (by omega)
    have gg : Grew 1 s u' := ⟨by rw [r2]; omega, by rw [r2]; omega, fun y hy => (r3 y (by omega)).trans (a4 y (by omega))⟩
    rw [r1]
    rcases r4 with ⟨rfl, q2, q3, q4⟩ | ⟨rfl, q1, q2, q3⟩
    · refine ⟨u', ?_, gg⟩
      have eo : ofL l = (0, false) := by unfold ofL; rw [if_neg q4]
      rw [eo]
      simp only [op2_s', blkX_r, thenX_r', finX_r']
      show some (oneOf [orU (fs'.get t2), orU (fs'.get t3)], u') = _
      rw [q2, q3]
      rfl
    · obtain ⟨fs2, z1, z2, z3⟩ := rest25 N s.next (vals l 10) fs' u' q1 q2
      refine ⟨((u'.seen s.next).seen s.next).seen s.next, ?_, ?_, ?_, ?_⟩
      · have eo : ofL l = ofR (vals l 10).1 (vals l 10).2.1 (vals l 10).2.2 := by unfold ofL; rw [if_pos q3]
        rw [eo]
        simp only [op2_s', blkX_e, Nat.beq_refl, cond_true, thenX_n', d25_r0]
        rw [z1]
        simp only [op2_s', finX_r']
        show some (oneOf [orU (fs2.get t2), orU (fs2.get t3)], _) = _
        rw [z2, z3]
        rfl
      · simp only [St.seen_next]; exact gg.1
      · simp only [St.seen_next]; exact gg.2.1
      · intro y hy
        simp only [seen_getC]
        exact gg.2.2 y hy
  obtain ⟨b0, b1, b2, b3, b5, b6, b8, b9, rfl⟩ := h
  have el : decide ((([b0, b1, b2, b3, 45, b5, b6, 45, b8, b9] : List UInt8).length : Int) = 10) = true := rfl
  rw [k25, d25]
  unfold D25
  simp only [op2_s', op_s', op2_op, op2_op2, op2_cond, ev_v', call_r', map_c', map_n', bin_e', pick_e', not_e, ext_e', nth_z', nth_1', nth_2', nth_3', gval_e, gval_u', cmp_e, orUndef_t', orUndef_f', condV_t', condV_f', cond_true, cond_false, eqI_eq, neI_eq, ltI_eq, leI_eq, gtI_eq', geI_eq, Bool.not_true, Bool.not_false, beq_self_eq_true, tf_beq, ft_beq, eq_self, decide_true, decide_false, oneOf1, orU_some, lenS_e, el, ix4, ix7, show decide (((45 : UInt8).toNat : Int) = 45) = true from rfl, x1]
  exact key _ (by kernel_rfl) (by kernel_rfl) (by kernel_rfl)
end Go.Proofs.YtdfmhjbmenfaeaaDoor.AbsCalD
