import Derived.Test.YtdfmhjbmenfaeaaDoorSymN
namespace Go.Proofs.YtdfmhjbmenfaeaaDoor.AbsCalD
open Go Go.Abs Go.Proofs
set_option maxRecDepth 100000
set_option linter.unusedVariables false
set_option linter.unusedSimpArgs false
attribute [local congr] opt2_cg opt_cg condV_cg cond_cg
/-! the document's ReadDay: its loop -/
def dg (l : List UInt8) (i : Nat) : Int := ((l[i]?.getD 0).toNat : Int)
def okD (l : List UInt8) (i : Nat) : Prop := ∀ j, j < i → j ≠ 4 → j ≠ 7 → 48 ≤ dg l j ∧ dg l j ≤ 57
def vals (l : List UInt8) : Nat → Int × Int × Int
  | 0 => (0, 0, 0)
  | i + 1 => if i = 4 ∨ i = 7 then vals l i else if i < 4 then (10 * (vals l i).1 + (dg l i - 48), (vals l i).2.1, (vals l i).2.2)
      else if i < 7 then ((vals l i).1, 10 * (vals l i).2.1 + (dg l i - 48), (vals l i).2.2) else ((vals l i).1, (vals l i).2.1, 10 * (vals l i).2.2 + (dg l i - 48))
theorem vals_in (l : List UInt8) : ∀ i, i ≤ 10 → okD l i → (0 ≤ (vals l i).1 ∧ (vals l i).1 < 10 ^ i) ∧ (0 ≤ (vals l i).2.1 ∧ (vals l i).2.1 < 10 ^ i) ∧ (0 ≤ (vals l i).2.2 ∧ (vals l i).2.2 < 10 ^ i)
  | 0, _, _ => by
    have h : (0 : Int) < 10 ^ 0 := by decide
    exact ⟨⟨Int.le_refl _, h⟩, ⟨Int.le_refl _, h⟩, ⟨Int.le_refl _, h⟩⟩
  | i + 1, hi, h => by
    have ih := vals_in l i (by omega) fun j hj => h j (by omega)
    have hp : (10 : Int) ^ (i + 1) = 10 ^ i * 10 := Int.pow_succ ..
    have h0 : (0 : Int) < 10 ^ i := Int.pow_pos (by decide)
    rw [hp]
    unfold vals
    by_cases h1 : i = 4 ∨ i = 7
    · rw [if_pos h1]; omega
    · have hd := h i (by omega) (fun e => h1 (.inl e)) (fun e => h1 (.inr e))
      rw [if_neg h1]
      by_cases h2 : i < 4
      · rw [if_pos h2]; simp only; omega
      · rw [if_neg h2]
        by_cases h3 : i < 7
        · rw [if_pos h3]; simp only; omega
        · rw [if_neg h3]; simp only; omega
noncomputable def blk3 (v : Int × Int × Int) : Blk := [.int .i64 v.1, .int .i64 v.2.1, .int .i64 v.2.2]
set_option maxHeartbeats 4000000 in
theorem loop25 (rec : Rec) (N : Nat) (s : St) (vb : Nat) (h8 : 8 ≤ vb) (hvb : vb + 1 < 2 ^ 40) (l : List UInt8) (hl : l.length = 10) :
    ∀ (fuel i : Nat) (fs : Frm) (u : St), u.next = s.next → (∀ y, y ≠ vb → u.getC y = s.getC y) → u.getC vb = some (blk3 (vals l i)) → okD l i → fs.get t0 = some (.string ⟨⟨l⟩⟩) → fs.get t4 = some (.slice (some ⟨vb, 0, none⟩) 3 3) → fs.get t5 = some (.int .i64 (i : Int)) → i ≤ 10 → 10 - i < fuel →
    ∃ e fs' u', loopF (c25_l0 rec N) fuel fs u = some (e, fs', u') ∧ u'.next = s.next ∧ (∀ y, y ≠ vb → u'.getC y = s.getC y) ∧
      ((e = .ret ∧ fs'.get t2 = some (.int .i64 0) ∧ fs'.get t3 = some (.bool false) ∧ ¬ okD l 10) ∨ (e = .exit 0 ∧ fs'.get t4 = some (.slice (some ⟨vb, 0, none⟩) 3 3) ∧ u'.getC vb = some (blk3 (vals l 10)) ∧ okD l 10)) := by
  intro fuel
  induction fuel with
  | zero => intro i fs u _ _ _ _ _ _ _ _ h; omega
  | succ fuel ih =>
    intro i fs u hn ho hb hok g0 g4 g5 hi hf
    have hv := vals_in l i hi hok
    have hp : (10 : Int) ^ i ≤ 10 ^ 10 := by
      have := Nat.pow_le_pow_right (show 0 < 10 by omega) hi
      exact_mod_cast this
    have hp10 : (10 : Int) ^ 10 = 10000000000 := by decide
    rw [loop_s, d25_l0]
    unfold D25_l0
    by_cases hlt : i < 10
    · have e1 : decide ((i : Int) < 10) = true := decide_eq_true (by omega)
      have hai : int2 addO (.int .i64 (i : Int)) (.int .i64 1) = some (.int .i64 ((i + 1 : Nat) : Int)) := by rw [add_e _ _ (by omega) (by omega)]; rfl
      have hil : i < l.length := by omega
      have hdg : dg l i = (l[i].toNat : Int) := by unfold dg; rw [List.getElem?_eq_getElem hil]; rfl
      have hix := idxS_e l i hil
      rw [← hdg] at hix
      have hb8 : 0 ≤ dg l i ∧ dg l i < 256 := by
        have : l[i].toNat < 256 := l[i].toNat_lt
        rw [hdg]; omega
      by_cases h4 : i = 4
      · have e2 : decide ((i : Int) = 4) = true := decide_eq_true (by omega)
        simp only [op2_s', op_s', op2_op, op2_op2, op2_cond, ev_v', call_r', map_c', map_n', bin_e', pick_e', not_e, ext_e', nth_z', nth_1', nth_2', nth_3', gval_e, gval_u', cmp_e, orUndef_t', orUndef_f', condV_t', condV_f', cond_true, cond_false, eqI_eq, neI_eq, ltI_eq, leI_eq, gtI_eq', geI_eq, Bool.not_true, Bool.not_false, beq_self_eq_true, tf_beq, ft_beq, eq_self, decide_true, decide_false, oneOf1, orU_some, g0, g4, g5, e1, e2, hai, thenX_n']
        exact ih (i + 1) _ u hn ho (by rw [hb]; show some (blk3 (vals l i)) = some (blk3 (if i = 4 ∨ i = 7 then vals l i else _)); rw [if_pos (.inl h4)]) (fun j hj h1 h2 => by
          rcases Nat.lt_or_eq_of_le (Nat.le_of_lt_succ hj) with h | h
          · exact hok j h h1 h2
          · omega) ((by kernel_rfl : _ = fs.get t0).trans g0) ((by kernel_rfl : _ = fs.get t4).trans g4) (by kernel_rfl) (by omega) (by omega)
      have e2 : decide ((i : Int) = 4) = false := decide_eq_false (by omega)
      by_cases h7 : i = 7
      · have e3 : decide ((i : Int) = 7) = true := decide_eq_true (by omega)
        simp only [op2_s', op_s', op2_op, op2_op2, op2_cond, ev_v', call_r', map_c', map_n', bin_e', pick_e', not_e, ext_e', nth_z', nth_1', nth_2', nth_3', gval_e, gval_u', cmp_e, orUndef_t', orUndef_f', condV_t', condV_f', cond_true, cond_false, eqI_eq, neI_eq, ltI_eq, leI_eq, gtI_eq', geI_eq, Bool.not_true, Bool.not_false, beq_self_eq_true, tf_beq, ft_beq, eq_self, decide_true, decide_false, oneOf1, orU_some, g0, g4, g5, e1, e2, e3, hai, thenX_n']
        exact ih (i + 1) _ u hn ho (by rw [hb]; show some (blk3 (vals l i)) = some (blk3 (if i = 4 ∨ i = 7 then vals l i else _)); rw [if_pos (.inr h7)]) (fun j hj h1 h2 => by
          rcases Nat.lt_or_eq_of_le (Nat.le_of_lt_succ hj) with h | h
          · exact hok j h h1 h2
          · omega) ((by kernel_rfl : _ = fs.get t0).trans g0) ((by kernel_rfl : _ = fs.get t4).trans g4) (by kernel_rfl) (by omega) (by omega)
      have e3 : decide ((i : Int) = 7) = false := decide_eq_false (by omega)
      by_cases h48 : dg l i < 48
      · have e4 : decide (dg l i < 48) = true := decide_eq_true h48
        simp only [op2_s', op_s', op2_op, op2_op2, op2_cond, ev_v', call_r', map_c', map_n', bin_e', pick_e', not_e, ext_e', nth_z', nth_1', nth_2', nth_3', gval_e, gval_u', cmp_e, orUndef_t', orUndef_f', condV_t', condV_f', cond_true, cond_false, eqI_eq, neI_eq, ltI_eq, leI_eq, gtI_eq', geI_eq, Bool.not_true, Bool.not_false, beq_self_eq_true, tf_beq, ft_beq, eq_self, decide_true, decide_false, oneOf1, orU_some, g0, g4, g5, e1, e2, e3, hix, e4, thenX_r']
        exact ⟨_, _, _, rfl, hn, ho, .inl ⟨rfl, by kernel_rfl, by kernel_rfl, fun h => by have := h i hlt h4 h7; omega⟩⟩
      have e4 : decide (dg l i < 48) = false := decide_eq_false h48
      by_cases h57 : 57 < dg l i
      · have e5 : decide (57 < dg l i) = true := decide_eq_true h57
        simp only [op2_s', op_s', op2_op, op2_op2, op2_cond, ev_v', call_r', map_c', map_n', bin_e', pick_e', not_e, ext_e', nth_z', nth_1', nth_2', nth_3', gval_e, gval_u', cmp_e, orUndef_t', orUndef_f', condV_t', condV_f', cond_true, cond_false, eqI_eq, neI_eq, ltI_eq, leI_eq, gtI_eq', geI_eq, Bool.not_true, Bool.not_false, beq_self_eq_true, tf_beq, ft_beq, eq_self, decide_true, decide_false, oneOf1, orU_some, g0, g4, g5, e1, e2, e3, hix, e4, gtI_eq', e5, thenX_r']
        exact ⟨_, _, _, rfl, hn, ho, .inl ⟨rfl, by kernel_rfl, by kernel_rfl, fun h => by have := h i hlt h4 h7; omega⟩⟩
      have e5 : decide (57 < dg l i) = false := decide_eq_false h57
      have hok' : okD l (i + 1) := fun j hj h1 h2 => by
        rcases Nat.lt_or_eq_of_le (Nat.le_of_lt_succ hj) with h | h
        · exact hok j h h1 h2
        · subst h; omega
      have s8 := sub8_e (dg l i) (by omega) (by omega)
      have nst : ∀ (w : Int × Int × Int) (z : St), (jn (u.seen vb) (St.set z vb (some (blk3 w)))).next = z.next := fun w z => by rw [jn_next, St.set_next]
      have zst : ∀ (w : Int × Int × Int), (∀ y, y ≠ vb → (jn (u.seen vb) (St.set ⟨(u.seen vb).heap, (u.seen vb).next, 0, 0⟩ vb (some (blk3 w)))).getC y = s.getC y) ∧ (jn (u.seen vb) (St.set ⟨(u.seen vb).heap, (u.seen vb).next, 0, 0⟩ vb (some (blk3 w)))).getC vb = some (blk3 w) := fun w => ⟨fun y hy => by rw [jn_getC, set_getC _ _ _ _ h8 hvb rfl, if_neg hy, s0_getC, seen_getC, ho y hy], by rw [jn_getC, set_getC _ _ _ _ h8 hvb rfl, if_pos rfl]⟩
      by_cases c4 : i < 4
      · have hvn : vals l (i + 1) = (10 * (vals l i).1 + (dg l i - 48), (vals l i).2.1, (vals l i).2.2) := by
          show (if i = 4 ∨ i = 7 then _ else if i < 4 then _ else _) = _
          rw [if_neg (by omega), if_pos c4]
        have e6 : decide (4 < (i : Int)) = false := decide_eq_false (by omega)
        have e7 : decide (7 < (i : Int)) = false := decide_eq_false (by omega)
        have ix : ∀ (w : St), oIdxAddrL 1 (.v (.slice (some ⟨vb, 0, none⟩) 3 3)) (.v (.int .i64 0)) rec PT.nil w = some (.pointer (some ⟨vb, 0 + 0 * 1, none⟩), w) := fun w => idxL_e 1 vb 0 3 3 0 rec PT.nil w (by omega)
        have la : ∀ (z : St), z.getC vb = some (blk3 (vals l i)) → oLoad1 (.v (.pointer (some ⟨vb, 0 + 0 * 1, none⟩))) rec PT.nil z = some (.int .i64 (vals l i).1, z.seen vb) := fun z hz => load1_e vb _ _ _ rec PT.nil z hz rfl
        have st : ∀ (z : St), z.getC vb = some (blk3 (vals l i)) → oStore 1 (.v (.pointer (some ⟨vb, 0 + 0 * 1, none⟩))) (.v (.int .i64 (10 * (vals l i).1 + (dg l i - 48)))) rec PT.nil z = some (UV, z.set vb (some (blk3 (vals l (i + 1))))) := fun z hz => by
          have := store1_e vb (0 + 0 * 1) (blk3 (vals l i)) (.int .i64 (10 * (vals l i).1 + (dg l i - 48))) rec PT.nil z rfl hz (by show _ < 3; omega)
          rw [this, hvn]
          rfl
        have m1 : int2 mulO (.int .i64 10) (.int .i64 (vals l i).1) = some (.int .i64 (10 * (vals l i).1)) := mul_e _ _ (by omega) (by omega)
        have m2 : int2 addO (.int .i64 (10 * (vals l i).1)) (.int .i64 (dg l i - 48)) = some (.int .i64 (10 * (vals l i).1 + (dg l i - 48))) := add_e _ _ (by omega) (by omega)
        have rc := fun v fs s => rU_c v fs s (St.set ⟨(u.seen vb).heap, (u.seen vb).next, 0, 0⟩ vb (some (blk3 (vals l (i + 1)))))
        simp (disch := first | omega | (simp only [s0_getC, seen_getC, hb])) only [op2_s', op_s', op2_op, op2_op2, op2_cond, ev_v', call_r', map_c', map_n', bin_e', pick_e', not_e, ext_e', nth_z', nth_1', nth_2', nth_3', gval_e, gval_u', cmp_e, orUndef_t', orUndef_f', condV_t', condV_f', cond_true, cond_false, eqI_eq, neI_eq, ltI_eq, leI_eq, gtI_eq', geI_eq, Bool.not_true, Bool.not_false, beq_self_eq_true, tf_beq, ft_beq, eq_self, decide_true, decide_false, oneOf1, orU_some, g0, g4, g5, e1, e2, e3, hix, e4, gtI_eq', e5, e6, e7, mov_f', rU_p, ix, la, rU_l, m1, s8, conv64_e, m2, st, rc, hai, thenX_n']
        rw [apartKs [0, 0, 0, 0, 0, 1, 0, 0, 0, 0, 0, 0, 0, 0, 2] (by simp [allK, KindOk]) _ (by kernel_rfl)]
        simp (disch := first | omega | (simp only [s0_getC, seen_getC, hb])) only [op2_s', op_s', op2_op, op2_op2, op2_cond, ev_v', call_r', map_c', map_n', bin_e', pick_e', not_e, ext_e', nth_z', nth_1', nth_2', nth_3', gval_e, gval_u', cmp_e, orUndef_t', orUndef_f', condV_t', condV_f', cond_true, cond_false, eqI_eq, neI_eq, ltI_eq, leI_eq, gtI_eq', geI_eq, Bool.not_true, Bool.not_false, beq_self_eq_true, tf_beq, ft_beq, eq_self, decide_true, decide_false, oneOf1, orU_some, g0, g4, g5, e1, e2, e3, hix, e4, gtI_eq', e5, e6, e7, mov_f', rU_p, ix, la, rU_l, m1, s8, conv64_e, m2, st, rc, hai, thenX_n']
        exact ih (i + 1) _ _ (by rw [nst]; show (u.seen vb).next = _; rw [St.seen_next, hn]) (zst _).1 (zst _).2 hok' ((by kernel_rfl : _ = fs.get t0).trans g0) ((by kernel_rfl : _ = fs.get t4).trans g4) (by kernel_rfl) (by omega) (by omega)
      by_cases c7 : i < 7
      · have hvn : vals l (i + 1) = ((vals l i).1, 10 * (vals l i).2.1 + (dg l i - 48), (vals l i).2.2) := by
          show (if i = 4 ∨ i = 7 then _ else if i < 4 then _ else if i < 7 then _ else _) = _
          rw [if_neg (by omega), if_neg c4, if_pos c7]
        have e6 : decide (4 < (i : Int)) = true := decide_eq_true (by omega)
        have e7 : decide (7 < (i : Int)) = false := decide_eq_false (by omega)
        have ix : ∀ (w : St), oIdxAddrL 1 (.v (.slice (some ⟨vb, 0, none⟩) 3 3)) (.v (.int .i64 1)) rec PT.nil w = some (.pointer (some ⟨vb, 0 + 1 * 1, none⟩), w) := fun w => idxL_e 1 vb 0 3 3 1 rec PT.nil w (by omega)
        have la : ∀ (z : St), z.getC vb = some (blk3 (vals l i)) → oLoad1 (.v (.pointer (some ⟨vb, 0 + 1 * 1, none⟩))) rec PT.nil z = some (.int .i64 (vals l i).2.1, z.seen vb) := fun z hz => load1_e vb _ _ _ rec PT.nil z hz rfl
        have st : ∀ (z : St), z.getC vb = some (blk3 (vals l i)) → oStore 1 (.v (.pointer (some ⟨vb, 0 + 1 * 1, none⟩))) (.v (.int .i64 (10 * (vals l i).2.1 + (dg l i - 48)))) rec PT.nil z = some (UV, z.set vb (some (blk3 (vals l (i + 1))))) := fun z hz => by
          have := store1_e vb (0 + 1 * 1) (blk3 (vals l i)) (.int .i64 (10 * (vals l i).2.1 + (dg l i - 48))) rec PT.nil z rfl hz (by show _ < 3; omega)
          rw [this, hvn]
          rfl
        have m1 : int2 mulO (.int .i64 10) (.int .i64 (vals l i).2.1) = some (.int .i64 (10 * (vals l i).2.1)) := mul_e _ _ (by omega) (by omega)
        have m2 : int2 addO (.int .i64 (10 * (vals l i).2.1)) (.int .i64 (dg l i - 48)) = some (.int .i64 (10 * (vals l i).2.1 + (dg l i - 48))) := add_e _ _ (by omega) (by omega)
        have rc := fun v fs s => rU_c v fs s (St.set ⟨(u.seen vb).heap, (u.seen vb).next, 0, 0⟩ vb (some (blk3 (vals l (i + 1)))))
        simp (disch := first | omega | (simp only [s0_getC, seen_getC, hb])) only [op2_s', op_s', op2_op, op2_op2, op2_cond, ev_v', call_r', map_c', map_n', bin_e', pick_e', not_e, ext_e', nth_z', nth_1', nth_2', nth_3', gval_e, gval_u', cmp_e, orUndef_t', orUndef_f', condV_t', condV_f', cond_true, cond_false, eqI_eq, neI_eq, ltI_eq, leI_eq, gtI_eq', geI_eq, Bool.not_true, Bool.not_false, beq_self_eq_true, tf_beq, ft_beq, eq_self, decide_true, decide_false, oneOf1, orU_some, g0, g4, g5, e1, e2, e3, hix, e4, gtI_eq', e5, e6, e7, mov_f', rU_p, ix, la, rU_l, m1, s8, conv64_e, m2, st, rc, hai, thenX_n']
        rw [apartKs [0, 0, 0, 0, 0, 1, 0, 0, 0, 0, 0, 0, 0, 0, 2] (by simp [allK, KindOk]) _ (by kernel_rfl)]
        simp (disch := first | omega | (simp only [s0_getC, seen_getC, hb])) only [op2_s', op_s', op2_op, op2_op2, op2_cond, ev_v', call_r', map_c', map_n', bin_e', pick_e', not_e, ext_e', nth_z', nth_1', nth_2', nth_3', gval_e, gval_u', cmp_e, orUndef_t', orUndef_f', condV_t', condV_f', cond_true, cond_false, eqI_eq, neI_eq, ltI_eq, leI_eq, gtI_eq', geI_eq, Bool.not_true, Bool.not_false, beq_self_eq_true, tf_beq, ft_beq, eq_self, decide_true, decide_false, oneOf1, orU_some, g0, g4, g5, e1, e2, e3, hix, e4, gtI_eq', e5, e6, e7, mov_f', rU_p, ix, la, rU_l, m1, s8, conv64_e, m2, st, rc, hai, thenX_n']
        exact ih (i + 1) _ _ (by rw [nst]; show (u.seen vb).next = _; rw [St.seen_next, hn]) (zst _).1 (zst _).2 hok' ((by kernel_rfl : _ = fs.get t0).trans g0) ((by kernel_rfl : _ = fs.get t4).trans g4) (by kernel_rfl) (by omega) (by omega)
      · have hvn : vals l (i + 1) = ((vals l i).1, (vals l i).2.1, 10 * (vals l i).2.2 + (dg l i - 48)) := by
          show (if i = 4 ∨ i = 7 then _ else if i < 4 then _ else if i < 7 then _ else _) = _
          rw [if_neg (by omega), if_neg c4, if_neg c7]
        have e6 : decide (4 < (i : Int)) = true := decide_eq_true (by omega)
        have e7 : decide (7 < (i : Int)) = true := decide_eq_true (by omega)
        have ix : ∀ (w : St), oIdxAddrL 1 (.v (.slice (some ⟨vb, 0, none⟩) 3 3)) (.v (.int .i64 2)) rec PT.nil w = some (.pointer (some ⟨vb, 0 + 2 * 1, none⟩), w) := fun w => idxL_e 1 vb 0 3 3 2 rec PT.nil w (by omega)
        have la : ∀ (z : St), z.getC vb = some (blk3 (vals l i)) → oLoad1 (.v (.pointer (some ⟨vb, 0 + 2 * 1, none⟩))) rec PT.nil z = some (.int .i64 (vals l i).2.2, z.seen vb) := fun z hz => load1_e vb _ _ _ rec PT.nil z hz rfl
        have st : ∀ (z : St), z.getC vb = some (blk3 (vals l i)) → oStore 1 (.v (.pointer (some ⟨vb, 0 + 2 * 1, none⟩))) (.v (.int .i64 (10 * (vals l i).2.2 + (dg l i - 48)))) rec PT.nil z = some (UV, z.set vb (some (blk3 (vals l (i + 1))))) := fun z hz => by
          have := store1_e vb (0 + 2 * 1) (blk3 (vals l i)) (.int .i64 (10 * (vals l i).2.2 + (dg l i - 48))) rec PT.nil z rfl hz (by show _ < 3; omega)
          rw [this, hvn]
          rfl
        have m1 : int2 mulO (.int .i64 10) (.int .i64 (vals l i).2.2) = some (.int .i64 (10 * (vals l i).2.2)) := mul_e _ _ (by omega) (by omega)
        have m2 : int2 addO (.int .i64 (10 * (vals l i).2.2)) (.int .i64 (dg l i - 48)) = some (.int .i64 (10 * (vals l i).2.2 + (dg l i - 48))) := add_e _ _ (by omega) (by omega)
        have rc := fun v fs s => rU_c v fs s (St.set ⟨(u.seen vb).heap, (u.seen vb).next, 0, 0⟩ vb (some (blk3 (vals l (i + 1)))))
        simp (disch := first | omega | (simp only [s0_getC, seen_getC, hb])) only [op2_s', op_s', op2_op, op2_op2, op2_cond, ev_v', call_r', map_c', map_n', bin_e', pick_e', not_e, ext_e', nth_z', nth_1', nth_2', nth_3', gval_e, gval_u', cmp_e, orUndef_t', orUndef_f', condV_t', condV_f', cond_true, cond_false, eqI_eq, neI_eq, ltI_eq, leI_eq, gtI_eq', geI_eq, Bool.not_true, Bool.not_false, beq_self_eq_true, tf_beq, ft_beq, eq_self, decide_true, decide_false, oneOf1, orU_some, g0, g4, g5, e1, e2, e3, hix, e4, gtI_eq', e5, e6, e7, mov_f', rU_p, ix, la, rU_l, m1, s8, conv64_e, m2, st, rc, hai, thenX_n']
        rw [apartKs [0, 0, 0, 0, 0, 1, 0, 0, 0, 0, 0, 0, 0, 0, 2] (by simp [allK, KindOk]) _ (by kernel_rfl)]
        simp (disch := first | omega | (simp only [s0_getC, seen_getC, hb])) only [op2_s', op_s', op2_op, op2_op2, op2_cond, ev_v', call_r', map_c', map_n', bin_e', pick_e', not_e, ext_e', nth_z', nth_1', nth_2', nth_3', gval_e, gval_u', cmp_e, orUndef_t', orUndef_f', condV_t', condV_f', cond_true, cond_false, eqI_eq, neI_eq, ltI_eq, leI_eq, gtI_eq', geI_eq, Bool.not_true, Bool.not_false, beq_self_eq_true, tf_beq, ft_beq, eq_self, decide_true, decide_false, oneOf1, orU_some, g0, g4, g5, e1, e2, e3, hix, e4, gtI_eq', e5, e6, e7, mov_f', rU_p, ix, la, rU_l, m1, s8, conv64_e, m2, st, rc, hai, thenX_n']
        exact ih (i + 1) _ _ (by rw [nst]; show (u.seen vb).next = _; rw [St.seen_next, hn]) (zst _).1 (zst _).2 hok' ((by kernel_rfl : _ = fs.get t0).trans g0) ((by kernel_rfl : _ = fs.get t4).trans g4) (by kernel_rfl) (by omega) (by omega)
    · have e1 : decide ((i : Int) < 10) = false := decide_eq_false (by omega)
      have h10 : i = 10 := by omega
      subst h10
      simp only [op2_s', op_s', op2_op, op2_op2, op2_cond, ev_v', call_r', map_c', map_n', bin_e', pick_e', not_e, ext_e', nth_z', nth_1', nth_2', nth_3', gval_e, gval_u', cmp_e, orUndef_t', orUndef_f', condV_t', condV_f', cond_true, cond_false, eqI_eq, neI_eq, ltI_eq, leI_eq, gtI_eq', geI_eq, Bool.not_true, Bool.not_false, beq_self_eq_true, tf_beq, ft_beq, eq_self, decide_true, decide_false, oneOf1, orU_some, g5, e1, thenX_e']
      exact ⟨_, _, _, rfl, hn, ho, .inr ⟨rfl, (by kernel_rfl : _ = fs.get t4).trans g4, hb, hok⟩⟩
end Go.Proofs.YtdfmhjbmenfaeaaDoor.AbsCalD
