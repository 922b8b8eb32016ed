import Derived.Test.YtdfmhjbmenfaeaaDoorSymP
namespace Go.Proofs.YtdfmhjbmenfaeaaDoor.AbsCalD
open Go Go.Abs Go.Proofs
set_option maxRecDepth 100000
set_option linter.unusedVariables false
set_option linter.unusedSimpArgs false
attribute [local congr] opt2_cg opt_cg condV_cg cond_cg
/-! Read -/
def nY (b0 b1 b2 b3 : UInt8) : Int := numL 0 [b0, b1, b2, b3]
def nM (b5 b6 : UInt8) : Int := numL 0 [b5, b6]
theorem sl4 (b0 b1 b2 b3 b4 b5 b6 b7 b8 b9 : UInt8) (rec : Rec) (s : St) : oSliceS (.v (.string ⟨⟨[b0, b1, b2, b3, b4, b5, b6, b7, b8, b9]⟩⟩)) none (some (.v (.int .i64 4))) rec PT.nil s = some (.string ⟨⟨[b0, b1, b2, b3]⟩⟩, s) := by kernel_rfl
theorem sl57 (b0 b1 b2 b3 b4 b5 b6 b7 b8 b9 : UInt8) (rec : Rec) (s : St) : oSliceS (.v (.string ⟨⟨[b0, b1, b2, b3, b4, b5, b6, b7, b8, b9]⟩⟩)) (some (.v (.int .i64 5))) (some (.v (.int .i64 7))) rec PT.nil s = some (.string ⟨⟨[b5, b6]⟩⟩, s) := by kernel_rfl
theorem sl8 (b0 b1 b2 b3 b4 b5 b6 b7 b8 b9 : UInt8) (rec : Rec) (s : St) : oSliceS (.v (.string ⟨⟨[b0, b1, b2, b3, b4, b5, b6, b7, b8, b9]⟩⟩)) (some (.v (.int .i64 8))) none rec PT.nil s = some (.string ⟨⟨[b8, b9]⟩⟩, s) := by kernel_rfl
theorem Grew.jn {k : Nat} {s s1 : St} (g : Grew k ⟨s.heap, s.next, 0, 0⟩ s1) : Grew k s (jn s s1) := ⟨g.1, g.2.1, fun y hy => (jn_getC _ _ _).trans ((g.2.2 y hy).trans (s0_getC _ _))⟩
set_option maxHeartbeats 2000000 in
theorem yes13 (N : Nat) (s : St) (b0 b1 b2 b3 b5 b6 b8 b9 : UInt8) (hn : s.next + 3 ≤ lim) : ∃ s', callN E (N + 501) 13 [.string ⟨⟨[b0, b1, b2, b3, 45, b5, b6, 45, b8, b9]⟩⟩] s = some (pV (ofR (nY b0 b1 b2 b3) (nM b5 b6) (nM b8 b9)), s') ∧ Grew 3 s s' := by
  have el : decide ((([b0, b1, b2, b3, 45, b5, b6, 45, b8, b9] : List UInt8).length : Int) = 10) = true := rfl
  obtain ⟨s1, a1, g1⟩ := e27 N ⟨s.heap, s.next, 0, 0⟩ [b0, b1, b2, b3] (by show 4 ≤ 8; decide) (by show s.next ≤ lim; omega)
  have g1 := g1.jn
  generalize hu1 : Go.Proofs.YtdfmhjbmenfaeaaDoor.AbsCalD.jn s s1 = u1 at g1
  have n1 := g1.2.1
  obtain ⟨s2, a2, g2⟩ := e27 N ⟨u1.heap, u1.next, 0, 0⟩ [b5, b6] (by show 2 ≤ 8; decide) (by show u1.next ≤ lim; omega)
  have g2 := g2.jn
  generalize hu2 : Go.Proofs.YtdfmhjbmenfaeaaDoor.AbsCalD.jn u1 s2 = u2 at g2
  have n2 := g2.2.1
  obtain ⟨s3, a3, g3⟩ := e27 N ⟨u2.heap, u2.next, 0, 0⟩ [b8, b9] (by show 2 ≤ 8; decide) (by show u2.next ≤ lim; omega)
  have g3 := g3.jn
  generalize hu3 : Go.Proofs.YtdfmhjbmenfaeaaDoor.AbsCalD.jn u2 s3 = u3 at g3
  have c11 := fun s => e11r N (nY b0 b1 b2 b3) (nM b5 b6) (nM b8 b9) s
  unfold pV nY nM at c11
  refine ⟨u3, ?_, (g1.trans g2).trans g3⟩
  rw [k13, d13]
  unfold D13
  have r1 := fun v fs => rU_c v fs s s1
  have r2 := fun v fs => rU_c v fs u1 s2
  have r3 := fun v fs => rU_c v fs u2 s3
  rw [hu1] at r1
  rw [hu2] at r2
  rw [hu3] at r3
  simp only [op2_s', op_s', op2_op, op2_op2, op2_cond, ev_v', call_r', map_c', map_n', bin_e', pick_e', not_e, ext_e', nth_z', nth_1', nth_2', nth_3', gval_e, gval_u', cmp_e, orUndef_t', orUndef_f', condV_t', condV_f', cond_true, cond_false, eqI_eq, neI_eq, ltI_eq, leI_eq, gtI_eq', geI_eq, Bool.not_true, Bool.not_false, beq_self_eq_true, tf_beq, ft_beq, eq_self, decide_true, decide_false, oneOf1, orU_some, lenS_e, el, ix4, ix7, show decide (((45 : UInt8).toNat : Int) = 45) = true from rfl, mov_f', rU_p, sl4, sl57, sl8, a1, a2, a3, r1, r2, r3, c11]
  rw [apartKs [0, 0, 2, 0, 0, 2, 0, 0, 2, 0, 0, 0, 0, 0] (by simp [allK, KindOk]) _ (by kernel_rfl)]
  rfl
/-! what the digits say -/
theorem okD_iff (b0 b1 b2 b3 b5 b6 b8 b9 : UInt8) : okD [b0, b1, b2, b3, 45, b5, b6, 45, b8, b9] 10 ↔ (48 ≤ (b0.toNat : Int) ∧ (b0.toNat : Int) ≤ 57) ∧ (48 ≤ (b1.toNat : Int) ∧ (b1.toNat : Int) ≤ 57) ∧ (48 ≤ (b2.toNat : Int) ∧ (b2.toNat : Int) ≤ 57) ∧ (48 ≤ (b3.toNat : Int) ∧ (b3.toNat : Int) ≤ 57) ∧ (48 ≤ (b5.toNat : Int) ∧ (b5.toNat : Int) ≤ 57) ∧ (48 ≤ (b6.toNat : Int) ∧ (b6.toNat : Int) ≤ 57) ∧ (48 ≤ (b8.toNat : Int) ∧ (b8.toNat : Int) ≤ 57) ∧ (48 ≤ (b9.toNat : Int) ∧ (b9.toNat : Int) ≤ 57) := by
  constructor
  · intro h
    exact ⟨h 0 (by omega) (by omega) (by omega), h 1 (by omega) (by omega) (by omega), h 2 (by omega) (by omega) (by omega), h 3 (by omega) (by omega) (by omega), h 5 (by omega) (by omega) (by omega), h 6 (by omega) (by omega) (by omega), h 8 (by omega) (by omega) (by omega), h 9 (by omega) (by omega) (by omega)⟩
  · intro ⟨h0, h1, h2, h3, h5, h6, h8, h9⟩ j hj j4 j7
    have : j = 0 ∨ j = 1 ∨ j = 2 ∨ j = 3 ∨ j = 5 ∨ j = 6 ∨ j = 8 ∨ j = 9 := by omega
    rcases this with rfl | rfl | rfl | rfl | rfl | rfl | rfl | rfl
    · exact h0
    · exact h1
    · exact h2
    · exact h3
    · exact h5
    · exact h6
    · exact h8
    · exact h9
theorem numL2 (b c : UInt8) : nM b c = if (48 ≤ (b.toNat : Int) ∧ (b.toNat : Int) ≤ 57) ∧ (48 ≤ (c.toNat : Int) ∧ (c.toNat : Int) ≤ 57) then 10 * ((b.toNat : Int) - 48) + ((c.toNat : Int) - 48) else -1 := by
  unfold nM numL numL numL
  repeat' split
  all_goals omega
theorem numL4 (a b c d : UInt8) : nY a b c d = if (48 ≤ (a.toNat : Int) ∧ (a.toNat : Int) ≤ 57) ∧ (48 ≤ (b.toNat : Int) ∧ (b.toNat : Int) ≤ 57) ∧ (48 ≤ (c.toNat : Int) ∧ (c.toNat : Int) ≤ 57) ∧ (48 ≤ (d.toNat : Int) ∧ (d.toNat : Int) ≤ 57) then 10 * (10 * (10 * ((a.toNat : Int) - 48) + ((b.toNat : Int) - 48)) + ((c.toNat : Int) - 48)) + ((d.toNat : Int) - 48) else -1 := by
  unfold nY numL numL numL numL numL
  repeat' split
  all_goals omega
theorem vals_e (b0 b1 b2 b3 b4 b5 b6 b7 b8 b9 : UInt8) : vals [b0, b1, b2, b3, b4, b5, b6, b7, b8, b9] 10 = (10 * (10 * (10 * (10 * 0 + ((b0.toNat : Int) - 48)) + ((b1.toNat : Int) - 48)) + ((b2.toNat : Int) - 48)) + ((b3.toNat : Int) - 48), 10 * (10 * 0 + ((b5.toNat : Int) - 48)) + ((b6.toNat : Int) - 48), 10 * (10 * 0 + ((b8.toNat : Int) - 48)) + ((b9.toNat : Int) - 48)) := rfl
/-- both read alike -/
theorem alike (b0 b1 b2 b3 b5 b6 b8 b9 : UInt8) : ofL [b0, b1, b2, b3, 45, b5, b6, 45, b8, b9] = ofR (nY b0 b1 b2 b3) (nM b5 b6) (nM b8 b9) := by
  by_cases h : okD [b0, b1, b2, b3, 45, b5, b6, 45, b8, b9] 10
  · unfold ofL
    rw [if_pos h, vals_e]
    rw [okD_iff] at h
    obtain ⟨h0, h1, h2, h3, h5, h6, h8, h9⟩ := h
    rw [numL4, if_pos ⟨h0, h1, h2, h3⟩, numL2, if_pos ⟨h5, h6⟩, numL2, if_pos ⟨h8, h9⟩]
    dsimp only
    congr 1 <;> omega
  · unfold ofL
    rw [if_neg h]
    rw [okD_iff] at h
    by_cases hy : (48 ≤ (b0.toNat : Int) ∧ (b0.toNat : Int) ≤ 57) ∧ (48 ≤ (b1.toNat : Int) ∧ (b1.toNat : Int) ≤ 57) ∧ (48 ≤ (b2.toNat : Int) ∧ (b2.toNat : Int) ≤ 57) ∧ (48 ≤ (b3.toNat : Int) ∧ (b3.toNat : Int) ≤ 57)
    · by_cases hm : (48 ≤ (b5.toNat : Int) ∧ (b5.toNat : Int) ≤ 57) ∧ (48 ≤ (b6.toNat : Int) ∧ (b6.toNat : Int) ≤ 57)
      · have hd : ¬ ((48 ≤ (b8.toNat : Int) ∧ (b8.toNat : Int) ≤ 57) ∧ (48 ≤ (b9.toNat : Int) ∧ (b9.toNat : Int) ≤ 57)) := fun hd => h ⟨hy.1, hy.2.1, hy.2.2.1, hy.2.2.2, hm.1, hm.2, hd.1, hd.2⟩
        rw [numL2 b8, if_neg hd, ofR_out]
        omega
      · rw [numL2 b5, if_neg hm, ofR_out]
        intro hh
        have e : daysF (nY b0 b1 b2 b3) (-1) = 0 := by unfold daysF; rw [if_neg (by omega), if_neg (by omega), if_neg (by omega)]
        omega
    · rw [numL4, if_neg hy, ofR_out]
      omega
theorem b2_of (n a b : Nat) (ha : 48 ≤ a ∧ a ≤ 57) (hb : 48 ≤ b ∧ b ≤ 57) (h : n % 100 = 10 * (a - 48) + (b - 48)) : b2 n = [UInt8.ofNat a, UInt8.ofNat b] := by
  unfold b2
  have h1 : 48 + n / 10 % 10 = a := by omega
  have h2 : 48 + n % 10 = b := by omega
  rw [h1, h2]
/-- a text that is read is the day's text -/
theorem says (b0 b1 b2' b3 b5 b6 b8 b9 : UInt8) (h : (ofR (nY b0 b1 b2' b3) (nM b5 b6) (nM b8 b9)).2 = true) :
    ∃ k : Nat, IsDate (ofR (nY b0 b1 b2' b3) (nM b5 b6) (nM b8 b9)).1 (nY b0 b1 b2' b3) k (nM b8 b9) ∧ txt (nY b0 b1 b2' b3).toNat k (nM b8 b9).toNat = [b0, b1, b2', b3, 45, b5, b6, 45, b8, b9] := by
  by_cases hh : 1900 ≤ nY b0 b1 b2' b3 ∧ nY b0 b1 b2' b3 ≤ 2199 ∧ 1 ≤ nM b8 b9 ∧ nM b8 b9 ≤ daysF (nY b0 b1 b2' b3) (nM b5 b6)
  · obtain ⟨k, hk, hk2, _, hd⟩ := ofR_in hh
    refine ⟨k, hd, ?_⟩
    have ey := numL4 b0 b1 b2' b3
    have em := numL2 b5 b6
    have ed := numL2 b8 b9
    split at ey
    next dy =>
      split at em
      next dm =>
        split at ed
        next dd =>
          unfold txt
          rw [b2_of ((nY b0 b1 b2' b3).toNat / 100) b0.toNat b1.toNat (by omega) (by omega) (by omega), b2_of (nY b0 b1 b2' b3).toNat b2'.toNat b3.toNat (by omega) (by omega) (by omega), b2_of (k + 1) b5.toNat b6.toNat (by omega) (by omega) (by omega), b2_of (nM b8 b9).toNat b8.toNat b9.toNat (by omega) (by omega) (by omega)]
          simp only [UInt8.ofNat_toNat]
          rfl
        next => omega
      next => omega
    next => omega
  · rw [ofR_out hh] at h
    cases h
end Go.Proofs.YtdfmhjbmenfaeaaDoor.AbsCalD
