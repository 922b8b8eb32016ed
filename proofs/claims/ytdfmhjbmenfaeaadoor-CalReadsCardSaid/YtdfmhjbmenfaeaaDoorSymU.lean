import Derived.Test.YtdfmhjbmenfaeaaDoorSymQ
import Derived.Test.YtdfmhjbmenfaeaaDoorAbsCalDR
namespace Go.Proofs.YtdfmhjbmenfaeaaDoor.AbsCalD
open Go Go.Abs Go.Proofs
set_option maxRecDepth 1000000
set_option linter.unusedVariables false
set_option linter.unusedSimpArgs false
attribute [local congr] opt2_cg opt_cg condV_cg cond_cg
theorem reads (rec : Rec) (N : Nat) (l : List UInt8) (s s1 s2 s3 s4 : St) (p : Int × Bool) (haw : rec 10 [] s = some (.bool true, s1)) (h13 : rec 13 [.string ⟨⟨l⟩⟩] s1 = some (pV p, s2)) (h25 : rec 25 [.string ⟨⟨l⟩⟩] s2 = some (pV p, s3))
    (h15 : p.2 = true → rec 15 [.int .i64 p.1] s3 = some (.string ⟨⟨l⟩⟩, s4)) (hs : p.2 = false → s4 = s3) (hl : ¬ (100 : Int) < (l.length : Int)) :
    callF rec N c5 [.string ⟨⟨l⟩⟩] s = some (.bool true, s4) := by
  obtain ⟨v, b⟩ := p
  unfold pV at h13 h25
  dsimp only at h13 h25 h15 hs
  have e1 : decide ((100 : Int) < (l.length : Int)) = false := decide_eq_false hl
  have ev : decide (v = v) = true := decide_eq_true rfl
  rw [d5]
  unfold D5
  cases b
  · rw [hs rfl]
    simp only [op2_s', op_s', op2_op, op2_op2, op2_cond, ev_v', call_r', map_c', map_n', bin_e', pick_e', not_e, ext_e', nth_z', nth_1', nth_2', nth_3', gval_e, gval_u', cmp_e, orUndef_t', orUndef_f', condV_t', condV_f', cond_true, cond_false, eqI_eq, neI_eq, ltI_eq, leI_eq, gtI_eq', geI_eq, Bool.not_true, Bool.not_false, beq_self_eq_true, tf_beq, ft_beq, eq_self, decide_true, decide_false, oneOf1, orU_some, haw, lenS_e, e1, h13, h25, ev, eqb_e]
  · have h15 := h15 rfl
    simp only [op2_s', op_s', op2_op, op2_op2, op2_cond, ev_v', call_r', map_c', map_n', bin_e', pick_e', not_e, ext_e', nth_z', nth_1', nth_2', nth_3', gval_e, gval_u', cmp_e, orUndef_t', orUndef_f', condV_t', condV_f', cond_true, cond_false, eqI_eq, neI_eq, ltI_eq, leI_eq, gtI_eq', geI_eq, Bool.not_true, Bool.not_false, beq_self_eq_true, tf_beq, ft_beq, eq_self, decide_true, decide_false, oneOf1, orU_some, haw, lenS_e, e1, h13, h25, ev, eqb_e, h15, eqs_e]
theorem readsLong (rec : Rec) (N : Nat) (l : List UInt8) (s s1 : St) (haw : rec 10 [] s = some (.bool true, s1)) (hl : (100 : Int) < (l.length : Int)) :
    callF rec N c5 [.string ⟨⟨l⟩⟩] s = some (.bool true, s1) := by
  have e1 : decide ((100 : Int) < (l.length : Int)) = true := decide_eq_true hl
  rw [d5]
  unfold D5
  simp only [op2_s', op_s', op2_op, op2_op2, op2_cond, ev_v', call_r', map_c', map_n', bin_e', pick_e', not_e, ext_e', nth_z', nth_1', nth_2', nth_3', gval_e, gval_u', cmp_e, orUndef_t', orUndef_f', condV_t', condV_f', cond_true, cond_false, eqI_eq, neI_eq, ltI_eq, leI_eq, gtI_eq', geI_eq, Bool.not_true, Bool.not_false, beq_self_eq_true, tf_beq, ft_beq, eq_self, decide_true, decide_false, oneOf1, orU_some, haw, lenS_e, e1]
theorem reads_ok (N : Nat) (l : List UInt8) (s s1 : St) (haw : callN E (N + 501) 10 [] s = some (.bool true, s1)) (ht : s1.getC 0 = some tabC) (hl : s1.next + 20 ≤ lim) (h8 : 8 ≤ s1.next) :
    ∃ s3, callF (callN E (N + 501)) (N + 501) c5 [.string ⟨⟨l⟩⟩] s = some (.bool true, s3) ∧ s3.getC 0 = some tabC := by
  by_cases hlong : (100 : Int) < (l.length : Int)
  · exact ⟨s1, readsLong _ _ l s s1 haw hlong, ht⟩
  by_cases h : Shape l
  · obtain ⟨b0, b1, b2', b3, b5, b6, b8, b9, rfl⟩ := h
    obtain ⟨s2, q1, g1⟩ := yes13 N s1 b0 b1 b2' b3 b5 b6 b8 b9 (by omega)
    have n1 := g1.1
    have n1' := g1.2.1
    obtain ⟨s3, q2, g2⟩ := yes25 N s2 [b0, b1, b2', b3, 45, b5, b6, 45, b8, b9] ⟨_, _, _, _, _, _, _, _, rfl⟩ (by omega) (by omega)
    rw [alike] at q2
    have gg := g1.trans g2
    have ht3 : s3.getC 0 = some tabC := (gg.2.2 0 (by omega)).trans ht
    cases hb : (ofR (nY b0 b1 b2' b3) (nM b5 b6) (nM b8 b9)).2
    · exact ⟨s3, reads _ _ _ s s1 s2 s3 s3 _ haw q1 q2 (fun e => by rw [hb] at e; cases e) (fun _ => rfl) hlong, ht3⟩
    · obtain ⟨k, hd, ht⟩ := says b0 b1 b2' b3 b5 b6 b8 b9 hb
      obtain ⟨s4, t1, t2⟩ := text N _ _ _ k s3 hd ht3
      rw [ht] at t1
      exact ⟨s4, reads _ _ _ s s1 s2 s3 s4 _ haw q1 q2 (fun _ => t1) (fun e => by rw [hb] at e; cases e) hlong, (t2.2 0).trans ht3⟩
  · refine ⟨s1, reads _ _ l s s1 s1 s1 s1 (0, false) haw ?_ ?_ (fun e => by cases e) (fun _ => rfl) hlong, ht⟩
    · exact (k13 (N + 500) _ s1).trans (no13 _ _ l h s1)
    · exact (k25 (N + 500) _ s1).trans (no25 _ _ l h s1)
theorem k5 (M : Nat) (a : Value) (s : St) : callN E (M + 1) 5 [a] s = callF (callN E M) M c5 [a] s := by kernel_rfl
theorem lawCalReads (b : ByteArray) (W : World) (hL : laidMet Tryd.prog Rows.calReadsRow.laid W) : Calls Tryd.prog 5 #[.string b] W fun e w' => e = .returned (.bool true) ∧ RowKit.Below W.heap.size W w' := by
  obtain ⟨s1, h1, h2, h3, h4⟩ := awake
  have hlim : lim = 1000000000 := rfl
  obtain ⟨s3, r1, r2⟩ := reads_ok 1500 b.data.toList (st1 tabC) s1 h1 h2 (by omega) h3
  have hrun : callN E 2002 5 [.string b] (st1 tabC) = some (.bool true, s3) := (k5 2001 _ _).trans r1
  obtain ⟨arr, ty, g3, g4⟩ := laid_cells (n := "internal/strconv.uint64pow10") (k := .u64) (zs := pow) (g := 0) (t := 48) (e := 42) (m := 20) hL (List.Mem.tail _ (List.Mem.tail _ (List.Mem.head _))) (by kernel_rfl) (by kernel_rfl) Tryd.underlying48 Tryd.underlying42 (by kernel_rfl) (by kernel_rfl) (by decide)
  exact ro_laid mixed exOk ⟨fnsOk, known⟩ (args := [.string b]) rfl (cells := tabC) rfl rfl hrun (by rw [St.getC_get r2]; rfl) g3 g4
end Go.Proofs.YtdfmhjbmenfaeaaDoor.AbsCalD
