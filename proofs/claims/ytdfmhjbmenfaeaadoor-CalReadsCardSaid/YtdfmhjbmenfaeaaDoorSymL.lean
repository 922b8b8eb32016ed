import Derived.Test.YtdfmhjbmenfaeaaDoorSymK
namespace Go.Proofs.YtdfmhjbmenfaeaaDoor.AbsCalD
open Go Go.Abs Go.Proofs
set_option maxRecDepth 100000
set_option linter.unusedVariables false
set_option linter.unusedSimpArgs false
attribute [local congr] opt2_cg opt_cg condV_cg cond_cg
/-! texts of days -/
def Alike (s s' : St) : Prop := s'.next = s.next ∧ ∀ y, s'.getC y = s.getC y
def Grew (k : Nat) (s s' : St) : Prop := s.next ≤ s'.next ∧ s'.next ≤ s.next + k ∧ ∀ y, y < s.next → s'.getC y = s.getC y
theorem Grew.trans {j k : Nat} {a b c : St} (h : Grew j a b) (g : Grew k b c) : Grew (j + k) a c :=
  ⟨Nat.le_trans h.1 g.1, by have := h.2.1; have := g.2.1; omega, fun y hy => (g.2.2 y (Nat.lt_of_lt_of_le hy h.1)).trans (h.2.2 y hy)⟩
def b2 (n : Nat) : List UInt8 := [UInt8.ofNat (48 + n / 10 % 10), UInt8.ofNat (48 + n % 10)]
theorem conv8_e (m : Int) (rec : Rec) (fs : Frm) (s : St) (h0 : 0 ≤ m) (h : m < 256) : oConv .u8 (.v (.int .i64 m)) rec fs s = some (.int .u8 m, s) := by
  obtain ⟨m, rfl⟩ := Int.eq_ofNat_of_zero_le h0
  show (opt (mkInt .u8 (m : Int)) fun v => some (v, s)) = _
  rw [mkInt_eq, op_s]
  congr 3
  exact Abs.wrap_small .u8 m (by simp [topOf]; omega)
theorem build8 (a b : Int) (rec : Rec) (s : St) : oBuildSlice 2 [(.int .u8 0), (.int .u8 0)] [(0, 1, (.v (.int .u8 a))), (1, 1, (.v (.int .u8 b)))] rec PT.nil s = opt2 (s.alloc [.int .u8 a, .int .u8 b]) fun b s => some (.slice (some ⟨b, 0, none⟩) 2 2, s) := by kernel_rfl
theorem read_e (s : St) (b o n : Nat) (c : Blk) (h : s.getC b = some c) (hn : o + n ≤ c.length) : s.read b o n = some ((c.drop o).take n, s.seen b) := by
  unfold St.read
  rw [h, op_s, lenN_eq, ble_eq', decide_eq_true hn, cond_true, takeN_eq, dropN_eq]
theorem two (rec : Rec) (N : Nat) (n : Nat) (hn : n ≤ 100000) (s : St) (hl : s.next ≤ lim) : ∃ s', callF rec N c30 [.int .i64 (n : Int)] s = some (.string ⟨⟨b2 n⟩⟩, s') ∧ Grew 1 s s' := by
  obtain ⟨s1, a1, a2, a3, a4⟩ := alloc_e s [.int .u8 (48 + (n : Int) / 10 % 10), .int .u8 (48 + (n : Int) % 10)] hl rfl
  refine ⟨s1.seen s.next, ?_, by rw [St.seen_next]; omega, by rw [St.seen_next]; omega, fun y hy => (seen_getC _ _ _).trans (a4 y (by omega))⟩
  have q1 : int2 quoO (.int .i64 (n : Int)) (.int .i64 10) = some (.int .i64 ((n : Int) / 10)) := quo_e _ _ (by omega) (by omega) (by omega)
  have q2 : int2 remO (.int .i64 ((n : Int) / 10)) (.int .i64 10) = some (.int .i64 ((n : Int) / 10 % 10)) := rem_e _ _ (by omega) (by omega)
  have q3 : int2 addO (.int .i64 48) (.int .i64 ((n : Int) / 10 % 10)) = some (.int .i64 (48 + (n : Int) / 10 % 10)) := add_e _ _ (by omega) (by omega)
  have q4 : int2 remO (.int .i64 (n : Int)) (.int .i64 10) = some (.int .i64 ((n : Int) % 10)) := rem_e _ _ (by omega) (by omega)
  have q5 : int2 addO (.int .i64 48) (.int .i64 ((n : Int) % 10)) = some (.int .i64 (48 + (n : Int) % 10)) := add_e _ _ (by omega) (by omega)
  have q6 : oBytesStr (.v (.slice (some ⟨s.next, 0, none⟩) 2 2)) rec PT.nil s1 = some (.string ⟨⟨b2 n⟩⟩, s1.seen s.next) := by
    show opt2 (s1.read s.next 0 2) (fun c s => opt (bytesOf c) fun l => some (Value.string ⟨⟨l⟩⟩, s)) = _
    rw [read_e s1 s.next 0 2 _ a3 (by simp), op2_s']
    show opt (some [UInt8.ofNat (48 + (n : Int) / 10 % 10).toNat, UInt8.ofNat (48 + (n : Int) % 10).toNat]) _ = _
    rw [op_s', show (48 + (n : Int) / 10 % 10).toNat = 48 + n / 10 % 10 by omega, show (48 + (n : Int) % 10).toNat = 48 + n % 10 by omega]
    rfl
  rw [d30]
  unfold D30
  simp (disch := omega) only [op2_s', op_s', op2_op, op2_op2, op2_cond, ev_v', call_r', map_c', map_n', bin_e', pick_e', not_e, ext_e', nth_z', nth_1', nth_2', nth_3', gval_e, gval_u', cmp_e, orUndef_t', orUndef_f', condV_t', condV_f', cond_true, cond_false, eqI_eq, neI_eq, ltI_eq, leI_eq, gtI_eq', geI_eq, Bool.not_true, Bool.not_false, beq_self_eq_true, tf_beq, ft_beq, eq_self, decide_true, decide_false, oneOf1, orU_some, q1, q2, q3, conv8_e, q4, q5, build8, a1, q6]
theorem lenS_e (l : List UInt8) (rec : Rec) (fs : Frm) (s : St) : oLenS (.v (.string ⟨⟨l⟩⟩)) rec fs s = some (.int .i64 (l.length : Int), s) := by
  show force (lenN l) (fun n => some (Value.int .i64 (.ofNat n), s)) = _
  rw [force_eq, lenN_eq]
  rfl
theorem cat_e (a b : List UInt8) (h : a.length + b.length ≤ 1000) : str2 catO (.string ⟨⟨a⟩⟩) (.string ⟨⟨b⟩⟩) = some (.string ⟨⟨a ++ b⟩⟩) := by
  show (bif Nat.ble (lenN a + lenN b) 9223372036854775807 then some (Value.string ⟨⟨app a b⟩⟩) else none) = _
  rw [lenN_eq, lenN_eq, ble_eq', decide_eq_true (by omega), cond_true, app_eq]
noncomputable def tabC : List Value := [.int .u64 (.ofNat 1), .int .u64 (.ofNat 10), .int .u64 (.ofNat 100), .int .u64 (.ofNat 1000), .int .u64 (.ofNat 10000), .int .u64 (.ofNat 100000), .int .u64 (.ofNat 1000000), .int .u64 (.ofNat 10000000), .int .u64 (.ofNat 100000000), .int .u64 (.ofNat 1000000000), .int .u64 (.ofNat 10000000000), .int .u64 (.ofNat 100000000000), .int .u64 (.ofNat 1000000000000), .int .u64 (.ofNat 10000000000000), .int .u64 (.ofNat 100000000000000), .int .u64 (.ofNat 1000000000000000), .int .u64 (.ofNat 10000000000000000), .int .u64 (.ofNat 100000000000000000), .int .u64 (.ofNat 1000000000000000000), .int .u64 (.ofNat 10000000000000000000)]
theorem itoa_e (N : Nat) (n : Nat) (hn : n ≤ 100000) (s : St) (ht : s.getC 0 = some tabC) : callN E (N + 1) 31 [.int .i64 (n : Int)] s = some (.string ⟨⟨Lib.decDigits n⟩⟩, s.seen 0) := by
  have hk : E.known 31 [.int .i64 (n : Int)] s = some (.string ⟨⟨Lib.decDigits n⟩⟩, s.seen 0) := by
    show (bif Nat.ble n 9223372036854775807 then opt (s.getC 0) fun c => bif tabOk c powT then some (Value.string ⟨(Lib.itoa (n : Int)).toArray⟩, s.seen 0) else none else none) = _
    have ho : tabOk tabC powT = true := by kernel_rfl
    rw [ble_eq', decide_eq_true (by omega), cond_true, ht, op_s', ho, cond_true]
    have e : Lib.itoa (n : Int) = Lib.decDigits n := by
      unfold Lib.itoa
      rw [if_neg (by omega)]
      rfl
    rw [e]
  show @Option.rec (Value × St) (fun _ => Option (Value × St)) (opt (E.fns.get 31) fun fn => callF (callN E N) N fn [.int .i64 (n : Int)] s) (fun r => some r) (E.known 31 [.int .i64 (n : Int)] s) = _
  rw [hk]
theorem dec4 (y : Nat) (h1 : 1000 ≤ y) (h2 : y < 10000) : Lib.decDigits y = b2 (y / 100) ++ b2 y := by
  rw [Lib.decDigits, dif_neg (by omega), Lib.decDigits, dif_neg (by omega), Lib.decDigits_two (by omega) (by omega)]
  unfold b2
  rw [show y / 10 / 10 / 10 = y / 100 / 10 % 10 by omega, show y / 10 / 10 % 10 = y / 100 % 10 by omega]
  rfl
theorem dec2 (m : Nat) (h2 : m < 100) : (if m < 10 then 48 :: Lib.decDigits m else Lib.decDigits m) = b2 m := by
  by_cases h : m < 10
  · rw [if_pos h, Lib.decDigits_one h]
    unfold b2
    rw [show m / 10 % 10 = 0 by omega, show m % 10 = m by omega]
    rfl
  · rw [if_neg h, Lib.decDigits_two h h2]
    unfold b2
    rw [show m / 10 % 10 = m / 10 by omega]
theorem k29 (M : Nat) (a b : Value) (s : St) : callN E (M + 1) 29 [a, b] s = callF (callN E M) M c29 [a, b] s := by kernel_rfl
theorem digits4 (M : Nat) (y : Nat) (h1 : 1000 ≤ y) (h2 : y < 10000) (s : St) (ht : s.getC 0 = some tabC) : callN E (M + 10) 29 [.int .i64 (y : Int), .int .i64 4] s = some (.string ⟨⟨b2 (y / 100) ++ b2 y⟩⟩, s.seen 0) := by
  have hi := itoa_e (M + 8) y (by omega) s ht
  rw [dec4 y h1 h2] at hi
  rw [k29, d29]
  unfold D29
  have e1 : decide (((b2 (y / 100) ++ b2 y).length : Int) < 4) = false := rfl
  have g5 : ∀ (a b c d e f : Value), (PT.put a t5 (PT.put b t7 (PT.put c t6 (PT.put d t4 (PT.put e t1 (PT.put f t0 PT.nil)))))).get t5 = some a := fun a b c d e f => by kernel_rfl
  have g1 : ∀ (a b c d e f : Value), (PT.put a t5 (PT.put b t7 (PT.put c t6 (PT.put d t4 (PT.put e t1 (PT.put f t0 PT.nil)))))).get t1 = some e := fun a b c d e f => by kernel_rfl
  simp only [op2_s', op_s', op2_op, op2_op2, op2_cond, ev_v', call_r', map_c', map_n', bin_e', pick_e', not_e, ext_e', nth_z', nth_1', nth_2', nth_3', gval_e, gval_u', cmp_e, orUndef_t', orUndef_f', condV_t', condV_f', cond_true, cond_false, eqI_eq, neI_eq, ltI_eq, leI_eq, gtI_eq', geI_eq, Bool.not_true, Bool.not_false, beq_self_eq_true, tf_beq, ft_beq, eq_self, decide_true, decide_false, oneOf1, orU_some, hi]
  rw [loop_s, d29_l0]
  unfold D29_l0
  simp only [op2_s', op_s', op2_op, op2_op2, op2_cond, ev_v', call_r', map_c', map_n', bin_e', pick_e', not_e, ext_e', nth_z', nth_1', nth_2', nth_3', gval_e, gval_u', cmp_e, orUndef_t', orUndef_f', condV_t', condV_f', cond_true, cond_false, eqI_eq, neI_eq, ltI_eq, leI_eq, gtI_eq', geI_eq, Bool.not_true, Bool.not_false, beq_self_eq_true, tf_beq, ft_beq, eq_self, decide_true, decide_false, oneOf1, orU_some, g5, g1, lenS_e, e1, thenX_e', blkX_e, Nat.beq_refl, cond_true, thenX_n', d29_r0, D29_r0, finX_r']
  first | rfl | (show _ = _; kernel_rfl)
theorem digits2 (M : Nat) (m : Nat) (h2 : m < 100) (s : St) (ht : s.getC 0 = some tabC) : callN E (M + 10) 29 [.int .i64 (m : Int), .int .i64 2] s = some (.string ⟨⟨b2 m⟩⟩, s.seen 0) := by
  have hi := itoa_e (M + 8) m (by omega) s ht
  have hd := dec2 m h2
  rw [k29, d29]
  unfold D29
  by_cases h : m < 10
  · rw [if_pos h] at hd
    rw [Lib.decDigits_one h] at hi hd
    have e0 : decide ((([UInt8.ofNat (48 + m)] : List UInt8).length : Int) < 2) = true := rfl
    have e1 : decide ((([48] ++ [UInt8.ofNat (48 + m)] : List UInt8).length : Int) < 2) = false := rfl
    have g5 : ∀ (a b c d e f : Value), (PT.put a t5 (PT.put b t7 (PT.put c t6 (PT.put d t4 (PT.put e t1 (PT.put f t0 PT.nil)))))).get t5 = some a := fun a b c d e f => by kernel_rfl
    have g1 : ∀ (a b c d e f : Value), (PT.put a t5 (PT.put b t7 (PT.put c t6 (PT.put d t4 (PT.put e t1 (PT.put f t0 PT.nil)))))).get t1 = some e := fun a b c d e f => by kernel_rfl
    simp only [op2_s', op_s', op2_op, op2_op2, op2_cond, ev_v', call_r', map_c', map_n', bin_e', pick_e', not_e, ext_e', nth_z', nth_1', nth_2', nth_3', gval_e, gval_u', cmp_e, orUndef_t', orUndef_f', condV_t', condV_f', cond_true, cond_false, eqI_eq, neI_eq, ltI_eq, leI_eq, gtI_eq', geI_eq, Bool.not_true, Bool.not_false, beq_self_eq_true, tf_beq, ft_beq, eq_self, decide_true, decide_false, oneOf1, orU_some, hi]
    rw [loop_s, d29_l0]
    unfold D29_l0
    simp (disch := simp) only [op2_s', op_s', op2_op, op2_op2, op2_cond, ev_v', call_r', map_c', map_n', bin_e', pick_e', not_e, ext_e', nth_z', nth_1', nth_2', nth_3', gval_e, gval_u', cmp_e, orUndef_t', orUndef_f', condV_t', condV_f', cond_true, cond_false, eqI_eq, neI_eq, ltI_eq, leI_eq, gtI_eq', geI_eq, Bool.not_true, Bool.not_false, beq_self_eq_true, tf_beq, ft_beq, eq_self, decide_true, decide_false, oneOf1, orU_some, g5, g1, lenS_e, e0, cat_e, thenX_n']
    rw [loop_s, d29_l0]
    unfold D29_l0
    generalize hF : (PT.put (Value.string ⟨⟨[48] ++ [UInt8.ofNat (48 + m)]⟩⟩) t5 (PT.put (Value.string ⟨⟨[48] ++ [UInt8.ofNat (48 + m)]⟩⟩) t13 _)) = F
    have f5 : F.get t5 = some (.string ⟨⟨[48] ++ [UInt8.ofNat (48 + m)]⟩⟩) := by rw [← hF]; kernel_rfl
    have f1 : F.get t1 = some (.int .i64 2) := by rw [← hF]; kernel_rfl
    simp only [op2_s', op_s', op2_op, op2_op2, op2_cond, ev_v', call_r', map_c', map_n', bin_e', pick_e', not_e, ext_e', nth_z', nth_1', nth_2', nth_3', gval_e, gval_u', cmp_e, orUndef_t', orUndef_f', condV_t', condV_f', cond_true, cond_false, eqI_eq, neI_eq, ltI_eq, leI_eq, gtI_eq', geI_eq, Bool.not_true, Bool.not_false, beq_self_eq_true, tf_beq, ft_beq, eq_self, decide_true, decide_false, oneOf1, orU_some, f5, f1, lenS_e, e1, thenX_e', blkX_e, Nat.beq_refl, cond_true, thenX_n', d29_r0, D29_r0, finX_r', res_t, res_n]
    rw [← hd]
    first | rfl | (show _ = _; kernel_rfl)
  · rw [if_neg h] at hd
    rw [hd] at hi
    have e1 : decide (((b2 m).length : Int) < 2) = false := rfl
    have g5 : ∀ (a b c d e f : Value), (PT.put a t5 (PT.put b t7 (PT.put c t6 (PT.put d t4 (PT.put e t1 (PT.put f t0 PT.nil)))))).get t5 = some a := fun a b c d e f => by kernel_rfl
    have g1 : ∀ (a b c d e f : Value), (PT.put a t5 (PT.put b t7 (PT.put c t6 (PT.put d t4 (PT.put e t1 (PT.put f t0 PT.nil)))))).get t1 = some e := fun a b c d e f => by kernel_rfl
    simp only [op2_s', op_s', op2_op, op2_op2, op2_cond, ev_v', call_r', map_c', map_n', bin_e', pick_e', not_e, ext_e', nth_z', nth_1', nth_2', nth_3', gval_e, gval_u', cmp_e, orUndef_t', orUndef_f', condV_t', condV_f', cond_true, cond_false, eqI_eq, neI_eq, ltI_eq, leI_eq, gtI_eq', geI_eq, Bool.not_true, Bool.not_false, beq_self_eq_true, tf_beq, ft_beq, eq_self, decide_true, decide_false, oneOf1, orU_some, hi]
    rw [loop_s, d29_l0]
    unfold D29_l0
    simp only [op2_s', op_s', op2_op, op2_op2, op2_cond, ev_v', call_r', map_c', map_n', bin_e', pick_e', not_e, ext_e', nth_z', nth_1', nth_2', nth_3', gval_e, gval_u', cmp_e, orUndef_t', orUndef_f', condV_t', condV_f', cond_true, cond_false, eqI_eq, neI_eq, ltI_eq, leI_eq, gtI_eq', geI_eq, Bool.not_true, Bool.not_false, beq_self_eq_true, tf_beq, ft_beq, eq_self, decide_true, decide_false, oneOf1, orU_some, g5, g1, lenS_e, e1, thenX_e', blkX_e, Nat.beq_refl, cond_true, thenX_n', d29_r0, D29_r0, finX_r']
    first | rfl | (show _ = _; kernel_rfl)
/-- a day's text -/
def txt (y k d : Nat) : List UInt8 := ((((b2 (y / 100) ++ b2 y) ++ [45]) ++ b2 (k + 1)) ++ [45]) ++ b2 d
theorem k15 (M : Nat) (a : Value) (s : St) : callN E (M + 1) 15 [a] s = callF (callN E M) M c15 [a] s := by kernel_rfl
theorem k21 (M : Nat) (a : Value) (s : St) : callN E (M + 1) 21 [a] s = callF (callN E M) M c21 [a] s := by kernel_rfl
theorem k30 (M : Nat) (a : Value) (s : St) : callN E (M + 1) 30 [a] s = callF (callN E M) M c30 [a] s := by kernel_rfl
theorem text (N : Nat) (n y d : Int) (k : Nat) (s : St) (h : IsDate n y k d) (ht : s.getC 0 = some tabC) : ∃ s', callN E (N + 501) 15 [.int .i64 n] s = some (.string ⟨⟨txt y.toNat k d.toNat⟩⟩, s') ∧ Alike s s' := by
  have h14 := e14 N n y d k s h
  unfold dateV at h14
  obtain ⟨p1, p2, p3, p4, p5, p6⟩ := h
  have hdi := days_in y ((k : Int) + 1) (by omega) (by omega)
  obtain ⟨y, rfl⟩ := Int.eq_ofNat_of_zero_le (show 0 ≤ y by omega)
  obtain ⟨d, rfl⟩ := Int.eq_ofNat_of_zero_le (show 0 ≤ d by omega)
  have a1 := digits4 (N + 490) y (by omega) (by omega) s ht
  have a2 := digits2 (N + 490) (k + 1) (by omega) (s.seen 0) ((seen_getC _ _ _).trans ht)
  have a3 := digits2 (N + 490) d (by omega) ((s.seen 0).seen 0) (((seen_getC _ _ _).trans (seen_getC _ _ _)).trans ht)
  have a1' : callN E (N + 500) 29 [.int .i64 (y : Int), .int .i64 4] s = some (.string ⟨⟨b2 (y / 100) ++ b2 y⟩⟩, s.seen 0) := a1
  have a2' : callN E (N + 500) 29 [.int .i64 ((k : Int) + 1), .int .i64 2] (s.seen 0) = some (.string ⟨⟨b2 (k + 1)⟩⟩, (s.seen 0).seen 0) := a2
  have a3' : callN E (N + 500) 29 [.int .i64 (d : Int), .int .i64 2] ((s.seen 0).seen 0) = some (.string ⟨⟨b2 d⟩⟩, ((s.seen 0).seen 0).seen 0) := a3
  refine ⟨((s.seen 0).seen 0).seen 0, ?_, by simp only [St.seen_next], fun y => by simp only [seen_getC]⟩
  rw [k15, d15]
  unfold D15
  have hlen : ∀ m, (b2 m).length = 2 := fun m => rfl
  simp (disch := simp [hlen]) only [op2_s', op_s', op2_op, op2_op2, op2_cond, ev_v', call_r', map_c', map_n', bin_e', pick_e', not_e, ext_e', nth_z', nth_1', nth_2', nth_3', gval_e, gval_u', cmp_e, orUndef_t', orUndef_f', condV_t', condV_f', cond_true, cond_false, eqI_eq, neI_eq, ltI_eq, leI_eq, gtI_eq', geI_eq, Bool.not_true, Bool.not_false, beq_self_eq_true, tf_beq, ft_beq, eq_self, decide_true, decide_false, oneOf1, orU_some, h14, a1', a2', a3', cat_e]
  rfl
theorem text_no (N : Nat) (n : Int) (s : St) (h : ¬ (0 ≤ n ∧ n ≤ 109572)) : callN E (N + 501) 15 [.int .i64 n] s = some (.string ⟨⟨[]⟩⟩, s) := by
  have h14 := e14o N n s h
  unfold dateN at h14
  rw [k15, d15]
  unfold D15
  simp only [op2_s', op_s', op2_op, op2_op2, op2_cond, ev_v', call_r', map_c', map_n', bin_e', pick_e', not_e, ext_e', nth_z', nth_1', nth_2', nth_3', gval_e, gval_u', cmp_e, orUndef_t', orUndef_f', condV_t', condV_f', cond_true, cond_false, eqI_eq, neI_eq, ltI_eq, leI_eq, gtI_eq', geI_eq, Bool.not_true, Bool.not_false, beq_self_eq_true, tf_beq, ft_beq, eq_self, decide_true, decide_false, oneOf1, orU_some, h14]
theorem dayText (N : Nat) (n y d : Int) (k : Nat) (s : St) (h : IsDate n y k d) (hl : s.next + 10 ≤ lim) : ∃ s', callN E (N + 501) 21 [.int .i64 n] s = some (.string ⟨⟨txt y.toNat k d.toNat⟩⟩, s') ∧ Grew 5 s s' := by
  have h18 := e18 N n y d k s h
  unfold dateV at h18
  obtain ⟨p1, p2, p3, p4, p5, p6⟩ := h
  have hdi := days_in y ((k : Int) + 1) (by omega) (by omega)
  obtain ⟨y, rfl⟩ := Int.eq_ofNat_of_zero_le (show 0 ≤ y by omega)
  obtain ⟨d, rfl⟩ := Int.eq_ofNat_of_zero_le (show 0 ≤ d by omega)
  obtain ⟨s1, a1, g1⟩ := two (callN E (N + 499)) (N + 499) (y / 100) (by omega) s (by omega)
  have n1 := g1.2.1
  obtain ⟨s2, a2, g2⟩ := two (callN E (N + 499)) (N + 499) y (by omega) s1 (by omega)
  have n2 := g2.2.1
  obtain ⟨s3, a3, g3⟩ := two (callN E (N + 499)) (N + 499) (k + 1) (by omega) s2 (by omega)
  have n3 := g3.2.1
  obtain ⟨s4, a4, g4⟩ := two (callN E (N + 499)) (N + 499) d (by omega) s3 (by omega)
  have a1' : callN E (N + 500) 30 [.int .i64 ((y : Int) / 100)] s = some (.string ⟨⟨b2 (y / 100)⟩⟩, s1) := (k30 (N + 499) _ s).trans a1
  have a2' : callN E (N + 500) 30 [.int .i64 (y : Int)] s1 = some (.string ⟨⟨b2 y⟩⟩, s2) := (k30 (N + 499) _ s1).trans a2
  have a3' : callN E (N + 500) 30 [.int .i64 ((k : Int) + 1)] s2 = some (.string ⟨⟨b2 (k + 1)⟩⟩, s3) := (k30 (N + 499) _ s2).trans a3
  have a4' : callN E (N + 500) 30 [.int .i64 (d : Int)] s3 = some (.string ⟨⟨b2 d⟩⟩, s4) := (k30 (N + 499) _ s3).trans a4
  have q1 : int2 quoO (.int .i64 (y : Int)) (.int .i64 100) = some (.int .i64 ((y : Int) / 100)) := quo_e _ _ (by omega) (by omega) (by omega)
  have gg := ((g1.trans g2).trans g3).trans g4
  refine ⟨s4, ?_, gg.1, by have := gg.2.1; omega, gg.2.2⟩
  rw [k21, d21]
  unfold D21
  have hlen : ∀ m, (b2 m).length = 2 := fun m => rfl
  simp (disch := simp [hlen]) only [op2_s', op_s', op2_op, op2_op2, op2_cond, ev_v', call_r', map_c', map_n', bin_e', pick_e', not_e, ext_e', nth_z', nth_1', nth_2', nth_3', gval_e, gval_u', cmp_e, orUndef_t', orUndef_f', condV_t', condV_f', cond_true, cond_false, eqI_eq, neI_eq, ltI_eq, leI_eq, gtI_eq', geI_eq, Bool.not_true, Bool.not_false, beq_self_eq_true, tf_beq, ft_beq, eq_self, decide_true, decide_false, oneOf1, orU_some, h18, q1, a1', a2', a3', a4', cat_e]
  rfl
theorem dayText_no (N : Nat) (n : Int) (s : St) (h : ¬ (0 ≤ n ∧ n ≤ 109572)) : callN E (N + 501) 21 [.int .i64 n] s = some (.string ⟨⟨[]⟩⟩, s) := by
  have h18 := e18o N n s h
  unfold dateN at h18
  rw [k21, d21]
  unfold D21
  simp only [op2_s', op_s', op2_op, op2_op2, op2_cond, ev_v', call_r', map_c', map_n', bin_e', pick_e', not_e, ext_e', nth_z', nth_1', nth_2', nth_3', gval_e, gval_u', cmp_e, orUndef_t', orUndef_f', condV_t', condV_f', cond_true, cond_false, eqI_eq, neI_eq, ltI_eq, leI_eq, gtI_eq', geI_eq, Bool.not_true, Bool.not_false, beq_self_eq_true, tf_beq, ft_beq, eq_self, decide_true, decide_false, oneOf1, orU_some, h18]
end Go.Proofs.YtdfmhjbmenfaeaaDoor.AbsCalD
