import Derived.Test.YtdfmhjbmenfaeaaDoorSymL
namespace Go.Proofs.YtdfmhjbmenfaeaaDoor.AbsCalD
open Go Go.Abs Go.Proofs
set_option maxRecDepth 100000
set_option linter.unusedVariables false
set_option linter.unusedSimpArgs false
attribute [local congr] opt2_cg opt_cg condV_cg cond_cg
/-! regions with a call in them -/
/-- the state behind a call in a region -/
def jn (s s1 : St) : St := ⟨s1.heap, s1.next, Nat.lor s.rd s1.rd, Nat.lor s.wr s1.wr⟩
theorem jn_getC (s s1 : St) (y : Nat) : (jn s s1).getC y = s1.getC y := nr rfl
theorem jn_next (s s1 : St) : (jn s s1).next = s1.next := nr rfl
theorem rU_c (v : Value) (fs : Frm) (s s1 : St) : rU (some (v, s1)) fs s none = some (v, (⟨(s1.rd, s1.wr), s, s1, none⟩, jn s s1)) := by
  unfold rU
  rw [op2_s']
  rfl
/-- kinds of marks: 0 of what is plain, 1 of a load, 2 of a call -/
def KindOk (m : Mk) (k : Nat) : Prop := match k with
  | 0 => m.m = (0, 0) ∧ m.ld = none
  | 1 => m.m = (0, 0)
  | _ => m.ld = none
def allK : List Mk → List Nat → Prop
  | [], [] => True
  | m :: ms, k :: ks => KindOk m k ∧ allK ms ks
  | _, _ => False
def okP2 (a b : Nat) : Bool := (Nat.ble a 1 && Nat.ble b 1) || (Nat.beq a 0 || Nat.beq b 0)
noncomputable def okP (ks : List Nat) (p : Nat × Nat) : Bool := Option.rec false (fun a => Option.rec false (fun b => okP2 a b) (nth ks p.2)) (nth ks p.1)
theorem allK_nth : ∀ {ms : List Mk} {ks : List Nat} (i : Nat) (k : Nat), allK ms ks → nth ks i = some k → ∃ m, nth ms i = some m ∧ KindOk m k
  | [], [], i, k, _, h => by cases h
  | m :: ms, k' :: ks, 0, k, h, hk => by
    obtain rfl : k' = k := Option.some.inj hk
    exact ⟨m, rfl, h.1⟩
  | m :: ms, k' :: ks, i + 1, k, h, hk => allK_nth (ms := ms) (ks := ks) i k h.2 hk
  | [], _ :: _, _, _, h, _ => h.elim
  | _ :: _, [], _, _, h, _ => h.elim
theorem ldFree_0 (l w : Mk) (h : w.m = (0, 0)) : ldFree l w = true := by
  unfold ldFree
  rw [h]
  cases l.ld with
  | none => rfl
  | some q =>
    show (bif hasBit 0 q.1 then _ else true) = true
    rw [show hasBit 0 q.1 = false by rw [hasBit_eq]; exact Nat.zero_testBit _]
    rfl
theorem ldFree_n (l w : Mk) (h : l.ld = none) : ldFree l w = true := by
  unfold ldFree
  rw [h]
theorem apartM_r (a : Nat × Nat) : apartM a (0, 0) = true := by
  show (Nat.beq (Nat.land a.2 (Nat.lor 0 0)) 0 && Nat.beq (Nat.land a.1 0) 0) = true
  rw [show Nat.lor 0 0 = 0 from rfl, show Nat.land a.2 0 = 0 from Nat.and_zero _, show Nat.land a.1 0 = 0 from Nat.and_zero _]
  rfl
theorem apartM_l (a : Nat × Nat) : apartM (0, 0) a = true := by
  show (Nat.beq (Nat.land 0 (Nat.lor a.1 a.2)) 0 && Nat.beq (Nat.land 0 a.2) 0) = true
  rw [show Nat.land 0 (Nat.lor a.1 a.2) = 0 from Nat.zero_and _, show Nat.land 0 a.2 = 0 from Nat.zero_and _]
  rfl
theorem apartK_ok {a b : Mk} {i j : Nat} (ha : KindOk a i) (hb : KindOk b j) (h : okP2 i j = true) : apartK a b = true := by
  have key : apartM a.m b.m = true ∧ ldFree a b = true ∧ ldFree b a = true := by
    match i, j, ha, hb, h with
    | 0, 0, ha, hb, _ => exact ⟨by rw [ha.1]; exact apartM_l _, ldFree_n _ _ ha.2, ldFree_n _ _ hb.2⟩
    | 0, 1, ha, hb, _ => exact ⟨by rw [ha.1]; exact apartM_l _, ldFree_n _ _ ha.2, ldFree_0 _ _ ha.1⟩
    | 0, j + 2, ha, hb, _ => exact ⟨by rw [ha.1]; exact apartM_l _, ldFree_n _ _ ha.2, ldFree_n _ _ hb⟩
    | 1, 0, ha, hb, _ => exact ⟨by rw [hb.1]; exact apartM_r _, ldFree_0 _ _ hb.1, ldFree_n _ _ hb.2⟩
    | 1, 1, ha, hb, _ => exact ⟨by rw [show a.m = (0, 0) from ha]; exact apartM_l _, ldFree_0 _ _ hb, ldFree_0 _ _ ha⟩
    | 1, j + 2, ha, hb, h => cases h
    | i + 2, 0, ha, hb, _ => exact ⟨by rw [hb.1]; exact apartM_r _, ldFree_n _ _ ha, ldFree_n _ _ hb.2⟩
    | i + 2, 1, ha, hb, h => cases h
    | i + 2, j + 2, ha, hb, h => cases h
  unfold apartK
  rw [key.1, key.2.1, key.2.2]
  rfl
theorem apartKs (ks : List Nat) {ms : List Mk} (h : allK ms ks) : ∀ (un : List (Nat × Nat)), un.all (okP ks) = true → apartAll ms un = true
  | [], _ => rfl
  | p :: un, hu => by
    rw [List.all_cons, Bool.and_eq_true] at hu
    have ih := apartKs ks h un hu.2
    have h1 := hu.1
    unfold okP at h1
    cases e1 : nth ks p.1 with
    | none => rw [e1] at h1; cases h1
    | some i =>
      cases e2 : nth ks p.2 with
      | none => rw [e1, e2] at h1; cases h1
      | some j =>
        rw [e1, e2] at h1
        obtain ⟨a, a1, a2⟩ := allK_nth _ _ h e1
        obtain ⟨b, b1, b2⟩ := allK_nth _ _ h e2
        have hp : apartP ms p = true := by
          unfold apartP
          rw [a1, b1]
          exact apartK_ok a2 b2 h1
        show (bif apartP ms p then apartAll ms un else false) = true
        rw [hp]; exact ih
theorem orM_t (x : Option (Value × (Mk × St))) (s : St) : orM true x s = x := nr rfl
theorem orM_f (x : Option (Value × (Mk × St))) (s : St) : orM false x s = some (undef, (⟨(0, 0), s, s, none⟩, s)) := nr rfl
theorem mov_f' (x : Arg) (rec : Rec) (fs : Frm) (s : St) : oMov x rec fs s = some (ev fs x, s) := nr rfl
/-! bytes and numbers -/
theorem sub8_e (m : Int) (h0 : 48 ≤ m) (h : m < 256) : int2 subO (.int .u8 m) (.int .u8 48) = some (.int .u8 (m - 48)) := by
  obtain ⟨k, hk⟩ := Int.eq_ofNat_of_zero_le (show 0 ≤ m - 48 by omega)
  have e : subO .u8 m 48 = some (.int .u8 (m - 48)) := by
    rw [subO_eq, hk]
    congr 2
    exact Abs.wrap_small .u8 k (by simp [topOf]; omega)
  exact e
theorem conv64_e (m : Int) (rec : Rec) (fs : Frm) (s : St) (h0 : 0 ≤ m) (h : m < 256) : oConv .i64 (.v (.int .u8 m)) rec fs s = some (.int .i64 m, s) := by
  obtain ⟨m, rfl⟩ := Int.eq_ofNat_of_zero_le h0
  show (opt (mkInt .i64 (m : Int)) fun v => some (v, s)) = _
  rw [mkInt_eq, op_s]
  congr 3
  exact Abs.wrap_small .i64 m (by simp [topOf]; omega)
theorem idxS_e (l : List UInt8) (i : Nat) (h : i < l.length) (rec : Rec) (fs : Frm) (s : St) : oIdxS (.v (.string ⟨⟨l⟩⟩)) (.v (.int .i64 (i : Int))) rec fs s = some (.int .u8 (l[i].toNat : Int), s) := by
  show opt (nth l i) (fun c => force c.toNat fun c => some (Value.int .u8 (.ofNat c), s)) = _
  rw [nth_eq, List.getElem?_eq_getElem h, op_s', force_eq]
  rfl
def numL (acc : Int) : List UInt8 → Int
  | [] => acc
  | b :: l => if b.toNat < 48 ∨ 57 < b.toNat then -1 else numL (acc * 10 + ((b.toNat : Int) - 48)) l
theorem ofBytes_nth (l : List UInt8) (i : Nat) (h : i < l.length) : nth (ofBytes l) i = some (.int .u8 (l[i].toNat : Int)) := by
  unfold ofBytes
  rw [mapN_eq, nth_eq, List.getElem?_map, List.getElem?_eq_getElem h]
  rfl
theorem numLoop (rec : Rec) (N : Nat) (s : St) (nb c : Nat) (l : List UInt8) (hl : l.length ≤ 8) (hb : s.getC nb = some (ofBytes l)) :
    ∀ (fuel i : Nat) (v : Int) (fs : Frm) (u : St), Alike s u → fs.get t3 = some (.int .i64 v) → fs.get t7 = some (.slice (some ⟨nb, 0, none⟩) l.length c) → fs.get t8 = some (.int .i64 (l.length : Int)) → fs.get t9 = some (.int .i64 (i : Int)) → i ≤ l.length → 0 ≤ v → v < 10 ^ i → l.length - i < fuel →
    ∃ e fs' u', loopF (c27_l0 rec N) fuel fs u = some (e, fs', u') ∧ Alike s u' ∧ ((e = .ret ∧ fs'.get t2 = some (.int .i64 (-1)) ∧ numL v (l.drop i) = -1) ∨ (e = .exit 0 ∧ fs'.get t3 = some (.int .i64 (numL v (l.drop i))))) := by
  intro fuel
  induction fuel with
  | zero => intro i v fs u _ _ _ _ _ _ _ _ h; omega
  | succ fuel ih =>
    intro i v fs u hu h3 h7 h8 h9 hi hv0 hv1 hf
    rw [loop_s, d27_l0]
    unfold D27_l0
    by_cases hlt : i < l.length
    · have e1 : decide ((i : Int) < (l.length : Int)) = true := decide_eq_true (by omega)
      have la : oLoad1 (.v (.pointer (some ⟨nb, 0 + i * 1, none⟩))) rec PT.nil u = some (.int .u8 (l[i].toNat : Int), u.seen nb) := load1_e nb _ _ _ rec PT.nil u ((hu.2 nb).trans hb) (by rw [Nat.zero_add, Nat.mul_one]; exact ofBytes_nth l i hlt)
      have hdrop := List.drop_eq_getElem_cons hlt
      have al : Alike s (u.seen nb) := ⟨by rw [St.seen_next]; exact hu.1, fun y => (seen_getC _ _ _).trans (hu.2 y)⟩
      have hb8 : l[i].toNat < 256 := l[i].toNat_lt
      by_cases h48 : l[i].toNat < 48
      · have e2 : decide ((l[i].toNat : Int) < 48) = true := decide_eq_true (by omega)
        simp (disch := omega) only [op2_s', op_s', op2_op, op2_op2, op2_cond, ev_v', call_r', map_c', map_n', bin_e', pick_e', not_e, ext_e', nth_z', nth_1', nth_2', nth_3', gval_e, gval_u', cmp_e, orUndef_t', orUndef_f', condV_t', condV_f', cond_true, cond_false, eqI_eq, neI_eq, ltI_eq, leI_eq, gtI_eq', geI_eq, Bool.not_true, Bool.not_false, beq_self_eq_true, tf_beq, ft_beq, eq_self, decide_true, decide_false, oneOf1, orU_some, h3, h7, h8, h9, e1, idxL_e, la, e2, thenX_r']
        refine ⟨_, _, _, rfl, al, .inl ⟨rfl, by kernel_rfl, ?_⟩⟩
        rw [hdrop]
        unfold numL
        rw [if_pos (.inl h48)]
      · have e2 : decide ((l[i].toNat : Int) < 48) = false := decide_eq_false (by omega)
        by_cases h57 : 57 < l[i].toNat
        · have e3 : decide (57 < (l[i].toNat : Int)) = true := decide_eq_true (by omega)
          simp (disch := omega) only [op2_s', op_s', op2_op, op2_op2, op2_cond, ev_v', call_r', map_c', map_n', bin_e', pick_e', not_e, ext_e', nth_z', nth_1', nth_2', nth_3', gval_e, gval_u', cmp_e, orUndef_t', orUndef_f', condV_t', condV_f', cond_true, cond_false, eqI_eq, neI_eq, ltI_eq, leI_eq, gtI_eq', geI_eq, Bool.not_true, Bool.not_false, beq_self_eq_true, tf_beq, ft_beq, eq_self, decide_true, decide_false, oneOf1, orU_some, h3, h7, h8, h9, e1, idxL_e, la, gtI_eq', e2, e3, thenX_r']
          refine ⟨_, _, _, rfl, al, .inl ⟨rfl, by kernel_rfl, ?_⟩⟩
          rw [hdrop]
          unfold numL
          rw [if_pos (.inr h57)]
        · have e3 : decide (57 < (l[i].toNat : Int)) = false := decide_eq_false (by omega)
          have hp : (10 : Int) ^ i ≤ 10 ^ 8 := by
            have := Nat.pow_le_pow_right (show 0 < 10 by omega) (show i ≤ 8 by omega)
            exact_mod_cast this
          have hpp : (10 : Int) ^ (i + 1) = 10 ^ i * 10 := by rw [Int.pow_succ]
          have h8' : (10 : Int) ^ 8 = 100000000 := by decide
          have m1 : int2 mulO (.int .i64 v) (.int .i64 10) = some (.int .i64 (v * 10)) := mul_e _ _ (by omega) (by omega)
          have m2 := sub8_e (l[i].toNat : Int) (by omega) (by omega)
          have m3 : int2 addO (.int .i64 (v * 10)) (.int .i64 ((l[i].toNat : Int) - 48)) = some (.int .i64 (v * 10 + ((l[i].toNat : Int) - 48))) := add_e _ _ (by omega) (by omega)
          have hai : int2 addO (.int .i64 (i : Int)) (.int .i64 1) = some (.int .i64 ((i + 1 : Nat) : Int)) := by rw [add_e _ _ (by omega) (by omega)]; rfl
          simp (disch := omega) only [op2_s', op_s', op2_op, op2_op2, op2_cond, ev_v', call_r', map_c', map_n', bin_e', pick_e', not_e, ext_e', nth_z', nth_1', nth_2', nth_3', gval_e, gval_u', cmp_e, orUndef_t', orUndef_f', condV_t', condV_f', cond_true, cond_false, eqI_eq, neI_eq, ltI_eq, leI_eq, gtI_eq', geI_eq, Bool.not_true, Bool.not_false, beq_self_eq_true, tf_beq, ft_beq, eq_self, decide_true, decide_false, oneOf1, orU_some, h3, h7, h8, h9, e1, idxL_e, la, gtI_eq', e2, e3, m1, m2, conv64_e, m3, hai, thenX_n']
          obtain ⟨e, fs', u', r1, r2, r3⟩ := ih (i + 1) (v * 10 + ((l[i].toNat : Int) - 48)) _ (u.seen nb) al (by kernel_rfl) ((by kernel_rfl : _ = fs.get t7).trans h7) ((by kernel_rfl : _ = fs.get t8).trans h8) (by kernel_rfl) (by omega) (by omega) (by omega) (by omega)
          refine ⟨e, fs', u', r1, r2, ?_⟩
          rw [hdrop]
          unfold numL
          rw [if_neg (by omega)]
          exact r3
    · have e1 : decide ((i : Int) < (l.length : Int)) = false := decide_eq_false (by omega)
      simp only [op2_s', op_s', op2_op, op2_op2, op2_cond, ev_v', call_r', map_c', map_n', bin_e', pick_e', not_e, ext_e', nth_z', nth_1', nth_2', nth_3', gval_e, gval_u', cmp_e, orUndef_t', orUndef_f', condV_t', condV_f', cond_true, cond_false, eqI_eq, neI_eq, ltI_eq, leI_eq, gtI_eq', geI_eq, Bool.not_true, Bool.not_false, beq_self_eq_true, tf_beq, ft_beq, eq_self, decide_true, decide_false, oneOf1, orU_some, h8, h9, e1, thenX_e']
      refine ⟨_, _, _, rfl, hu, .inr ⟨rfl, ?_⟩⟩
      rw [List.drop_eq_nil_of_le (by omega)]
      exact (by kernel_rfl : _ = fs.get t3).trans h3
theorem ofBytes_map : ∀ l : List UInt8, isMapB (ofBytes l) = false
  | [] => rfl
  | b :: l => rfl
theorem number (rec : Rec) (N : Nat) (hN : 100 ≤ N) (s : St) (l : List UInt8) (hl : l.length ≤ 8) (hn : s.next ≤ lim) : ∃ s', callF rec N c27 [.string ⟨⟨l⟩⟩] s = some (.int .i64 (numL 0 l), s') ∧ Grew 1 s s' := by
  obtain ⟨s1, a1, a2, a3, a4⟩ := alloc_e s (ofBytes l) hn (ofBytes_map l)
  have x1 : oStrBytes (.v (.string ⟨⟨l⟩⟩)) rec PT.nil s = some (.slice (some ⟨s.next, 0, none⟩) l.length (UNK + 1), s1) := by
    show (bif Nat.ble (lenN l) 9223372036854775807 then newSlice s 1 (lenN l) (ofBytes l) else none) = _
    rw [lenN_eq, ble_eq', decide_eq_true (by omega), cond_true]
    unfold newSlice
    rw [a1]
    rfl
  obtain ⟨e, fs', u', r1, r2, r3⟩ := numLoop rec N s1 s.next (UNK + 1) l hl a3 N 0 0 (PT.put (.int .i64 0) t9 (PT.put (.int .i64 (l.length : Int)) t8 (PT.put (.slice (some ⟨s.next, 0, none⟩) l.length (UNK + 1)) t7 (PT.put (.string ⟨⟨l⟩⟩) t6 (PT.put (.int .i64 0) t3 (PT.put (.int .i64 0) t2 (PT.put (.string ⟨⟨l⟩⟩) t0 PT.nil))))))) s1 ⟨rfl, fun _ => rfl⟩ (by kernel_rfl) (by kernel_rfl) (by kernel_rfl) (by kernel_rfl) (by omega) (by omega) (by decide) (by omega)
  rw [List.drop_zero] at r3
  refine ⟨u', ?_, by rw [r2.1]; omega, by rw [r2.1]; omega, fun y hy => (r2.2 y).trans (a4 y (by omega))⟩
  rw [d27]
  unfold D27
  simp only [op2_s', op_s', op2_op, op2_op2, op2_cond, ev_v', call_r', map_c', map_n', bin_e', pick_e', not_e, ext_e', nth_z', nth_1', nth_2', nth_3', gval_e, gval_u', cmp_e, orUndef_t', orUndef_f', condV_t', condV_f', cond_true, cond_false, eqI_eq, neI_eq, ltI_eq, leI_eq, gtI_eq', geI_eq, Bool.not_true, Bool.not_false, beq_self_eq_true, tf_beq, ft_beq, eq_self, decide_true, decide_false, oneOf1, orU_some, x1, lenL_e]
  rw [r1]
  rcases r3 with ⟨rfl, h2, hm⟩ | ⟨rfl, h3⟩
  · simp only [op2_s', blkX_r, thenX_r', finX_r', res_t, res_n, h2, orU_some, oneOf1, hm]
  · simp only [op2_s', blkX_e, Nat.beq_refl, cond_true, thenX_n', d27_r0, D27_r0, h3, orU_some, finX_r']
    first | rfl | (show _ = _; kernel_rfl)
theorem k27 (M : Nat) (a : Value) (s : St) : callN E (M + 1) 27 [a] s = callF (callN E M) M c27 [a] s := by kernel_rfl
theorem e27 (N : Nat) (s : St) (l : List UInt8) (hl : l.length ≤ 8) (hn : s.next ≤ lim) : ∃ s', callN E (N + 500) 27 [.string ⟨⟨l⟩⟩] s = some (.int .i64 (numL 0 l), s') ∧ Grew 1 s s' := by
  obtain ⟨s', h1, h2⟩ := number (callN E (N + 499)) (N + 499) (by omega) s l hl hn
  exact ⟨s', (k27 (N + 499) _ s).trans h1, h2⟩
end Go.Proofs.YtdfmhjbmenfaeaaDoor.AbsCalD
