import Derived.Test.YthjhammjankekaaRatSC
import Derived.Test.YthjhammjankekaaAbsZR
import Derived.Test.YthjhammjankekaaAbsZS
import Derived.Test.YthjhammjankekaaInsB
namespace Go.Proofs.Ythjhammjankekaa.AbsRatO
open Go Go.Abs Go.Proofs
set_option maxRecDepth 100000
set_option linter.unusedVariables false
set_option linter.unusedSimpArgs false
/-! regions with a call in them -/
/-- the state behind a call in a region -/
def jn (s s1 : St) : St := ⟨s1.heap, s1.next, Nat.lor s.rd s1.rd, Nat.lor s.wr s1.wr⟩
theorem jn_getC (s s1 : St) (y : Nat) : (jn s s1).getC y = s1.getC y := nr rfl
theorem jn_next (s s1 : St) : (jn s s1).next = s1.next := nr rfl
theorem rU_c (v : Value) (fs : Frm) (s s1 : St) : rU (some (v, s1)) fs s none = some (v, (⟨(s1.rd, s1.wr), s, s1, none⟩, jn s s1)) := by
  unfold rU
  rw [op2_s']
  rfl
/-- kinds of marks: 0 of what is plain, 1 of a load, 2 of a call -/
def KindOk (m : Mk) (k : Nat) : Prop := match k with
  | 0 => m.m = (0, 0) ∧ m.ld = none
  | 1 => m.m = (0, 0)
  | _ => m.ld = none
def allK : List Mk → List Nat → Prop
  | [], [] => True
  | m :: ms, k :: ks => KindOk m k ∧ allK ms ks
  | _, _ => False
def okP2 (a b : Nat) : Bool := (Nat.ble a 1 && Nat.ble b 1) || (Nat.beq a 0 || Nat.beq b 0)
noncomputable def okP (ks : List Nat) (p : Nat × Nat) : Bool := Option.rec false (fun a => Option.rec false (fun b => okP2 a b) (nth ks p.2)) (nth ks p.1)
theorem allK_nth : ∀ {ms : List Mk} {ks : List Nat} (i : Nat) (k : Nat), allK ms ks → nth ks i = some k → ∃ m, nth ms i = some m ∧ KindOk m k
  | [], [], i, k, _, h => by cases h
  | m :: ms, k' :: ks, 0, k, h, hk => by
    obtain rfl : k' = k := Option.some.inj hk
    exact ⟨m, rfl, h.1⟩
  | m :: ms, k' :: ks, i + 1, k, h, hk => allK_nth (ms := ms) (ks := ks) i k h.2 hk
  | [], _ :: _, _, _, h, _ => h.elim
  | _ :: _, [], _, _, h, _ => h.elim
theorem ldFree_0 (l w : Mk) (h : w.m = (0, 0)) : ldFree l w = true := by
  unfold ldFree
  rw [h]
  cases l.ld with
  | none => rfl
  | some q =>
    show (bif hasBit 0 q.1 then _ else true) = true
    rw [show hasBit 0 q.1 = false by rw [hasBit_eq]; exact Nat.zero_testBit _]
    rfl
theorem ldFree_n (l w : Mk) (h : l.ld = none) : ldFree l w = true := by
  unfold ldFree
  rw [h]
theorem apartM_r (a : Nat × Nat) : apartM a (0, 0) = true := by
  show (Nat.beq (Nat.land a.2 (Nat.lor 0 0)) 0 && Nat.beq (Nat.land a.1 0) 0) = true
  rw [show Nat.lor 0 0 = 0 from rfl, show Nat.land a.2 0 = 0 from Nat.and_zero _, show Nat.land a.1 0 = 0 from Nat.and_zero _]
  rfl
theorem apartM_l (a : Nat × Nat) : apartM (0, 0) a = true := by
  show (Nat.beq (Nat.land 0 (Nat.lor a.1 a.2)) 0 && Nat.beq (Nat.land 0 a.2) 0) = true
  rw [show Nat.land 0 (Nat.lor a.1 a.2) = 0 from Nat.zero_and _, show Nat.land 0 a.2 = 0 from Nat.zero_and _]
  rfl
theorem apartK_ok {a b : Mk} {i j : Nat} (ha : KindOk a i) (hb : KindOk b j) (h : okP2 i j = true) : apartK a b = true := by
  have key : apartM a.m b.m = true ∧ ldFree a b = true ∧ ldFree b a = true := by
    match i, j, ha, hb, h with
    | 0, 0, ha, hb, _ => exact ⟨by rw [ha.1]; exact apartM_l _, ldFree_n _ _ ha.2, ldFree_n _ _ hb.2⟩
    | 0, 1, ha, hb, _ => exact ⟨by rw [ha.1]; exact apartM_l _, ldFree_n _ _ ha.2, ldFree_0 _ _ ha.1⟩
    | 0, j + 2, ha, hb, _ => exact ⟨by rw [ha.1]; exact apartM_l _, ldFree_n _ _ ha.2, ldFree_n _ _ hb⟩
    | 1, 0, ha, hb, _ => exact ⟨by rw [hb.1]; exact apartM_r _, ldFree_0 _ _ hb.1, ldFree_n _ _ hb.2⟩
    | 1, 1, ha, hb, _ => exact ⟨by rw [show a.m = (0, 0) from ha]; exact apartM_l _, ldFree_0 _ _ hb, ldFree_0 _ _ ha⟩
    | 1, j + 2, ha, hb, h => cases h
    | i + 2, 0, ha, hb, _ => exact ⟨by rw [hb.1]; exact apartM_r _, ldFree_n _ _ ha, ldFree_n _ _ hb.2⟩
    | i + 2, 1, ha, hb, h => cases h
    | i + 2, j + 2, ha, hb, h => cases h
  unfold apartK
  rw [key.1, key.2.1, key.2.2]
  rfl
theorem apartKs (ks : List Nat) {ms : List Mk} (h : allK ms ks) : ∀ (un : List (Nat × Nat)), un.all (okP ks) = true → apartAll ms un = true
  | [], _ => rfl
  | p :: un, hu => by
    rw [List.all_cons, Bool.and_eq_true] at hu
    have ih := apartKs ks h un hu.2
    have h1 := hu.1
    unfold okP at h1
    cases e1 : nth ks p.1 with
    | none => rw [e1] at h1; cases h1
    | some i =>
      cases e2 : nth ks p.2 with
      | none => rw [e1, e2] at h1; cases h1
      | some j =>
        rw [e1, e2] at h1
        obtain ⟨a, a1, a2⟩ := allK_nth _ _ h e1
        obtain ⟨b, b1, b2⟩ := allK_nth _ _ h e2
        have hp : apartP ms p = true := by
          unfold apartP
          rw [a1, b1]
          exact apartK_ok a2 b2 h1
        show (bif apartP ms p then apartAll ms un else false) = true
        rw [hp]; exact ih
end Go.Proofs.Ythjhammjankekaa.AbsRatO
namespace Go.Proofs.Ythjhammjankekaa.AbsRatO
open Go Go.Abs Go.Proofs
set_option maxRecDepth 1000000
set_option linter.unusedVariables false
set_option linter.unusedSimpArgs false
/-! the closed check ahead of each law, behind a given block -/
noncomputable def stOf (o : Option (Value × St)) : St := Option.rec st8 (fun p => p.2) o
theorem of_parts {o : Option (Value × St)} (h : isTrue o = true) : o = some (.bool true, stOf o) := by
  obtain ⟨s', hs⟩ := isTrue_spec h
  rw [hs]
  rfl
theorem aw1 (c : Blk) : isTrue (callN E 3003 12 [] (st1 c)) = true := by kernel_rfl
theorem aw2 (c : Blk) : (stOf (callN E 3003 12 [] (st1 c))).get 0 = some c := by kernel_rfl
theorem aw3 (c : Blk) : Nat.ble 8 (stOf (callN E 3003 12 [] (st1 c))).next = true := by kernel_rfl
theorem aw4 (c : Blk) : Nat.ble (stOf (callN E 3003 12 [] (st1 c))).next 1000 = true := by kernel_rfl
theorem aw5 : isTrue (callN E 3003 12 [] st8) = true := by kernel_rfl
theorem aw6 : Nat.ble 8 (stOf (callN E 3003 12 [] st8)).next = true := by kernel_rfl
theorem aw8 : (stOf (callN E 3003 12 [] st8)).get 0 = none := by kernel_rfl
theorem aw7 : Nat.ble (stOf (callN E 3003 12 [] st8)).next 1000 = true := by kernel_rfl
end Go.Proofs.Ythjhammjankekaa.AbsRatO
namespace Go.Proofs.Ythjhammjankekaa.AbsRatO
open Go Go.Abs Go.Proofs
set_option maxRecDepth 100000
set_option linter.unusedVariables false
set_option linter.unusedSimpArgs false
attribute [local congr] opt2_cg opt_cg condV_cg cond_cg
/-! RateSays: the table and the document's list, put by put -/
theorem orM_t (x : Option (Value × (Mk × St))) (s : St) : orM true x s = x := nr rfl
theorem orM_f (x : Option (Value × (Mk × St))) (s : St) : orM false x s = some (undef, (⟨(0, 0), s, s, none⟩, s)) := nr rfl
theorem mov_f' (x : Arg) (rec : Rec) (fs : Frm) (s : St) : oMov x rec fs s = some (ev fs x, s) := nr rfl
/-- what is given -/
def Inp (s : St) (a : Value) (L : List (Int × Int)) : Prop :=
  (L = [] ∧ a = .slice none 0 0) ∨ ∃ c, a = .slice (some ⟨0, 0, none⟩) L.length c ∧ (L ≠ [] → s.getC 0 = some (flatV L))
theorem Inp.len {s : St} {a : Value} {L : List (Int × Int)} (h : Inp s a L) (rec : Rec) (w : St) : oLenL (.v a) rec PT.nil w = some (.int .i64 (L.length : Int), w) := by
  rcases h with ⟨rfl, rfl⟩ | ⟨c, rfl, _⟩ <;> exact lenL_e _ _ _ rec PT.nil w
theorem Inp.idx {s : St} {a : Value} {L : List (Int × Int)} (h : Inp s a L) {i : Nat} (hi : i < L.length) : (∀ (rec : Rec) (w : St), oIdxAddrL 2 (.v a) (.v (.int .i64 (i : Int))) rec PT.nil w = some (.pointer (some ⟨0, 0 + i * 2, none⟩), w)) ∧ s.getC 0 = some (flatV L) := by
  rcases h with ⟨rfl, rfl⟩ | ⟨c, rfl, h⟩
  · exact absurd hi (by simp)
  · exact ⟨fun rec w => idxL_e _ _ _ _ _ _ rec PT.nil w hi, h fun e => by subst e; exact absurd hi (by simp)⟩
theorem Inp.load {L : List (Int × Int)} {i : Nat} (hi : i < L.length) : (∀ (rec : Rec) (z : St), z.getC 0 = some (flatV L) → oLoad1 (.v (.pointer (some ⟨0, 0 + i * 2 + 0, none⟩))) rec PT.nil z = some (.int .i64 L[i].1, z.seen 0)) ∧ ∀ (rec : Rec) (z : St), z.getC 0 = some (flatV L) → oLoad1 (.v (.pointer (some ⟨0, 0 + i * 2 + 1, none⟩))) rec PT.nil z = some (.int .i64 L[i].2, z.seen 0) :=
  ⟨fun rec z h => load1_e 0 _ _ _ rec PT.nil z h (by rw [Nat.zero_add, Nat.add_zero, flat_day L i hi]), fun rec z h => load1_e 0 _ _ _ rec PT.nil z h (by rw [Nat.zero_add, flat_rate L i hi])⟩
def putAll (m L : List (Int × Int)) : List (Int × Int) := L.foldl (fun m p => putV m p.1 p.2) m
theorem putAll_ok : ∀ (L m : List (Int × Int)), Okl m → Okl (putAll m L) ∧ (putAll m L).length ≤ m.length + L.length
  | [], m, h => ⟨h, Nat.le_refl _⟩
  | p :: L, m, h => by
    obtain ⟨h1, h2⟩ := putAll_ok L (putV m p.1 p.2) (h.put _ _)
    refine ⟨h1, Nat.le_trans h2 ?_⟩
    have := putV_len m p.1 p.2
    simp
    omega
theorem okl_nil : Okl [] := ⟨List.Pairwise.nil, fun p hp => by cases hp⟩
theorem putAll_take (L : List (Int × Int)) (i : Nat) (hi : i < L.length) : putAll [] (L.take (i + 1)) = putV (putAll [] (L.take i)) L[i].1 L[i].2 := by
  rw [List.take_succ_eq_append_getElem hi]
  unfold putAll
  rw [List.foldl_append]
  rfl
structure Two (u : St) (tb : Nat) (v w : Value) (m : List (Int × Int)) : Prop where
  tab : Tab u tb v m
  slw : SlcU u w m
  wlo : ∀ b, blkOf w = some b → 8 ≤ b ∧ b ≠ tb ∧ blkOf v ≠ some b
theorem SlcU.keep {s u : St} {v : Value} {l : List (Int × Int)} (h : SlcU s v l) (hn : s.next ≤ u.next) (hk : ∀ b, blkOf v = some b → u.getC b = s.getC b) : SlcU u v l := by
  rcases h with h0 | ⟨sb, rfl, a, b, c⟩
  · exact .inl h0
  · exact .inr ⟨sb, rfl, Nat.lt_of_lt_of_le a hn, (hk sb rfl).trans b, c⟩
theorem SlcU.blt {s : St} {v : Value} {l : List (Int × Int)} (h : SlcU s v l) : ∀ b, blkOf v = some b → b < s.next := by
  intro b hb
  rcases h with ⟨_, rfl⟩ | ⟨sb, rfl, h2, h3, h4⟩
  · cases hb
  · cases hb; exact h2
set_option maxHeartbeats 2000000 in
theorem loop4 (M : Nat) (hM : 2000 ≤ M) (s0 : St) (a0 : Value) (L : List (Int × Int)) (hL : L.length ≤ 60) (hin : Inp s0 a0 L) (tb B : Nat) (hB : B + 1000 ≤ lim) (x1 x2 x3 : Value) :
    ∀ (fuel i : Nat) (fs : Frm) (u : St) (v w : Value), (∀ y, y < 8 → u.getC y = s0.getC y) → 8 ≤ u.next → u.next ≤ B + 9 * i → fs.get t0 = some a0 → fs.get t1 = some x1 → fs.get t2 = some x2 → fs.get t3 = some x3 → fs.get t9 = some (.pointer (some ⟨tb, 0, none⟩)) → fs.get t10 = some w → fs.get t11 = some (.int .i64 (i : Int)) → Two u tb v w (putAll [] (L.take i)) → i ≤ L.length → L.length - i < fuel →
    ∃ fs' u' v' w', loopF (c4_l0 (callN E (M + 4)) (M + 4)) fuel fs u = some (.exit 0, fs', u') ∧ (∀ y, y < 8 → u'.getC y = s0.getC y) ∧ 8 ≤ u'.next ∧ u'.next ≤ B + 540 ∧ fs'.get t1 = some x1 ∧ fs'.get t2 = some x2 ∧ fs'.get t3 = some x3 ∧ fs'.get t9 = some (.pointer (some ⟨tb, 0, none⟩)) ∧ fs'.get t10 = some w' ∧ Two u' tb v' w' (putAll [] L) := by
  intro fuel
  induction fuel with
  | zero => intro i fs u v w _ _ _ _ _ _ _ _ _ _ _ _ h; omega
  | succ fuel ih =>
    intro i fs u v w hlow h8 hnx g0 g1 g2 g3 g9 g10 g11 two hi hf
    have hlen := hin.len
    rw [loop_s, d4_l0]
    unfold D4_l0
    by_cases hlt : i < L.length
    · have e1 : decide ((i : Int) < (L.length : Int)) = true := decide_eq_true (by omega)
      obtain ⟨hidx, hs0⟩ := hin.idx hlt
      obtain ⟨la, lb⟩ := Inp.load hlt
      have hu0 : u.getC 0 = some (flatV L) := (hlow 0 (by omega)).trans hs0
      obtain ⟨ok, okl⟩ := putAll_ok (L.take i) [] okl_nil
      have hml : (putAll [] (L.take i)).length < 256 := by
        have : (L.take i).length ≤ 60 := by simp; omega
        simp at okl; omega
      -- the document's
      obtain ⟨z1, hz1⟩ : ∃ z : St, z = ⟨((u.seen 0).seen 0).heap, ((u.seen 0).seen 0).next, 0, 0⟩ := ⟨_, rfl⟩
      have z1g : ∀ y, z1.getC y = u.getC y := fun y => by rw [hz1]; simp only [s0_getC, seen_getC]
      have z1n : z1.next = u.next := by rw [hz1]; show ((u.seen 0).seen 0).next = _; simp only [St.seen_next]
      obtain ⟨w', u1, p1, p2, p3, p4, p5, p6⟩ := putW (M + 2) (by omega) z1 w _ L[i].1 L[i].2 hml ok (two.slw.keep (by rw [z1n]; exact Nat.le_refl _) fun b _ => z1g b) (by rw [z1n]; exact h8) (by rw [z1n]; omega)
      have p1' : callN E (M + 4) 17 [w, .int .i64 L[i].1, .int .i64 L[i].2] (⟨((u.seen 0).seen 0).heap, ((u.seen 0).seen 0).next, 0, 0⟩ : St) = _ := hz1 ▸ p1
      rw [z1n] at p3 p4 p5 p6
      have hu1 : ∀ y, y < u.next → u1.getC y = u.getC y := fun y hy => (p5 y hy).trans (z1g y)
      have hu10 : u1.getC 0 = some (flatV L) := (hu1 0 (by omega)).trans hu0
      -- the program's
      obtain ⟨J, hJ⟩ : ∃ J, J = jn ((u.seen 0).seen 0) u1 := ⟨_, rfl⟩
      have Jg : ∀ y, J.getC y = u1.getC y := fun y => by rw [hJ]; exact jn_getC _ _ y
      have Jn : J.next = u1.next := by rw [hJ]; exact jn_next _ _
      obtain ⟨z2, hz2⟩ : ∃ z : St, z = ⟨((J.seen 0).seen 0).heap, ((J.seen 0).seen 0).next, 0, 0⟩ := ⟨_, rfl⟩
      have z2g : ∀ y, z2.getC y = u1.getC y := fun y => by rw [hz2]; simp only [s0_getC, seen_getC, Jg]
      have z2n : z2.next = u1.next := by rw [hz2]; show ((J.seen 0).seen 0).next = _; simp only [St.seen_next, Jn]
      have hJ0 : J.getC 0 = some (flatV L) := (Jg 0).trans hu10
      obtain ⟨v', u2, q1, q2, q3, q4, q5, q6⟩ := put M hM z2 tb v _ L[i].1 L[i].2 hml ok
        (two.tab.keep (by rw [z2n]; exact p3) ((z2g tb).trans (hu1 tb two.tab.lt)) fun b hb => (z2g b).trans (hu1 b (two.tab.blt b hb))) (by rw [z2n]; omega)
      rw [z2n] at q3 q4 q5 q6
      have q1' : callN E (M + 4) 14 [.pointer (some ⟨tb, 0, none⟩), .int .i64 L[i].1, .int .i64 L[i].2] (⟨((J.seen 0).seen 0).heap, ((J.seen 0).seen 0).next, 0, 0⟩ : St) = _ := hz2 ▸ q1
      have rc1 := fun v fs s => rU_c v fs s u1
      have rc2 := fun v fs s => rU_c v fs s u2
      have e2 : decide (putE L[i].1 L[i].2 = putE L[i].1 L[i].2) = true := decide_eq_true rfl
      have hai : int2 addO (.int .i64 (i : Int)) (.int .i64 1) = some (.int .i64 ((i + 1 : Nat) : Int)) := by rw [add_e _ _ (by omega) (by omega)]; rfl
      have tw : Two (jn ((J.seen 0).seen 0) u2) tb v' w' (putAll [] (L.take (i + 1))) := by
        rw [putAll_take L i hlt]
        have wb : ∀ b, blkOf w' = some b → b < u1.next ∧ b ≠ tb ∧ blkOf v ≠ some b ∧ 8 ≤ b := fun b hb => by
          have h1 := p2.blt b hb
          rcases p6 b hb with h2 | h2
          · have := two.wlo b h2
            exact ⟨h1, this.2.1, this.2.2, this.1⟩
          · exact ⟨h1, by have := two.tab.lt; omega, fun e => by have := two.tab.blt b e; omega, by omega⟩
        refine ⟨q2.keep (by rw [jn_next]; exact Nat.le_refl _) (jn_getC _ _ _) fun b _ => jn_getC _ _ _, p2.keep (by rw [jn_next]; omega) fun b hb => ?_, fun b hb => ?_⟩
        · have := wb b hb
          rw [jn_getC, q5 b this.1 this.2.1 this.2.2.1, z2g]
        · have h1 := wb b hb
          refine ⟨h1.2.2.2, h1.2.1, fun e => ?_⟩
          rcases q6 b e with h2 | h2
          · exact h1.2.2.1 h2
          · omega
      have low2 : ∀ y, y < 8 → (jn ((J.seen 0).seen 0) u2).getC y = s0.getC y := fun y hy => by
        rw [jn_getC, q5 y (by omega) (by have := two.tab.lo; omega) (fun e => by have := two.tab.blo y e; omega), z2g, hu1 y (by omega), hlow y hy]
      simp (disch := first | omega | (simp only [s0_getC, seen_getC, hu0, hJ0])) only [op2_s', op_s', op2_op, op2_op2, op2_cond, ev_v', call_r', map_c', map_n', bin_e', pick_e', not_e, ext_e', nth_z', nth_1', nth_2', nth_3', gval_e, gval_u', cmp_e, orUndef_t', orUndef_f', condV_t', condV_f', cond_true, cond_false, eqI_eq, neI_eq, ltI_eq, leI_eq, gtI_eq', geI_eq, Bool.not_true, Bool.not_false, beq_self_eq_true, tf_beq, ft_beq, eq_self, decide_true, decide_false, oneOf1, orU_some, g0, g1, g2, g3, g9, g10, g11, hlen, e1, mov_f', rU_p, hidx, fieldAddr_e, la, lb, rU_l, p1', rc1, ← hJ, q1', rc2, neI_eq, e2, hai, thenX_n']
      rw [apartKs [0, 0, 0, 0, 0, 1, 0, 0, 0, 0, 1, 2, 0, 0, 0, 0, 0] (by simp [allK, KindOk]) _ (by kernel_rfl)]
      simp (disch := first | omega | (simp only [s0_getC, seen_getC, hu0, hJ0])) only [op2_s', op_s', op2_op, op2_op2, op2_cond, ev_v', call_r', map_c', map_n', bin_e', pick_e', not_e, ext_e', nth_z', nth_1', nth_2', nth_3', gval_e, gval_u', cmp_e, orUndef_t', orUndef_f', condV_t', condV_f', cond_true, cond_false, eqI_eq, neI_eq, ltI_eq, leI_eq, gtI_eq', geI_eq, Bool.not_true, Bool.not_false, beq_self_eq_true, tf_beq, ft_beq, eq_self, decide_true, decide_false, oneOf1, orU_some, g0, g1, g2, g3, g9, g10, g11, hlen, e1, mov_f', rU_p, hidx, fieldAddr_e, la, lb, rU_l, p1', rc1, ← hJ, q1', rc2, neI_eq, e2, hai, thenX_n']
      rw [apartKs [0, 0, 0, 0, 0, 1, 0, 0, 0, 0, 1, 2, 0, 0] (by simp [allK, KindOk]) _ (by kernel_rfl)]
      simp (disch := first | omega | (simp only [s0_getC, seen_getC, hu0, hJ0])) only [op2_s', op_s', op2_op, op2_op2, op2_cond, ev_v', call_r', map_c', map_n', bin_e', pick_e', not_e, ext_e', nth_z', nth_1', nth_2', nth_3', gval_e, gval_u', cmp_e, orUndef_t', orUndef_f', condV_t', condV_f', cond_true, cond_false, eqI_eq, neI_eq, ltI_eq, leI_eq, gtI_eq', geI_eq, Bool.not_true, Bool.not_false, beq_self_eq_true, tf_beq, ft_beq, eq_self, decide_true, decide_false, oneOf1, orU_some, g0, g1, g2, g3, g9, g10, g11, hlen, e1, mov_f', rU_p, hidx, fieldAddr_e, la, lb, rU_l, p1', rc1, ← hJ, q1', rc2, neI_eq, e2, hai, thenX_n']
      obtain ⟨fs', u', v'', w'', r1, r2⟩ := ih (i + 1) _ (jn ((J.seen 0).seen 0) u2) v' w' low2 (by rw [jn_next]; omega) (by rw [jn_next]; omega) ((by kernel_rfl : _ = fs.get t0).trans g0) ((by kernel_rfl : _ = fs.get t1).trans g1) ((by kernel_rfl : _ = fs.get t2).trans g2) ((by kernel_rfl : _ = fs.get t3).trans g3) ((by kernel_rfl : _ = fs.get t9).trans g9) (by kernel_rfl) (by kernel_rfl) tw (by omega) (by omega)
      exact ⟨fs', u', v'', w'', r1, r2⟩
    · have e1 : decide ((i : Int) < (L.length : Int)) = false := decide_eq_false (by omega)
      have hiL : i = L.length := by omega
      rw [List.take_of_length_le (by omega)] at two
      simp only [op2_s', op_s', op2_op, op2_op2, op2_cond, ev_v', call_r', map_c', map_n', bin_e', pick_e', not_e, ext_e', nth_z', nth_1', nth_2', nth_3', gval_e, gval_u', cmp_e, orUndef_t', orUndef_f', condV_t', condV_f', cond_true, cond_false, eqI_eq, neI_eq, ltI_eq, leI_eq, gtI_eq', geI_eq, Bool.not_true, Bool.not_false, beq_self_eq_true, tf_beq, ft_beq, eq_self, decide_true, decide_false, oneOf1, orU_some, g0, g11, hlen, e1, thenX_e']
      exact ⟨_, _, v, w, rfl, hlow, h8, by omega, (by kernel_rfl : _ = fs.get t1).trans g1, (by kernel_rfl : _ = fs.get t2).trans g2, (by kernel_rfl : _ = fs.get t3).trans g3, (by kernel_rfl : _ = fs.get t9).trans g9, (by kernel_rfl : _ = fs.get t10).trans g10, two⟩
end Go.Proofs.Ythjhammjankekaa.AbsRatO
namespace Go.Proofs.Ythjhammjankekaa.AbsRatO
open Go Go.Abs Go.Proofs
set_option maxRecDepth 100000
set_option linter.unusedVariables false
set_option linter.unusedSimpArgs false
attribute [local congr] opt2_cg opt_cg condV_cg cond_cg
/-! RateSays: the steps told, one by one; the document's RateAt and RateSum, whole -/
theorem SlcU.idx {s : St} {v : Value} {l : List (Int × Int)} (h : SlcU s v l) {i : Nat} (hi : i < l.length) : ∃ sb, (∀ (rec : Rec) (w : St), oIdxAddrL 2 (.v v) (.v (.int .i64 (i : Int))) rec PT.nil w = some (.pointer (some ⟨sb, 0 + i * 2, none⟩), w)) ∧
    (∀ (rec : Rec) (z : St), (∀ y, z.getC y = s.getC y) → oLoad1 (.v (.pointer (some ⟨sb, 0 + i * 2 + 0, none⟩))) rec PT.nil z = some (.int .i64 l[i].1, z.seen sb)) ∧ ∀ (rec : Rec) (z : St), (∀ y, z.getC y = s.getC y) → oLoad1 (.v (.pointer (some ⟨sb, 0 + i * 2 + 1, none⟩))) rec PT.nil z = some (.int .i64 l[i].2, z.seen sb) := by
  rcases h with ⟨rfl, rfl⟩ | ⟨sb, rfl, h1, h2, h3⟩
  · exact absurd hi (by simp)
  · exact ⟨sb, fun rec w => idxL_e _ _ _ _ _ _ rec PT.nil w hi, fun rec z h => load1_e sb _ _ _ rec PT.nil z ((h sb).trans h2) (by rw [Nat.zero_add, Nat.add_zero, flat_day l i hi]), fun rec z h => load1_e sb _ _ _ rec PT.nil z ((h sb).trans h2) (by rw [Nat.zero_add, flat_rate l i hi])⟩
set_option maxHeartbeats 2000000 in
theorem cmp4 (rec : Rec) (N : Nat) (s : St) (x w : Value) (m : List (Int × Int)) (hl : m.length ≤ 1000) (hx : SlcU s x m) (hw : SlcU s w m) (x1 x2 x3 x9 : Value) :
    ∀ (fuel i : Nat) (fs : Frm) (u : St), Alike s u → fs.get t1 = some x1 → fs.get t2 = some x2 → fs.get t3 = some x3 → fs.get t9 = some x9 → fs.get t10 = some w → fs.get t14 = some x → fs.get t15 = some (.int .i64 (i : Int)) → i ≤ m.length → m.length - i < fuel →
    ∃ fs' u', loopF (c4_l1 rec N) fuel fs u = some (.exit 2, fs', u') ∧ Alike s u' ∧ fs'.get t1 = some x1 ∧ fs'.get t2 = some x2 ∧ fs'.get t3 = some x3 ∧ fs'.get t9 = some x9 ∧ fs'.get t10 = some w := by
  intro fuel
  induction fuel with
  | zero => intro i fs u _ _ _ _ _ _ _ _ _ h; omega
  | succ fuel ih =>
    intro i fs u hu g1 g2 g3 g9 g10 g14 g15 hi hf
    have hlx := hx.len
    rw [loop_s, d4_l1]
    unfold D4_l1
    by_cases hlt : i < m.length
    · have e1 : decide ((i : Int) < (m.length : Int)) = true := decide_eq_true (by omega)
      obtain ⟨xb, xi, xa, xr⟩ := hx.idx hlt
      obtain ⟨wb, wi, wa, wr⟩ := hw.idx hlt
      have un := hu.1
      have ug := hu.2
      clear hu
      have e2 : decide (m[i].1 = m[i].1) = true := decide_eq_true rfl
      have e3 : decide (m[i].2 = m[i].2) = true := decide_eq_true rfl
      have hai : int2 addO (.int .i64 (i : Int)) (.int .i64 1) = some (.int .i64 ((i + 1 : Nat) : Int)) := by rw [add_e _ _ (by omega) (by omega)]; rfl
      simp (disch := (intro y; simp only [s0_getC, seen_getC, ug])) only [op2_s', op_s', op2_op, op2_op2, op2_cond, ev_v', call_r', map_c', map_n', bin_e', pick_e', not_e, ext_e', nth_z', nth_1', nth_2', nth_3', gval_e, gval_u', cmp_e, orUndef_t', orUndef_f', condV_t', condV_f', cond_true, cond_false, eqI_eq, neI_eq, ltI_eq, leI_eq, gtI_eq', geI_eq, Bool.not_true, Bool.not_false, beq_self_eq_true, tf_beq, ft_beq, eq_self, decide_true, decide_false, oneOf1, orU_some, g1, g2, g3, g9, g10, g14, g15, hlx, e1, mov_f', rU_p, xi, wi, fieldAddr_e, xa, xr, wa, wr, rU_l, neI_eq, e2, e3, orM_t, hai, thenX_n']
      rw [apartKs [0, 0, 0, 0, 1, 0, 0, 0, 0, 1, 0, 0, 0, 0, 0, 0, 1, 0, 0, 0, 0, 1, 0, 0] (by simp [allK, KindOk]) _ (by kernel_rfl)]
      simp (disch := (intro y; simp only [s0_getC, seen_getC, ug])) only [op2_s', op_s', op2_op, op2_op2, op2_cond, ev_v', call_r', map_c', map_n', bin_e', pick_e', not_e, ext_e', nth_z', nth_1', nth_2', nth_3', gval_e, gval_u', cmp_e, orUndef_t', orUndef_f', condV_t', condV_f', cond_true, cond_false, eqI_eq, neI_eq, ltI_eq, leI_eq, gtI_eq', geI_eq, Bool.not_true, Bool.not_false, beq_self_eq_true, tf_beq, ft_beq, eq_self, decide_true, decide_false, oneOf1, orU_some, g1, g2, g3, g9, g10, g14, g15, hlx, e1, mov_f', rU_p, xi, wi, fieldAddr_e, xa, xr, wa, wr, rU_l, neI_eq, e2, e3, orM_t, hai, thenX_n']
      obtain ⟨fs', u', r1, r2⟩ := ih (i + 1) _ ((((u.seen xb).seen wb).seen xb).seen wb) ⟨by simp only [St.seen_next, un], fun y => by simp only [seen_getC, ug]⟩ ((by kernel_rfl : _ = fs.get t1).trans g1) ((by kernel_rfl : _ = fs.get t2).trans g2) ((by kernel_rfl : _ = fs.get t3).trans g3) ((by kernel_rfl : _ = fs.get t9).trans g9) ((by kernel_rfl : _ = fs.get t10).trans g10) ((by kernel_rfl : _ = fs.get t14).trans g14) (by kernel_rfl) (by omega) (by omega)
      exact ⟨fs', u', r1, r2⟩
    · have e1 : decide ((i : Int) < (m.length : Int)) = false := decide_eq_false (by omega)
      simp only [op2_s', op_s', op2_op, op2_op2, op2_cond, ev_v', call_r', map_c', map_n', bin_e', pick_e', not_e, ext_e', nth_z', nth_1', nth_2', nth_3', gval_e, gval_u', cmp_e, orUndef_t', orUndef_f', condV_t', condV_f', cond_true, cond_false, eqI_eq, neI_eq, ltI_eq, leI_eq, gtI_eq', geI_eq, Bool.not_true, Bool.not_false, beq_self_eq_true, tf_beq, ft_beq, eq_self, decide_true, decide_false, oneOf1, orU_some, g14, g15, hlx, e1, thenX_e']
      exact ⟨_, _, rfl, hu, (by kernel_rfl : _ = fs.get t1).trans g1, (by kernel_rfl : _ = fs.get t2).trans g2, (by kernel_rfl : _ = fs.get t3).trans g3, (by kernel_rfl : _ = fs.get t9).trans g9, (by kernel_rfl : _ = fs.get t10).trans g10⟩
theorem Behind.uniq {l : List (Int × Int)} {d : Int} {k k' : Nat} (h : Behind l d k) (h' : Behind l d k') : k = k' := by
  obtain ⟨a1, a2, a3⟩ := h
  obtain ⟨b1, b2, b3⟩ := h'
  rcases Nat.lt_trichotomy k k' with h | h | h
  · have x1 := b2 k (by omega) h
    have x2 := a3 k (by omega) (Nat.le_refl _)
    omega
  · exact h
  · have x1 := a2 k' (by omega) h
    have x2 := b3 k' (by omega) (Nat.le_refl _)
    omega
theorem k19 (M : Nat) (a b : Value) (s : St) : callN E (M + 1) 19 [a, b] s = callF (callN E M) M c19 [a, b] s := by kernel_rfl
theorem rateW (M : Nat) (hM : 2000 ≤ M) (s : St) (w : Value) (l : List (Int × Int)) (d : Int) (hl : l.length ≤ 1000) (ho : Okl l) (hw : SlcU s w l) :
    ∃ k u', callN E (M + 1) 19 [w, .int .i64 d] s = some (.int .i64 (rateK l k), u') ∧ Alike s u' ∧ Behind l d k := by
  rcases hw with ⟨rfl, rfl⟩ | ⟨sb, rfl, h1, h2, h3⟩
  · refine ⟨0, s, ?_, Alike.refl s, Nat.le_refl _, fun x h => absurd h (by simp), fun x h => absurd h (by simp)⟩
    rw [k19, d19]
    unfold D19
    obtain ⟨M, rfl⟩ : ∃ m, M = m + 1 := ⟨M - 1, by omega⟩
    rw [loop_s, d19_l0]
    unfold D19_l0
    have g0 : ∀ (a b c d e : Value), (PT.put a t6 (PT.put b t5 (PT.put c t4 (PT.put d t1 (PT.put e t0 PT.nil))))).get t0 = some e := fun a b c d e => by kernel_rfl
    have g6 : ∀ (a : Value) (x : Frm), (PT.put a t6 x).get t6 = some a := fun a x => by kernel_rfl
    have e1 : decide ((0 : Int) < ((0 : Nat) : Int)) = false := rfl
    simp only [g0, g6, op2_s', op_s', op2_op, op2_op2, op2_cond, ev_v', call_r', map_c', map_n', bin_e', pick_e', not_e, ext_e', nth_z', nth_1', nth_2', nth_3', gval_e, gval_u', cmp_e, orUndef_t', orUndef_f', condV_t', condV_f', cond_true, cond_false, eqI_eq, neI_eq, ltI_eq, leI_eq, gtI_eq', geI_eq, Bool.not_true, Bool.not_false, beq_self_eq_true, tf_beq, ft_beq, eq_self, decide_true, decide_false, oneOf1, orU_some, lenL_e, e1, thenX_e', blkX_e, Nat.beq_refl, thenX_n', d19_r0, D19_r0, finX_r']
    first | rfl | (show _ = _; kernel_rfl)
  · obtain ⟨k, u', r1, r2, r3, r4, r5⟩ := rateAt (callN E M) M hM s sb (UNK + 2) l d hl h2
    refine ⟨k, u', (k19 M _ _ s).trans r1, r2, r3, r4, fun x h hx => ?_⟩
    have hk : k < l.length := by omega
    have a := r5 hk
    have b := ho.1.sorted k x hk h hx
    omega
set_option maxHeartbeats 2000000 in
theorem sumW (M : Nat) (hM : 2000 ≤ M) (s : St) (w : Value) (l : List (Int × Int)) (f t : Int) (hl : l.length ≤ 256) (ho : Okl l) (hw : SlcU s w l) :
    ∃ u', callN E (M + 1) 20 [w, .int .i64 f, .int .i64 t] s = some (.int .i64 (sumP (clamp f) (clamp t) l), u') ∧ Alike s u' := by
  have run := fun (f' t' : Int) (hf : f' = max f 0) (ht : t' = min t 109573) (fs : Frm) (h0 : fs.get t0 = some w) (h1 : fs.get t1 = some (.int .i64 f')) (h2 : fs.get t2 = some (.int .i64 t')) (h7 : fs.get t7 = some (.int .i64 0)) (h8 : fs.get t8 = some (.int .i64 ((0 : Nat) : Int))) =>
    sumWL (callN E M) M s w l f t f' t' hl ho hf ht hw M 0 0 fs s (Alike.refl s) h0 h1 h2 h7 h8 (Nat.zero_le _) (Int.le_refl _) (by omega) (by omega)
  rw [k20, d20]
  unfold D20
  by_cases hf : f < 0
  · have e1 : decide (f < 0) = true := decide_eq_true hf
    by_cases ht : 109573 < t
    · have e2 : decide (109573 < t) = true := decide_eq_true ht
      obtain ⟨fs', u', r1, r2, r3⟩ := run 0 109573 (by omega) (by omega) (PT.put (.int .i64 0) t8 (PT.put (.int .i64 0) t7 (PT.put (.int .i64 109573) t2 (PT.put (.bool true) t14 (PT.put (.int .i64 t) t13 (PT.put (.int .i64 0) t1 (PT.put (.bool true) t12 (PT.put (.int .i64 f) t11 (PT.put (.int .i64 0) t6 (PT.put (.int .i64 t) t2 (PT.put (.int .i64 f) t1 (PT.put w t0 PT.nil)))))))))))) (by kernel_rfl) (by kernel_rfl) (by kernel_rfl) (by kernel_rfl) (by kernel_rfl)
      rw [List.drop_zero, Int.zero_add] at r3
      refine ⟨u', ?_, r2⟩
      simp only [op2_s', op_s', op2_op, op2_op2, op2_cond, ev_v', call_r', map_c', map_n', bin_e', pick_e', not_e, ext_e', nth_z', nth_1', nth_2', nth_3', gval_e, gval_u', cmp_e, orUndef_t', orUndef_f', condV_t', condV_f', cond_true, cond_false, eqI_eq, neI_eq, ltI_eq, leI_eq, gtI_eq', geI_eq, Bool.not_true, Bool.not_false, beq_self_eq_true, tf_beq, ft_beq, eq_self, decide_true, decide_false, oneOf1, orU_some, e1, e2]
      rw [r1]
      simp only [op2_s', blkX_e, Nat.beq_refl, cond_true, thenX_n', d20_r0, D20_r0, r3, orU_some, finX_r']
      first | rfl | (show _ = _; kernel_rfl)
    · have e2 : decide (109573 < t) = false := decide_eq_false ht
      obtain ⟨fs', u', r1, r2, r3⟩ := run 0 t (by omega) (by omega) (PT.put (.int .i64 0) t8 (PT.put (.int .i64 0) t7 (PT.put (.bool false) t14 (PT.put (.int .i64 t) t13 (PT.put (.int .i64 0) t1 (PT.put (.bool true) t12 (PT.put (.int .i64 f) t11 (PT.put (.int .i64 0) t6 (PT.put (.int .i64 t) t2 (PT.put (.int .i64 f) t1 (PT.put w t0 PT.nil))))))))))) (by kernel_rfl) (by kernel_rfl) (by kernel_rfl) (by kernel_rfl) (by kernel_rfl)
      rw [List.drop_zero, Int.zero_add] at r3
      refine ⟨u', ?_, r2⟩
      simp only [op2_s', op_s', op2_op, op2_op2, op2_cond, ev_v', call_r', map_c', map_n', bin_e', pick_e', not_e, ext_e', nth_z', nth_1', nth_2', nth_3', gval_e, gval_u', cmp_e, orUndef_t', orUndef_f', condV_t', condV_f', cond_true, cond_false, eqI_eq, neI_eq, ltI_eq, leI_eq, gtI_eq', geI_eq, Bool.not_true, Bool.not_false, beq_self_eq_true, tf_beq, ft_beq, eq_self, decide_true, decide_false, oneOf1, orU_some, e1, e2]
      rw [r1]
      simp only [op2_s', blkX_e, Nat.beq_refl, cond_true, thenX_n', d20_r0, D20_r0, r3, orU_some, finX_r']
      first | rfl | (show _ = _; kernel_rfl)
  · have e1 : decide (f < 0) = false := decide_eq_false hf
    by_cases ht : 109573 < t
    · have e2 : decide (109573 < t) = true := decide_eq_true ht
      obtain ⟨fs', u', r1, r2, r3⟩ := run f 109573 (by omega) (by omega) (PT.put (.int .i64 0) t8 (PT.put (.int .i64 0) t7 (PT.put (.int .i64 109573) t2 (PT.put (.bool true) t14 (PT.put (.int .i64 t) t13 (PT.put (.bool false) t12 (PT.put (.int .i64 f) t11 (PT.put (.int .i64 0) t6 (PT.put (.int .i64 t) t2 (PT.put (.int .i64 f) t1 (PT.put w t0 PT.nil))))))))))) (by kernel_rfl) (by kernel_rfl) (by kernel_rfl) (by kernel_rfl) (by kernel_rfl)
      rw [List.drop_zero, Int.zero_add] at r3
      refine ⟨u', ?_, r2⟩
      simp only [op2_s', op_s', op2_op, op2_op2, op2_cond, ev_v', call_r', map_c', map_n', bin_e', pick_e', not_e, ext_e', nth_z', nth_1', nth_2', nth_3', gval_e, gval_u', cmp_e, orUndef_t', orUndef_f', condV_t', condV_f', cond_true, cond_false, eqI_eq, neI_eq, ltI_eq, leI_eq, gtI_eq', geI_eq, Bool.not_true, Bool.not_false, beq_self_eq_true, tf_beq, ft_beq, eq_self, decide_true, decide_false, oneOf1, orU_some, e1, e2]
      rw [r1]
      simp only [op2_s', blkX_e, Nat.beq_refl, cond_true, thenX_n', d20_r0, D20_r0, r3, orU_some, finX_r']
      first | rfl | (show _ = _; kernel_rfl)
    · have e2 : decide (109573 < t) = false := decide_eq_false ht
      obtain ⟨fs', u', r1, r2, r3⟩ := run f t (by omega) (by omega) (PT.put (.int .i64 0) t8 (PT.put (.int .i64 0) t7 (PT.put (.bool false) t14 (PT.put (.int .i64 t) t13 (PT.put (.bool false) t12 (PT.put (.int .i64 f) t11 (PT.put (.int .i64 0) t6 (PT.put (.int .i64 t) t2 (PT.put (.int .i64 f) t1 (PT.put w t0 PT.nil)))))))))) (by kernel_rfl) (by kernel_rfl) (by kernel_rfl) (by kernel_rfl) (by kernel_rfl)
      rw [List.drop_zero, Int.zero_add] at r3
      refine ⟨u', ?_, r2⟩
      simp only [op2_s', op_s', op2_op, op2_op2, op2_cond, ev_v', call_r', map_c', map_n', bin_e', pick_e', not_e, ext_e', nth_z', nth_1', nth_2', nth_3', gval_e, gval_u', cmp_e, orUndef_t', orUndef_f', condV_t', condV_f', cond_true, cond_false, eqI_eq, neI_eq, ltI_eq, leI_eq, gtI_eq', geI_eq, Bool.not_true, Bool.not_false, beq_self_eq_true, tf_beq, ft_beq, eq_self, decide_true, decide_false, oneOf1, orU_some, e1, e2]
      rw [r1]
      simp only [op2_s', blkX_e, Nat.beq_refl, cond_true, thenX_n', d20_r0, D20_r0, r3, orU_some, finX_r']
      first | rfl | (show _ = _; kernel_rfl)
end Go.Proofs.Ythjhammjankekaa.AbsRatO
namespace Go.Proofs.Ythjhammjankekaa.AbsRatO
open Go Go.Abs Go.Proofs
set_option maxRecDepth 100000
set_option linter.unusedVariables false
set_option linter.unusedSimpArgs false
attribute [local congr] opt2_cg opt_cg condV_cg cond_cg
/-! RateSays -/
theorem k4 (M : Nat) (a b c d : Value) (s : St) : callN E (M + 1) 4 [a, b, c, d] s = callF (callN E M) M c4 [a, b, c, d] s := by kernel_rfl
theorem says_r0 (M : Nat) (hM : 2000 ≤ M) (u : St) (tb : Nat) (v w : Value) (m : List (Int × Int)) (d f t : Int) (hm : m.length ≤ 60) (ho : Okl m) (two : Two u tb v w m) (h8 : 8 ≤ u.next) (hn : u.next + 400 ≤ lim) (fs : Frm) (g1 : fs.get t1 = some (.int .i64 d)) (g2 : fs.get t2 = some (.int .i64 f)) (g3 : fs.get t3 = some (.int .i64 t)) (g9 : fs.get t9 = some (.pointer (some ⟨tb, 0, none⟩))) (g10 : fs.get t10 = some w) :
    ∃ fs' u', c4_r0 (callN E (M + 4)) (M + 4) fs u = some (.ret, fs', u') ∧ fs'.get t8 = some (.bool true) ∧ Grew 300 u u' := by
  obtain ⟨k, u1, a1, a2, a3⟩ := at_ M hM u tb m d (by omega) ho.1.sorted two.tab.at (by omega)
  have sw1 : SlcU u1 w m := two.slw.keep a2.1 fun b hb => a2.2.2 b (two.slw.blt b hb)
  obtain ⟨k', u2, b1, b2, b3⟩ := rateW (M + 3) (by omega) u1 w m d (by omega) ho sw1
  have b1' : callN E (M + 4) 19 [w, .int .i64 d] u1 = some (.int .i64 (rateK m k'), u2) := b1
  have hk := a3.uniq b3
  subst hk
  have tab2 : Tab u2 tb v m := (two.tab.grew a2).keep (by rw [b2.1]; exact Nat.le_refl _) (b2.2 _) fun b _ => b2.2 b
  have g2' := a2.2.1
  have g1' := a2.1
  obtain ⟨u3, c1, c2⟩ := sum (M + 3) (by omega) u2 tb v m f t (by omega) ho tab2 (by rw [b2.1]; omega) (by rw [b2.1]; omega)
  have c1' : callN E (M + 4) 16 [.pointer (some ⟨tb, 0, none⟩), .int .i64 f, .int .i64 t] u2 = some (.int .i64 (sumP (clamp f) (clamp t) m), u3) := c1
  have sw3 : SlcU u3 w m := (sw1.alike b2).keep c2.1 fun b hb => c2.2.2 b ((sw1.alike b2).blt b hb)
  obtain ⟨u4, d1, d2⟩ := sumW (M + 3) (by omega) u3 w m f t (by omega) ho sw3
  have d1' : callN E (M + 4) 20 [w, .int .i64 f, .int .i64 t] u3 = some (.int .i64 (sumP (clamp f) (clamp t) m), u4) := d1
  have e1 : decide (rateK m k = rateK m k) = true := decide_eq_true rfl
  have e2 : decide (sumP (clamp f) (clamp t) m = sumP (clamp f) (clamp t) m) = true := decide_eq_true rfl
  rw [d4_r0]
  unfold D4_r0
  simp only [op2_s', op_s', op2_op, op2_op2, op2_cond, ev_v', call_r', map_c', map_n', bin_e', pick_e', not_e, ext_e', nth_z', nth_1', nth_2', nth_3', gval_e, gval_u', cmp_e, orUndef_t', orUndef_f', condV_t', condV_f', cond_true, cond_false, eqI_eq, neI_eq, ltI_eq, leI_eq, gtI_eq', geI_eq, Bool.not_true, Bool.not_false, beq_self_eq_true, tf_beq, ft_beq, eq_self, decide_true, decide_false, oneOf1, orU_some, g1, g2, g3, g9, g10, a1, b1', e1, c1', d1', e2]
  have q3 := c2.1
  have q4 := c2.2.1
  rw [b2.1] at q3 q4
  refine ⟨_, _, rfl, by kernel_rfl, by rw [d2.1]; omega, by rw [d2.1]; omega, fun y hy => ?_⟩
  rw [d2.2, c2.2.2 y (by rw [b2.1]; omega), b2.2, a2.2.2 y hy]
theorem says (M : Nat) (hM : 2000 ≤ M) (s s1 : St) (a0 : Value) (L : List (Int × Int)) (d f t : Int) (hin : Inp s a0 L) (haw : callN E (M + 4) 12 [] s = some (.bool true, s1)) (h8 : 8 ≤ s1.next) (hn : s1.next ≤ 2000) (hlow : s1.getC 0 = s.getC 0) :
    ∃ u', callN E (M + 5) 4 [a0, .int .i64 d, .int .i64 f, .int .i64 t] s = some (.bool true, u') ∧ u'.getC 0 = s.getC 0 := by
  have hlim : lim = 1000000000 := rfl
  have hlen := hin.len
  rw [k4, d4]
  unfold D4
  by_cases hL : L.length ≤ 60
  · have e60 : decide ((60 : Int) < (L.length : Int)) = false := decide_eq_false (by omega)
    obtain ⟨u0, n1, n2, n3, n4⟩ := new_tab (M + 3) s1 (by omega)
    have n1' : callN E (M + 4) 13 [] s1 = some (.pointer (some ⟨s1.next, 0, none⟩), u0) := n1
    have hin0 : Inp u0 a0 L := by
      rcases hin with h | ⟨c, h1, h2⟩
      · exact .inl h
      · exact .inr ⟨c, h1, fun e => by rw [n4 0 (by omega), hlow]; exact h2 e⟩
    have two0 : Two u0 s1.next (.slice none 0 0) (.slice none 0 0) (putAll [] (L.take 0)) :=
      ⟨⟨h8, by omega, n3, .inl ⟨rfl, rfl⟩, fun b hb => by cases hb⟩, .inl ⟨rfl, rfl⟩, fun b hb => by cases hb⟩
    obtain ⟨fs1, u1, v1, w1, r1, r2, r3, r4, p1, p2, p3, p9, p10, two⟩ := loop4 M hM u0 a0 L hL hin0 s1.next u0.next (by omega) (.int .i64 d) (.int .i64 f) (.int .i64 t) (M + 4) 0 (PT.put (.int .i64 0) t11 (PT.put (.slice none 0 0) t10 (PT.put (.pointer (some ⟨s1.next, 0, none⟩)) t9 (PT.put (.pointer (some ⟨s1.next, 0, none⟩)) t21 (PT.put (.bool false) t20 (PT.put (.int .i64 (L.length : Int)) t19 (PT.put a0 t18 (PT.put (.bool false) t17 (PT.put (.bool true) t16 (PT.put (.bool false) t8 (PT.put (.int .i64 t) t3 (PT.put (.int .i64 f) t2 (PT.put (.int .i64 d) t1 (PT.put a0 t0 PT.nil)))))))))))))) u0 (.slice none 0 0) (.slice none 0 0) (fun _ _ => rfl) (by omega) (by omega) (by kernel_rfl) (by kernel_rfl) (by kernel_rfl) (by kernel_rfl) (by kernel_rfl) (by kernel_rfl) (by kernel_rfl) two0 (by omega) (by omega)
    obtain ⟨ok, okl⟩ := putAll_ok L [] okl_nil
    have hm : (putAll [] L).length ≤ 60 := by simp at okl; omega
    -- the steps
    obtain ⟨x, u2, q1, q2, q3, q4⟩ := steps (M + 2) u1 s1.next v1 _ (by omega) two.tab.cell two.tab.sl (by omega)
    have q1' : callN E (M + 4) 18 [.pointer (some ⟨s1.next, 0, none⟩)] u1 = some (x, u2) := q1
    have two2 : Two u2 s1.next v1 w1 (putAll [] L) := ⟨two.tab.grew q3, two.slw.keep q3.1 fun b hb => q3.2.2 b (two.slw.blt b hb), two.wlo⟩
    have hlx := q2.len
    have hlw := two2.slw.len
    have elen : decide (((putAll [] L).length : Int) = ((putAll [] L).length : Int)) = true := decide_eq_true rfl
    obtain ⟨fs2, u3, c1, c2, o1, o2, o3, o9, o10⟩ := cmp4 (callN E (M + 4)) (M + 4) u2 x w1 _ (by omega) q2 two2.slw (.int .i64 d) (.int .i64 f) (.int .i64 t) (.pointer (some ⟨s1.next, 0, none⟩)) (M + 4) 0 (PT.put (.int .i64 0) t15 (PT.put (.bool false) t64 (PT.put (.int .i64 ((putAll [] L).length : Int)) t63 (PT.put w1 t62 (PT.put (.int .i64 ((putAll [] L).length : Int)) t61 (PT.put x t60 (PT.put x t14 (PT.put x t59 (PT.put (.pointer (some ⟨s1.next, 0, none⟩)) t58 fs1))))))))) u2 (Alike.refl _) ((by kernel_rfl : _ = fs1.get t1).trans p1) ((by kernel_rfl : _ = fs1.get t2).trans p2) ((by kernel_rfl : _ = fs1.get t3).trans p3) ((by kernel_rfl : _ = fs1.get t9).trans p9) ((by kernel_rfl : _ = fs1.get t10).trans p10) (by kernel_rfl) (by kernel_rfl) (by omega) (by omega)
    have q5 := q3.1
    have q6 := q3.2.1
    have two3 : Two u3 s1.next v1 w1 (putAll [] L) := ⟨two2.tab.keep (by rw [c2.1]; exact Nat.le_refl _) (c2.2 _) fun b _ => c2.2 b, two2.slw.alike c2, two2.wlo⟩
    obtain ⟨fs3, u4, f1, f2, f3⟩ := says_r0 M hM u3 s1.next v1 w1 _ d f t hm ok two3 (by rw [c2.1]; omega) (by rw [c2.1]; omega) fs2 o1 o2 o3 o9 o10
    refine ⟨u4, ?_, ?_⟩
    · simp only [op2_s', op_s', op2_op, op2_op2, op2_cond, ev_v', call_r', map_c', map_n', bin_e', pick_e', not_e, ext_e', nth_z', nth_1', nth_2', nth_3', gval_e, gval_u', cmp_e, orUndef_t', orUndef_f', condV_t', condV_f', cond_true, cond_false, eqI_eq, neI_eq, ltI_eq, leI_eq, gtI_eq', geI_eq, Bool.not_true, Bool.not_false, beq_self_eq_true, tf_beq, ft_beq, eq_self, decide_true, decide_false, oneOf1, orU_some, haw, hlen, gtI_eq', e60, n1']
      rw [r1]
      simp only [op2_s', blkX_e, Nat.beq_refl, thenX_n', d4_r1, D4_r1, op2_s', op_s', op2_op, op2_op2, op2_cond, ev_v', call_r', map_c', map_n', bin_e', pick_e', not_e, ext_e', nth_z', nth_1', nth_2', nth_3', gval_e, gval_u', cmp_e, orUndef_t', orUndef_f', condV_t', condV_f', cond_true, cond_false, eqI_eq, neI_eq, ltI_eq, leI_eq, gtI_eq', geI_eq, Bool.not_true, Bool.not_false, beq_self_eq_true, tf_beq, ft_beq, eq_self, decide_true, decide_false, oneOf1, orU_some, p9, p10, q1', hlx, hlw, neI_eq, elen]
      rw [c1]
      simp only [op2_s', blkX_e, Nat.beq_refl, thenX_n', cond_true]
      rw [f1]
      simp only [op2_s', finX_r', res_t, res_n, f2, orU_some, oneOf1]
    · rw [f3.2.2 0 (by rw [c2.1]; omega), c2.2, q3.2.2 0 (by omega), r2 0 (by omega), n4 0 (by omega), hlow]
  · have e60 : decide ((60 : Int) < (L.length : Int)) = true := decide_eq_true (by omega)
    refine ⟨s1, ?_, hlow⟩
    simp only [op2_s', op_s', op2_op, op2_op2, op2_cond, ev_v', call_r', map_c', map_n', bin_e', pick_e', not_e, ext_e', nth_z', nth_1', nth_2', nth_3', gval_e, gval_u', cmp_e, orUndef_t', orUndef_f', condV_t', condV_f', cond_true, cond_false, eqI_eq, neI_eq, ltI_eq, leI_eq, gtI_eq', geI_eq, Bool.not_true, Bool.not_false, beq_self_eq_true, tf_beq, ft_beq, eq_self, decide_true, decide_false, oneOf1, orU_some, haw, hlen, gtI_eq', e60]
end Go.Proofs.Ythjhammjankekaa.AbsRatO
namespace Go.Proofs.Ythjhammjankekaa.AbsRatO
open Go Go.Abs Go.Proofs
set_option maxRecDepth 100000
set_option linter.unusedVariables false
set_option linter.unusedSimpArgs false
/-! the rate laws' common ground -/
theorem known : RecOk Try.prog noGl (insertK 44 2 16 noKnown) := insertK_ok (by decide) ⟨_, Try.func44, by kernel_rfl, by kernel_rfl⟩ noKnown_ok Ins.room Ins.grow
theorem flatP_V : ∀ l : List (Int × Int), flatP .i64 .i64 l = flatV l
  | [] => rfl
  | p :: l => by
    show Value.int .i64 p.1 :: Value.int .i64 p.2 :: flatP .i64 .i64 l = _
    rw [flatP_V l]
    rfl
theorem getC_of_get {s u : St} {y : Nat} (h : s.get y = u.get y) : s.getC y = u.getC y := by unfold St.getC; rw [h]
/-- awake, in either start -/
theorem awake (L : List (Int × Int)) (s : St) (hs : (L = [] ∧ s = st8) ∨ (L ≠ [] ∧ s = st1 (flatP .i64 .i64 L))) : ∃ s1, callN E 3003 12 [] s = some (.bool true, s1) ∧ 8 ≤ s1.next ∧ s1.next ≤ 2000 ∧ s1.getC 0 = s.getC 0 := by
  rcases hs with ⟨_, rfl⟩ | ⟨_, rfl⟩
  · have a := aw6
    have b := aw7
    rw [ble_eq', decide_eq_true_eq] at a b
    exact ⟨_, of_parts aw5, a, by omega, getC_of_get (aw8.trans (st8_get 0).symm)⟩
  · have a := aw3 (flatP .i64 .i64 L)
    have b := aw4 (flatP .i64 .i64 L)
    rw [ble_eq', decide_eq_true_eq] at a b
    exact ⟨_, of_parts (aw1 _), a, by omega, getC_of_get ((aw2 _).trans (st1_get _ 0).symm)⟩
theorem inp (L : List (Int × Int)) (s : St) (a : Value) (hs : (L = [] ∧ s = st8) ∨ (L ≠ [] ∧ s = st1 (flatP .i64 .i64 L))) (ha : (L = [] ∧ a = .slice none 0 0) ∨ ∃ c, a = .slice (some ⟨0, 0, none⟩) L.length c) : Inp s a L := by
  rcases ha with h | ⟨c, h⟩
  · exact .inl h
  · refine .inr ⟨c, h, fun hL => ?_⟩
    rcases hs with ⟨h, _⟩ | ⟨_, rfl⟩
    · exact absurd h hL
    · unfold St.getC
      rw [st1_get, if_pos rfl, flatP_V, op_s', flat_map _ hL]
      rfl
theorem kept {s u : St} (h : u.getC 0 = s.getC 0) (L : List (Int × Int)) (hs : (L = [] ∧ s = st8) ∨ (L ≠ [] ∧ s = st1 (flatP .i64 .i64 L))) : (s.get 0).isSome = true → (u.get 0).isSome = true := by
  intro hg
  rcases hs with ⟨_, rfl⟩ | ⟨hL, rfl⟩
  · rw [st8_get] at hg; cases hg
  · have e : (st1 (flatP .i64 .i64 L)).getC 0 = some (flatV L) := by
      unfold St.getC
      rw [st1_get, if_pos rfl, flatP_V, op_s', flat_map _ hL]
      rfl
    rw [St.getC_get (h.trans e)]
    rfl
end Go.Proofs.Ythjhammjankekaa.AbsRatO
namespace Go.Proofs.Ythjhammjankekaa.AbsRatO
open Go Go.Abs Go.Proofs
set_option maxRecDepth 100000
set_option linter.unusedVariables false
set_option linter.unusedSimpArgs false
/-! RateSays: the law -/
theorem lawRateSays {v : Value} {L : List (Int × Int)} {W : World} (hv : PairsAt .i64 .i64 W v L) (d f t : Int) : Calls Try.prog 4 [v, .int .i64 d, .int .i64 f, .int .i64 t].toArray W fun e w' => e = .returned (.bool true) ∧ RowKit.Below W.heap.size W w' := by
  refine pairs_law mixed exOk (E := E) (n := 3004) ⟨fnsOk, known⟩ (rest := [.int .i64 d, .int .i64 f, .int .i64 t]) rfl hv fun s a hs ha => ?_
  obtain ⟨s1, h1, h2, h3, h4⟩ := awake L s hs
  obtain ⟨u', r1, r2⟩ := says 2999 (by decide) s s1 a L d f t (inp L s a hs ha) h1 h2 h3 h4
  exact ⟨u', r1, kept r2 L hs⟩
end Go.Proofs.Ythjhammjankekaa.AbsRatO
