import Derived.Test.YthjhammjankekaaRatSA
namespace Go.Proofs.Ythjhammjankekaa.AbsRatO
open Go Go.Abs Go.Proofs
set_option maxRecDepth 100000
set_option linter.unusedVariables false
set_option linter.unusedSimpArgs false
theorem k44 (M : Nat) (args : List Value) (s : St) (h : E.known 44 args s = none) : callN E (M + 1) 44 args s = callF (callN E M) M c44 args s := by
  show @Option.rec (Value × St) (fun _ => Option (Value × St)) (opt (E.fns.get 44) fun fn => callF (callN E M) M fn args s) (fun r => some r) (E.known 44 args s) = _
  rw [h]
  kernel_rfl
theorem k44s (M : Nat) (args : List Value) (s : St) (r : Value × St) (h : E.known 44 args s = some r) : callN E (M + 1) 44 args s = some r := by
  show @Option.rec (Value × St) (fun _ => Option (Value × St)) (opt (E.fns.get 44) fun fn => callF (callN E M) M fn args s) (fun r => some r) (E.known 44 args s) = _
  rw [h]
theorem known_nil (a b : Value) (s : St) : E.known 44 [.slice none 0 0, a, b] s = none := by kernel_rfl
theorem known_end (sb n nb nc : Nat) (s : St) : E.known 44 [.slice (some ⟨sb, 0, none⟩) n (UNK + 2), .int .i64 (n : Int), .slice (some ⟨nb, 0, none⟩) 1 nc] s = none := by
  have hb : Nat.blt n n = false := by rw [blt_eq']; exact decide_eq_false (by omega)
  show (bif Nat.beq (UNK + 2) (UNK + 2) && (Nat.beq 1 1 && (Nat.blt n n && (!Nat.beq sb nb && (fits (n + 1) 16 && Nat.ble 8 nb)))) then _ else none) = none
  rw [hb, Bool.false_and, Bool.and_false, Bool.and_false]
  rfl
theorem flat_take : ∀ (l : List (Int × Int)) (i : Nat), (flatV l).take (i * 2) = flatV (l.take i)
  | [], i => by simp [flatV]
  | p :: l, 0 => rfl
  | p :: l, i + 1 => by
    rw [show (i + 1) * 2 = i * 2 + 1 + 1 by omega]
    show _ :: _ :: (flatV l).take (i * 2) = _
    rw [flat_take l i]
    rfl
theorem flat_drop : ∀ (l : List (Int × Int)) (i : Nat), (flatV l).drop (i * 2) = flatV (l.drop i)
  | [], i => by simp [flatV]
  | p :: l, 0 => rfl
  | p :: l, i + 1 => by
    rw [show (i + 1) * 2 = i * 2 + 1 + 1 by omega]
    show (flatV l).drop (i * 2) = _
    rw [flat_drop l i]
    rfl
/-- slices.Insert of one step between others -/
theorem ins_mid (M : Nat) (s : St) (sb nb nc i : Nat) (l : List (Int × Int)) (p : Int × Int) (hl : l.length ≤ 1000) (hi : i < l.length) (h : s.getC nb = some (flatV [p])) (hc : s.getC sb = some (flatV l)) (hne : nb ≠ sb) (hsb : sb < s.next) (hn : s.next ≤ lim) (h8 : 8 ≤ nb) :
    ∃ s', callN E (M + 1) 44 [.slice (some ⟨sb, 0, none⟩) l.length (UNK + 2), .int .i64 (i : Int), .slice (some ⟨nb, 0, none⟩) 1 nc] s = some (.slice (some ⟨s.next, 0, none⟩) (l.length + 1) (UNK + 2), s') ∧ s'.next = s.next + 1 ∧ s'.getC s.next = some (flatV (l.take i ++ ([p] ++ l.drop i))) ∧ ∀ y, y ≠ s.next → y ≠ sb → s'.getC y = s.getC y := by
  obtain ⟨s', r1, r2, r3, r4⟩ := alloc_e ((s.seen nb).set sb none) (flatV (l.take i ++ ([p] ++ l.drop i))) (by rw [St.set_next, St.seen_next]; exact hn) (flat_map _ (by simp))
  rw [St.set_next, St.seen_next] at r1 r2 r3 r4
  have hoth : ∀ y, y ≠ sb → ((s.seen nb).set sb none).getC y = s.getC y := by
    intro y hy
    rw [← seen_getC s nb y]
    unfold St.getC
    rw [St.get_set _ _ _ _ (by have : lim = 1000000000 := rfl; have : (2:Nat) ^ 40 = 1099511627776 := rfl; omega), if_neg hy]
  refine ⟨s', k44s _ _ _ _ ?_, r2, r3, fun y hy hy' => (r4 y hy).trans (hoth y hy')⟩
  have hb : Nat.blt i l.length = true := by rw [blt_eq']; exact decide_eq_true hi
  have h9 : Nat.ble 8 nb = true := by rw [ble_eq']; exact decide_eq_true h8
  have hq : Nat.beq (UNK + 2) (UNK + 2) = true := Nat.beq_refl _
  have hx : Nat.beq sb nb = false := by rw [beq_eq']; exact decide_eq_false (fun h => hne h.symm)
  have hf : fits (l.length + 1) 16 = true := by
    unfold fits
    rw [ble_eq', ble_eq', decide_eq_true (by omega), decide_eq_true (by omega)]
    rfl
  have c2 : Nat.ble (0 + l.length * 2) (lenN (flatV l)) = true := by
    rw [ble_eq', lenN_eq, flat_len]
    exact decide_eq_true (by omega)
  have c3 : takeN (l.length * 2) (dropN 0 (flatV l)) = flatV l := by
    rw [takeN_eq, dropN_eq, List.drop_zero, List.take_of_length_le (by rw [flat_len]; omega)]
  have c4 : app (takeN (i * 2) (flatV l)) (app (flatV [p]) (dropN (i * 2) (flatV l))) = flatV (l.take i ++ ([p] ++ l.drop i)) := by
    rw [app_eq, app_eq, takeN_eq, dropN_eq, flat_take, flat_drop, flat_app, flat_app]
  show (bif Nat.beq (UNK + 2) (UNK + 2) && (Nat.beq 1 1 && (Nat.blt i l.length && (!Nat.beq sb nb && (fits (l.length + 1) 16 && Nat.ble 8 nb)))) then opt (s.getC sb) _ else none) = _
  rw [hb, hq, hx, hf, h9, hc, op_s']
  show (bif Nat.ble (0 + l.length * 2) (lenN (flatV l)) then opt2 (s.read nb 0 2) _ else none) = _
  rw [c2, cond_true, read_e s nb 0 2 (flatV [p]) h (by simp [flatV]), op2_s']
  show opt2 (((s.seen nb).set sb none).alloc (app (takeN (i * 2) (takeN (l.length * 2) (dropN 0 (flatV l)))) (app (flatV [p]) (dropN (i * 2) (takeN (l.length * 2) (dropN 0 (flatV l))))))) _ = _
  rw [c3, c4, r1]
  rfl
end Go.Proofs.Ythjhammjankekaa.AbsRatO
namespace Go.Proofs.Ythjhammjankekaa.AbsRatO
open Go Go.Abs Go.Proofs
set_option maxRecDepth 100000
set_option linter.unusedVariables false
set_option linter.unusedSimpArgs false
/-- a table's slice, its capacity not known -/
def SlcU (s : St) (v : Value) (l : List (Int × Int)) : Prop :=
  (l = [] ∧ v = .slice none 0 0) ∨ ∃ sb, v = .slice (some ⟨sb, 0, none⟩) l.length (UNK + 2) ∧ sb < s.next ∧ s.getC sb = some (flatV l) ∧ l ≠ []
/-- the slice's block -/
def blkOf (v : Value) : Option Nat := match v with
  | .slice (some a) _ _ => some a.block
  | _ => none
def insS (l : List (Int × Int)) (i : Nat) (p : Int × Int) : List (Int × Int) := l.take i ++ ([p] ++ l.drop i)
theorem ins (M : Nat) (s : St) (v : Value) (nb i : Nat) (l : List (Int × Int)) (p : Int × Int) (hl : l.length ≤ 1000) (hi : i ≤ l.length) (h : s.getC nb = some (flatV [p])) (hv : SlcU s v l) (hne : blkOf v ≠ some nb) (hn : s.next ≤ lim) (h8 : 8 ≤ nb) :
    ∃ s', callN E (M + 1) 44 [v, .int .i64 (i : Int), .slice (some ⟨nb, 0, none⟩) 1 1] s = some (.slice (some ⟨s.next, 0, none⟩) (l.length + 1) (UNK + 2), s') ∧ s'.next = s.next + 1 ∧ s'.getC s.next = some (flatV (insS l i p)) ∧ ∀ y, y ≠ s.next → blkOf v ≠ some y → s'.getC y = s.getC y := by
  rcases hv with ⟨rfl, rfl⟩ | ⟨sb, rfl, h1, h2, h3⟩
  · have hi0 : i = 0 := by simpa using hi
    subst hi0
    obtain ⟨s', r1, r2, r3, r4⟩ := ins_nil (callN E M) M s nb 1 (.int .i64 p.1) (.int .i64 p.2) h hn rfl
    exact ⟨s', (k44 M _ s (known_nil _ _ s)).trans r1, r2, r3, fun y hy _ => r4 y hy⟩
  · have hne' : nb ≠ sb := fun e => hne (congrArg some e.symm)
    by_cases hlt : i < l.length
    · obtain ⟨s', r1, r2, r3, r4⟩ := ins_mid M s sb nb 1 i l p hl hlt h h2 hne' h1 hn h8
      exact ⟨s', r1, r2, r3, fun y hy hy' => r4 y hy (fun e => hy' (congrArg some e.symm))⟩
    · have hie : i = l.length := by omega
      subst hie
      obtain ⟨s', r1, r2, r3, r4⟩ := ins_end (callN E M) M s sb nb 1 l p hl h3 h h2 hne' h1 hn
      refine ⟨s', (k44 M _ s (known_end _ _ _ _ s)).trans r1, r2, ?_, fun y hy hy' => r4 y hy (fun e => hy' (congrArg some e.symm))⟩
      rw [r3]
      unfold insS
      rw [List.take_length, List.drop_length, List.append_nil]
end Go.Proofs.Ythjhammjankekaa.AbsRatO
namespace Go.Proofs.Ythjhammjankekaa.AbsRatO
open Go Go.Abs Go.Proofs
set_option maxRecDepth 100000
set_option linter.unusedVariables false
set_option linter.unusedSimpArgs false
theorem put_tail (M : Nat) (w : St) (tb k : Nat) (v : Value) (l : List (Int × Int)) (day rate : Int) (hl : l.length ≤ 1000) (htb : tb < w.next) (hv : w.getC tb = some [v]) (hs : SlcU w v l) (hb : blkOf v ≠ some tb) (hk : k ≤ l.length) (hn : w.next + 1 ≤ lim) (h8 : 8 ≤ w.next) (h8t : 8 ≤ tb) :
    ∃ s1 s2 u', w.alloc [.int .i64 day, .int .i64 rate] = some (w.next, s1) ∧ callN E (M + 1) 44 [v, .int .i64 (k : Int), .slice (some ⟨w.next, 0, none⟩) 1 1] s1 = some (.slice (some ⟨w.next + 1, 0, none⟩) (l.length + 1) (UNK + 2), s2) ∧ (∀ rec fs, oStore 1 (.v (.pointer (some ⟨tb, 0 + 0, none⟩))) (.v (.slice (some ⟨w.next + 1, 0, none⟩) (l.length + 1) (UNK + 2))) rec fs s2 = some (UV, u')) ∧ u'.next = w.next + 2 ∧ u'.getC tb = some [.slice (some ⟨w.next + 1, 0, none⟩) (l.length + 1) (UNK + 2)] ∧ u'.getC (w.next + 1) = some (flatV (insS l k (day, rate))) ∧ ∀ y, y < w.next → y ≠ tb → blkOf v ≠ some y → u'.getC y = w.getC y := by
  have hlim : lim = 1000000000 := rfl
  have h40 : (2:Nat) ^ 40 = 1099511627776 := rfl
  obtain ⟨s1, a1, n1, g1, o1⟩ := alloc_e w [.int .i64 day, .int .i64 rate] (by omega) rfl
  have hs1 : SlcU s1 v l := by
    rcases hs with h | ⟨sb, h1, h2, h3, h4⟩
    · exact Or.inl h
    · exact Or.inr ⟨sb, h1, by omega, (o1 sb (by omega)).trans h3, h4⟩
  have hnb : blkOf v ≠ some w.next := by
    rcases hs with ⟨_, rfl⟩ | ⟨sb, rfl, h2, h3, h4⟩
    · intro e; cases e
    · intro e
      have : sb = w.next := Option.some.inj e
      omega
  obtain ⟨s2, b1, b2, b3, b4⟩ := ins M s1 v w.next k l (day, rate) hl hk g1 hs1 hnb (by omega) h8
  rw [n1] at b1 b2 b3 b4
  have t2 : s2.getC tb = some [v] := (b4 tb (by omega) hb).trans ((o1 tb (by omega)).trans hv)
  have st := fun rec fs => store1_e tb (0 + 0) [v] (.slice (some ⟨w.next + 1, 0, none⟩) (l.length + 1) (UNK + 2)) rec fs s2 rfl t2 (by simp)
  refine ⟨s1, s2, _, a1, b1, st, ?_, ?_, ?_, ?_⟩
  · rw [St.set_next, b2]
  · rw [set_getC _ _ _ _ h8t (by omega) rfl, if_pos rfl]
    rfl
  · rw [set_getC _ _ _ _ h8t (by omega) rfl, if_neg (by omega), b3]
  · intro y hy hy' hy''
    rw [set_getC _ _ _ _ h8t (by omega) rfl, if_neg hy']
    exact (b4 y (by omega) hy'').trans (o1 y (by omega))
end Go.Proofs.Ythjhammjankekaa.AbsRatO
namespace Go.Proofs.Ythjhammjankekaa.AbsRatO
open Go Go.Abs Go.Proofs
set_option maxRecDepth 100000
set_option linter.unusedVariables false
set_option linter.unusedSimpArgs false
theorem build2 (day rate : Int) (rec : Rec) (s : St) : oBuild [(.int .i64 0), (.int .i64 0)] [(0, 1, (.v (.int .i64 day))), (1, 1, (.v (.int .i64 rate)))] rec PT.nil s = some (aggOf [.int .i64 day, .int .i64 rate], s) := by kernel_rfl
theorem buildS (day rate : Int) (rec : Rec) (s : St) : oBuildSlice 1 [(.int .i64 0), (.int .i64 0)] [(0, 2, (.v (aggOf [.int .i64 day, .int .i64 rate])))] rec PT.nil s = opt2 (s.alloc [.int .i64 day, .int .i64 rate]) fun b s => some (.slice (some ⟨b, 0, none⟩) 1 1, s) := by kernel_rfl
/-- Put at a day that has no step: a step more -/
theorem put_new (M : Nat) (hM : 2000 ≤ M) (s : St) (tb : Nat) (v : Value) (l : List (Int × Int)) (day rate : Int) (hl : l.length < 256) (hs : Sorted l) (htb : tb < s.next) (hv : s.getC tb = some [v]) (hsl : SlcU s v l) (hn : s.next + 3 ≤ lim) (h8 : 8 ≤ s.next) (h8t : 8 ≤ tb) (hd : 0 ≤ day ∧ day ≤ 109572) (hr : 0 ≤ rate ∧ rate ≤ 1000000000) (hno : ∀ x (h : x < l.length), l[x].1 ≠ day) :
    ∃ k u' sb', callN E (M + 4) 14 [.pointer (some ⟨tb, 0, none⟩), .int .i64 day, .int .i64 rate] s = some (.int .i64 0, u') ∧ Behind l day k ∧ s.next ≤ u'.next ∧ u'.next ≤ s.next + 4 ∧ s.next ≤ sb' ∧ sb' < u'.next ∧ u'.getC tb = some [.slice (some ⟨sb', 0, none⟩) (l.length + 1) (UNK + 2)] ∧ u'.getC sb' = some (flatV (insS l k (day, rate))) ∧ ∀ y, y < s.next → y ≠ tb → blkOf v ≠ some y → u'.getC y = s.getC y := by
  have ht : TabAt s tb l := ⟨htb, v, hv, by
    rcases hsl with h | ⟨sb, h1, h2, h3, _⟩
    · exact Or.inl h
    · exact Or.inr ⟨sb, _, h1, h2, h3⟩⟩
  have hbtb : blkOf v ≠ some tb := by
    rcases hsl with ⟨_, rfl⟩ | ⟨sb, rfl, h2, h3, h4⟩
    · intro e; cases e
    · intro e
      have e' : sb = tb := Option.some.inj e
      subst e'
      rw [hv] at h3
      cases l with
      | nil => exact h4 rfl
      | cons p l => exact absurd (congrArg List.length (Option.some.inj h3)) (by simp [flatV])
  obtain ⟨k, u, r1, r2, r3⟩ := behind M hM s tb l day (by omega) hs ht (by omega)
  have hv' := (r2.2.2 tb htb).trans hv
  have hsu : ∀ w, Alike u w → SlcU w v l := fun w hw => by
    rcases hsl with h | ⟨sb, h1, h2, h3, h4⟩
    · exact Or.inl h
    · exact Or.inr ⟨sb, h1, by have := hw.1; have := r2.1; omega, (hw.2 sb).trans ((r2.2.2 sb h2).trans h3), h4⟩
  have hlenv : ∀ (rec : Rec) (w : St), oLenL (.v v) rec PT.nil w = some (.int .i64 (l.length : Int), w) := fun rec w => by
    rcases hsl with ⟨rfl, rfl⟩ | ⟨sb, rfl, h2, h3, h4⟩ <;> exact lenL_e _ _ _ rec PT.nil w
  have e1 : decide (day < 0) = false := decide_eq_false (by omega)
  have e2 : decide (109572 < day) = false := decide_eq_false (by omega)
  have e3 : decide (rate < 0) = false := decide_eq_false (by omega)
  have e4 : decide (1000000000 < rate) = false := decide_eq_false (by omega)
  have e8 : decide (((l.length : Nat) : Int) = 256) = false := decide_eq_false (by omega)
  have l1 : ∀ (rec : Rec) (fs : Frm) (w : St), (∀ y, w.getC y = u.getC y) → oLoad1 (.v (.pointer (some ⟨tb, 0 + 0, none⟩))) rec fs w = some (v, w.seen tb) := fun rec fs w h => load1_e tb (0 + 0) _ _ rec fs w ((h tb).trans hv') rfl
  have fin : ∀ w, Alike u w → ∃ s1 s2 u', w.alloc [.int .i64 day, .int .i64 rate] = some (w.next, s1) ∧ callN E (M + 3) 44 [v, .int .i64 (k : Int), .slice (some ⟨w.next, 0, none⟩) 1 1] s1 = some (.slice (some ⟨w.next + 1, 0, none⟩) (l.length + 1) (UNK + 2), s2) ∧ (∀ rec fs, oStore 1 (.v (.pointer (some ⟨tb, 0 + 0, none⟩))) (.v (.slice (some ⟨w.next + 1, 0, none⟩) (l.length + 1) (UNK + 2))) rec fs s2 = some (UV, u')) ∧ s.next ≤ u'.next ∧ u'.next ≤ s.next + 4 ∧ s.next ≤ w.next + 1 ∧ w.next + 1 < u'.next ∧ u'.getC tb = some [.slice (some ⟨w.next + 1, 0, none⟩) (l.length + 1) (UNK + 2)] ∧ u'.getC (w.next + 1) = some (flatV (insS l k (day, rate))) ∧ ∀ y, y < s.next → y ≠ tb → blkOf v ≠ some y → u'.getC y = s.getC y := fun w hw => by
    have q1 := r2.1
    have q2 := r2.2.1
    have q3 := hw.1
    obtain ⟨s1, s2, u', a, b, c, d, e, f, g⟩ := put_tail (M + 2) w tb k v l day rate (by omega) (by omega) ((hw.2 tb).trans hv') (hsu w hw) hbtb r3.1 (by omega) (by omega) h8t
    exact ⟨s1, s2, u', a, b, c, by omega, by omega, by omega, by omega, e, f, fun y hy h1 h2 => (g y (by omega) h1 h2).trans ((hw.2 y).trans (r2.2.2 y hy))⟩
  cases k with
  | zero =>
    have e5 : decide (0 < (((0 : Nat) : Int))) = false := rfl
    obtain ⟨s1, s2, u', a, b, c, d⟩ := fin ((u.seen tb).seen tb) ⟨by simp only [St.seen_next], fun y => by simp only [seen_getC]⟩
    refine ⟨0, u', _, ?_, r3, d⟩
    rw [k14, d14]
    unfold D14
    simp (disch := first | omega | (intro y; simp only [seen_getC])) only [op2_s', op_s', op2_op, op2_op2, op2_cond, ev_v', call_r', map_c', map_n', bin_e', pick_e', not_e, ext_e', nth_z', nth_1', nth_2', nth_3', gval_e, gval_u', cmp_e, orUndef_t', orUndef_f', condV_t', condV_f', cond_true, cond_false, eqI_eq, neI_eq, ltI_eq, leI_eq, gtI_eq', geI_eq, Bool.not_true, Bool.not_false, beq_self_eq_true, tf_beq, ft_beq, eq_self, decide_true, decide_false, oneOf1, orU_some, e1, gtI_eq', e2, e3, e4, r1, e5, l1, nilCheck_e, fieldAddr_e, hlenv, e8, build2, buildS, a, b, c]
    try rfl
  | succ k =>
    have hk : k < l.length := r3.1
    rcases hsl with ⟨rfl, _⟩ | ⟨sb, rfl, hsb, hc, _⟩
    · exact absurd hk (by simp)
    have hc' := (r2.2.2 sb hsb).trans hc
    have e5 : decide (0 < (((k + 1 : Nat) : Int))) = true := decide_eq_true (by omega)
    have e6 : int2 subO (.int .i64 ((k + 1 : Nat) : Int)) (.int .i64 1) = some (.int .i64 (k : Int)) := by
      rw [sub_e _ _ (by omega) (by omega)]
      congr 2
      omega
    have e7 : decide (l[k].1 = day) = false := decide_eq_false (hno k hk)
    have f0 : nth (flatV l) (0 + k * 2 + 0) = some (.int .i64 l[k].1) := by rw [Nat.zero_add, Nat.add_zero, flat_day l k hk]
    have l2 : ∀ (rec : Rec) (fs : Frm) (v : St), (∀ y, v.getC y = u.getC y) → oLoad1 (.v (.pointer (some ⟨sb, 0 + k * 2 + 0, none⟩))) rec fs v = some (.int .i64 l[k].1, v.seen sb) := fun rec fs v h => load1_e sb _ _ _ rec fs v ((h sb).trans hc') f0
    obtain ⟨s1, s2, u', a, b, c, d⟩ := fin ((((u.seen tb).seen sb).seen tb).seen tb) ⟨by simp only [St.seen_next], fun y => by simp only [seen_getC]⟩
    refine ⟨k + 1, u', _, ?_, r3, d⟩
    rw [k14, d14]
    unfold D14
    simp (disch := first | omega | (intro y; simp only [seen_getC])) only [op2_s', op_s', op2_op, op2_op2, op2_cond, ev_v', call_r', map_c', map_n', bin_e', pick_e', not_e, ext_e', nth_z', nth_1', nth_2', nth_3', gval_e, gval_u', cmp_e, orUndef_t', orUndef_f', condV_t', condV_f', cond_true, cond_false, eqI_eq, neI_eq, ltI_eq, leI_eq, gtI_eq', geI_eq, Bool.not_true, Bool.not_false, beq_self_eq_true, tf_beq, ft_beq, eq_self, decide_true, decide_false, oneOf1, orU_some, e1, gtI_eq', e2, e3, e4, r1, e5, e6, l1, nilCheck_e, fieldAddr_e, idxL_e, l2, e7, hlenv, lenL_e, e8, build2, buildS, a, b, c]
    try rfl
end Go.Proofs.Ythjhammjankekaa.AbsRatO
namespace Go.Proofs.Ythjhammjankekaa.AbsRatO
open Go Go.Abs Go.Proofs
set_option maxRecDepth 100000
set_option linter.unusedVariables false
set_option linter.unusedSimpArgs false
/-- the days grow -/
def Grows (l : List (Int × Int)) : Prop := l.Pairwise fun a b => a.1 < b.1
theorem Grows.sorted {l : List (Int × Int)} (h : Grows l) : Sorted l := by
  intro i j hi hj hij
  rcases Nat.lt_or_eq_of_le hij with hlt | rfl
  · exact Int.le_of_lt (List.pairwise_iff_getElem.mp h i j hi hj hlt)
  · exact Int.le_refl _
theorem Grows.ins {l : List (Int × Int)} (h : Grows l) {day rate : Int} {k : Nat} (hB : Behind l day k) (hno : ∀ x (h : x < l.length), l[x].1 ≠ day) : Grows (insS l k (day, rate)) := by
  obtain ⟨b1, b2, b3⟩ := hB
  have ht : ∀ a ∈ l.take k, a.1 < day := fun a ha => by
    obtain ⟨i, hi, rfl⟩ := List.mem_iff_getElem.mp ha
    rw [List.length_take] at hi
    rw [List.getElem_take]
    have x1 := b2 i (by omega) (by omega)
    have x2 := hno i (by omega)
    omega
  have hd : ∀ a ∈ l.drop k, day < a.1 := fun a ha => by
    obtain ⟨i, hi, rfl⟩ := List.mem_iff_getElem.mp ha
    rw [List.length_drop] at hi
    rw [List.getElem_drop]
    exact b3 (k + i) (by omega) (by omega)
  unfold Grows insS
  rw [List.pairwise_append]
  refine ⟨List.Pairwise.sublist (List.take_sublist k l) h, ?_, fun a ha b hb => ?_⟩
  · show List.Pairwise _ ((day, rate) :: l.drop k)
    exact List.pairwise_cons.mpr ⟨fun a ha => hd a ha, List.Pairwise.sublist (List.drop_sublist k l) h⟩
  · have hb' : b = (day, rate) ∨ b ∈ l.drop k := by simpa using hb
    rcases hb' with rfl | hb'
    · exact ht a ha
    · have := ht a ha
      have := hd b hb'
      omega
theorem insS_len (l : List (Int × Int)) (k : Nat) (p : Int × Int) (hk : k ≤ l.length) : (insS l k p).length = l.length + 1 := by
  unfold insS
  simp only [List.length_append, List.length_take, List.length_drop, List.length_cons, List.length_nil]
  omega
/-- a new table -/
theorem k13 (M : Nat) (s : St) : callN E (M + 1) 13 [] s = callF (callN E M) M c13 [] s := by kernel_rfl
theorem new_tab (M : Nat) (s : St) (hn : s.next ≤ lim) : ∃ u', callN E (M + 1) 13 [] s = some (.pointer (some ⟨s.next, 0, none⟩), u') ∧ u'.next = s.next + 1 ∧ u'.getC s.next = some [.slice none 0 0] ∧ ∀ y, y ≠ s.next → u'.getC y = s.getC y := by
  obtain ⟨s', r1, r2, r3, r4⟩ := alloc_e s [.slice none 0 0] hn rfl
  refine ⟨s', ?_, r2, r3, r4⟩
  have b0 : ∀ rec, oBuild [(.slice none 0 0)] [] rec PT.nil s = some (aggOf [.slice none 0 0], s) := fun rec => by kernel_rfl
  have b1 : ∀ rec, oBox (.v (aggOf [.slice none 0 0])) rec PT.nil s = some (.pointer (some ⟨s.next, 0, none⟩), s') := fun rec => by
    exact box1_e (.slice none 0 0) rec PT.nil s s' rfl r1
  rw [k13, d13]
  unfold D13
  simp only [op2_s', op_s', op2_op, op2_op2, op2_cond, ev_v', call_r', map_c', map_n', bin_e', pick_e', not_e, ext_e', nth_z', nth_1', nth_2', nth_3', gval_e, gval_u', cmp_e, orUndef_t', orUndef_f', condV_t', condV_f', cond_true, cond_false, eqI_eq, neI_eq, ltI_eq, leI_eq, gtI_eq', geI_eq, Bool.not_true, Bool.not_false, beq_self_eq_true, tf_beq, ft_beq, eq_self, decide_true, decide_false, oneOf1, orU_some, b0, b1]
  try rfl
end Go.Proofs.Ythjhammjankekaa.AbsRatO
namespace Go.Proofs.Ythjhammjankekaa.AbsRatO
open Go Go.Abs Go.Proofs
set_option maxRecDepth 100000
set_option linter.unusedVariables false
set_option linter.unusedSimpArgs false
/-- slices.Clone of steps -/
theorem clone (rec : Rec) (N : Nat) (s : St) (v : Value) (l : List (Int × Int)) (hl : l.length ≤ 1000) (hv : SlcU s v l) (hn : s.next + 1 ≤ lim) :
    ∃ v' u', callF rec N c46 [v] s = some (v', u') ∧ SlcU u' v' l ∧ Grew 2 s u' ∧ ∀ b, blkOf v' = some b → s.next ≤ b := by
  rw [d46]
  unfold D46
  rcases hv with ⟨rfl, rfl⟩ | ⟨sb, rfl, h1, h2, h3⟩
  · refine ⟨.slice none 0 0, s, ?_, Or.inl ⟨rfl, rfl⟩, ⟨by omega, by omega, fun _ _ => rfl⟩, fun b hb => by cases hb⟩
    kernel_rfl
  · obtain ⟨s1, a1, n1, g1, o1⟩ := alloc_e s [] (by omega) rfl
    obtain ⟨s2, a2, n2, g2, o2⟩ := alloc_e (s1.seen sb) (flatV l) (by rw [St.seen_next]; omega) (flat_map l h3)
    rw [St.seen_next] at a2 n2 g2 o2
    have hpos : 0 < l.length := by cases l with
      | nil => exact absurd rfl h3
      | cons _ _ => simp
    have x0 : oEqv eqL false (.v (.slice (some ⟨sb, 0, none⟩) l.length (UNK + 2))) (.v (.slice none 0 0)) rec PT.nil s = some (.bool false, s) := by rfl
    have x1 : oBuildSlice 0 [] [] rec PT.nil s = some (.slice (some ⟨s.next, 0, none⟩) 0 0, s1) := by
      unfold oBuildSlice
      show opt2 (s.alloc []) (fun b s => some (Value.slice (some ⟨b, 0, none⟩) 0 0, s)) = _
      rw [a1]
      rfl
    have x2 : oAppend 2 16 (.v (.slice (some ⟨s.next, 0, none⟩) 0 0)) (.v (.slice (some ⟨sb, 0, none⟩) l.length (UNK + 2))) rec PT.nil s1 = some (.slice (some ⟨s1.next, 0, none⟩) l.length (UNK + 2), s2) := by
      have z1 : Nat.beq l.length 0 = false := by rw [beq_eq']; exact decide_eq_false (by omega)
      have hf : fits (0 + l.length) 16 = true := by
        unfold fits
        rw [ble_eq', ble_eq', decide_eq_true (by omega), decide_eq_true (by omega)]
        rfl
      have c1 : Nat.ble (0 + l.length) 0 = false := by rw [ble_eq']; exact decide_eq_false (by omega)
      have c0 : Nat.blt 0 UNK = true := by
        have : UNK = 18446744073709551616 := rfl
        rw [this]; rfl
      have z2 : Nat.beq 2 0 = false := rfl
      have z3 : Nat.beq 0 0 = true := rfl
      have hc : s1.getC sb = some (flatV l) := (o1 sb (by omega)).trans h2
      unfold oAppend
      simp only [ev_v', srcCells, z1, cond_false, read_e s1 sb 0 (l.length * 2) (flatV l) hc (by rw [flat_len]; omega), op2_s', op_s', appendTo, z2, z3, hf, c0, c1, Bool.not_true, cond_true, List.drop_zero]
      rw [List.take_of_length_le (by rw [flat_len]; omega)]
      unfold newSlice
      rw [a2]
      rfl
    refine ⟨_, s2, ?_, Or.inr ⟨s1.next, rfl, by omega, g2, h3⟩, ⟨by omega, by omega, fun y hy => (o2 y (by omega)).trans ((seen_getC _ _ _).trans (o1 y (by omega)))⟩, fun b hb => ?_⟩
    · simp only [op2_s', op_s', op2_op, op2_op2, op2_cond, ev_v', call_r', map_c', map_n', bin_e', pick_e', not_e, ext_e', nth_z', nth_1', nth_2', nth_3', gval_e, gval_u', cmp_e, orUndef_t', orUndef_f', condV_t', condV_f', cond_true, cond_false, eqI_eq, neI_eq, ltI_eq, leI_eq, gtI_eq', geI_eq, Bool.not_true, Bool.not_false, beq_self_eq_true, tf_beq, ft_beq, eq_self, decide_true, decide_false, oneOf1, orU_some, x0, x1, x2]
      try rfl
    · have : s1.next = b := Option.some.inj hb
      omega
end Go.Proofs.Ythjhammjankekaa.AbsRatO
namespace Go.Proofs.Ythjhammjankekaa.AbsRatO
open Go Go.Abs Go.Proofs
set_option maxRecDepth 100000
set_option linter.unusedVariables false
set_option linter.unusedSimpArgs false
/-- two cells read -/
theorem load2_e (b o : Nat) (c : Blk) (u v : Value) (rec : Rec) (fs : Frm) (s : St) (h : s.getC b = some c) (hn : o + 2 ≤ c.length) (hv : (c.drop o).take 2 = [u, v]) : oLoadN 2 (.v (.pointer (some ⟨b, o, none⟩))) rec fs s = some (aggOf [u, v], s.seen b) := by
  show opt2 (s.read b o 2) (fun c s => some (aggOf c, s)) = _
  rw [read_e s b o 2 c h hn, hv, op2_s']
/-- two new cells -/
theorem new2_e (u v : Value) (rec : Rec) (fs : Frm) (s s' : St) (h : s.alloc [u, v] = some (s.next, s')) : oNew [u, v] rec fs s = some (.pointer (some ⟨s.next, 0, none⟩), s') := by
  show opt2 (s.alloc [u, v]) (fun b s => some (Value.pointer (some ⟨b, 0, none⟩), s)) = _
  rw [h, op2_s']
/-- two cells written over two -/
theorem store2_e (b : Nat) (x y u v : Value) (rec : Rec) (fs : Frm) (s : St) (h : s.getC b = some [x, y]) : oStore 2 (.v (.pointer (some ⟨b, 0, none⟩))) (.v (aggOf [u, v])) rec fs s = some (UV, s.set b (some [u, v])) := by
  show opt (s.write b 0 [u, v]) (fun s => some (UV, s)) = _
  unfold St.write
  rw [h, op_s']
  rfl
theorem flat_two : ∀ (l : List (Int × Int)) (i : Nat) (h : i < l.length), ((flatV l).drop (i * 2)).take 2 = [.int .i64 l[i].1, .int .i64 l[i].2]
  | p :: l, 0, _ => rfl
  | p :: l, i + 1, h => by
    have := flat_two l i (by simpa using h)
    rw [show (i + 1) * 2 = i * 2 + 1 + 1 by omega]
    exact this
end Go.Proofs.Ythjhammjankekaa.AbsRatO
namespace Go.Proofs.Ythjhammjankekaa.AbsRatO
open Go Go.Abs Go.Proofs
set_option maxRecDepth 100000
set_option linter.unusedVariables false
set_option linter.unusedSimpArgs false
theorem k46 (M : Nat) (a : Value) (s : St) : callN E (M + 1) 46 [a] s = callF (callN E M) M c46 [a] s := by kernel_rfl
theorem k18 (M : Nat) (a : Value) (s : St) : callN E (M + 1) 18 [a] s = callF (callN E M) M c18 [a] s := by kernel_rfl
theorem SlcU.alike {s s' : St} {v : Value} {l : List (Int × Int)} (h : SlcU s v l) (g : Alike s s') : SlcU s' v l := by
  rcases h with h | ⟨sb, h1, h2, h3, h4⟩
  · exact Or.inl h
  · exact Or.inr ⟨sb, h1, by have := g.1; omega, (g.2 sb).trans h3, h4⟩
/-- Steps: the steps, copied -/
theorem steps (M : Nat) (s : St) (tb : Nat) (v : Value) (l : List (Int × Int)) (hl : l.length ≤ 1000) (hv : s.getC tb = some [v]) (hs : SlcU s v l) (hn : s.next + 1 ≤ lim) :
    ∃ v' u', callN E (M + 2) 18 [.pointer (some ⟨tb, 0, none⟩)] s = some (v', u') ∧ SlcU u' v' l ∧ Grew 2 s u' ∧ ∀ b, blkOf v' = some b → s.next ≤ b := by
  have al : Alike s (s.seen tb) := ⟨by simp only [St.seen_next], fun y => by simp only [seen_getC]⟩
  obtain ⟨v', u', r1, r2, r3, r4⟩ := clone (callN E M) M (s.seen tb) v l hl (hs.alike al) (by rw [St.seen_next]; exact hn)
  rw [← k46] at r1
  simp only [St.seen_next] at r4
  refine ⟨v', u', ?_, r2, ⟨by have := r3.1; rw [St.seen_next] at this; exact this, by have := r3.2.1; rw [St.seen_next] at this; exact this, fun y hy => (r3.2.2 y (by rw [St.seen_next]; exact hy)).trans (seen_getC _ _ _)⟩, r4⟩
  have l1 := fun rec fs => load1_e tb (0 + 0) _ _ rec fs s hv rfl
  rw [k18, d18]
  unfold D18
  simp only [op2_s', op_s', op2_op, op2_op2, op2_cond, ev_v', call_r', map_c', map_n', bin_e', pick_e', not_e, ext_e', nth_z', nth_1', nth_2', nth_3', gval_e, gval_u', cmp_e, orUndef_t', orUndef_f', condV_t', condV_f', cond_true, cond_false, eqI_eq, neI_eq, ltI_eq, leI_eq, gtI_eq', geI_eq, Bool.not_true, Bool.not_false, beq_self_eq_true, tf_beq, ft_beq, eq_self, decide_true, decide_false, oneOf1, orU_some, nilCheck_e, fieldAddr_e, l1, r1]
  try rfl
end Go.Proofs.Ythjhammjankekaa.AbsRatO
namespace Go.Proofs.Ythjhammjankekaa.AbsRatO
open Go Go.Abs Go.Proofs
set_option maxRecDepth 100000
set_option linter.unusedVariables false
set_option linter.unusedSimpArgs false
theorem k21 (M : Nat) (a : Value) (s : St) : callN E (M + 1) 21 [a] s = callF (callN E M) M c21 [a] s := by kernel_rfl
/-- Copy: a new table of the same steps -/
theorem copy (M : Nat) (s : St) (tb : Nat) (v : Value) (l : List (Int × Int)) (hl : l.length ≤ 1000) (hv : s.getC tb = some [v]) (hs : SlcU s v l) (hn : s.next + 3 ≤ lim) :
    ∃ tb' v' u', callN E (M + 2) 21 [.pointer (some ⟨tb, 0, none⟩)] s = some (.pointer (some ⟨tb', 0, none⟩), u') ∧ s.next ≤ tb' ∧ tb' < u'.next ∧ u'.getC tb' = some [v'] ∧ SlcU u' v' l ∧ Grew 3 s u' ∧ ∀ b, blkOf v' = some b → s.next ≤ b := by
  have al : Alike s (s.seen tb) := ⟨by simp only [St.seen_next], fun y => by simp only [seen_getC]⟩
  obtain ⟨v', u, r1, r2, r3, r4⟩ := clone (callN E M) M (s.seen tb) v l hl (hs.alike al) (by rw [St.seen_next]; omega)
  rw [← k46] at r1
  obtain ⟨q1, q2, q3⟩ := r3
  rw [St.seen_next] at q1 q2 q3
  simp only [St.seen_next] at r4
  have hm : isMapB [v'] = false ∧ cellsOf v' = [v'] ∧ ∀ rec : Rec, oBuild [(.slice none 0 0)] [(0, 1, (.v v'))] rec PT.nil u = some (aggOf [v'], u) := by
    rcases r2 with ⟨_, rfl⟩ | ⟨sb, rfl, _⟩ <;> exact ⟨rfl, rfl, fun rec => by rfl⟩
  obtain ⟨w, a1, n1, g1, o1⟩ := alloc_e u [v'] (by omega) hm.1
  have l1 := fun rec fs => load1_e tb (0 + 0) _ _ rec fs s hv rfl
  have b0 := hm.2.2
  have b1 : ∀ rec, oBox (.v (aggOf [v'])) rec PT.nil u = some (.pointer (some ⟨u.next, 0, none⟩), w) := fun rec => by
    show opt2 (u.alloc [v']) (fun b s => some (Value.pointer (some ⟨b, 0, none⟩), s)) = _
    rw [a1, op2_s']
  refine ⟨u.next, v', w, ?_, q1, by omega, g1, ?_, ⟨by omega, by omega, fun y hy => (o1 y (by omega)).trans ((q3 y hy).trans (seen_getC _ _ _))⟩, r4⟩
  · rw [k21, d21]
    unfold D21
    simp only [op2_s', op_s', op2_op, op2_op2, op2_cond, ev_v', call_r', map_c', map_n', bin_e', pick_e', not_e, ext_e', nth_z', nth_1', nth_2', nth_3', gval_e, gval_u', cmp_e, orUndef_t', orUndef_f', condV_t', condV_f', cond_true, cond_false, eqI_eq, neI_eq, ltI_eq, leI_eq, gtI_eq', geI_eq, Bool.not_true, Bool.not_false, beq_self_eq_true, tf_beq, ft_beq, eq_self, decide_true, decide_false, oneOf1, orU_some, nilCheck_e, fieldAddr_e, l1, r1, b0, b1]
    try rfl
  · rcases r2 with h | ⟨sb, h1, h2, h3, h4⟩
    · exact Or.inl h
    · exact Or.inr ⟨sb, h1, by omega, (o1 sb (by omega)).trans h3, h4⟩
end Go.Proofs.Ythjhammjankekaa.AbsRatO
namespace Go.Proofs.Ythjhammjankekaa.AbsRatO
open Go Go.Abs Go.Proofs
set_option maxRecDepth 100000
set_option linter.unusedVariables false
set_option linter.unusedSimpArgs false
/-- the document's RateAt: its loop -/
theorem rateAtL (rec : Rec) (N : Nat) (s : St) (sb c : Nat) (l : List (Int × Int)) (day : Int) (hl : l.length ≤ 1000) (hc : s.getC sb = some (flatV l)) :
    ∀ (fuel i : Nat) (r : Int) (fs : Frm) (u : St), Alike s u → fs.get t0 = some (.slice (some ⟨sb, 0, none⟩) l.length c) → fs.get t1 = some (.int .i64 day) → fs.get t5 = some (.int .i64 r) → fs.get t6 = some (.int .i64 (i : Int)) → i ≤ l.length → l.length - i < fuel →
    ∃ k fs' u', loopF (c19_l0 rec N) fuel fs u = some (.exit 0, fs', u') ∧ Alike s u' ∧ i ≤ k ∧ k ≤ l.length ∧ (∀ x (h : x < l.length), i ≤ x → x < k → l[x].1 ≤ day) ∧ (∀ h : k < l.length, day < l[k].1) ∧ fs'.get t5 = some (.int .i64 (if k = i then r else rateK l k)) := by
  intro fuel
  induction fuel with
  | zero => intro i r fs u _ _ _ _ _ _ h; omega
  | succ fuel ih =>
    intro i r fs u hu h0 h1 h5 h6 hi hf
    rw [loop_s, d19_l0]
    unfold D19_l0
    by_cases hlt : i < l.length
    · have e1 : decide ((i : Int) < (l.length : Int)) = true := decide_eq_true (by omega)
      have la : oLoad1 (.v (.pointer (some ⟨sb, 0 + i * 2 + 0, none⟩))) rec PT.nil u = some (.int .i64 l[i].1, u.seen sb) := load1_e sb _ _ _ rec PT.nil u ((hu.2 sb).trans hc) (by rw [Nat.zero_add, Nat.add_zero, flat_day l i hlt])
      have lb : oLoad1 (.v (.pointer (some ⟨sb, 0 + i * 2 + 1, none⟩))) rec PT.nil (u.seen sb) = some (.int .i64 l[i].2, (u.seen sb).seen sb) := load1_e sb _ _ _ rec PT.nil (u.seen sb) ((seen_getC _ _ _).trans ((hu.2 sb).trans hc)) (by rw [Nat.zero_add, flat_rate l i hlt])
      by_cases hd : l[i].1 ≤ day
      · have e2 : decide (l[i].1 ≤ day) = true := decide_eq_true hd
        simp (disch := omega) only [op2_s', op_s', op2_op, op2_op2, op2_cond, ev_v', call_r', map_c', map_n', bin_e', pick_e', not_e, ext_e', nth_z', nth_1', nth_2', nth_3', gval_e, gval_u', cmp_e, orUndef_t', orUndef_f', condV_t', condV_f', cond_true, cond_false, eqI_eq, neI_eq, ltI_eq, leI_eq, gtI_eq', geI_eq, Bool.not_true, Bool.not_false, beq_self_eq_true, tf_beq, ft_beq, eq_self, decide_true, decide_false, oneOf1, orU_some, h0, h1, h6, lenL_e, e1, idxL_e, fieldAddr_e, la, e2, lb, add_e, thenX_n']
        obtain ⟨k, fs', u', r1, r2, r3, r4, r5, r6, r7⟩ := ih (i + 1) l[i].2 _ ((u.seen sb).seen sb) (hu.trans ⟨by simp only [St.seen_next], fun y => by simp only [seen_getC]⟩) ((by kernel_rfl : _ = fs.get t0).trans h0) ((by kernel_rfl : _ = fs.get t1).trans h1) (by kernel_rfl) (by kernel_rfl) (by omega) (by omega)
        refine ⟨k, fs', u', r1, r2, by omega, r4, fun x h a b => ?_, r6, ?_⟩
        · rcases Nat.lt_or_eq_of_le a with a' | rfl
          · exact r5 x h (by omega) b
          · exact hd
        · rw [r7]
          have hne : k ≠ i := by omega
          rw [if_neg hne]
          by_cases hk : k = i + 1
          · subst hk
            rw [if_pos rfl]
            show _ = some (Value.int .i64 (if h : i < l.length then l[i].2 else 0))
            rw [dif_pos hlt]
          · rw [if_neg hk]
      · have e2 : decide (l[i].1 ≤ day) = false := decide_eq_false hd
        simp (disch := omega) only [op2_s', op_s', op2_op, op2_op2, op2_cond, ev_v', call_r', map_c', map_n', bin_e', pick_e', not_e, ext_e', nth_z', nth_1', nth_2', nth_3', gval_e, gval_u', cmp_e, orUndef_t', orUndef_f', condV_t', condV_f', cond_true, cond_false, eqI_eq, neI_eq, ltI_eq, leI_eq, gtI_eq', geI_eq, Bool.not_true, Bool.not_false, beq_self_eq_true, tf_beq, ft_beq, eq_self, decide_true, decide_false, oneOf1, orU_some, h0, h1, h6, lenL_e, e1, idxL_e, fieldAddr_e, la, e2, thenX_e']
        exact ⟨i, _, _, rfl, hu.trans ⟨by simp only [St.seen_next], fun y => by simp only [seen_getC]⟩, by omega, by omega, fun x h a b => absurd b (by omega), fun h => by omega, by rw [if_pos rfl]; exact (by kernel_rfl : _ = fs.get t5).trans h5⟩
    · have e1 : decide ((i : Int) < (l.length : Int)) = false := decide_eq_false (by omega)
      simp only [op2_s', op_s', op2_op, op2_op2, op2_cond, ev_v', call_r', map_c', map_n', bin_e', pick_e', not_e, ext_e', nth_z', nth_1', nth_2', nth_3', gval_e, gval_u', cmp_e, orUndef_t', orUndef_f', condV_t', condV_f', cond_true, cond_false, eqI_eq, neI_eq, ltI_eq, leI_eq, gtI_eq', geI_eq, Bool.not_true, Bool.not_false, beq_self_eq_true, tf_beq, ft_beq, eq_self, decide_true, decide_false, oneOf1, orU_some, h0, h1, h6, lenL_e, e1, thenX_e']
      exact ⟨i, _, _, rfl, hu, by omega, by omega, fun x h a b => absurd b (by omega), fun h => absurd h hlt, by rw [if_pos rfl]; exact (by kernel_rfl : _ = fs.get t5).trans h5⟩
end Go.Proofs.Ythjhammjankekaa.AbsRatO
namespace Go.Proofs.Ythjhammjankekaa.AbsRatO
open Go Go.Abs Go.Proofs
set_option maxRecDepth 100000
set_option linter.unusedVariables false
set_option linter.unusedSimpArgs false
/-- the document's RateAt, over steps in a block -/
theorem rateAt (rec : Rec) (N : Nat) (hN : 2000 ≤ N) (s : St) (sb c : Nat) (l : List (Int × Int)) (day : Int) (hl : l.length ≤ 1000) (hc : s.getC sb = some (flatV l)) :
    ∃ k u', callF rec N c19 [.slice (some ⟨sb, 0, none⟩) l.length c, .int .i64 day] s = some (.int .i64 (rateK l k), u') ∧ Alike s u' ∧ k ≤ l.length ∧ (∀ x (h : x < l.length), x < k → l[x].1 ≤ day) ∧ (∀ h : k < l.length, day < l[k].1) := by
  obtain ⟨k, fs', u', r1, r2, r3, r4, r5, r6, r7⟩ := rateAtL rec N s sb c l day hl hc N 0 0 (PT.put (.int .i64 0) t6 (PT.put (.int .i64 0) t5 (PT.put (.int .i64 0) t4 (PT.put (.int .i64 day) t1 (PT.put (.slice (some ⟨sb, 0, none⟩) l.length c) t0 PT.nil))))) s (Alike.refl s) (by kernel_rfl) (by kernel_rfl) (by kernel_rfl) (by kernel_rfl) (by omega) (by omega)
  have hr : (if k = 0 then 0 else rateK l k) = rateK l k := by
    cases k with
    | zero => rfl
    | succ k => rfl
  rw [hr] at r7
  refine ⟨k, u', ?_, r2, r4, fun x h a => r5 x h (by omega) a, r6⟩
  rw [d19]
  unfold D19
  rw [r1]
  have e : finX [.tmp t4] .ret (PT.put (orU (fs'.get t5)) t4 (PT.put (orU (fs'.get t5)) t27 fs'), u') = some (.int .i64 (rateK l k), u') := by
    rw [r7]
    kernel_rfl
  first | exact e | (simp only [op2_s', op_s', op2_op, op2_op2, op2_cond, ev_v', call_r', map_c', map_n', bin_e', pick_e', not_e, ext_e', nth_z', nth_1', nth_2', nth_3', gval_e, gval_u', cmp_e, orUndef_t', orUndef_f', condV_t', condV_f', cond_true, cond_false, eqI_eq, neI_eq, ltI_eq, leI_eq, gtI_eq', geI_eq, Bool.not_true, Bool.not_false, beq_self_eq_true, tf_beq, ft_beq, eq_self, decide_true, decide_false, oneOf1, orU_some, d19_r0, D19_r0, r7]; kernel_rfl) | skip
end Go.Proofs.Ythjhammjankekaa.AbsRatO
