import Derived.Test.YthjhammjankekaaDecRatO
import Derived.Test.YthjhammjankekaaAbsZH
import Derived.Test.YthjhammjankekaaAbsYI
namespace Go.Proofs.Ythjhammjankekaa.AbsRatO
open Go Go.Abs Go.Proofs
set_option maxRecDepth 100000
set_option linter.unusedVariables false
set_option linter.unusedSimpArgs false
theorem nr {α : Type} {a b : α} (h : a = b) : a = b := h
theorem op2_s' {α β γ : Type} (a : α) (b : β) (k : α → β → Option γ) : opt2 (some (a, b)) k = k a b := nr rfl
theorem op_s' {α β : Type} (a : α) (k : α → Option β) : opt (some a) k = k a := nr rfl
theorem ev_v' (fs : Frm) (v : Value) : ev fs (.v v) = v := nr rfl
theorem call_r' (f : FuncId) (args : List Arg) (rec : Rec) (fs : Frm) (s : St) : oCall f args rec fs s = rec f (mapN (ev fs) args) s := nr rfl
theorem map_c' {α β : Type} (f : α → β) (x : α) (l : List α) : mapN f (x :: l) = f x :: mapN f l := nr rfl
theorem map_n' {α β : Type} (f : α → β) : mapN f [] = [] := nr rfl
theorem bin_e' (f : Value → Value → Option Value) (x y : Value) (rec : Rec) (fs : Frm) (s : St) : oBin f (.v x) (.v y) rec fs s = opt (f x y) fun v => some (v, s) := nr rfl
theorem pick_e' (b : Bool) (x y : Value) (rec : Rec) (fs : Frm) (s : St) : oPick (.v (.bool b)) (.v x) (.v y) rec fs s = some (bif b then x else y, s) := nr rfl
theorem ext_e' (l : List Value) (i : Nat) (rec : Rec) (fs : Frm) (s : St) : oExtract (.v (tupOf l)) i rec fs s = opt (nth l i) fun v => some (v, s) := nr rfl
theorem nth_z' {α : Type} (x : α) (l : List α) : nth (x :: l) 0 = some x := nr rfl
theorem nth_1' {α : Type} (x y : α) (l : List α) : nth (x :: y :: l) 1 = some y := nr rfl
theorem nth_2' {α : Type} (x y z : α) (l : List α) : nth (x :: y :: z :: l) 2 = some z := nr rfl
theorem nth_3' {α : Type} (x y z u : α) (l : List α) : nth (x :: y :: z :: u :: l) 3 = some u := nr rfl
theorem orUndef_t' (x : Out) (s : St) : orUndef true x s = x := nr rfl
theorem orUndef_f' (x : Out) (s : St) : orUndef false x s = some (undef, s) := nr rfl
theorem condV_t' {α : Type} (A B : Option α) : condV (.bool true) A B = A := nr rfl
theorem condV_f' {α : Type} (A B : Option α) : condV (.bool false) A B = B := nr rfl
theorem gval_u' (w : Bool) : gval w undef = some false := nr rfl
theorem thenX_n' (k : Frm → St → OutX) (fs : Frm) (s : St) : thenX k .norm (fs, s) = k fs s := nr rfl
theorem thenX_e' (k : Frm → St → OutX) (i : Nat) (r : Frm × St) : thenX k (.exit i) r = some (.exit i, r) := nr rfl
theorem thenX_r' (k : Frm → St → OutX) (r : Frm × St) : thenX k .ret r = some (.ret, r) := nr rfl
theorem finX_r' (rs : List ARes) (fs : Frm) (s : St) : finX rs .ret (fs, s) = opt2 (Abs.results fs rs s) fun vs s => some (oneOf vs, s) := nr rfl
theorem finX_n' (rs : List ARes) (fs : Frm) (s : St) : finX rs .norm (fs, s) = opt2 (Abs.results fs rs s) fun vs s => some (oneOf vs, s) := nr rfl
theorem oneOf1 (v : Value) : oneOf [v] = v := nr rfl
theorem orU_some (v : Value) : orU (some v) = v := nr rfl
theorem tf_beq : (true == false) = false := nr rfl
theorem ft_beq : (false == true) = false := nr rfl
theorem gtI_eq' (a b : Int) : gtI a b = decide (b < a) := ltI_eq b a
/-- states alike but for what was looked at -/
def Alike (s s' : St) : Prop := s'.next = s.next ∧ ∀ y, s'.getC y = s.getC y
theorem behind1 (rec : Rec) (N : Nat) (s : St) (pb db tb sb n c i : Nat) (cells : Blk) (d day : Int) (h1 : s.getC pb = some [.pointer (some ⟨tb, 0, none⟩)]) (h2 : s.getC db = some [.int .i64 day]) (h3 : s.getC tb = some [.slice (some ⟨sb, 0, none⟩) n c]) (h4 : s.getC sb = some cells) (hi : i < n) (h5 : nth cells (i * 2) = some (.int .i64 d)) :
    ∃ s', callF rec N c59 [.int .i64 (i : Int), .pointer (some ⟨pb, 0, none⟩), .pointer (some ⟨db, 0, none⟩)] s = some (.bool (decide (day < d)), s') ∧ Alike s s' := by
  have l1 : ∀ u : St, (∀ y, u.getC y = s.getC y) → oLoad1 (.v (.pointer (some ⟨pb, 0, none⟩))) rec PT.nil u = some (.pointer (some ⟨tb, 0, none⟩), u.seen pb) := fun u hu => load1_e pb 0 _ _ rec PT.nil u ((hu pb).trans h1) rfl
  have l2 : ∀ u : St, (∀ y, u.getC y = s.getC y) → oLoad1 (.v (.pointer (some ⟨db, 0, none⟩))) rec PT.nil u = some (.int .i64 day, u.seen db) := fun u hu => load1_e db 0 _ _ rec PT.nil u ((hu db).trans h2) rfl
  have l3 : ∀ u : St, (∀ y, u.getC y = s.getC y) → oLoad1 (.v (.pointer (some ⟨tb, 0 + 0, none⟩))) rec PT.nil u = some (.slice (some ⟨sb, 0, none⟩) n c, u.seen tb) := fun u hu => load1_e tb 0 _ _ rec PT.nil u ((hu tb).trans h3) rfl
  have l4 : ∀ u : St, (∀ y, u.getC y = s.getC y) → oLoad1 (.v (.pointer (some ⟨sb, 0 + i * 2 + 0, none⟩))) rec PT.nil u = some (.int .i64 d, u.seen sb) := fun u hu => by
    rw [show 0 + i * 2 + 0 = i * 2 by omega]
    exact load1_e sb (i * 2) _ _ rec PT.nil u ((hu sb).trans h4) h5
  rw [d59]
  unfold D59
  simp (disch := first | omega | (intro y; simp only [s0_getC, seen_getC])) only [op2_s', op_s', op2_op, op2_op2, op2_cond, ev_v', call_r', map_c', map_n', bin_e', pick_e', not_e, ext_e', nth_z', nth_1', nth_2', nth_3', gval_e, gval_u', cmp_e, orUndef_t', orUndef_f', condV_t', condV_f', cond_true, cond_false, eqI_eq, neI_eq, ltI_eq, leI_eq, gtI_eq', geI_eq, Bool.not_true, Bool.not_false, beq_self_eq_true, tf_beq, ft_beq, eq_self, decide_true, decide_false, oneOf1, orU_some, l1, l2, l3, l4, rU_p, rU_l, nilCheck_e, fieldAddr_e, idxL_e, mov_f]
  rw [apart0 _ (by simp) _ (by simp)]
  exact ⟨_, rfl, by simp only [St.seen_next], fun y => by simp only [seen_getC]⟩
theorem Alike.refl (s : St) : Alike s s := ⟨rfl, fun _ => rfl⟩
theorem callV_e (g : FuncId) (a b : List Value) (args : List Arg) (rec : Rec) (fs : Frm) (s : St) : oCallV (.v (.func (.func g) ⟨a⟩ ⟨b⟩)) args rec fs s = rec g (app a (app (mapN (ev fs) args) b)) s := nrfl rfl
theorem convU_e (m : Nat) (rec : Rec) (fs : Frm) (s : St) (h : m < 18446744073709551616) : oConv .u64 (.v (.int .i64 (m : Int))) rec fs s = some (.int .u64 (m : Int), s) := by
  show (opt (mkInt .u64 (m : Int)) fun v => some (v, s)) = _
  rw [mkInt_eq, op_s]
  congr 3
  exact Abs.wrap_small .u64 m (by simp [topOf]; omega)
theorem convI_e (m : Nat) (rec : Rec) (fs : Frm) (s : St) (h : m < 9223372036854775808) : oConv .i64 (.v (.int .u64 (m : Int))) rec fs s = some (.int .i64 (m : Int), s) := by
  show (opt (mkInt .i64 (m : Int)) fun v => some (v, s)) = _
  rw [mkInt_eq, op_s]
  congr 3
  exact Abs.wrap_small .i64 m (by simp [topOf]; omega)
theorem shr1_e (m : Nat) : sh2 shrO (.int .u64 (m : Int)) (.int .u64 1) = some (.int .u64 ((m / 2 : Nat) : Int)) := by
  show (bif ltI 1 0 then none else setI .u64 ((m : Int).fdiv (2 ^ (min (1 : Int).toNat IntKind.u64.bits)))) = _
  have e : (2 : Int) ^ (min (1 : Int).toNat IntKind.u64.bits) = 2 := by decide
  rw [e, Int.fdiv_eq_ediv_of_nonneg _ (by decide)]
  show setI .u64 ((m : Int) / 2) = _
  unfold setI
  rw [forceI_eq]
  rfl
theorem searchL (rec : Rec) (N : Nat) (s : St) (g : FuncId) (cap : List Value) (P : Nat → Bool) (n : Nat) (hn : n ≤ 1000000) (hP : ∀ i, i < n → ∀ u, Alike s u → ∃ u', rec g (.int .i64 (i : Int) :: cap) u = some (.bool (P i), u') ∧ Alike s u') (mono : ∀ i j, i ≤ j → j < n → P i = true → P j = true) :
    ∀ (fuel i j : Nat) (fs : Frm) (u : St), Alike s u → fs.get t5 = some (.int .i64 (i : Int)) → fs.get t6 = some (.int .i64 (j : Int)) → fs.get t1 = some (.func (.func g) ⟨[]⟩ ⟨cap⟩) → i ≤ j → j ≤ n → (∀ x, x < i → P x = false) → (∀ x, j ≤ x → x < n → P x = true) → j - i < fuel →
    ∃ fs' u' k, loopF (c58_l0 rec N) fuel fs u = some (.exit 0, fs', u') ∧ Alike s u' ∧ fs'.get t5 = some (.int .i64 ((k : Nat) : Int)) ∧ k ≤ n ∧ (∀ x, x < k → P x = false) ∧ (∀ x, k ≤ x → x < n → P x = true) := by
  intro fuel
  induction fuel with
  | zero => intro i j fs u _ _ _ _ _ _ _ _ h; omega
  | succ fuel ih =>
    intro i j fs u hu h5 h6 h1 hij hjn hlo hhi hf
    rw [loop_s, d58_l0]
    unfold D58_l0
    by_cases hlt : i < j
    · have e1 : decide ((i : Int) < (j : Int)) = true := decide_eq_true (by omega)
      have hadd : int2 addO (.int .i64 (i : Int)) (.int .i64 (j : Int)) = some (.int .i64 ((i + j : Nat) : Int)) := by
        rw [add_e _ _ (by omega) (by omega)]; simp
      obtain ⟨u', hc, hu'⟩ := hP ((i + j) / 2) (by omega) u hu
      cases hp : P ((i + j) / 2) with
      | false =>
        rw [hp] at hc
        simp (disch := omega) only [op2_s', op_s', op2_op, op2_op2, op2_cond, ev_v', call_r', map_c', map_n', bin_e', pick_e', not_e, ext_e', nth_z', nth_1', nth_2', nth_3', gval_e, gval_u', cmp_e, orUndef_t', orUndef_f', condV_t', condV_f', cond_true, cond_false, eqI_eq, neI_eq, ltI_eq, leI_eq, gtI_eq', geI_eq, Bool.not_true, Bool.not_false, beq_self_eq_true, tf_beq, ft_beq, eq_self, decide_true, decide_false, oneOf1, orU_some, h5, h6, h1, e1, hadd, convU_e, shr1_e, convI_e, callV_e, app_eq, List.nil_append, List.cons_append, hc, add_e, thenX_n']
        obtain ⟨fs', w, k, r1, r2, r3, r4, r5, r6⟩ := ih ((i + j) / 2 + 1) j _ u' hu' (by kernel_rfl) ((by kernel_rfl : _ = fs.get t6).trans h6) ((by kernel_rfl : _ = fs.get t1).trans h1) (by omega) hjn (fun x hx => by
          cases hq : P x with
          | false => rfl
          | true => rw [mono x ((i + j) / 2) (by omega) (by omega) hq] at hp; cases hp) hhi (by omega)
        exact ⟨fs', w, k, r1, r2, r3, r4, r5, r6⟩
      | true =>
        rw [hp] at hc
        simp (disch := omega) only [op2_s', op_s', op2_op, op2_op2, op2_cond, ev_v', call_r', map_c', map_n', bin_e', pick_e', not_e, ext_e', nth_z', nth_1', nth_2', nth_3', gval_e, gval_u', cmp_e, orUndef_t', orUndef_f', condV_t', condV_f', cond_true, cond_false, eqI_eq, neI_eq, ltI_eq, leI_eq, gtI_eq', geI_eq, Bool.not_true, Bool.not_false, beq_self_eq_true, tf_beq, ft_beq, eq_self, decide_true, decide_false, oneOf1, orU_some, h5, h6, h1, e1, hadd, convU_e, shr1_e, convI_e, callV_e, app_eq, List.nil_append, List.cons_append, hc, add_e, thenX_n']
        obtain ⟨fs', w, k, r1, r2, r3, r4, r5, r6⟩ := ih i ((i + j) / 2) _ u' hu' ((by kernel_rfl : _ = fs.get t5).trans h5) (by kernel_rfl) ((by kernel_rfl : _ = fs.get t1).trans h1) (by omega) (by omega) hlo (fun x h1 h2 => mono _ x h1 h2 hp) (by omega)
        exact ⟨fs', w, k, r1, r2, r3, r4, r5, r6⟩
    · have e1 : decide ((i : Int) < (j : Int)) = false := decide_eq_false (by omega)
      simp only [op2_s', op_s', op2_op, op2_op2, op2_cond, ev_v', call_r', map_c', map_n', bin_e', pick_e', not_e, ext_e', nth_z', nth_1', nth_2', nth_3', gval_e, gval_u', cmp_e, orUndef_t', orUndef_f', condV_t', condV_f', cond_true, cond_false, eqI_eq, neI_eq, ltI_eq, leI_eq, gtI_eq', geI_eq, Bool.not_true, Bool.not_false, beq_self_eq_true, tf_beq, ft_beq, eq_self, decide_true, decide_false, oneOf1, orU_some, h5, h6, e1, thenX_e']
      exact ⟨_, u, i, rfl, hu, (by kernel_rfl : _ = fs.get t5).trans h5, by omega, hlo, fun x h1 h2 => hhi x (by omega) h2⟩
theorem search (rec : Rec) (N : Nat) (s : St) (g : FuncId) (cap : List Value) (P : Nat → Bool) (n : Nat) (hN : n < N) (hn : n ≤ 1000000) (hP : ∀ i, i < n → ∀ u, Alike s u → ∃ u', rec g (.int .i64 (i : Int) :: cap) u = some (.bool (P i), u') ∧ Alike s u') (mono : ∀ i j, i ≤ j → j < n → P i = true → P j = true) :
    ∃ (k : Nat) (u' : St), callF rec N c58 [.int .i64 (n : Int), .func (.func g) ⟨[]⟩ ⟨cap⟩] s = some (.int .i64 (k : Int), u') ∧ Alike s u' ∧ k ≤ n ∧ (∀ x, x < k → P x = false) ∧ (∀ x, k ≤ x → x < n → P x = true) := by
  rw [d58]
  unfold D58
  obtain ⟨fs', u', k, r1, r2, r3, r4, r5, r6⟩ := searchL rec N s g cap P n hn hP mono N 0 n (PT.put (.int .i64 (n : Int)) t6 (PT.put (.int .i64 0) t5 (PT.put (.int .i64 (n : Int)) t8 (PT.put (.int .i64 0) t4 (PT.put (.func (.func g) ⟨[]⟩ ⟨cap⟩) t1 (PT.put (.int .i64 (n : Int)) t0 PT.nil)))))) s (Alike.refl s) (by kernel_rfl) (by kernel_rfl) (by kernel_rfl) (by omega) (Nat.le_refl _) (fun x hx => by omega) (fun x h1 h2 => by omega) (by omega)
  refine ⟨k, u', ?_, r2, r4, r5, r6⟩
  rw [r1]
  simp only [op2_s', op_s', op2_op, op2_op2, op2_cond, ev_v', call_r', map_c', map_n', bin_e', pick_e', not_e, ext_e', nth_z', nth_1', nth_2', nth_3', gval_e, gval_u', cmp_e, orUndef_t', orUndef_f', condV_t', condV_f', cond_true, cond_false, eqI_eq, neI_eq, ltI_eq, leI_eq, gtI_eq', geI_eq, Bool.not_true, Bool.not_false, beq_self_eq_true, tf_beq, ft_beq, eq_self, decide_true, decide_false, oneOf1, orU_some, blkX_e, Nat.beq_refl, thenX_n']
  rw [d58_r0]
  unfold D58_r0
  rw [r3]
  kernel_rfl
end Go.Proofs.Ythjhammjankekaa.AbsRatO
namespace Go.Proofs.Ythjhammjankekaa.AbsRatO
open Go Go.Abs Go.Proofs
set_option maxRecDepth 100000
set_option linter.unusedVariables false
set_option linter.unusedSimpArgs false
noncomputable def E : Env := ⟨fns, insertK 44 2 16 noKnown⟩
/-- the cells of steps -/
def flatV : List (Int × Int) → List Value
  | [] => []
  | p :: l => .int .i64 p.1 :: .int .i64 p.2 :: flatV l
theorem flat_len : ∀ l : List (Int × Int), (flatV l).length = l.length * 2
  | [] => rfl
  | p :: l => by simp [flatV, flat_len l]; omega
theorem flat_day : ∀ (l : List (Int × Int)) (i : Nat) (h : i < l.length), nth (flatV l) (i * 2) = some (.int .i64 l[i].1)
  | p :: l, 0, _ => rfl
  | p :: l, i + 1, h => by
    have := flat_day l i (by simpa using h)
    rw [show (i + 1) * 2 = i * 2 + 1 + 1 by omega]
    exact this
theorem flat_rate : ∀ (l : List (Int × Int)) (i : Nat) (h : i < l.length), nth (flatV l) (i * 2 + 1) = some (.int .i64 l[i].2)
  | p :: l, 0, _ => rfl
  | p :: l, i + 1, h => by
    have := flat_rate l i (by simpa using h)
    rw [show (i + 1) * 2 + 1 = i * 2 + 1 + 1 + 1 by omega]
    exact this
/-- a table's slice -/
def Slc (s : St) (v : Value) (l : List (Int × Int)) : Prop :=
  (l = [] ∧ v = .slice none 0 0) ∨ ∃ sb c, v = .slice (some ⟨sb, 0, none⟩) l.length c ∧ sb < s.next ∧ s.getC sb = some (flatV l)
/-- the table at tb holds the steps l -/
def TabAt (s : St) (tb : Nat) (l : List (Int × Int)) : Prop := tb < s.next ∧ ∃ v, s.getC tb = some [v] ∧ Slc s v l
/-- a state with more memory; what was there is as it was -/
def Grew (k : Nat) (s s' : St) : Prop := s.next ≤ s'.next ∧ s'.next ≤ s.next + k ∧ ∀ y, y < s.next → s'.getC y = s.getC y
def Sorted (l : List (Int × Int)) : Prop := ∀ i j (hi : i < l.length) (hj : j < l.length), i ≤ j → l[i].1 ≤ l[j].1
theorem k59 (M : Nat) (a b c : Value) (s : St) : callN E (M + 1) 59 [a, b, c] s = callF (callN E M) M c59 [a, b, c] s := by kernel_rfl
theorem k58 (M : Nat) (a b : Value) (s : St) : callN E (M + 1) 58 [a, b] s = callF (callN E M) M c58 [a, b] s := by kernel_rfl
theorem k43 (M : Nat) (a b : Value) (s : St) : callN E (M + 1) 43 [a, b] s = callF (callN E M) M c43 [a, b] s := by kernel_rfl
/-- how many steps are not behind a day -/
def Behind (l : List (Int × Int)) (day : Int) (k : Nat) : Prop := k ≤ l.length ∧ (∀ x (h : x < l.length), x < k → l[x].1 ≤ day) ∧ (∀ x (h : x < l.length), k ≤ x → day < l[x].1)
theorem Alike.trans {a b c : St} (h : Alike a b) (k : Alike b c) : Alike a c := ⟨k.1.trans h.1, fun y => (k.2 y).trans (h.2 y)⟩
theorem search_days (M : Nat) (hM : 2000 ≤ M) (s : St) (pb db tb sb c : Nat) (l : List (Int × Int)) (day : Int) (hl : l.length ≤ 1000) (hs : Sorted l) (h1 : s.getC pb = some [.pointer (some ⟨tb, 0, none⟩)]) (h2 : s.getC db = some [.int .i64 day]) (h3 : s.getC tb = some [.slice (some ⟨sb, 0, none⟩) l.length c]) (h4 : s.getC sb = some (flatV l)) :
    ∃ (k : Nat) (u' : St), callN E (M + 2) 58 [.int .i64 (l.length : Int), .func (.func 59) ⟨[]⟩ ⟨[.pointer (some ⟨pb, 0, none⟩), .pointer (some ⟨db, 0, none⟩)]⟩] s = some (.int .i64 (k : Int), u') ∧ Alike s u' ∧ Behind l day k := by
  obtain ⟨k, u', r1, r2, r3, r4, r5⟩ := search (callN E (M + 1)) (M + 1) s 59 [.pointer (some ⟨pb, 0, none⟩), .pointer (some ⟨db, 0, none⟩)] (fun i => if h : i < l.length then decide (day < l[i].1) else true) l.length (by omega) (by omega)
    (fun i hi u hu => by
      obtain ⟨u', e1, e2⟩ := behind1 (callN E M) M u pb db tb sb l.length c i (flatV l) l[i].1 day ((hu.2 _).trans h1) ((hu.2 _).trans h2) ((hu.2 _).trans h3) ((hu.2 _).trans h4) hi (flat_day l i hi)
      refine ⟨u', ?_, hu.trans e2⟩
      rw [k59, e1]
      simp only [hi, dif_pos])
    (fun i j hij hj hp => by
      have hi : i < l.length := by omega
      simp only [hi, hj, dif_pos, decide_eq_true_eq] at hp ⊢
      have := hs i j hi hj hij
      omega)
  refine ⟨k, u', by rw [k58]; exact r1, r2, r3, fun x h hx => ?_, fun x h hx => ?_⟩
  · have := r4 x hx
    simp only [h, dif_pos, decide_eq_false_iff_not] at this
    omega
  · have := r5 x hx h
    simpa only [h, dif_pos, decide_eq_true_eq] using this
end Go.Proofs.Ythjhammjankekaa.AbsRatO
namespace Go.Proofs.Ythjhammjankekaa.AbsRatO
open Go Go.Abs Go.Proofs
set_option maxRecDepth 100000
set_option linter.unusedVariables false
set_option linter.unusedSimpArgs false
theorem func_e (f : Fn) (a b : List Arg) (rec : Rec) (fs : Frm) (s : St) : oFunc f a b rec fs s = some (.func f ⟨mapN (ev fs) a⟩ ⟨mapN (ev fs) b⟩, s) := nr rfl
theorem Grew.alike {k : Nat} {a b c : St} (h : Grew k a b) (h' : Alike b c) : Grew k a c :=
  ⟨by have := h.1; have := h'.1; omega, by have := h.2.1; have := h'.1; omega, fun y hy => (h'.2 y).trans (h.2.2 y hy)⟩
theorem behind (M : Nat) (hM : 2000 ≤ M) (s : St) (tb : Nat) (l : List (Int × Int)) (day : Int) (hl : l.length ≤ 1000) (hs : Sorted l) (ht : TabAt s tb l) (hn : s.next + 1 ≤ lim) :
    ∃ (k : Nat) (u' : St), callN E (M + 3) 43 [.pointer (some ⟨tb, 0, none⟩), .int .i64 day] s = some (.int .i64 (k : Int), u') ∧ Grew 2 s u' ∧ Behind l day k := by
  obtain ⟨htb, v, hv, hsl⟩ := ht
  obtain ⟨s1, a1, n1, g1, o1⟩ := alloc_e s [.pointer (some ⟨tb, 0, none⟩)] (by omega) rfl
  obtain ⟨s2, a2, n2, g2, o2⟩ := alloc_e s1 [.int .i64 day] (by omega) rfl
  have b1 := fun rec fs => box1_e (.pointer (some ⟨tb, 0, none⟩)) rec fs s s1 rfl a1
  have b2 := fun rec fs => box1_e (.int .i64 day) rec fs s1 s2 rfl a2
  have old : ∀ y, y < s.next → s2.getC y = s.getC y := fun y hy => (o2 y (by omega)).trans (o1 y (by omega))
  have p1 : s2.getC s.next = some [.pointer (some ⟨tb, 0, none⟩)] := (o2 _ (by omega)).trans g1
  have l1 := fun rec fs => load1_e s.next 0 _ _ rec fs s2 p1 rfl
  have l2 := fun rec fs => load1_e tb (0 + 0) _ _ rec fs (s2.seen s.next) ((seen_getC _ _ _).trans ((old tb htb).trans hv)) rfl
  have al : Alike s2 ((s2.seen s.next).seen tb) := ⟨by simp only [St.seen_next], fun y => by simp only [seen_getC]⟩
  have gr : Grew 2 s s2 := ⟨by omega, by omega, old⟩
  rw [k43, d43]
  unfold D43
  rcases hsl with ⟨rfl, rfl⟩ | ⟨sb, c, rfl, hsb, hc⟩
  · obtain ⟨k, u', r1, r2, r3, r4, r5⟩ := search (callN E (M + 1)) (M + 1) ((s2.seen s.next).seen tb) 59 [.pointer (some ⟨s.next, 0, none⟩), .pointer (some ⟨s1.next, 0, none⟩)] (fun i => true) 0 (by omega) (by omega)
      (fun i hi => absurd hi (by omega)) (fun i j _ hj => absurd hj (by omega))
    refine ⟨k, u', ?_, gr.alike (al.trans r2), r3, fun x h => absurd h (by simp), fun x h => absurd h (by simp)⟩
    simp only [op2_s', op_s', op2_op, op2_op2, op2_cond, ev_v', call_r', map_c', map_n', bin_e', pick_e', not_e, ext_e', nth_z', nth_1', nth_2', nth_3', gval_e, gval_u', cmp_e, orUndef_t', orUndef_f', condV_t', condV_f', cond_true, cond_false, eqI_eq, neI_eq, ltI_eq, leI_eq, gtI_eq', geI_eq, Bool.not_true, Bool.not_false, beq_self_eq_true, tf_beq, ft_beq, eq_self, decide_true, decide_false, oneOf1, orU_some, b1, b2, l1, l2, nilCheck_e, fieldAddr_e, lenL_e, func_e]
    rw [← k58] at r1
    exact (congrArg (fun o => opt2 o fun x9 s => some (oneOf [x9], s)) r1)
  · obtain ⟨k, u', r1, r2, r3⟩ := search_days M hM ((s2.seen s.next).seen tb) s.next s1.next tb sb c l day hl hs ((al.2 _).trans p1) ((al.2 _).trans g2) ((al.2 _).trans ((old tb htb).trans hv)) ((al.2 _).trans ((old sb hsb).trans hc))
    refine ⟨k, u', ?_, gr.alike (al.trans r2), r3⟩
    simp only [op2_s', op_s', op2_op, op2_op2, op2_cond, ev_v', call_r', map_c', map_n', bin_e', pick_e', not_e, ext_e', nth_z', nth_1', nth_2', nth_3', gval_e, gval_u', cmp_e, orUndef_t', orUndef_f', condV_t', condV_f', cond_true, cond_false, eqI_eq, neI_eq, ltI_eq, leI_eq, gtI_eq', geI_eq, Bool.not_true, Bool.not_false, beq_self_eq_true, tf_beq, ft_beq, eq_self, decide_true, decide_false, oneOf1, orU_some, b1, b2, l1, l2, nilCheck_e, fieldAddr_e, lenL_e, func_e]
    exact (congrArg (fun o => opt2 o fun x9 s => some (oneOf [x9], s)) r1)
end Go.Proofs.Ythjhammjankekaa.AbsRatO
namespace Go.Proofs.Ythjhammjankekaa.AbsRatO
open Go Go.Abs Go.Proofs
set_option maxRecDepth 100000
set_option linter.unusedVariables false
set_option linter.unusedSimpArgs false
theorem k15 (M : Nat) (a b : Value) (s : St) : callN E (M + 1) 15 [a, b] s = callF (callN E M) M c15 [a, b] s := by kernel_rfl
/-- the rate after k steps -/
def rateK (l : List (Int × Int)) : Nat → Int
  | 0 => 0
  | k + 1 => if h : k < l.length then l[k].2 else 0
theorem TabAt.grew {k : Nat} {s s' : St} {tb : Nat} {l : List (Int × Int)} (h : TabAt s tb l) (g : Grew k s s') : TabAt s' tb l := by
  obtain ⟨h1, v, h2, h3⟩ := h
  refine ⟨Nat.lt_of_lt_of_le h1 g.1, v, (g.2.2 _ h1).trans h2, ?_⟩
  rcases h3 with ⟨a, b⟩ | ⟨sb, c, a, b, d⟩
  · exact Or.inl ⟨a, b⟩
  · exact Or.inr ⟨sb, c, a, Nat.lt_of_lt_of_le b g.1, (g.2.2 _ b).trans d⟩
theorem at_ (M : Nat) (hM : 2000 ≤ M) (s : St) (tb : Nat) (l : List (Int × Int)) (day : Int) (hl : l.length ≤ 1000) (hs : Sorted l) (ht : TabAt s tb l) (hn : s.next + 1 ≤ lim) :
    ∃ (k : Nat) (u' : St), callN E (M + 4) 15 [.pointer (some ⟨tb, 0, none⟩), .int .i64 day] s = some (.int .i64 (rateK l k), u') ∧ Grew 2 s u' ∧ Behind l day k := by
  obtain ⟨k, u, r1, r2, r3⟩ := behind M hM s tb l day hl hs ht hn
  obtain ⟨htb, v, hv, hsl⟩ := ht.grew r2
  rw [k15, d15]
  unfold D15
  cases k with
  | zero =>
    refine ⟨0, u, ?_, r2, r3⟩
    have e1 : decide ((((0 : Nat) : Int)) = 0) = true := rfl
    simp only [op2_s', op_s', op2_op, op2_op2, op2_cond, ev_v', call_r', map_c', map_n', bin_e', pick_e', not_e, ext_e', nth_z', nth_1', nth_2', nth_3', gval_e, gval_u', cmp_e, orUndef_t', orUndef_f', condV_t', condV_f', cond_true, cond_false, eqI_eq, neI_eq, ltI_eq, leI_eq, gtI_eq', geI_eq, Bool.not_true, Bool.not_false, beq_self_eq_true, tf_beq, ft_beq, eq_self, decide_true, decide_false, oneOf1, orU_some, r1, e1]
    rfl
  | succ k =>
    have hk : k < l.length := r3.1
    rcases hsl with ⟨rfl, rfl⟩ | ⟨sb, c, rfl, hsb, hc⟩
    · exact absurd hk (by simp)
    have e1 : decide ((((k + 1 : Nat) : Int)) = 0) = false := decide_eq_false (by omega)
    have e2 : int2 subO (.int .i64 ((k + 1 : Nat) : Int)) (.int .i64 1) = some (.int .i64 (k : Int)) := by
      rw [sub_e _ _ (by omega) (by omega)]
      congr 2
      omega
    have l1 := fun rec fs => load1_e tb (0 + 0) _ _ rec fs u hv rfl
    have l2 := fun rec fs => load1_e sb (0 + k * 2 + 1) _ _ rec fs (u.seen tb) ((seen_getC _ _ _).trans hc) ((by rw [Nat.zero_add]; exact flat_rate l k hk) : nth (flatV l) (0 + k * 2 + 1) = some (.int .i64 l[k].2))
    have hr : rateK l (k + 1) = l[k].2 := by show (if h : k < l.length then l[k].2 else 0) = _; rw [dif_pos hk]
    refine ⟨k + 1, (u.seen tb).seen sb, ?_, r2.alike ⟨by simp only [St.seen_next], fun y => by simp only [seen_getC]⟩, r3⟩
    rw [hr]
    simp (disch := omega) only [op2_s', op_s', op2_op, op2_op2, op2_cond, ev_v', call_r', map_c', map_n', bin_e', pick_e', not_e, ext_e', nth_z', nth_1', nth_2', nth_3', gval_e, gval_u', cmp_e, orUndef_t', orUndef_f', condV_t', condV_f', cond_true, cond_false, eqI_eq, neI_eq, ltI_eq, leI_eq, gtI_eq', geI_eq, Bool.not_true, Bool.not_false, beq_self_eq_true, tf_beq, ft_beq, eq_self, decide_true, decide_false, oneOf1, orU_some, r1, e1, e2, l1, nilCheck_e, fieldAddr_e, idxL_e, l2]
    try rfl
end Go.Proofs.Ythjhammjankekaa.AbsRatO
namespace Go.Proofs.Ythjhammjankekaa.AbsRatO
open Go Go.Abs Go.Proofs
set_option maxRecDepth 100000
set_option linter.unusedVariables false
set_option linter.unusedSimpArgs false
theorem k14 (M : Nat) (a b c : Value) (s : St) : callN E (M + 1) 14 [a, b, c] s = callF (callN E M) M c14 [a, b, c] s := by kernel_rfl
theorem flat_set : ∀ (l : List (Int × Int)) (k : Nat) (h : k < l.length) (r : Int), (flatV l).set (k * 2 + 1) (.int .i64 r) = flatV (l.set k (l[k].1, r))
  | p :: l, 0, _, r => rfl
  | p :: l, k + 1, h, r => by
    have := flat_set l k (by simpa using h) r
    rw [show (k + 1) * 2 + 1 = k * 2 + 1 + 1 + 1 by omega]
    show _ :: _ :: ((flatV l).set (k * 2 + 1) (.int .i64 r)) = _
    rw [this]
    rfl
theorem flat_map : ∀ l : List (Int × Int), l ≠ [] → isMapB (flatV l) = false
  | [], h => absurd rfl h
  | p :: l, _ => rfl
theorem put_day (M : Nat) (p : Value) (day rate : Int) (s : St) (h : day < 0 ∨ 109572 < day) : callN E (M + 1) 14 [p, .int .i64 day, .int .i64 rate] s = some (.int .i64 12, s) := by
  rw [k14, d14]
  unfold D14
  by_cases h0 : day < 0
  · have e1 : decide (day < 0) = true := decide_eq_true h0
    simp only [op2_s', op_s', op2_op, op2_op2, op2_cond, ev_v', call_r', map_c', map_n', bin_e', pick_e', not_e, ext_e', nth_z', nth_1', nth_2', nth_3', gval_e, gval_u', cmp_e, orUndef_t', orUndef_f', condV_t', condV_f', cond_true, cond_false, eqI_eq, neI_eq, ltI_eq, leI_eq, gtI_eq', geI_eq, Bool.not_true, Bool.not_false, beq_self_eq_true, tf_beq, ft_beq, eq_self, decide_true, decide_false, oneOf1, orU_some, e1]
    try rfl
  · have e1 : decide (day < 0) = false := decide_eq_false h0
    have e2 : decide (109572 < day) = true := decide_eq_true (by omega)
    simp only [op2_s', op_s', op2_op, op2_op2, op2_cond, ev_v', call_r', map_c', map_n', bin_e', pick_e', not_e, ext_e', nth_z', nth_1', nth_2', nth_3', gval_e, gval_u', cmp_e, orUndef_t', orUndef_f', condV_t', condV_f', cond_true, cond_false, eqI_eq, neI_eq, ltI_eq, leI_eq, gtI_eq', geI_eq, Bool.not_true, Bool.not_false, beq_self_eq_true, tf_beq, ft_beq, eq_self, decide_true, decide_false, oneOf1, orU_some, e1, gtI_eq', e2]
    try rfl
theorem put_rate (M : Nat) (p : Value) (day rate : Int) (s : St) (h : 0 ≤ day ∧ day ≤ 109572) (h' : rate < 0 ∨ 1000000000 < rate) : callN E (M + 1) 14 [p, .int .i64 day, .int .i64 rate] s = some (.int .i64 1, s) := by
  rw [k14, d14]
  unfold D14
  have e1 : decide (day < 0) = false := decide_eq_false (by omega)
  have e2 : decide (109572 < day) = false := decide_eq_false (by omega)
  by_cases h0 : rate < 0
  · have e3 : decide (rate < 0) = true := decide_eq_true h0
    simp only [op2_s', op_s', op2_op, op2_op2, op2_cond, ev_v', call_r', map_c', map_n', bin_e', pick_e', not_e, ext_e', nth_z', nth_1', nth_2', nth_3', gval_e, gval_u', cmp_e, orUndef_t', orUndef_f', condV_t', condV_f', cond_true, cond_false, eqI_eq, neI_eq, ltI_eq, leI_eq, gtI_eq', geI_eq, Bool.not_true, Bool.not_false, beq_self_eq_true, tf_beq, ft_beq, eq_self, decide_true, decide_false, oneOf1, orU_some, e1, gtI_eq', e2, e3]
    try rfl
  · have e3 : decide (rate < 0) = false := decide_eq_false h0
    have e4 : decide (1000000000 < rate) = true := decide_eq_true (by omega)
    simp only [op2_s', op_s', op2_op, op2_op2, op2_cond, ev_v', call_r', map_c', map_n', bin_e', pick_e', not_e, ext_e', nth_z', nth_1', nth_2', nth_3', gval_e, gval_u', cmp_e, orUndef_t', orUndef_f', condV_t', condV_f', cond_true, cond_false, eqI_eq, neI_eq, ltI_eq, leI_eq, gtI_eq', geI_eq, Bool.not_true, Bool.not_false, beq_self_eq_true, tf_beq, ft_beq, eq_self, decide_true, decide_false, oneOf1, orU_some, e1, gtI_eq', e2, e3, e4]
    try rfl
end Go.Proofs.Ythjhammjankekaa.AbsRatO
namespace Go.Proofs.Ythjhammjankekaa.AbsRatO
open Go Go.Abs Go.Proofs
set_option maxRecDepth 100000
set_option linter.unusedVariables false
set_option linter.unusedSimpArgs false
/-- Put at a day that has a step: its rate is replaced -/
theorem put_same (M : Nat) (hM : 2000 ≤ M) (s : St) (tb sb c : Nat) (l : List (Int × Int)) (day rate : Int) (hl : l.length ≤ 1000) (hs : Sorted l) (htb : tb < s.next) (hv : s.getC tb = some [.slice (some ⟨sb, 0, none⟩) l.length c]) (hsb : sb < s.next) (hc : s.getC sb = some (flatV l)) (hn : s.next + 1 ≤ lim) (hd : 0 ≤ day ∧ day ≤ 109572) (hr : 0 ≤ rate ∧ rate ≤ 1000000000) (k : Nat) (hB : Behind l day (k + 1)) (hk : k < l.length) (he : l[k].1 = day) (h8 : 8 ≤ sb) :
    ∃ u', callN E (M + 4) 14 [.pointer (some ⟨tb, 0, none⟩), .int .i64 day, .int .i64 rate] s = some (.int .i64 0, u') ∧ s.next ≤ u'.next ∧ u'.next ≤ s.next + 2 ∧ u'.getC sb = some (flatV (l.set k (day, rate))) ∧ ∀ y, y < s.next → y ≠ sb → u'.getC y = s.getC y := by
  obtain ⟨k', u, r1, r2, r3⟩ := behind M hM s tb l day hl hs ⟨htb, _, hv, Or.inr ⟨sb, c, rfl, hsb, hc⟩⟩ hn
  have hkk : k' = k + 1 := by
    obtain ⟨a1, a2, a3⟩ := hB
    obtain ⟨b1, b2, b3⟩ := r3
    rcases Nat.lt_trichotomy k' (k + 1) with h | h | h
    · have := b3 k hk (by omega); omega
    · exact h
    · have x1 := b2 (k + 1) (by omega) h
      have x2 := a3 (k + 1) (by omega) (Nat.le_refl _)
      omega
  subst hkk
  have hv' := (r2.2.2 tb htb).trans hv
  have hc' := (r2.2.2 sb hsb).trans hc
  have e1 : decide (day < 0) = false := decide_eq_false (by omega)
  have e2 : decide (109572 < day) = false := decide_eq_false (by omega)
  have e3 : decide (rate < 0) = false := decide_eq_false (by omega)
  have e4 : decide (1000000000 < rate) = false := decide_eq_false (by omega)
  have e5 : decide (0 < (((k + 1 : Nat) : Int))) = true := decide_eq_true (by omega)
  have e6 : int2 subO (.int .i64 ((k + 1 : Nat) : Int)) (.int .i64 1) = some (.int .i64 (k : Int)) := by
    rw [sub_e _ _ (by omega) (by omega)]
    congr 2
    omega
  have e7 : decide (day = day) = true := decide_eq_true rfl
  have f0 : nth (flatV l) (0 + k * 2 + 0) = some (.int .i64 day) := by rw [Nat.zero_add, Nat.add_zero, flat_day l k hk, he]
  have l1 : ∀ (rec : Rec) (fs : Frm) (v : St), (∀ y, v.getC y = u.getC y) → oLoad1 (.v (.pointer (some ⟨tb, 0 + 0, none⟩))) rec fs v = some (.slice (some ⟨sb, 0, none⟩) l.length c, v.seen tb) := fun rec fs v h => load1_e tb (0 + 0) _ _ rec fs v ((h tb).trans hv') rfl
  have l2 : ∀ (rec : Rec) (fs : Frm) (v : St), (∀ y, v.getC y = u.getC y) → oLoad1 (.v (.pointer (some ⟨sb, 0 + k * 2 + 0, none⟩))) rec fs v = some (.int .i64 day, v.seen sb) := fun rec fs v h => load1_e sb _ _ _ rec fs v ((h sb).trans hc') f0
  have st : ∀ (rec : Rec) (fs : Frm) (v : St), (∀ y, v.getC y = u.getC y) → oStore 1 (.v (.pointer (some ⟨sb, 0 + k * 2 + 1, none⟩))) (.v (.int .i64 rate)) rec fs v = some (UV, v.set sb (some (flatV (l.set k (day, rate))))) := fun rec fs v h => by
    rw [store1_e sb (0 + k * 2 + 1) (flatV l) _ rec fs v rfl ((h sb).trans hc') (by rw [flat_len]; omega), Nat.zero_add, flat_set l k hk rate, he]
  have hm : isMapB (flatV (l.set k (day, rate))) = false := flat_map _ (by
    intro h
    have := congrArg List.length h
    simp at this
    subst this
    exact absurd hk (by simp))
  refine ⟨(((u.seen tb).seen sb).seen tb).set sb (some (flatV (l.set k (day, rate)))), ?_, ?_, ?_, ?_, ?_⟩
  · rw [k14, d14]
    unfold D14
    simp (disch := first | omega | (intro y; simp only [seen_getC])) only [op2_s', op_s', op2_op, op2_op2, op2_cond, ev_v', call_r', map_c', map_n', bin_e', pick_e', not_e, ext_e', nth_z', nth_1', nth_2', nth_3', gval_e, gval_u', cmp_e, orUndef_t', orUndef_f', condV_t', condV_f', cond_true, cond_false, eqI_eq, neI_eq, ltI_eq, leI_eq, gtI_eq', geI_eq, Bool.not_true, Bool.not_false, beq_self_eq_true, tf_beq, ft_beq, eq_self, decide_true, decide_false, oneOf1, orU_some, e1, gtI_eq', e2, e3, e4, r1, e5, e6, l1, nilCheck_e, fieldAddr_e, idxL_e, l2, e7, st]
    try rfl
  · rw [St.set_next]; simp only [St.seen_next]; exact r2.1
  · rw [St.set_next]; simp only [St.seen_next]; exact r2.2.1
  · rw [set_getC _ _ _ _ h8 (by have : lim = 1000000000 := rfl; have : (2:Nat) ^ 40 = 1099511627776 := rfl; omega) hm, if_pos rfl]
  · intro y hy hne
    rw [set_getC _ _ _ _ h8 (by have : lim = 1000000000 := rfl; have : (2:Nat) ^ 40 = 1099511627776 := rfl; omega) hm, if_neg hne]
    simp only [seen_getC]
    exact r2.2.2 y hy
end Go.Proofs.Ythjhammjankekaa.AbsRatO
namespace Go.Proofs.Ythjhammjankekaa.AbsRatO
open Go Go.Abs Go.Proofs
set_option maxRecDepth 100000
set_option linter.unusedVariables false
set_option linter.unusedSimpArgs false
/-- Put into a table of 256 steps that has no step at the day: refused -/
theorem put_full (M : Nat) (hM : 2000 ≤ M) (s : St) (tb sb c : Nat) (l : List (Int × Int)) (day rate : Int) (hl : l.length = 256) (hs : Sorted l) (htb : tb < s.next) (hv : s.getC tb = some [.slice (some ⟨sb, 0, none⟩) l.length c]) (hsb : sb < s.next) (hc : s.getC sb = some (flatV l)) (hn : s.next + 1 ≤ lim) (hd : 0 ≤ day ∧ day ≤ 109572) (hr : 0 ≤ rate ∧ rate ≤ 1000000000) (hno : ∀ x (h : x < l.length), l[x].1 ≠ day) :
    ∃ u', callN E (M + 4) 14 [.pointer (some ⟨tb, 0, none⟩), .int .i64 day, .int .i64 rate] s = some (.int .i64 2, u') ∧ Grew 2 s u' := by
  obtain ⟨k, u, r1, r2, r3⟩ := behind M hM s tb l day (by omega) hs ⟨htb, _, hv, Or.inr ⟨sb, c, rfl, hsb, hc⟩⟩ hn
  have hv' := (r2.2.2 tb htb).trans hv
  have hc' := (r2.2.2 sb hsb).trans hc
  have e1 : decide (day < 0) = false := decide_eq_false (by omega)
  have e2 : decide (109572 < day) = false := decide_eq_false (by omega)
  have e3 : decide (rate < 0) = false := decide_eq_false (by omega)
  have e4 : decide (1000000000 < rate) = false := decide_eq_false (by omega)
  have e8 : decide (((l.length : Nat) : Int) = 256) = true := decide_eq_true (by omega)
  have l1 : ∀ (rec : Rec) (fs : Frm) (v : St), (∀ y, v.getC y = u.getC y) → oLoad1 (.v (.pointer (some ⟨tb, 0 + 0, none⟩))) rec fs v = some (.slice (some ⟨sb, 0, none⟩) l.length c, v.seen tb) := fun rec fs v h => load1_e tb (0 + 0) _ _ rec fs v ((h tb).trans hv') rfl
  rw [k14, d14]
  unfold D14
  cases k with
  | zero =>
    have e5 : decide (0 < (((0 : Nat) : Int))) = false := rfl
    refine ⟨u.seen tb, ?_, r2.alike ⟨by simp only [St.seen_next], fun y => by simp only [seen_getC]⟩⟩
    simp (disch := first | omega | (intro y; simp only [seen_getC])) only [op2_s', op_s', op2_op, op2_op2, op2_cond, ev_v', call_r', map_c', map_n', bin_e', pick_e', not_e, ext_e', nth_z', nth_1', nth_2', nth_3', gval_e, gval_u', cmp_e, orUndef_t', orUndef_f', condV_t', condV_f', cond_true, cond_false, eqI_eq, neI_eq, ltI_eq, leI_eq, gtI_eq', geI_eq, Bool.not_true, Bool.not_false, beq_self_eq_true, tf_beq, ft_beq, eq_self, decide_true, decide_false, oneOf1, orU_some, e1, gtI_eq', e2, e3, e4, r1, e5, l1, nilCheck_e, fieldAddr_e, lenL_e, e8]
    try rfl
  | succ k =>
    have hk : k < l.length := r3.1
    have e5 : decide (0 < (((k + 1 : Nat) : Int))) = true := decide_eq_true (by omega)
    have e6 : int2 subO (.int .i64 ((k + 1 : Nat) : Int)) (.int .i64 1) = some (.int .i64 (k : Int)) := by
      rw [sub_e _ _ (by omega) (by omega)]
      congr 2
      omega
    have e7 : decide (l[k].1 = day) = false := decide_eq_false (hno k hk)
    have f0 : nth (flatV l) (0 + k * 2 + 0) = some (.int .i64 l[k].1) := by rw [Nat.zero_add, Nat.add_zero, flat_day l k hk]
    have l2 : ∀ (rec : Rec) (fs : Frm) (v : St), (∀ y, v.getC y = u.getC y) → oLoad1 (.v (.pointer (some ⟨sb, 0 + k * 2 + 0, none⟩))) rec fs v = some (.int .i64 l[k].1, v.seen sb) := fun rec fs v h => load1_e sb _ _ _ rec fs v ((h sb).trans hc') f0
    refine ⟨((u.seen tb).seen sb).seen tb, ?_, r2.alike ⟨by simp only [St.seen_next], fun y => by simp only [seen_getC]⟩⟩
    simp (disch := first | omega | (intro y; simp only [seen_getC])) only [op2_s', op_s', op2_op, op2_op2, op2_cond, ev_v', call_r', map_c', map_n', bin_e', pick_e', not_e, ext_e', nth_z', nth_1', nth_2', nth_3', gval_e, gval_u', cmp_e, orUndef_t', orUndef_f', condV_t', condV_f', cond_true, cond_false, eqI_eq, neI_eq, ltI_eq, leI_eq, gtI_eq', geI_eq, Bool.not_true, Bool.not_false, beq_self_eq_true, tf_beq, ft_beq, eq_self, decide_true, decide_false, oneOf1, orU_some, e1, gtI_eq', e2, e3, e4, r1, e5, e6, l1, nilCheck_e, fieldAddr_e, idxL_e, l2, e7, lenL_e, e8]
    try rfl
end Go.Proofs.Ythjhammjankekaa.AbsRatO
namespace Go.Proofs.Ythjhammjankekaa.AbsRatO
open Go Go.Abs Go.Proofs
set_option maxRecDepth 100000
set_option linter.unusedVariables false
set_option linter.unusedSimpArgs false
theorem read_e (s : St) (b o n : Nat) (c : Blk) (h : s.getC b = some c) (hn : o + n ≤ c.length) : s.read b o n = some ((c.drop o).take n, s.seen b) := by
  unfold St.read
  rw [h, op_s, lenN_eq, ble_eq', decide_eq_true hn, cond_true, takeN_eq, dropN_eq]
/-- slices.Insert of one step into no steps -/
theorem ins_nil (rec : Rec) (N : Nat) (s : St) (nb nc : Nat) (a b : Value) (h : s.getC nb = some [a, b]) (hn : s.next ≤ lim) (hm : isMapB [a, b] = false) :
    ∃ s', callF rec N c44 [.slice none 0 0, .int .i64 0, .slice (some ⟨nb, 0, none⟩) 1 nc] s = some (.slice (some ⟨s.next, 0, none⟩) 1 (UNK + 2), s') ∧ s'.next = s.next + 1 ∧ s'.getC s.next = some [a, b] ∧ ∀ y, y ≠ s.next → s'.getC y = s.getC y := by
  obtain ⟨s', r1, r2, r3, r4⟩ := alloc_e (s.seen nb) [a, b] (by rw [St.seen_next]; exact hn) hm
  rw [St.seen_next] at r1 r2 r3 r4
  refine ⟨s', ?_, r2, r3, fun y hy => (r4 y hy).trans (seen_getC _ _ _)⟩
  have x1 : oSliceL 2 (.v (.slice none 0 0)) (some (.v (.int .i64 0))) none none rec PT.nil s = some (.slice none 0 0, s) := by kernel_rfl
  have x2 : oAppend 2 16 (.v (.slice none 0 0)) (.v (.slice (some ⟨nb, 0, none⟩) 1 nc)) rec PT.nil s = some (.slice (some ⟨s.next, 0, none⟩) 1 (UNK + 2), s') := by
    show opt (opt2 (s.read nb 0 (1 * 2)) fun c s => some (1, c, s)) (fun r => appendTo r.2.2 2 16 none 0 0 r.1 r.2.1) = _
    rw [read_e s nb 0 (1 * 2) [a, b] h (by simp), op2_s', op_s']
    show newSlice (s.seen nb) 2 1 [a, b] = _
    unfold newSlice
    rw [r1]
    rfl
  have e1 : decide (((1 : Nat) : Int) = 0) = false := rfl
  have e2 : decide ((0 : Int) = ((0 : Nat) : Int)) = true := rfl
  rw [d44]
  unfold D44
  simp only [op2_s', op_s', op2_op, op2_op2, op2_cond, ev_v', call_r', map_c', map_n', bin_e', pick_e', not_e, ext_e', nth_z', nth_1', nth_2', nth_3', gval_e, gval_u', cmp_e, orUndef_t', orUndef_f', condV_t', condV_f', cond_true, cond_false, eqI_eq, neI_eq, ltI_eq, leI_eq, gtI_eq', geI_eq, Bool.not_true, Bool.not_false, beq_self_eq_true, tf_beq, ft_beq, eq_self, decide_true, decide_false, oneOf1, orU_some, x1, lenL_e, e1, e2, x2]
  try rfl
end Go.Proofs.Ythjhammjankekaa.AbsRatO
namespace Go.Proofs.Ythjhammjankekaa.AbsRatO
open Go Go.Abs Go.Proofs
set_option maxRecDepth 100000
set_option linter.unusedVariables false
set_option linter.unusedSimpArgs false
theorem flat_app (l m : List (Int × Int)) : flatV (l ++ m) = flatV l ++ flatV m := by
  induction l with
  | nil => rfl
  | cons p l ih => show _ :: _ :: flatV (l ++ m) = _; rw [ih]; rfl
/-- slices.Insert of one step behind the steps there are -/
theorem ins_end (rec : Rec) (N : Nat) (s : St) (sb nb nc : Nat) (l : List (Int × Int)) (p : Int × Int) (hl : l.length ≤ 1000) (hpos : l ≠ []) (h : s.getC nb = some (flatV [p])) (hc : s.getC sb = some (flatV l)) (hne : nb ≠ sb) (hsb : sb < s.next) (hn : s.next ≤ lim) :
    ∃ s', callF rec N c44 [.slice (some ⟨sb, 0, none⟩) l.length (UNK + 2), .int .i64 (l.length : Int), .slice (some ⟨nb, 0, none⟩) 1 nc] s = some (.slice (some ⟨s.next, 0, none⟩) (l.length + 1) (UNK + 2), s') ∧ s'.next = s.next + 1 ∧ s'.getC s.next = some (flatV (l ++ [p])) ∧ ∀ y, y ≠ s.next → y ≠ sb → s'.getC y = s.getC y := by
  obtain ⟨s', r1, r2, r3, r4⟩ := alloc_e ((s.seen nb).set sb none) (flatV (l ++ [p])) (by rw [St.set_next, St.seen_next]; exact hn) (flat_map _ (by simp))
  rw [St.set_next, St.seen_next] at r1 r2 r3 r4
  have hoth : ∀ y, y ≠ sb → ((s.seen nb).set sb none).getC y = s.getC y := by
    intro y hy
    rw [← seen_getC s nb y]
    unfold St.getC
    rw [St.get_set _ _ _ _ (by have : lim = 1000000000 := rfl; have : (2:Nat) ^ 40 = 1099511627776 := rfl; omega), if_neg hy]
  refine ⟨s', ?_, r2, r3, fun y hy hy' => (r4 y hy).trans (hoth y hy')⟩
  have hb : Nat.blt (UNK + 2) UNK = false := by
    have : UNK = 18446744073709551616 := rfl
    rw [this]; rfl
  have hq : Nat.beq (UNK + 2) (UNK + 2) = true := Nat.beq_refl _
  have x1 : oSliceL 2 (.v (.slice (some ⟨sb, 0, none⟩) l.length (UNK + 2))) (some (.v (.int .i64 (l.length : Int)))) none none rec PT.nil s = some (.slice (some (addA ⟨sb, 0, none⟩ (l.length * 2))) 0 (UNK + 2), s) := by
    have bd : boundD PT.nil (some (.v (.int .i64 (l.length : Int)))) l.length 0 = some l.length := by
      show (bif Nat.ble l.length l.length then force l.length some else none) = _
      rw [ble_eq', decide_eq_true (Nat.le_refl _), cond_true, force_eq]
    have b0 : boundD PT.nil none l.length l.length = some l.length := rfl
    have z : Nat.beq 2 0 = false := rfl
    simp only [oSliceL, ev_v', hb, hq, z, cond_false, cond_true, Bool.not_true, b0, bd, op_s', force_eq, Nat.sub_self]
    try rfl
  have e1 : decide (((1 : Nat) : Int) = 0) = false := rfl
  have e2 : decide (((l.length : Nat) : Int) = ((l.length : Nat) : Int)) = true := decide_eq_true rfl
  have x2 : oAppend 2 16 (.v (.slice (some ⟨sb, 0, none⟩) l.length (UNK + 2))) (.v (.slice (some ⟨nb, 0, none⟩) 1 nc)) rec PT.nil s = some (.slice (some ⟨s.next, 0, none⟩) (l.length + 1) (UNK + 2), s') := by
    show opt (opt2 (s.read nb 0 (1 * 2)) fun c s => some (1, c, s)) (fun r => appendTo r.2.2 2 16 (some ⟨sb, 0, none⟩) l.length (UNK + 2) r.1 r.2.1) = _
    rw [read_e s nb 0 (1 * 2) (flatV [p]) h (by simp [flatV]), op2_s', op_s']
    show appendTo (s.seen nb) 2 16 (some ⟨sb, 0, none⟩) l.length (UNK + 2) 1 (flatV [p]) = _
    have hf : fits (l.length + 1) 16 = true := by
      unfold fits
      rw [ble_eq', ble_eq', decide_eq_true (by omega), decide_eq_true (by omega)]
      rfl
    have c1 : Nat.ble (0 + l.length * 2 + lenN (flatV [p])) (lenN (flatV l)) = false := by
      rw [ble_eq', lenN_eq, lenN_eq, flat_len, flat_len]
      exact decide_eq_false (by simp)
    have c2 : Nat.ble (0 + l.length * 2) (lenN (flatV l)) = true := by
      rw [ble_eq', lenN_eq, flat_len]
      exact decide_eq_true (by omega)
    have c3 : app (takeN (l.length * 2) (dropN 0 (flatV l))) (flatV [p]) = flatV (l ++ [p]) := by
      rw [app_eq, takeN_eq, dropN_eq, List.drop_zero, List.take_of_length_le (by rw [flat_len]; omega), flat_app]
    unfold appendTo
    rw [hf, hb, hq]
    show opt ((s.seen nb).getC sb) _ = _
    rw [seen_getC, hc, op_s']
    show (bif Nat.ble (0 + l.length * 2 + lenN (flatV [p])) (lenN (flatV l)) then _ else bif Nat.ble (0 + l.length * 2) (lenN (flatV l)) then newSlice ((s.seen nb).set sb none) 2 (l.length + 1) (app (takeN (l.length * 2) (dropN 0 (flatV l))) (flatV [p])) else none) = _
    rw [c1, c2, c3, cond_false, cond_true]
    unfold newSlice
    rw [r1]
    rfl
  rw [d44]
  unfold D44
  simp only [op2_s', op_s', op2_op, op2_op2, op2_cond, ev_v', call_r', map_c', map_n', bin_e', pick_e', not_e, ext_e', nth_z', nth_1', nth_2', nth_3', gval_e, gval_u', cmp_e, orUndef_t', orUndef_f', condV_t', condV_f', cond_true, cond_false, eqI_eq, neI_eq, ltI_eq, leI_eq, gtI_eq', geI_eq, Bool.not_true, Bool.not_false, beq_self_eq_true, tf_beq, ft_beq, eq_self, decide_true, decide_false, oneOf1, orU_some, x1, lenL_e, e1, e2, x2]
  try rfl
end Go.Proofs.Ythjhammjankekaa.AbsRatO
