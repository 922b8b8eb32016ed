import Derived.Test.YtdnedangfnincaaDecAccO
import Derived.Test.YtdnedangfnincaaXAccO
import Derived.Test.YtdnedangfnincaaAbsZN
namespace Go.Proofs.Ytdnedangfnincaa.AbsAccO.R
open Go Go.Abs Go.Proofs
set_option maxRecDepth 100000
set_option linter.unusedVariables false
set_option linter.unusedSimpArgs false
theorem nr {α : Type} {a b : α} (h : a = b) : a = b := h
theorem op2_s' {α β γ : Type} (a : α) (b : β) (k : α → β → Option γ) : opt2 (some (a, b)) k = k a b := nr rfl
theorem op_s' {α β : Type} (a : α) (k : α → Option β) : opt (some a) k = k a := nr rfl
theorem ev_v' (fs : Frm) (v : Value) : ev fs (.v v) = v := nr rfl
theorem call_r' (f : FuncId) (args : List Arg) (rec : Rec) (fs : Frm) (s : St) : oCall f args rec fs s = rec f (mapN (ev fs) args) s := nr rfl
theorem map_c' {α β : Type} (f : α → β) (x : α) (l : List α) : mapN f (x :: l) = f x :: mapN f l := nr rfl
theorem map_n' {α β : Type} (f : α → β) : mapN f [] = [] := nr rfl
theorem bin_e' (f : Value → Value → Option Value) (x y : Value) (rec : Rec) (fs : Frm) (s : St) : oBin f (.v x) (.v y) rec fs s = opt (f x y) fun v => some (v, s) := nr rfl
theorem pick_e' (b : Bool) (x y : Value) (rec : Rec) (fs : Frm) (s : St) : oPick (.v (.bool b)) (.v x) (.v y) rec fs s = some (bif b then x else y, s) := nr rfl
theorem ext_e' (l : List Value) (i : Nat) (rec : Rec) (fs : Frm) (s : St) : oExtract (.v (tupOf l)) i rec fs s = opt (nth l i) fun v => some (v, s) := nr rfl
theorem nth_z' {α : Type} (x : α) (l : List α) : nth (x :: l) 0 = some x := nr rfl
theorem nth_1' {α : Type} (x y : α) (l : List α) : nth (x :: y :: l) 1 = some y := nr rfl
theorem nth_2' {α : Type} (x y z : α) (l : List α) : nth (x :: y :: z :: l) 2 = some z := nr rfl
theorem nth_3' {α : Type} (x y z u : α) (l : List α) : nth (x :: y :: z :: u :: l) 3 = some u := nr rfl
theorem orUndef_t' (x : Out) (s : St) : orUndef true x s = x := nr rfl
theorem orUndef_f' (x : Out) (s : St) : orUndef false x s = some (undef, s) := nr rfl
theorem condV_t' {α : Type} (A B : Option α) : condV (.bool true) A B = A := nr rfl
theorem condV_f' {α : Type} (A B : Option α) : condV (.bool false) A B = B := nr rfl
theorem gval_u' (w : Bool) : gval w undef = some false := nr rfl
theorem thenX_n' (k : Frm → St → OutX) (fs : Frm) (s : St) : thenX k .norm (fs, s) = k fs s := nr rfl
theorem thenX_e' (k : Frm → St → OutX) (i : Nat) (r : Frm × St) : thenX k (.exit i) r = some (.exit i, r) := nr rfl
theorem thenX_r' (k : Frm → St → OutX) (r : Frm × St) : thenX k .ret r = some (.ret, r) := nr rfl
theorem finX_r' (rs : List ARes) (fs : Frm) (s : St) : finX rs .ret (fs, s) = opt2 (Abs.results fs rs s) fun vs s => some (oneOf vs, s) := nr rfl
theorem finX_n' (rs : List ARes) (fs : Frm) (s : St) : finX rs .norm (fs, s) = opt2 (Abs.results fs rs s) fun vs s => some (oneOf vs, s) := nr rfl
theorem oneOf1 (v : Value) : oneOf [v] = v := nr rfl
theorem orU_some (v : Value) : orU (some v) = v := nr rfl
theorem tf_beq : (true == false) = false := nr rfl
theorem ft_beq : (false == true) = false := nr rfl
theorem gtI_eq' (a b : Int) : gtI a b = decide (b < a) := ltI_eq b a
/-- states alike but for what was looked at -/
def Alike (s s' : St) : Prop := s'.next = s.next ∧ ∀ y, s'.getC y = s.getC y
theorem behind1 (rec : Rec) (N : Nat) (s : St) (pb db tb sb n c i : Nat) (cells : Blk) (d day : Int) (h1 : s.getC pb = some [.pointer (some ⟨tb, 0, none⟩)]) (h2 : s.getC db = some [.int .i64 day]) (h3 : s.getC tb = some [.slice (some ⟨sb, 0, none⟩) n c]) (h4 : s.getC sb = some cells) (hi : i < n) (h5 : nth cells (i * 2) = some (.int .i64 d)) :
    ∃ s', callF rec N c74 [.int .i64 (i : Int), .pointer (some ⟨pb, 0, none⟩), .pointer (some ⟨db, 0, none⟩)] s = some (.bool (decide (day < d)), s') ∧ Alike s s' := by
  have l1 : ∀ u : St, (∀ y, u.getC y = s.getC y) → oLoad1 (.v (.pointer (some ⟨pb, 0, none⟩))) rec PT.nil u = some (.pointer (some ⟨tb, 0, none⟩), u.seen pb) := fun u hu => load1_e pb 0 _ _ rec PT.nil u ((hu pb).trans h1) rfl
  have l2 : ∀ u : St, (∀ y, u.getC y = s.getC y) → oLoad1 (.v (.pointer (some ⟨db, 0, none⟩))) rec PT.nil u = some (.int .i64 day, u.seen db) := fun u hu => load1_e db 0 _ _ rec PT.nil u ((hu db).trans h2) rfl
  have l3 : ∀ u : St, (∀ y, u.getC y = s.getC y) → oLoad1 (.v (.pointer (some ⟨tb, 0 + 0, none⟩))) rec PT.nil u = some (.slice (some ⟨sb, 0, none⟩) n c, u.seen tb) := fun u hu => load1_e tb 0 _ _ rec PT.nil u ((hu tb).trans h3) rfl
  have l4 : ∀ u : St, (∀ y, u.getC y = s.getC y) → oLoad1 (.v (.pointer (some ⟨sb, 0 + i * 2 + 0, none⟩))) rec PT.nil u = some (.int .i64 d, u.seen sb) := fun u hu => by
    rw [show 0 + i * 2 + 0 = i * 2 by omega]
    exact load1_e sb (i * 2) _ _ rec PT.nil u ((hu sb).trans h4) h5
  rw [d74]
  unfold D74
  simp (disch := first | omega | (intro y; simp only [s0_getC, seen_getC])) only [op2_s', op_s', op2_op, op2_op2, op2_cond, ev_v', call_r', map_c', map_n', bin_e', pick_e', not_e, ext_e', nth_z', nth_1', nth_2', nth_3', gval_e, gval_u', cmp_e, orUndef_t', orUndef_f', condV_t', condV_f', cond_true, cond_false, eqI_eq, neI_eq, ltI_eq, leI_eq, gtI_eq', geI_eq, Bool.not_true, Bool.not_false, beq_self_eq_true, tf_beq, ft_beq, eq_self, decide_true, decide_false, oneOf1, orU_some, l1, l2, l3, l4, rU_p, rU_l, nilCheck_e, fieldAddr_e, idxL_e, mov_f]
  rw [apart0 _ (by simp) _ (by simp)]
  exact ⟨_, rfl, by simp only [St.seen_next], fun y => by simp only [seen_getC]⟩
theorem Alike.refl (s : St) : Alike s s := ⟨rfl, fun _ => rfl⟩
theorem callV_e (g : FuncId) (a b : List Value) (args : List Arg) (rec : Rec) (fs : Frm) (s : St) : oCallV (.v (.func (.func g) ⟨a⟩ ⟨b⟩)) args rec fs s = rec g (app a (app (mapN (ev fs) args) b)) s := nrfl rfl
theorem convU_e (m : Nat) (rec : Rec) (fs : Frm) (s : St) (h : m < 18446744073709551616) : oConv .u64 (.v (.int .i64 (m : Int))) rec fs s = some (.int .u64 (m : Int), s) := by
  show (opt (mkInt .u64 (m : Int)) fun v => some (v, s)) = _
  rw [mkInt_eq, op_s]
  congr 3
  exact Abs.wrap_small .u64 m (by simp [topOf]; omega)
theorem convI_e (m : Nat) (rec : Rec) (fs : Frm) (s : St) (h : m < 9223372036854775808) : oConv .i64 (.v (.int .u64 (m : Int))) rec fs s = some (.int .i64 (m : Int), s) := by
  show (opt (mkInt .i64 (m : Int)) fun v => some (v, s)) = _
  rw [mkInt_eq, op_s]
  congr 3
  exact Abs.wrap_small .i64 m (by simp [topOf]; omega)
theorem shr1_e (m : Nat) : sh2 shrO (.int .u64 (m : Int)) (.int .u64 1) = some (.int .u64 ((m / 2 : Nat) : Int)) := by
  show (bif ltI 1 0 then none else setI .u64 ((m : Int).fdiv (2 ^ (min (1 : Int).toNat IntKind.u64.bits)))) = _
  have e : (2 : Int) ^ (min (1 : Int).toNat IntKind.u64.bits) = 2 := by decide
  rw [e, Int.fdiv_eq_ediv_of_nonneg _ (by decide)]
  show setI .u64 ((m : Int) / 2) = _
  unfold setI
  rw [forceI_eq]
  rfl
theorem searchL (rec : Rec) (N : Nat) (s : St) (g : FuncId) (cap : List Value) (P : Nat → Bool) (n : Nat) (hn : n ≤ 1000000) (hP : ∀ i, i < n → ∀ u, Alike s u → ∃ u', rec g (.int .i64 (i : Int) :: cap) u = some (.bool (P i), u') ∧ Alike s u') (mono : ∀ i j, i ≤ j → j < n → P i = true → P j = true) :
    ∀ (fuel i j : Nat) (fs : Frm) (u : St), Alike s u → fs.get t5 = some (.int .i64 (i : Int)) → fs.get t6 = some (.int .i64 (j : Int)) → fs.get t1 = some (.func (.func g) ⟨[]⟩ ⟨cap⟩) → i ≤ j → j ≤ n → (∀ x, x < i → P x = false) → (∀ x, j ≤ x → x < n → P x = true) → j - i < fuel →
    ∃ fs' u' k, loopF (c73_l0 rec N) fuel fs u = some (.exit 0, fs', u') ∧ Alike s u' ∧ fs'.get t5 = some (.int .i64 ((k : Nat) : Int)) ∧ k ≤ n ∧ (∀ x, x < k → P x = false) ∧ (∀ x, k ≤ x → x < n → P x = true) := by
  intro fuel
  induction fuel with
  | zero => intro i j fs u _ _ _ _ _ _ _ _ h; omega
  | succ fuel ih =>
    intro i j fs u hu h5 h6 h1 hij hjn hlo hhi hf
    rw [loop_s, d73_l0]
    unfold D73_l0
    by_cases hlt : i < j
    · have e1 : decide ((i : Int) < (j : Int)) = true := decide_eq_true (by omega)
      have hadd : int2 addO (.int .i64 (i : Int)) (.int .i64 (j : Int)) = some (.int .i64 ((i + j : Nat) : Int)) := by
        rw [add_e _ _ (by omega) (by omega)]; simp
      obtain ⟨u', hc, hu'⟩ := hP ((i + j) / 2) (by omega) u hu
      cases hp : P ((i + j) / 2) with
      | false =>
        rw [hp] at hc
        simp (disch := omega) only [op2_s', op_s', op2_op, op2_op2, op2_cond, ev_v', call_r', map_c', map_n', bin_e', pick_e', not_e, ext_e', nth_z', nth_1', nth_2', nth_3', gval_e, gval_u', cmp_e, orUndef_t', orUndef_f', condV_t', condV_f', cond_true, cond_false, eqI_eq, neI_eq, ltI_eq, leI_eq, gtI_eq', geI_eq, Bool.not_true, Bool.not_false, beq_self_eq_true, tf_beq, ft_beq, eq_self, decide_true, decide_false, oneOf1, orU_some, h5, h6, h1, e1, hadd, convU_e, shr1_e, convI_e, callV_e, app_eq, List.nil_append, List.cons_append, hc, add_e, thenX_n']
        obtain ⟨fs', w, k, r1, r2, r3, r4, r5, r6⟩ := ih ((i + j) / 2 + 1) j _ u' hu' (by kernel_rfl) ((by kernel_rfl : _ = fs.get t6).trans h6) ((by kernel_rfl : _ = fs.get t1).trans h1) (by omega) hjn (fun x hx => by
          cases hq : P x with
          | false => rfl
          | true => rw [mono x ((i + j) / 2) (by omega) (by omega) hq] at hp; cases hp) hhi (by omega)
        exact ⟨fs', w, k, r1, r2, r3, r4, r5, r6⟩
      | true =>
        rw [hp] at hc
        simp (disch := omega) only [op2_s', op_s', op2_op, op2_op2, op2_cond, ev_v', call_r', map_c', map_n', bin_e', pick_e', not_e, ext_e', nth_z', nth_1', nth_2', nth_3', gval_e, gval_u', cmp_e, orUndef_t', orUndef_f', condV_t', condV_f', cond_true, cond_false, eqI_eq, neI_eq, ltI_eq, leI_eq, gtI_eq', geI_eq, Bool.not_true, Bool.not_false, beq_self_eq_true, tf_beq, ft_beq, eq_self, decide_true, decide_false, oneOf1, orU_some, h5, h6, h1, e1, hadd, convU_e, shr1_e, convI_e, callV_e, app_eq, List.nil_append, List.cons_append, hc, add_e, thenX_n']
        obtain ⟨fs', w, k, r1, r2, r3, r4, r5, r6⟩ := ih i ((i + j) / 2) _ u' hu' ((by kernel_rfl : _ = fs.get t5).trans h5) (by kernel_rfl) ((by kernel_rfl : _ = fs.get t1).trans h1) (by omega) (by omega) hlo (fun x h1 h2 => mono _ x h1 h2 hp) (by omega)
        exact ⟨fs', w, k, r1, r2, r3, r4, r5, r6⟩
    · have e1 : decide ((i : Int) < (j : Int)) = false := decide_eq_false (by omega)
      simp only [op2_s', op_s', op2_op, op2_op2, op2_cond, ev_v', call_r', map_c', map_n', bin_e', pick_e', not_e, ext_e', nth_z', nth_1', nth_2', nth_3', gval_e, gval_u', cmp_e, orUndef_t', orUndef_f', condV_t', condV_f', cond_true, cond_false, eqI_eq, neI_eq, ltI_eq, leI_eq, gtI_eq', geI_eq, Bool.not_true, Bool.not_false, beq_self_eq_true, tf_beq, ft_beq, eq_self, decide_true, decide_false, oneOf1, orU_some, h5, h6, e1, thenX_e']
      exact ⟨_, u, i, rfl, hu, (by kernel_rfl : _ = fs.get t5).trans h5, by omega, hlo, fun x h1 h2 => hhi x (by omega) h2⟩
theorem search (rec : Rec) (N : Nat) (s : St) (g : FuncId) (cap : List Value) (P : Nat → Bool) (n : Nat) (hN : n < N) (hn : n ≤ 1000000) (hP : ∀ i, i < n → ∀ u, Alike s u → ∃ u', rec g (.int .i64 (i : Int) :: cap) u = some (.bool (P i), u') ∧ Alike s u') (mono : ∀ i j, i ≤ j → j < n → P i = true → P j = true) :
    ∃ (k : Nat) (u' : St), callF rec N c73 [.int .i64 (n : Int), .func (.func g) ⟨[]⟩ ⟨cap⟩] s = some (.int .i64 (k : Int), u') ∧ Alike s u' ∧ k ≤ n ∧ (∀ x, x < k → P x = false) ∧ (∀ x, k ≤ x → x < n → P x = true) := by
  rw [d73]
  unfold D73
  obtain ⟨fs', u', k, r1, r2, r3, r4, r5, r6⟩ := searchL rec N s g cap P n hn hP mono N 0 n (PT.put (.int .i64 (n : Int)) t6 (PT.put (.int .i64 0) t5 (PT.put (.int .i64 (n : Int)) t8 (PT.put (.int .i64 0) t4 (PT.put (.func (.func g) ⟨[]⟩ ⟨cap⟩) t1 (PT.put (.int .i64 (n : Int)) t0 PT.nil)))))) s (Alike.refl s) (by kernel_rfl) (by kernel_rfl) (by kernel_rfl) (by omega) (Nat.le_refl _) (fun x hx => by omega) (fun x h1 h2 => by omega) (by omega)
  refine ⟨k, u', ?_, r2, r4, r5, r6⟩
  rw [r1]
  simp only [op2_s', op_s', op2_op, op2_op2, op2_cond, ev_v', call_r', map_c', map_n', bin_e', pick_e', not_e, ext_e', nth_z', nth_1', nth_2', nth_3', gval_e, gval_u', cmp_e, orUndef_t', orUndef_f', condV_t', condV_f', cond_true, cond_false, eqI_eq, neI_eq, ltI_eq, leI_eq, gtI_eq', geI_eq, Bool.not_true, Bool.not_false, beq_self_eq_true, tf_beq, ft_beq, eq_self, decide_true, decide_false, oneOf1, orU_some, blkX_e, Nat.beq_refl, thenX_n']
  rw [d73_r0]
  unfold D73_r0
  rw [r3]
  kernel_rfl
/-- the cells of steps -/
def flatV : List (Int × Int) → List Value
  | [] => []
  | p :: l => .int .i64 p.1 :: .int .i64 p.2 :: flatV l
theorem flat_len : ∀ l : List (Int × Int), (flatV l).length = l.length * 2
  | [] => rfl
  | p :: l => by simp [flatV, flat_len l]; omega
theorem flat_day : ∀ (l : List (Int × Int)) (i : Nat) (h : i < l.length), nth (flatV l) (i * 2) = some (.int .i64 l[i].1)
  | p :: l, 0, _ => rfl
  | p :: l, i + 1, h => by
    have := flat_day l i (by simpa using h)
    rw [show (i + 1) * 2 = i * 2 + 1 + 1 by omega]
    exact this
theorem flat_rate : ∀ (l : List (Int × Int)) (i : Nat) (h : i < l.length), nth (flatV l) (i * 2 + 1) = some (.int .i64 l[i].2)
  | p :: l, 0, _ => rfl
  | p :: l, i + 1, h => by
    have := flat_rate l i (by simpa using h)
    rw [show (i + 1) * 2 + 1 = i * 2 + 1 + 1 + 1 by omega]
    exact this
/-- a table's slice -/
def Slc (s : St) (v : Value) (l : List (Int × Int)) : Prop :=
  (l = [] ∧ v = .slice none 0 0) ∨ ∃ sb c, v = .slice (some ⟨sb, 0, none⟩) l.length c ∧ sb < s.next ∧ s.getC sb = some (flatV l)
/-- the table at tb holds the steps l -/
def TabAt (s : St) (tb : Nat) (l : List (Int × Int)) : Prop := tb < s.next ∧ ∃ v, s.getC tb = some [v] ∧ Slc s v l
/-- a state with more memory; what was there is as it was -/
def Grew (k : Nat) (s s' : St) : Prop := s.next ≤ s'.next ∧ s'.next ≤ s.next + k ∧ ∀ y, y < s.next → s'.getC y = s.getC y
def Sorted (l : List (Int × Int)) : Prop := ∀ i j (hi : i < l.length) (hj : j < l.length), i ≤ j → l[i].1 ≤ l[j].1
theorem k74 (M : Nat) (a b c : Value) (s : St) : callN E (M + 1) 74 [a, b, c] s = callF (callN E M) M c74 [a, b, c] s := by kernel_rfl
theorem k73 (M : Nat) (a b : Value) (s : St) : callN E (M + 1) 73 [a, b] s = callF (callN E M) M c73 [a, b] s := by kernel_rfl
theorem k56 (M : Nat) (a b : Value) (s : St) : callN E (M + 1) 56 [a, b] s = callF (callN E M) M c56 [a, b] s := by kernel_rfl
/-- how many steps are not behind a day -/
def Behind (l : List (Int × Int)) (day : Int) (k : Nat) : Prop := k ≤ l.length ∧ (∀ x (h : x < l.length), x < k → l[x].1 ≤ day) ∧ (∀ x (h : x < l.length), k ≤ x → day < l[x].1)
theorem Alike.trans {a b c : St} (h : Alike a b) (k : Alike b c) : Alike a c := ⟨k.1.trans h.1, fun y => (k.2 y).trans (h.2 y)⟩
theorem search_days (M : Nat) (hM : 2000 ≤ M) (s : St) (pb db tb sb c : Nat) (l : List (Int × Int)) (day : Int) (hl : l.length ≤ 1000) (hs : Sorted l) (h1 : s.getC pb = some [.pointer (some ⟨tb, 0, none⟩)]) (h2 : s.getC db = some [.int .i64 day]) (h3 : s.getC tb = some [.slice (some ⟨sb, 0, none⟩) l.length c]) (h4 : s.getC sb = some (flatV l)) :
    ∃ (k : Nat) (u' : St), callN E (M + 2) 73 [.int .i64 (l.length : Int), .func (.func 74) ⟨[]⟩ ⟨[.pointer (some ⟨pb, 0, none⟩), .pointer (some ⟨db, 0, none⟩)]⟩] s = some (.int .i64 (k : Int), u') ∧ Alike s u' ∧ Behind l day k := by
  obtain ⟨k, u', r1, r2, r3, r4, r5⟩ := search (callN E (M + 1)) (M + 1) s 74 [.pointer (some ⟨pb, 0, none⟩), .pointer (some ⟨db, 0, none⟩)] (fun i => if h : i < l.length then decide (day < l[i].1) else true) l.length (by omega) (by omega)
    (fun i hi u hu => by
      obtain ⟨u', e1, e2⟩ := behind1 (callN E M) M u pb db tb sb l.length c i (flatV l) l[i].1 day ((hu.2 _).trans h1) ((hu.2 _).trans h2) ((hu.2 _).trans h3) ((hu.2 _).trans h4) hi (flat_day l i hi)
      refine ⟨u', ?_, hu.trans e2⟩
      rw [k74, e1]
      simp only [hi, dif_pos])
    (fun i j hij hj hp => by
      have hi : i < l.length := by omega
      simp only [hi, hj, dif_pos, decide_eq_true_eq] at hp ⊢
      have := hs i j hi hj hij
      omega)
  refine ⟨k, u', by rw [k73]; exact r1, r2, r3, fun x h hx => ?_, fun x h hx => ?_⟩
  · have := r4 x hx
    simp only [h, dif_pos, decide_eq_false_iff_not] at this
    omega
  · have := r5 x hx h
    simpa only [h, dif_pos, decide_eq_true_eq] using this
theorem func_e (f : Fn) (a b : List Arg) (rec : Rec) (fs : Frm) (s : St) : oFunc f a b rec fs s = some (.func f ⟨mapN (ev fs) a⟩ ⟨mapN (ev fs) b⟩, s) := nr rfl
theorem Grew.alike {k : Nat} {a b c : St} (h : Grew k a b) (h' : Alike b c) : Grew k a c :=
  ⟨by have := h.1; have := h'.1; omega, by have := h.2.1; have := h'.1; omega, fun y hy => (h'.2 y).trans (h.2.2 y hy)⟩
theorem behind (M : Nat) (hM : 2000 ≤ M) (s : St) (tb : Nat) (l : List (Int × Int)) (day : Int) (hl : l.length ≤ 1000) (hs : Sorted l) (ht : TabAt s tb l) (hn : s.next + 1 ≤ lim) :
    ∃ (k : Nat) (u' : St), callN E (M + 3) 56 [.pointer (some ⟨tb, 0, none⟩), .int .i64 day] s = some (.int .i64 (k : Int), u') ∧ Grew 2 s u' ∧ Behind l day k := by
  obtain ⟨htb, v, hv, hsl⟩ := ht
  obtain ⟨s1, a1, n1, g1, o1⟩ := alloc_e s [.pointer (some ⟨tb, 0, none⟩)] (by omega) rfl
  obtain ⟨s2, a2, n2, g2, o2⟩ := alloc_e s1 [.int .i64 day] (by omega) rfl
  have b1 := fun rec fs => box1_e (.pointer (some ⟨tb, 0, none⟩)) rec fs s s1 rfl a1
  have b2 := fun rec fs => box1_e (.int .i64 day) rec fs s1 s2 rfl a2
  have old : ∀ y, y < s.next → s2.getC y = s.getC y := fun y hy => (o2 y (by omega)).trans (o1 y (by omega))
  have p1 : s2.getC s.next = some [.pointer (some ⟨tb, 0, none⟩)] := (o2 _ (by omega)).trans g1
  have l1 := fun rec fs => load1_e s.next 0 _ _ rec fs s2 p1 rfl
  have l2 := fun rec fs => load1_e tb (0 + 0) _ _ rec fs (s2.seen s.next) ((seen_getC _ _ _).trans ((old tb htb).trans hv)) rfl
  have al : Alike s2 ((s2.seen s.next).seen tb) := ⟨by simp only [St.seen_next], fun y => by simp only [seen_getC]⟩
  have gr : Grew 2 s s2 := ⟨by omega, by omega, old⟩
  rw [k56, d56]
  unfold D56
  rcases hsl with ⟨rfl, rfl⟩ | ⟨sb, c, rfl, hsb, hc⟩
  · obtain ⟨k, u', r1, r2, r3, r4, r5⟩ := search (callN E (M + 1)) (M + 1) ((s2.seen s.next).seen tb) 74 [.pointer (some ⟨s.next, 0, none⟩), .pointer (some ⟨s1.next, 0, none⟩)] (fun i => true) 0 (by omega) (by omega)
      (fun i hi => absurd hi (by omega)) (fun i j _ hj => absurd hj (by omega))
    refine ⟨k, u', ?_, gr.alike (al.trans r2), r3, fun x h => absurd h (by simp), fun x h => absurd h (by simp)⟩
    simp only [op2_s', op_s', op2_op, op2_op2, op2_cond, ev_v', call_r', map_c', map_n', bin_e', pick_e', not_e, ext_e', nth_z', nth_1', nth_2', nth_3', gval_e, gval_u', cmp_e, orUndef_t', orUndef_f', condV_t', condV_f', cond_true, cond_false, eqI_eq, neI_eq, ltI_eq, leI_eq, gtI_eq', geI_eq, Bool.not_true, Bool.not_false, beq_self_eq_true, tf_beq, ft_beq, eq_self, decide_true, decide_false, oneOf1, orU_some, b1, b2, l1, l2, nilCheck_e, fieldAddr_e, lenL_e, func_e]
    rw [← k73] at r1
    exact (congrArg (fun o => opt2 o fun x9 s => some (oneOf [x9], s)) r1)
  · obtain ⟨k, u', r1, r2, r3⟩ := search_days M hM ((s2.seen s.next).seen tb) s.next s1.next tb sb c l day hl hs ((al.2 _).trans p1) ((al.2 _).trans g2) ((al.2 _).trans ((old tb htb).trans hv)) ((al.2 _).trans ((old sb hsb).trans hc))
    refine ⟨k, u', ?_, gr.alike (al.trans r2), r3⟩
    simp only [op2_s', op_s', op2_op, op2_op2, op2_cond, ev_v', call_r', map_c', map_n', bin_e', pick_e', not_e, ext_e', nth_z', nth_1', nth_2', nth_3', gval_e, gval_u', cmp_e, orUndef_t', orUndef_f', condV_t', condV_f', cond_true, cond_false, eqI_eq, neI_eq, ltI_eq, leI_eq, gtI_eq', geI_eq, Bool.not_true, Bool.not_false, beq_self_eq_true, tf_beq, ft_beq, eq_self, decide_true, decide_false, oneOf1, orU_some, b1, b2, l1, l2, nilCheck_e, fieldAddr_e, lenL_e, func_e]
    exact (congrArg (fun o => opt2 o fun x9 s => some (oneOf [x9], s)) r1)
/-- the rate after k steps -/
def rateK (l : List (Int × Int)) : Nat → Int
  | 0 => 0
  | k + 1 => if h : k < l.length then l[k].2 else 0
theorem TabAt.grew {k : Nat} {s s' : St} {tb : Nat} {l : List (Int × Int)} (h : TabAt s tb l) (g : Grew k s s') : TabAt s' tb l := by
  obtain ⟨h1, v, h2, h3⟩ := h
  refine ⟨Nat.lt_of_lt_of_le h1 g.1, v, (g.2.2 _ h1).trans h2, ?_⟩
  rcases h3 with ⟨a, b⟩ | ⟨sb, c, a, b, d⟩
  · exact Or.inl ⟨a, b⟩
  · exact Or.inr ⟨sb, c, a, Nat.lt_of_lt_of_le b g.1, (g.2.2 _ b).trans d⟩
end Go.Proofs.Ytdnedangfnincaa.AbsAccO.R
namespace Go.Proofs.Ytdnedangfnincaa.AbsAccO.R
open Go Go.Abs Go.Proofs
set_option maxRecDepth 100000
set_option linter.unusedVariables false
set_option linter.unusedSimpArgs false
theorem k27 (M : Nat) (a b c : Value) (s : St) : callN E (M + 1) 27 [a, b, c] s = callF (callN E M) M c27 [a, b, c] s := by kernel_rfl
theorem flat_set : ∀ (l : List (Int × Int)) (k : Nat) (h : k < l.length) (r : Int), (flatV l).set (k * 2 + 1) (.int .i64 r) = flatV (l.set k (l[k].1, r))
  | p :: l, 0, _, r => rfl
  | p :: l, k + 1, h, r => by
    have := flat_set l k (by simpa using h) r
    rw [show (k + 1) * 2 + 1 = k * 2 + 1 + 1 + 1 by omega]
    show _ :: _ :: ((flatV l).set (k * 2 + 1) (.int .i64 r)) = _
    rw [this]
    rfl
theorem flat_map : ∀ l : List (Int × Int), l ≠ [] → isMapB (flatV l) = false
  | [], h => absurd rfl h
  | p :: l, _ => rfl
theorem put_day (M : Nat) (p : Value) (day rate : Int) (s : St) (h : day < 0 ∨ 109572 < day) : callN E (M + 1) 27 [p, .int .i64 day, .int .i64 rate] s = some (.int .i64 12, s) := by
  rw [k27, d27]
  unfold D27
  by_cases h0 : day < 0
  · have e1 : decide (day < 0) = true := decide_eq_true h0
    simp only [op2_s', op_s', op2_op, op2_op2, op2_cond, ev_v', call_r', map_c', map_n', bin_e', pick_e', not_e, ext_e', nth_z', nth_1', nth_2', nth_3', gval_e, gval_u', cmp_e, orUndef_t', orUndef_f', condV_t', condV_f', cond_true, cond_false, eqI_eq, neI_eq, ltI_eq, leI_eq, gtI_eq', geI_eq, Bool.not_true, Bool.not_false, beq_self_eq_true, tf_beq, ft_beq, eq_self, decide_true, decide_false, oneOf1, orU_some, e1]
    try rfl
  · have e1 : decide (day < 0) = false := decide_eq_false h0
    have e2 : decide (109572 < day) = true := decide_eq_true (by omega)
    simp only [op2_s', op_s', op2_op, op2_op2, op2_cond, ev_v', call_r', map_c', map_n', bin_e', pick_e', not_e, ext_e', nth_z', nth_1', nth_2', nth_3', gval_e, gval_u', cmp_e, orUndef_t', orUndef_f', condV_t', condV_f', cond_true, cond_false, eqI_eq, neI_eq, ltI_eq, leI_eq, gtI_eq', geI_eq, Bool.not_true, Bool.not_false, beq_self_eq_true, tf_beq, ft_beq, eq_self, decide_true, decide_false, oneOf1, orU_some, e1, gtI_eq', e2]
    try rfl
theorem put_rate (M : Nat) (p : Value) (day rate : Int) (s : St) (h : 0 ≤ day ∧ day ≤ 109572) (h' : rate < 0 ∨ 1000000000 < rate) : callN E (M + 1) 27 [p, .int .i64 day, .int .i64 rate] s = some (.int .i64 1, s) := by
  rw [k27, d27]
  unfold D27
  have e1 : decide (day < 0) = false := decide_eq_false (by omega)
  have e2 : decide (109572 < day) = false := decide_eq_false (by omega)
  by_cases h0 : rate < 0
  · have e3 : decide (rate < 0) = true := decide_eq_true h0
    simp only [op2_s', op_s', op2_op, op2_op2, op2_cond, ev_v', call_r', map_c', map_n', bin_e', pick_e', not_e, ext_e', nth_z', nth_1', nth_2', nth_3', gval_e, gval_u', cmp_e, orUndef_t', orUndef_f', condV_t', condV_f', cond_true, cond_false, eqI_eq, neI_eq, ltI_eq, leI_eq, gtI_eq', geI_eq, Bool.not_true, Bool.not_false, beq_self_eq_true, tf_beq, ft_beq, eq_self, decide_true, decide_false, oneOf1, orU_some, e1, gtI_eq', e2, e3]
    try rfl
  · have e3 : decide (rate < 0) = false := decide_eq_false h0
    have e4 : decide (1000000000 < rate) = true := decide_eq_true (by omega)
    simp only [op2_s', op_s', op2_op, op2_op2, op2_cond, ev_v', call_r', map_c', map_n', bin_e', pick_e', not_e, ext_e', nth_z', nth_1', nth_2', nth_3', gval_e, gval_u', cmp_e, orUndef_t', orUndef_f', condV_t', condV_f', cond_true, cond_false, eqI_eq, neI_eq, ltI_eq, leI_eq, gtI_eq', geI_eq, Bool.not_true, Bool.not_false, beq_self_eq_true, tf_beq, ft_beq, eq_self, decide_true, decide_false, oneOf1, orU_some, e1, gtI_eq', e2, e3, e4]
    try rfl
/-- Put at a day that has a step: its rate is replaced -/
theorem put_same (M : Nat) (hM : 2000 ≤ M) (s : St) (tb sb c : Nat) (l : List (Int × Int)) (day rate : Int) (hl : l.length ≤ 1000) (hs : Sorted l) (htb : tb < s.next) (hv : s.getC tb = some [.slice (some ⟨sb, 0, none⟩) l.length c]) (hsb : sb < s.next) (hc : s.getC sb = some (flatV l)) (hn : s.next + 1 ≤ lim) (hd : 0 ≤ day ∧ day ≤ 109572) (hr : 0 ≤ rate ∧ rate ≤ 1000000000) (k : Nat) (hB : Behind l day (k + 1)) (hk : k < l.length) (he : l[k].1 = day) (h8 : 8 ≤ sb) :
    ∃ u', callN E (M + 4) 27 [.pointer (some ⟨tb, 0, none⟩), .int .i64 day, .int .i64 rate] s = some (.int .i64 0, u') ∧ s.next ≤ u'.next ∧ u'.next ≤ s.next + 2 ∧ u'.getC sb = some (flatV (l.set k (day, rate))) ∧ ∀ y, y < s.next → y ≠ sb → u'.getC y = s.getC y := by
  obtain ⟨k', u, r1, r2, r3⟩ := behind M hM s tb l day hl hs ⟨htb, _, hv, Or.inr ⟨sb, c, rfl, hsb, hc⟩⟩ hn
  have hkk : k' = k + 1 := by
    obtain ⟨a1, a2, a3⟩ := hB
    obtain ⟨b1, b2, b3⟩ := r3
    rcases Nat.lt_trichotomy k' (k + 1) with h | h | h
    · have := b3 k hk (by omega); omega
    · exact h
    · have x1 := b2 (k + 1) (by omega) h
      have x2 := a3 (k + 1) (by omega) (Nat.le_refl _)
      omega
  subst hkk
  have hv' := (r2.2.2 tb htb).trans hv
  have hc' := (r2.2.2 sb hsb).trans hc
  have e1 : decide (day < 0) = false := decide_eq_false (by omega)
  have e2 : decide (109572 < day) = false := decide_eq_false (by omega)
  have e3 : decide (rate < 0) = false := decide_eq_false (by omega)
  have e4 : decide (1000000000 < rate) = false := decide_eq_false (by omega)
  have e5 : decide (0 < (((k + 1 : Nat) : Int))) = true := decide_eq_true (by omega)
  have e6 : int2 subO (.int .i64 ((k + 1 : Nat) : Int)) (.int .i64 1) = some (.int .i64 (k : Int)) := by
    rw [sub_e _ _ (by omega) (by omega)]
    congr 2
    omega
  have e7 : decide (day = day) = true := decide_eq_true rfl
  have f0 : nth (flatV l) (0 + k * 2 + 0) = some (.int .i64 day) := by rw [Nat.zero_add, Nat.add_zero, flat_day l k hk, he]
  have l1 : ∀ (rec : Rec) (fs : Frm) (v : St), (∀ y, v.getC y = u.getC y) → oLoad1 (.v (.pointer (some ⟨tb, 0 + 0, none⟩))) rec fs v = some (.slice (some ⟨sb, 0, none⟩) l.length c, v.seen tb) := fun rec fs v h => load1_e tb (0 + 0) _ _ rec fs v ((h tb).trans hv') rfl
  have l2 : ∀ (rec : Rec) (fs : Frm) (v : St), (∀ y, v.getC y = u.getC y) → oLoad1 (.v (.pointer (some ⟨sb, 0 + k * 2 + 0, none⟩))) rec fs v = some (.int .i64 day, v.seen sb) := fun rec fs v h => load1_e sb _ _ _ rec fs v ((h sb).trans hc') f0
  have st : ∀ (rec : Rec) (fs : Frm) (v : St), (∀ y, v.getC y = u.getC y) → oStore 1 (.v (.pointer (some ⟨sb, 0 + k * 2 + 1, none⟩))) (.v (.int .i64 rate)) rec fs v = some (UV, v.set sb (some (flatV (l.set k (day, rate))))) := fun rec fs v h => by
    rw [store1_e sb (0 + k * 2 + 1) (flatV l) _ rec fs v rfl ((h sb).trans hc') (by rw [flat_len]; omega), Nat.zero_add, flat_set l k hk rate, he]
  have hm : isMapB (flatV (l.set k (day, rate))) = false := flat_map _ (by
    intro h
    have := congrArg List.length h
    simp at this
    subst this
    exact absurd hk (by simp))
  refine ⟨(((u.seen tb).seen sb).seen tb).set sb (some (flatV (l.set k (day, rate)))), ?_, ?_, ?_, ?_, ?_⟩
  · rw [k27, d27]
    unfold D27
    simp (disch := first | omega | (intro y; simp only [seen_getC])) only [op2_s', op_s', op2_op, op2_op2, op2_cond, ev_v', call_r', map_c', map_n', bin_e', pick_e', not_e, ext_e', nth_z', nth_1', nth_2', nth_3', gval_e, gval_u', cmp_e, orUndef_t', orUndef_f', condV_t', condV_f', cond_true, cond_false, eqI_eq, neI_eq, ltI_eq, leI_eq, gtI_eq', geI_eq, Bool.not_true, Bool.not_false, beq_self_eq_true, tf_beq, ft_beq, eq_self, decide_true, decide_false, oneOf1, orU_some, e1, gtI_eq', e2, e3, e4, r1, e5, e6, l1, nilCheck_e, fieldAddr_e, idxL_e, l2, e7, st]
    try rfl
  · rw [St.set_next]; simp only [St.seen_next]; exact r2.1
  · rw [St.set_next]; simp only [St.seen_next]; exact r2.2.1
  · rw [set_getC _ _ _ _ h8 (by have : lim = 1000000000 := rfl; have : (2:Nat) ^ 40 = 1099511627776 := rfl; omega) hm, if_pos rfl]
  · intro y hy hne
    rw [set_getC _ _ _ _ h8 (by have : lim = 1000000000 := rfl; have : (2:Nat) ^ 40 = 1099511627776 := rfl; omega) hm, if_neg hne]
    simp only [seen_getC]
    exact r2.2.2 y hy
/-- Put into a table of 256 steps that has no step at the day: refused -/
theorem put_full (M : Nat) (hM : 2000 ≤ M) (s : St) (tb sb c : Nat) (l : List (Int × Int)) (day rate : Int) (hl : l.length = 256) (hs : Sorted l) (htb : tb < s.next) (hv : s.getC tb = some [.slice (some ⟨sb, 0, none⟩) l.length c]) (hsb : sb < s.next) (hc : s.getC sb = some (flatV l)) (hn : s.next + 1 ≤ lim) (hd : 0 ≤ day ∧ day ≤ 109572) (hr : 0 ≤ rate ∧ rate ≤ 1000000000) (hno : ∀ x (h : x < l.length), l[x].1 ≠ day) :
    ∃ u', callN E (M + 4) 27 [.pointer (some ⟨tb, 0, none⟩), .int .i64 day, .int .i64 rate] s = some (.int .i64 2, u') ∧ Grew 2 s u' := by
  obtain ⟨k, u, r1, r2, r3⟩ := behind M hM s tb l day (by omega) hs ⟨htb, _, hv, Or.inr ⟨sb, c, rfl, hsb, hc⟩⟩ hn
  have hv' := (r2.2.2 tb htb).trans hv
  have hc' := (r2.2.2 sb hsb).trans hc
  have e1 : decide (day < 0) = false := decide_eq_false (by omega)
  have e2 : decide (109572 < day) = false := decide_eq_false (by omega)
  have e3 : decide (rate < 0) = false := decide_eq_false (by omega)
  have e4 : decide (1000000000 < rate) = false := decide_eq_false (by omega)
  have e8 : decide (((l.length : Nat) : Int) = 256) = true := decide_eq_true (by omega)
  have l1 : ∀ (rec : Rec) (fs : Frm) (v : St), (∀ y, v.getC y = u.getC y) → oLoad1 (.v (.pointer (some ⟨tb, 0 + 0, none⟩))) rec fs v = some (.slice (some ⟨sb, 0, none⟩) l.length c, v.seen tb) := fun rec fs v h => load1_e tb (0 + 0) _ _ rec fs v ((h tb).trans hv') rfl
  rw [k27, d27]
  unfold D27
  cases k with
  | zero =>
    have e5 : decide (0 < (((0 : Nat) : Int))) = false := rfl
    refine ⟨u.seen tb, ?_, r2.alike ⟨by simp only [St.seen_next], fun y => by simp only [seen_getC]⟩⟩
    simp (disch := first | omega | (intro y; simp only [seen_getC])) only [op2_s', op_s', op2_op, op2_op2, op2_cond, ev_v', call_r', map_c', map_n', bin_e', pick_e', not_e, ext_e', nth_z', nth_1', nth_2', nth_3', gval_e, gval_u', cmp_e, orUndef_t', orUndef_f', condV_t', condV_f', cond_true, cond_false, eqI_eq, neI_eq, ltI_eq, leI_eq, gtI_eq', geI_eq, Bool.not_true, Bool.not_false, beq_self_eq_true, tf_beq, ft_beq, eq_self, decide_true, decide_false, oneOf1, orU_some, e1, gtI_eq', e2, e3, e4, r1, e5, l1, nilCheck_e, fieldAddr_e, lenL_e, e8]
    try rfl
  | succ k =>
    have hk : k < l.length := r3.1
    have e5 : decide (0 < (((k + 1 : Nat) : Int))) = true := decide_eq_true (by omega)
    have e6 : int2 subO (.int .i64 ((k + 1 : Nat) : Int)) (.int .i64 1) = some (.int .i64 (k : Int)) := by
      rw [sub_e _ _ (by omega) (by omega)]
      congr 2
      omega
    have e7 : decide (l[k].1 = day) = false := decide_eq_false (hno k hk)
    have f0 : nth (flatV l) (0 + k * 2 + 0) = some (.int .i64 l[k].1) := by rw [Nat.zero_add, Nat.add_zero, flat_day l k hk]
    have l2 : ∀ (rec : Rec) (fs : Frm) (v : St), (∀ y, v.getC y = u.getC y) → oLoad1 (.v (.pointer (some ⟨sb, 0 + k * 2 + 0, none⟩))) rec fs v = some (.int .i64 l[k].1, v.seen sb) := fun rec fs v h => load1_e sb _ _ _ rec fs v ((h sb).trans hc') f0
    refine ⟨((u.seen tb).seen sb).seen tb, ?_, r2.alike ⟨by simp only [St.seen_next], fun y => by simp only [seen_getC]⟩⟩
    simp (disch := first | omega | (intro y; simp only [seen_getC])) only [op2_s', op_s', op2_op, op2_op2, op2_cond, ev_v', call_r', map_c', map_n', bin_e', pick_e', not_e, ext_e', nth_z', nth_1', nth_2', nth_3', gval_e, gval_u', cmp_e, orUndef_t', orUndef_f', condV_t', condV_f', cond_true, cond_false, eqI_eq, neI_eq, ltI_eq, leI_eq, gtI_eq', geI_eq, Bool.not_true, Bool.not_false, beq_self_eq_true, tf_beq, ft_beq, eq_self, decide_true, decide_false, oneOf1, orU_some, e1, gtI_eq', e2, e3, e4, r1, e5, e6, l1, nilCheck_e, fieldAddr_e, idxL_e, l2, e7, lenL_e, e8]
    try rfl
theorem read_e (s : St) (b o n : Nat) (c : Blk) (h : s.getC b = some c) (hn : o + n ≤ c.length) : s.read b o n = some ((c.drop o).take n, s.seen b) := by
  unfold St.read
  rw [h, op_s, lenN_eq, ble_eq', decide_eq_true hn, cond_true, takeN_eq, dropN_eq]
/-- slices.Insert of one step into no steps -/
theorem ins_nil (rec : Rec) (N : Nat) (s : St) (nb nc : Nat) (a b : Value) (h : s.getC nb = some [a, b]) (hn : s.next ≤ lim) (hm : isMapB [a, b] = false) :
    ∃ s', callF rec N c57 [.slice none 0 0, .int .i64 0, .slice (some ⟨nb, 0, none⟩) 1 nc] s = some (.slice (some ⟨s.next, 0, none⟩) 1 (UNK + 2), s') ∧ s'.next = s.next + 1 ∧ s'.getC s.next = some [a, b] ∧ ∀ y, y ≠ s.next → s'.getC y = s.getC y := by
  obtain ⟨s', r1, r2, r3, r4⟩ := alloc_e (s.seen nb) [a, b] (by rw [St.seen_next]; exact hn) hm
  rw [St.seen_next] at r1 r2 r3 r4
  refine ⟨s', ?_, r2, r3, fun y hy => (r4 y hy).trans (seen_getC _ _ _)⟩
  have x1 : oSliceL 2 (.v (.slice none 0 0)) (some (.v (.int .i64 0))) none none rec PT.nil s = some (.slice none 0 0, s) := by kernel_rfl
  have x2 : oAppend 2 16 (.v (.slice none 0 0)) (.v (.slice (some ⟨nb, 0, none⟩) 1 nc)) rec PT.nil s = some (.slice (some ⟨s.next, 0, none⟩) 1 (UNK + 2), s') := by
    show opt (opt2 (s.read nb 0 (1 * 2)) fun c s => some (1, c, s)) (fun r => appendTo r.2.2 2 16 none 0 0 r.1 r.2.1) = _
    rw [read_e s nb 0 (1 * 2) [a, b] h (by simp), op2_s', op_s']
    show newSlice (s.seen nb) 2 1 [a, b] = _
    unfold newSlice
    rw [r1]
    rfl
  have e1 : decide (((1 : Nat) : Int) = 0) = false := rfl
  have e2 : decide ((0 : Int) = ((0 : Nat) : Int)) = true := rfl
  rw [d57]
  unfold D57
  simp only [op2_s', op_s', op2_op, op2_op2, op2_cond, ev_v', call_r', map_c', map_n', bin_e', pick_e', not_e, ext_e', nth_z', nth_1', nth_2', nth_3', gval_e, gval_u', cmp_e, orUndef_t', orUndef_f', condV_t', condV_f', cond_true, cond_false, eqI_eq, neI_eq, ltI_eq, leI_eq, gtI_eq', geI_eq, Bool.not_true, Bool.not_false, beq_self_eq_true, tf_beq, ft_beq, eq_self, decide_true, decide_false, oneOf1, orU_some, x1, lenL_e, e1, e2, x2]
  try rfl
theorem flat_app (l m : List (Int × Int)) : flatV (l ++ m) = flatV l ++ flatV m := by
  induction l with
  | nil => rfl
  | cons p l ih => show _ :: _ :: flatV (l ++ m) = _; rw [ih]; rfl
/-- slices.Insert of one step behind the steps there are -/
theorem ins_end (rec : Rec) (N : Nat) (s : St) (sb nb nc : Nat) (l : List (Int × Int)) (p : Int × Int) (hl : l.length ≤ 1000) (hpos : l ≠ []) (h : s.getC nb = some (flatV [p])) (hc : s.getC sb = some (flatV l)) (hne : nb ≠ sb) (hsb : sb < s.next) (hn : s.next ≤ lim) :
    ∃ s', callF rec N c57 [.slice (some ⟨sb, 0, none⟩) l.length (UNK + 2), .int .i64 (l.length : Int), .slice (some ⟨nb, 0, none⟩) 1 nc] s = some (.slice (some ⟨s.next, 0, none⟩) (l.length + 1) (UNK + 2), s') ∧ s'.next = s.next + 1 ∧ s'.getC s.next = some (flatV (l ++ [p])) ∧ ∀ y, y ≠ s.next → y ≠ sb → s'.getC y = s.getC y := by
  obtain ⟨s', r1, r2, r3, r4⟩ := alloc_e ((s.seen nb).set sb none) (flatV (l ++ [p])) (by rw [St.set_next, St.seen_next]; exact hn) (flat_map _ (by simp))
  rw [St.set_next, St.seen_next] at r1 r2 r3 r4
  have hoth : ∀ y, y ≠ sb → ((s.seen nb).set sb none).getC y = s.getC y := by
    intro y hy
    rw [← seen_getC s nb y]
    unfold St.getC
    rw [St.get_set _ _ _ _ (by have : lim = 1000000000 := rfl; have : (2:Nat) ^ 40 = 1099511627776 := rfl; omega), if_neg hy]
  refine ⟨s', ?_, r2, r3, fun y hy hy' => (r4 y hy).trans (hoth y hy')⟩
  have hb : Nat.blt (UNK + 2) UNK = false := by
    have : UNK = 18446744073709551616 := rfl
    rw [this]; rfl
  have hq : Nat.beq (UNK + 2) (UNK + 2) = true := Nat.beq_refl _
  have x1 : oSliceL 2 (.v (.slice (some ⟨sb, 0, none⟩) l.length (UNK + 2))) (some (.v (.int .i64 (l.length : Int)))) none none rec PT.nil s = some (.slice (some (addA ⟨sb, 0, none⟩ (l.length * 2))) 0 (UNK + 2), s) := by
    have bd : boundD PT.nil (some (.v (.int .i64 (l.length : Int)))) l.length 0 = some l.length := by
      show (bif Nat.ble l.length l.length then force l.length some else none) = _
      rw [ble_eq', decide_eq_true (Nat.le_refl _), cond_true, force_eq]
    have b0 : boundD PT.nil none l.length l.length = some l.length := rfl
    have z : Nat.beq 2 0 = false := rfl
    simp only [oSliceL, ev_v', hb, hq, z, cond_false, cond_true, Bool.not_true, b0, bd, op_s', force_eq, Nat.sub_self]
    try rfl
  have e1 : decide (((1 : Nat) : Int) = 0) = false := rfl
  have e2 : decide (((l.length : Nat) : Int) = ((l.length : Nat) : Int)) = true := decide_eq_true rfl
  have x2 : oAppend 2 16 (.v (.slice (some ⟨sb, 0, none⟩) l.length (UNK + 2))) (.v (.slice (some ⟨nb, 0, none⟩) 1 nc)) rec PT.nil s = some (.slice (some ⟨s.next, 0, none⟩) (l.length + 1) (UNK + 2), s') := by
    show opt (opt2 (s.read nb 0 (1 * 2)) fun c s => some (1, c, s)) (fun r => appendTo r.2.2 2 16 (some ⟨sb, 0, none⟩) l.length (UNK + 2) r.1 r.2.1) = _
    rw [read_e s nb 0 (1 * 2) (flatV [p]) h (by simp [flatV]), op2_s', op_s']
    show appendTo (s.seen nb) 2 16 (some ⟨sb, 0, none⟩) l.length (UNK + 2) 1 (flatV [p]) = _
    have hf : fits (l.length + 1) 16 = true := by
      unfold fits
      rw [ble_eq', ble_eq', decide_eq_true (by omega), decide_eq_true (by omega)]
      rfl
    have c1 : Nat.ble (0 + l.length * 2 + lenN (flatV [p])) (lenN (flatV l)) = false := by
      rw [ble_eq', lenN_eq, lenN_eq, flat_len, flat_len]
      exact decide_eq_false (by simp)
    have c2 : Nat.ble (0 + l.length * 2) (lenN (flatV l)) = true := by
      rw [ble_eq', lenN_eq, flat_len]
      exact decide_eq_true (by omega)
    have c3 : app (takeN (l.length * 2) (dropN 0 (flatV l))) (flatV [p]) = flatV (l ++ [p]) := by
      rw [app_eq, takeN_eq, dropN_eq, List.drop_zero, List.take_of_length_le (by rw [flat_len]; omega), flat_app]
    unfold appendTo
    rw [hf, hb, hq]
    show opt ((s.seen nb).getC sb) _ = _
    rw [seen_getC, hc, op_s']
    show (bif Nat.ble (0 + l.length * 2 + lenN (flatV [p])) (lenN (flatV l)) then _ else bif Nat.ble (0 + l.length * 2) (lenN (flatV l)) then newSlice ((s.seen nb).set sb none) 2 (l.length + 1) (app (takeN (l.length * 2) (dropN 0 (flatV l))) (flatV [p])) else none) = _
    rw [c1, c2, c3, cond_false, cond_true]
    unfold newSlice
    rw [r1]
    rfl
  rw [d57]
  unfold D57
  simp only [op2_s', op_s', op2_op, op2_op2, op2_cond, ev_v', call_r', map_c', map_n', bin_e', pick_e', not_e, ext_e', nth_z', nth_1', nth_2', nth_3', gval_e, gval_u', cmp_e, orUndef_t', orUndef_f', condV_t', condV_f', cond_true, cond_false, eqI_eq, neI_eq, ltI_eq, leI_eq, gtI_eq', geI_eq, Bool.not_true, Bool.not_false, beq_self_eq_true, tf_beq, ft_beq, eq_self, decide_true, decide_false, oneOf1, orU_some, x1, lenL_e, e1, e2, x2]
  try rfl
end Go.Proofs.Ytdnedangfnincaa.AbsAccO.R
namespace Go.Proofs.Ytdnedangfnincaa.AbsAccO.R
open Go Go.Abs Go.Proofs
set_option maxRecDepth 100000
set_option linter.unusedVariables false
set_option linter.unusedSimpArgs false
theorem k57 (M : Nat) (args : List Value) (s : St) (h : E.known 57 args s = none) : callN E (M + 1) 57 args s = callF (callN E M) M c57 args s := by
  show @Option.rec (Value × St) (fun _ => Option (Value × St)) (opt (E.fns.get 57) fun fn => callF (callN E M) M fn args s) (fun r => some r) (E.known 57 args s) = _
  rw [h]
  kernel_rfl
theorem k57s (M : Nat) (args : List Value) (s : St) (r : Value × St) (h : E.known 57 args s = some r) : callN E (M + 1) 57 args s = some r := by
  show @Option.rec (Value × St) (fun _ => Option (Value × St)) (opt (E.fns.get 57) fun fn => callF (callN E M) M fn args s) (fun r => some r) (E.known 57 args s) = _
  rw [h]
theorem known_nil (a b : Value) (s : St) : E.known 57 [.slice none 0 0, a, b] s = none := by kernel_rfl
theorem known_end (sb n nb nc : Nat) (s : St) : E.known 57 [.slice (some ⟨sb, 0, none⟩) n (UNK + 2), .int .i64 (n : Int), .slice (some ⟨nb, 0, none⟩) 1 nc] s = none := by
  have hb : Nat.blt n n = false := by rw [blt_eq']; exact decide_eq_false (by omega)
  show (bif Nat.beq (UNK + 2) (UNK + 2) && (Nat.beq 1 1 && (Nat.blt n n && (!Nat.beq sb nb && (fits (n + 1) 16 && Nat.ble 8 nb)))) then _ else none) = none
  rw [hb, Bool.false_and, Bool.and_false, Bool.and_false]
  rfl
theorem flat_take : ∀ (l : List (Int × Int)) (i : Nat), (flatV l).take (i * 2) = flatV (l.take i)
  | [], i => by simp [flatV]
  | p :: l, 0 => rfl
  | p :: l, i + 1 => by
    rw [show (i + 1) * 2 = i * 2 + 1 + 1 by omega]
    show _ :: _ :: (flatV l).take (i * 2) = _
    rw [flat_take l i]
    rfl
theorem flat_drop : ∀ (l : List (Int × Int)) (i : Nat), (flatV l).drop (i * 2) = flatV (l.drop i)
  | [], i => by simp [flatV]
  | p :: l, 0 => rfl
  | p :: l, i + 1 => by
    rw [show (i + 1) * 2 = i * 2 + 1 + 1 by omega]
    show (flatV l).drop (i * 2) = _
    rw [flat_drop l i]
    rfl
/-- slices.Insert of one step between others -/
theorem ins_mid (M : Nat) (s : St) (sb nb nc i : Nat) (l : List (Int × Int)) (p : Int × Int) (hl : l.length ≤ 1000) (hi : i < l.length) (h : s.getC nb = some (flatV [p])) (hc : s.getC sb = some (flatV l)) (hne : nb ≠ sb) (hsb : sb < s.next) (hn : s.next ≤ lim) (h8 : 8 ≤ nb) :
    ∃ s', callN E (M + 1) 57 [.slice (some ⟨sb, 0, none⟩) l.length (UNK + 2), .int .i64 (i : Int), .slice (some ⟨nb, 0, none⟩) 1 nc] s = some (.slice (some ⟨s.next, 0, none⟩) (l.length + 1) (UNK + 2), s') ∧ s'.next = s.next + 1 ∧ s'.getC s.next = some (flatV (l.take i ++ ([p] ++ l.drop i))) ∧ ∀ y, y ≠ s.next → y ≠ sb → s'.getC y = s.getC y := by
  obtain ⟨s', r1, r2, r3, r4⟩ := alloc_e ((s.seen nb).set sb none) (flatV (l.take i ++ ([p] ++ l.drop i))) (by rw [St.set_next, St.seen_next]; exact hn) (flat_map _ (by simp))
  rw [St.set_next, St.seen_next] at r1 r2 r3 r4
  have hoth : ∀ y, y ≠ sb → ((s.seen nb).set sb none).getC y = s.getC y := by
    intro y hy
    rw [← seen_getC s nb y]
    unfold St.getC
    rw [St.get_set _ _ _ _ (by have : lim = 1000000000 := rfl; have : (2:Nat) ^ 40 = 1099511627776 := rfl; omega), if_neg hy]
  refine ⟨s', k57s _ _ _ _ ?_, r2, r3, fun y hy hy' => (r4 y hy).trans (hoth y hy')⟩
  have hb : Nat.blt i l.length = true := by rw [blt_eq']; exact decide_eq_true hi
  have h9 : Nat.ble 8 nb = true := by rw [ble_eq']; exact decide_eq_true h8
  have hq : Nat.beq (UNK + 2) (UNK + 2) = true := Nat.beq_refl _
  have hx : Nat.beq sb nb = false := by rw [beq_eq']; exact decide_eq_false (fun h => hne h.symm)
  have hf : fits (l.length + 1) 16 = true := by
    unfold fits
    rw [ble_eq', ble_eq', decide_eq_true (by omega), decide_eq_true (by omega)]
    rfl
  have c2 : Nat.ble (0 + l.length * 2) (lenN (flatV l)) = true := by
    rw [ble_eq', lenN_eq, flat_len]
    exact decide_eq_true (by omega)
  have c3 : takeN (l.length * 2) (dropN 0 (flatV l)) = flatV l := by
    rw [takeN_eq, dropN_eq, List.drop_zero, List.take_of_length_le (by rw [flat_len]; omega)]
  have c4 : app (takeN (i * 2) (flatV l)) (app (flatV [p]) (dropN (i * 2) (flatV l))) = flatV (l.take i ++ ([p] ++ l.drop i)) := by
    rw [app_eq, app_eq, takeN_eq, dropN_eq, flat_take, flat_drop, flat_app, flat_app]
  show (bif Nat.beq (UNK + 2) (UNK + 2) && (Nat.beq 1 1 && (Nat.blt i l.length && (!Nat.beq sb nb && (fits (l.length + 1) 16 && Nat.ble 8 nb)))) then opt (s.getC sb) _ else none) = _
  rw [hb, hq, hx, hf, h9, hc, op_s']
  show (bif Nat.ble (0 + l.length * 2) (lenN (flatV l)) then opt2 (s.read nb 0 2) _ else none) = _
  rw [c2, cond_true, read_e s nb 0 2 (flatV [p]) h (by simp [flatV]), op2_s']
  show opt2 (((s.seen nb).set sb none).alloc (app (takeN (i * 2) (takeN (l.length * 2) (dropN 0 (flatV l)))) (app (flatV [p]) (dropN (i * 2) (takeN (l.length * 2) (dropN 0 (flatV l))))))) _ = _
  rw [c3, c4, r1]
  rfl
/-- a table's slice, its capacity not known -/
def SlcU (s : St) (v : Value) (l : List (Int × Int)) : Prop :=
  (l = [] ∧ v = .slice none 0 0) ∨ ∃ sb, v = .slice (some ⟨sb, 0, none⟩) l.length (UNK + 2) ∧ sb < s.next ∧ s.getC sb = some (flatV l) ∧ l ≠ []
/-- the slice's block -/
def blkOf (v : Value) : Option Nat := match v with
  | .slice (some a) _ _ => some a.block
  | _ => none
def insS (l : List (Int × Int)) (i : Nat) (p : Int × Int) : List (Int × Int) := l.take i ++ ([p] ++ l.drop i)
theorem ins (M : Nat) (s : St) (v : Value) (nb i : Nat) (l : List (Int × Int)) (p : Int × Int) (hl : l.length ≤ 1000) (hi : i ≤ l.length) (h : s.getC nb = some (flatV [p])) (hv : SlcU s v l) (hne : blkOf v ≠ some nb) (hn : s.next ≤ lim) (h8 : 8 ≤ nb) :
    ∃ s', callN E (M + 1) 57 [v, .int .i64 (i : Int), .slice (some ⟨nb, 0, none⟩) 1 1] s = some (.slice (some ⟨s.next, 0, none⟩) (l.length + 1) (UNK + 2), s') ∧ s'.next = s.next + 1 ∧ s'.getC s.next = some (flatV (insS l i p)) ∧ ∀ y, y ≠ s.next → blkOf v ≠ some y → s'.getC y = s.getC y := by
  rcases hv with ⟨rfl, rfl⟩ | ⟨sb, rfl, h1, h2, h3⟩
  · have hi0 : i = 0 := by simpa using hi
    subst hi0
    obtain ⟨s', r1, r2, r3, r4⟩ := ins_nil (callN E M) M s nb 1 (.int .i64 p.1) (.int .i64 p.2) h hn rfl
    exact ⟨s', (k57 M _ s (known_nil _ _ s)).trans r1, r2, r3, fun y hy _ => r4 y hy⟩
  · have hne' : nb ≠ sb := fun e => hne (congrArg some e.symm)
    by_cases hlt : i < l.length
    · obtain ⟨s', r1, r2, r3, r4⟩ := ins_mid M s sb nb 1 i l p hl hlt h h2 hne' h1 hn h8
      exact ⟨s', r1, r2, r3, fun y hy hy' => r4 y hy (fun e => hy' (congrArg some e.symm))⟩
    · have hie : i = l.length := by omega
      subst hie
      obtain ⟨s', r1, r2, r3, r4⟩ := ins_end (callN E M) M s sb nb 1 l p hl h3 h h2 hne' h1 hn
      refine ⟨s', (k57 M _ s (known_end _ _ _ _ s)).trans r1, r2, ?_, fun y hy hy' => r4 y hy (fun e => hy' (congrArg some e.symm))⟩
      rw [r3]
      unfold insS
      rw [List.take_length, List.drop_length, List.append_nil]
theorem put_tail (M : Nat) (w : St) (tb k : Nat) (v : Value) (l : List (Int × Int)) (day rate : Int) (hl : l.length ≤ 1000) (htb : tb < w.next) (hv : w.getC tb = some [v]) (hs : SlcU w v l) (hb : blkOf v ≠ some tb) (hk : k ≤ l.length) (hn : w.next + 1 ≤ lim) (h8 : 8 ≤ w.next) (h8t : 8 ≤ tb) :
    ∃ s1 s2 u', w.alloc [.int .i64 day, .int .i64 rate] = some (w.next, s1) ∧ callN E (M + 1) 57 [v, .int .i64 (k : Int), .slice (some ⟨w.next, 0, none⟩) 1 1] s1 = some (.slice (some ⟨w.next + 1, 0, none⟩) (l.length + 1) (UNK + 2), s2) ∧ (∀ rec fs, oStore 1 (.v (.pointer (some ⟨tb, 0 + 0, none⟩))) (.v (.slice (some ⟨w.next + 1, 0, none⟩) (l.length + 1) (UNK + 2))) rec fs s2 = some (UV, u')) ∧ u'.next = w.next + 2 ∧ u'.getC tb = some [.slice (some ⟨w.next + 1, 0, none⟩) (l.length + 1) (UNK + 2)] ∧ u'.getC (w.next + 1) = some (flatV (insS l k (day, rate))) ∧ ∀ y, y < w.next → y ≠ tb → blkOf v ≠ some y → u'.getC y = w.getC y := by
  have hlim : lim = 1000000000 := rfl
  have h40 : (2:Nat) ^ 40 = 1099511627776 := rfl
  obtain ⟨s1, a1, n1, g1, o1⟩ := alloc_e w [.int .i64 day, .int .i64 rate] (by omega) rfl
  have hs1 : SlcU s1 v l := by
    rcases hs with h | ⟨sb, h1, h2, h3, h4⟩
    · exact Or.inl h
    · exact Or.inr ⟨sb, h1, by omega, (o1 sb (by omega)).trans h3, h4⟩
  have hnb : blkOf v ≠ some w.next := by
    rcases hs with ⟨_, rfl⟩ | ⟨sb, rfl, h2, h3, h4⟩
    · intro e; cases e
    · intro e
      have : sb = w.next := Option.some.inj e
      omega
  obtain ⟨s2, b1, b2, b3, b4⟩ := ins M s1 v w.next k l (day, rate) hl hk g1 hs1 hnb (by omega) h8
  rw [n1] at b1 b2 b3 b4
  have t2 : s2.getC tb = some [v] := (b4 tb (by omega) hb).trans ((o1 tb (by omega)).trans hv)
  have st := fun rec fs => store1_e tb (0 + 0) [v] (.slice (some ⟨w.next + 1, 0, none⟩) (l.length + 1) (UNK + 2)) rec fs s2 rfl t2 (by simp)
  refine ⟨s1, s2, _, a1, b1, st, ?_, ?_, ?_, ?_⟩
  · rw [St.set_next, b2]
  · rw [set_getC _ _ _ _ h8t (by omega) rfl, if_pos rfl]
    rfl
  · rw [set_getC _ _ _ _ h8t (by omega) rfl, if_neg (by omega), b3]
  · intro y hy hy' hy''
    rw [set_getC _ _ _ _ h8t (by omega) rfl, if_neg hy']
    exact (b4 y (by omega) hy'').trans (o1 y (by omega))
theorem build2 (day rate : Int) (rec : Rec) (s : St) : oBuild [(.int .i64 0), (.int .i64 0)] [(0, 1, (.v (.int .i64 day))), (1, 1, (.v (.int .i64 rate)))] rec PT.nil s = some (aggOf [.int .i64 day, .int .i64 rate], s) := by kernel_rfl
theorem buildS (day rate : Int) (rec : Rec) (s : St) : oBuildSlice 1 [(.int .i64 0), (.int .i64 0)] [(0, 2, (.v (aggOf [.int .i64 day, .int .i64 rate])))] rec PT.nil s = opt2 (s.alloc [.int .i64 day, .int .i64 rate]) fun b s => some (.slice (some ⟨b, 0, none⟩) 1 1, s) := by kernel_rfl
/-- Put at a day that has no step: a step more -/
theorem put_new (M : Nat) (hM : 2000 ≤ M) (s : St) (tb : Nat) (v : Value) (l : List (Int × Int)) (day rate : Int) (hl : l.length < 256) (hs : Sorted l) (htb : tb < s.next) (hv : s.getC tb = some [v]) (hsl : SlcU s v l) (hn : s.next + 3 ≤ lim) (h8 : 8 ≤ s.next) (h8t : 8 ≤ tb) (hd : 0 ≤ day ∧ day ≤ 109572) (hr : 0 ≤ rate ∧ rate ≤ 1000000000) (hno : ∀ x (h : x < l.length), l[x].1 ≠ day) :
    ∃ k u' sb', callN E (M + 4) 27 [.pointer (some ⟨tb, 0, none⟩), .int .i64 day, .int .i64 rate] s = some (.int .i64 0, u') ∧ Behind l day k ∧ s.next ≤ u'.next ∧ u'.next ≤ s.next + 4 ∧ s.next ≤ sb' ∧ sb' < u'.next ∧ u'.getC tb = some [.slice (some ⟨sb', 0, none⟩) (l.length + 1) (UNK + 2)] ∧ u'.getC sb' = some (flatV (insS l k (day, rate))) ∧ ∀ y, y < s.next → y ≠ tb → blkOf v ≠ some y → u'.getC y = s.getC y := by
  have ht : TabAt s tb l := ⟨htb, v, hv, by
    rcases hsl with h | ⟨sb, h1, h2, h3, _⟩
    · exact Or.inl h
    · exact Or.inr ⟨sb, _, h1, h2, h3⟩⟩
  have hbtb : blkOf v ≠ some tb := by
    rcases hsl with ⟨_, rfl⟩ | ⟨sb, rfl, h2, h3, h4⟩
    · intro e; cases e
    · intro e
      have e' : sb = tb := Option.some.inj e
      subst e'
      rw [hv] at h3
      cases l with
      | nil => exact h4 rfl
      | cons p l => exact absurd (congrArg List.length (Option.some.inj h3)) (by simp [flatV])
  obtain ⟨k, u, r1, r2, r3⟩ := behind M hM s tb l day (by omega) hs ht (by omega)
  have hv' := (r2.2.2 tb htb).trans hv
  have hsu : ∀ w, Alike u w → SlcU w v l := fun w hw => by
    rcases hsl with h | ⟨sb, h1, h2, h3, h4⟩
    · exact Or.inl h
    · exact Or.inr ⟨sb, h1, by have := hw.1; have := r2.1; omega, (hw.2 sb).trans ((r2.2.2 sb h2).trans h3), h4⟩
  have hlenv : ∀ (rec : Rec) (w : St), oLenL (.v v) rec PT.nil w = some (.int .i64 (l.length : Int), w) := fun rec w => by
    rcases hsl with ⟨rfl, rfl⟩ | ⟨sb, rfl, h2, h3, h4⟩ <;> exact lenL_e _ _ _ rec PT.nil w
  have e1 : decide (day < 0) = false := decide_eq_false (by omega)
  have e2 : decide (109572 < day) = false := decide_eq_false (by omega)
  have e3 : decide (rate < 0) = false := decide_eq_false (by omega)
  have e4 : decide (1000000000 < rate) = false := decide_eq_false (by omega)
  have e8 : decide (((l.length : Nat) : Int) = 256) = false := decide_eq_false (by omega)
  have l1 : ∀ (rec : Rec) (fs : Frm) (w : St), (∀ y, w.getC y = u.getC y) → oLoad1 (.v (.pointer (some ⟨tb, 0 + 0, none⟩))) rec fs w = some (v, w.seen tb) := fun rec fs w h => load1_e tb (0 + 0) _ _ rec fs w ((h tb).trans hv') rfl
  have fin : ∀ w, Alike u w → ∃ s1 s2 u', w.alloc [.int .i64 day, .int .i64 rate] = some (w.next, s1) ∧ callN E (M + 3) 57 [v, .int .i64 (k : Int), .slice (some ⟨w.next, 0, none⟩) 1 1] s1 = some (.slice (some ⟨w.next + 1, 0, none⟩) (l.length + 1) (UNK + 2), s2) ∧ (∀ rec fs, oStore 1 (.v (.pointer (some ⟨tb, 0 + 0, none⟩))) (.v (.slice (some ⟨w.next + 1, 0, none⟩) (l.length + 1) (UNK + 2))) rec fs s2 = some (UV, u')) ∧ s.next ≤ u'.next ∧ u'.next ≤ s.next + 4 ∧ s.next ≤ w.next + 1 ∧ w.next + 1 < u'.next ∧ u'.getC tb = some [.slice (some ⟨w.next + 1, 0, none⟩) (l.length + 1) (UNK + 2)] ∧ u'.getC (w.next + 1) = some (flatV (insS l k (day, rate))) ∧ ∀ y, y < s.next → y ≠ tb → blkOf v ≠ some y → u'.getC y = s.getC y := fun w hw => by
    have q1 := r2.1
    have q2 := r2.2.1
    have q3 := hw.1
    obtain ⟨s1, s2, u', a, b, c, d, e, f, g⟩ := put_tail (M + 2) w tb k v l day rate (by omega) (by omega) ((hw.2 tb).trans hv') (hsu w hw) hbtb r3.1 (by omega) (by omega) h8t
    exact ⟨s1, s2, u', a, b, c, by omega, by omega, by omega, by omega, e, f, fun y hy h1 h2 => (g y (by omega) h1 h2).trans ((hw.2 y).trans (r2.2.2 y hy))⟩
  cases k with
  | zero =>
    have e5 : decide (0 < (((0 : Nat) : Int))) = false := rfl
    obtain ⟨s1, s2, u', a, b, c, d⟩ := fin ((u.seen tb).seen tb) ⟨by simp only [St.seen_next], fun y => by simp only [seen_getC]⟩
    refine ⟨0, u', _, ?_, r3, d⟩
    rw [k27, d27]
    unfold D27
    simp (disch := first | omega | (intro y; simp only [seen_getC])) only [op2_s', op_s', op2_op, op2_op2, op2_cond, ev_v', call_r', map_c', map_n', bin_e', pick_e', not_e, ext_e', nth_z', nth_1', nth_2', nth_3', gval_e, gval_u', cmp_e, orUndef_t', orUndef_f', condV_t', condV_f', cond_true, cond_false, eqI_eq, neI_eq, ltI_eq, leI_eq, gtI_eq', geI_eq, Bool.not_true, Bool.not_false, beq_self_eq_true, tf_beq, ft_beq, eq_self, decide_true, decide_false, oneOf1, orU_some, e1, gtI_eq', e2, e3, e4, r1, e5, l1, nilCheck_e, fieldAddr_e, hlenv, e8, build2, buildS, a, b, c]
    try rfl
  | succ k =>
    have hk : k < l.length := r3.1
    rcases hsl with ⟨rfl, _⟩ | ⟨sb, rfl, hsb, hc, _⟩
    · exact absurd hk (by simp)
    have hc' := (r2.2.2 sb hsb).trans hc
    have e5 : decide (0 < (((k + 1 : Nat) : Int))) = true := decide_eq_true (by omega)
    have e6 : int2 subO (.int .i64 ((k + 1 : Nat) : Int)) (.int .i64 1) = some (.int .i64 (k : Int)) := by
      rw [sub_e _ _ (by omega) (by omega)]
      congr 2
      omega
    have e7 : decide (l[k].1 = day) = false := decide_eq_false (hno k hk)
    have f0 : nth (flatV l) (0 + k * 2 + 0) = some (.int .i64 l[k].1) := by rw [Nat.zero_add, Nat.add_zero, flat_day l k hk]
    have l2 : ∀ (rec : Rec) (fs : Frm) (v : St), (∀ y, v.getC y = u.getC y) → oLoad1 (.v (.pointer (some ⟨sb, 0 + k * 2 + 0, none⟩))) rec fs v = some (.int .i64 l[k].1, v.seen sb) := fun rec fs v h => load1_e sb _ _ _ rec fs v ((h sb).trans hc') f0
    obtain ⟨s1, s2, u', a, b, c, d⟩ := fin ((((u.seen tb).seen sb).seen tb).seen tb) ⟨by simp only [St.seen_next], fun y => by simp only [seen_getC]⟩
    refine ⟨k + 1, u', _, ?_, r3, d⟩
    rw [k27, d27]
    unfold D27
    simp (disch := first | omega | (intro y; simp only [seen_getC])) only [op2_s', op_s', op2_op, op2_op2, op2_cond, ev_v', call_r', map_c', map_n', bin_e', pick_e', not_e, ext_e', nth_z', nth_1', nth_2', nth_3', gval_e, gval_u', cmp_e, orUndef_t', orUndef_f', condV_t', condV_f', cond_true, cond_false, eqI_eq, neI_eq, ltI_eq, leI_eq, gtI_eq', geI_eq, Bool.not_true, Bool.not_false, beq_self_eq_true, tf_beq, ft_beq, eq_self, decide_true, decide_false, oneOf1, orU_some, e1, gtI_eq', e2, e3, e4, r1, e5, e6, l1, nilCheck_e, fieldAddr_e, idxL_e, l2, e7, hlenv, lenL_e, e8, build2, buildS, a, b, c]
    try rfl
end Go.Proofs.Ytdnedangfnincaa.AbsAccO.R
namespace Go.Proofs.Ytdnedangfnincaa.AbsAccO.R
open Go Go.Abs Go.Proofs
set_option maxRecDepth 100000
set_option linter.unusedVariables false
set_option linter.unusedSimpArgs false
/-- the days grow -/
def Grows (l : List (Int × Int)) : Prop := l.Pairwise fun a b => a.1 < b.1
theorem Grows.sorted {l : List (Int × Int)} (h : Grows l) : Sorted l := by
  intro i j hi hj hij
  rcases Nat.lt_or_eq_of_le hij with hlt | rfl
  · exact Int.le_of_lt (List.pairwise_iff_getElem.mp h i j hi hj hlt)
  · exact Int.le_refl _
theorem Grows.ins {l : List (Int × Int)} (h : Grows l) {day rate : Int} {k : Nat} (hB : Behind l day k) (hno : ∀ x (h : x < l.length), l[x].1 ≠ day) : Grows (insS l k (day, rate)) := by
  obtain ⟨b1, b2, b3⟩ := hB
  have ht : ∀ a ∈ l.take k, a.1 < day := fun a ha => by
    obtain ⟨i, hi, rfl⟩ := List.mem_iff_getElem.mp ha
    rw [List.length_take] at hi
    rw [List.getElem_take]
    have x1 := b2 i (by omega) (by omega)
    have x2 := hno i (by omega)
    omega
  have hd : ∀ a ∈ l.drop k, day < a.1 := fun a ha => by
    obtain ⟨i, hi, rfl⟩ := List.mem_iff_getElem.mp ha
    rw [List.length_drop] at hi
    rw [List.getElem_drop]
    exact b3 (k + i) (by omega) (by omega)
  unfold Grows insS
  rw [List.pairwise_append]
  refine ⟨List.Pairwise.sublist (List.take_sublist k l) h, ?_, fun a ha b hb => ?_⟩
  · show List.Pairwise _ ((day, rate) :: l.drop k)
    exact List.pairwise_cons.mpr ⟨fun a ha => hd a ha, List.Pairwise.sublist (List.drop_sublist k l) h⟩
  · have hb' : b = (day, rate) ∨ b ∈ l.drop k := by simpa using hb
    rcases hb' with rfl | hb'
    · exact ht a ha
    · have := ht a ha
      have := hd b hb'
      omega
theorem insS_len (l : List (Int × Int)) (k : Nat) (p : Int × Int) (hk : k ≤ l.length) : (insS l k p).length = l.length + 1 := by
  unfold insS
  simp only [List.length_append, List.length_take, List.length_drop, List.length_cons, List.length_nil]
  omega
/-- a new table -/
theorem k10 (M : Nat) (s : St) : callN E (M + 1) 10 [] s = callF (callN E M) M c10 [] s := by kernel_rfl
theorem new_tab (M : Nat) (s : St) (hn : s.next ≤ lim) : ∃ u', callN E (M + 1) 10 [] s = some (.pointer (some ⟨s.next, 0, none⟩), u') ∧ u'.next = s.next + 1 ∧ u'.getC s.next = some [.slice none 0 0] ∧ ∀ y, y ≠ s.next → u'.getC y = s.getC y := by
  obtain ⟨s', r1, r2, r3, r4⟩ := alloc_e s [.slice none 0 0] hn rfl
  refine ⟨s', ?_, r2, r3, r4⟩
  have b0 : ∀ rec, oBuild [(.slice none 0 0)] [] rec PT.nil s = some (aggOf [.slice none 0 0], s) := fun rec => by kernel_rfl
  have b1 : ∀ rec, oBox (.v (aggOf [.slice none 0 0])) rec PT.nil s = some (.pointer (some ⟨s.next, 0, none⟩), s') := fun rec => by
    exact box1_e (.slice none 0 0) rec PT.nil s s' rfl r1
  rw [k10, d10]
  unfold D10
  simp only [op2_s', op_s', op2_op, op2_op2, op2_cond, ev_v', call_r', map_c', map_n', bin_e', pick_e', not_e, ext_e', nth_z', nth_1', nth_2', nth_3', gval_e, gval_u', cmp_e, orUndef_t', orUndef_f', condV_t', condV_f', cond_true, cond_false, eqI_eq, neI_eq, ltI_eq, leI_eq, gtI_eq', geI_eq, Bool.not_true, Bool.not_false, beq_self_eq_true, tf_beq, ft_beq, eq_self, decide_true, decide_false, oneOf1, orU_some, b0, b1]
  try rfl
/-- two cells read -/
theorem load2_e (b o : Nat) (c : Blk) (u v : Value) (rec : Rec) (fs : Frm) (s : St) (h : s.getC b = some c) (hn : o + 2 ≤ c.length) (hv : (c.drop o).take 2 = [u, v]) : oLoadN 2 (.v (.pointer (some ⟨b, o, none⟩))) rec fs s = some (aggOf [u, v], s.seen b) := by
  show opt2 (s.read b o 2) (fun c s => some (aggOf c, s)) = _
  rw [read_e s b o 2 c h hn, hv, op2_s']
/-- two new cells -/
theorem new2_e (u v : Value) (rec : Rec) (fs : Frm) (s s' : St) (h : s.alloc [u, v] = some (s.next, s')) : oNew [u, v] rec fs s = some (.pointer (some ⟨s.next, 0, none⟩), s') := by
  show opt2 (s.alloc [u, v]) (fun b s => some (Value.pointer (some ⟨b, 0, none⟩), s)) = _
  rw [h, op2_s']
/-- two cells written over two -/
theorem store2_e (b : Nat) (x y u v : Value) (rec : Rec) (fs : Frm) (s : St) (h : s.getC b = some [x, y]) : oStore 2 (.v (.pointer (some ⟨b, 0, none⟩))) (.v (aggOf [u, v])) rec fs s = some (UV, s.set b (some [u, v])) := by
  show opt (s.write b 0 [u, v]) (fun s => some (UV, s)) = _
  unfold St.write
  rw [h, op_s']
  rfl
theorem flat_two : ∀ (l : List (Int × Int)) (i : Nat) (h : i < l.length), ((flatV l).drop (i * 2)).take 2 = [.int .i64 l[i].1, .int .i64 l[i].2]
  | p :: l, 0, _ => rfl
  | p :: l, i + 1, h => by
    have := flat_two l i (by simpa using h)
    rw [show (i + 1) * 2 = i * 2 + 1 + 1 by omega]
    exact this
/-! Put, whole: over a model of the table -/
def insP : List (Int × Int) → Int → Int → List (Int × Int)
  | [], d, r => [(d, r)]
  | p :: l, d, r => if d < p.1 then (d, r) :: p :: l else if d = p.1 then (d, r) :: l else p :: insP l d r
def Okl (l : List (Int × Int)) : Prop := Grows l ∧ ∀ p ∈ l, (0 ≤ p.1 ∧ p.1 ≤ 109572) ∧ (0 ≤ p.2 ∧ p.2 ≤ 1000000000)
def putE (d r : Int) : Int := if d < 0 ∨ 109572 < d then 12 else if r < 0 ∨ 1000000000 < r then 1 else 0
def putV (l : List (Int × Int)) (d r : Int) : List (Int × Int) := if putE d r = 0 then insP l d r else l
theorem insP_new (d r : Int) : ∀ (l : List (Int × Int)) (k : Nat), k ≤ l.length → (∀ x (h : x < l.length), x < k → l[x].1 ≤ d) → (∀ x (h : x < l.length), k ≤ x → d < l[x].1) → (∀ x (h : x < l.length), l[x].1 ≠ d) → insS l k (d, r) = insP l d r
  | [], k, hk, _, _, _ => by
    have : k = 0 := by simpa using hk
    subst this; rfl
  | p :: l, 0, hk, h1, h2, h3 => by
    have := h2 0 (by simp) (Nat.le_refl _)
    unfold insP insS
    rw [if_pos (by simpa using this)]
    rfl
  | p :: l, k + 1, hk, h1, h2, h3 => by
    have a1 : p.1 ≤ d := h1 0 (by simp) (by omega)
    have a2 : p.1 ≠ d := h3 0 (by simp)
    unfold insP
    rw [if_neg (by omega), if_neg (by omega)]
    have ih := insP_new d r l k (by simpa using hk) (fun x h hx => h1 (x + 1) (by simpa using h) (by omega)) (fun x h hx => h2 (x + 1) (by simpa using h) (by omega)) (fun x h => h3 (x + 1) (by simpa using h))
    rw [← ih]
    rfl
theorem insP_same (d r : Int) : ∀ (l : List (Int × Int)) (k : Nat) (hk : k < l.length), l[k].1 = d → (∀ x (h : x < l.length), x < k → l[x].1 < d) → l.set k (d, r) = insP l d r
  | [], k, hk, _, _ => absurd hk (by simp)
  | p :: l, 0, hk, h1, h2 => by
    have : p.1 = d := h1
    unfold insP
    rw [if_neg (by omega), if_pos this.symm]
    rfl
  | p :: l, k + 1, hk, h1, h2 => by
    have a1 : p.1 < d := h2 0 (by simp) (by omega)
    unfold insP
    rw [if_neg (by omega), if_neg (by omega), ← insP_same d r l k (by simpa using hk) (by simpa using h1) (fun x h hx => h2 (x + 1) (by simpa using h) (by omega))]
    rfl
theorem mem_insP {d r : Int} {q : Int × Int} : ∀ {l : List (Int × Int)}, q ∈ insP l d r → q = (d, r) ∨ q ∈ l
  | [], h => by
    have : q = (d, r) := by simpa [insP] using h
    exact .inl this
  | p :: l, h => by
    unfold insP at h
    split at h
    · rcases List.mem_cons.1 h with h | h
      · exact .inl h
      · exact .inr h
    · split at h
      · rcases List.mem_cons.1 h with h | h
        · exact .inl h
        · exact .inr (List.mem_cons_of_mem _ h)
      · rcases List.mem_cons.1 h with h | h
        · exact .inr (by rw [h]; exact List.mem_cons_self ..)
        · rcases mem_insP h with h | h
          · exact .inl h
          · exact .inr (List.mem_cons_of_mem _ h)
theorem insP_grows (d r : Int) : ∀ {l : List (Int × Int)}, Grows l → Grows (insP l d r)
  | [], _ => List.pairwise_singleton _ _
  | p :: l, h => by
    have h' := List.pairwise_cons.1 h
    unfold insP
    split
    · rename_i hd
      refine List.pairwise_cons.2 ⟨fun q hq => ?_, h⟩
      rcases List.mem_cons.1 hq with e | e
      · rw [e]; exact hd
      · have := h'.1 q e
        show d < q.1
        omega
    · split
      · rename_i hd
        refine List.pairwise_cons.2 ⟨fun q hq => ?_, h'.2⟩
        have := h'.1 q hq
        show d < q.1
        omega
      · refine List.pairwise_cons.2 ⟨fun q hq => ?_, insP_grows d r h'.2⟩
        rcases mem_insP hq with e | e
        · rw [e]; show p.1 < d; omega
        · exact h'.1 q e
theorem insP_len (d r : Int) : ∀ l : List (Int × Int), (insP l d r).length ≤ l.length + 1
  | [] => by simp [insP]
  | p :: l => by
    unfold insP
    have := insP_len d r l
    split
    · simp
    · split <;> simp
      omega
theorem Okl.ins {l : List (Int × Int)} (h : Okl l) {d r : Int} (hd : 0 ≤ d ∧ d ≤ 109572) (hr : 0 ≤ r ∧ r ≤ 1000000000) : Okl (insP l d r) :=
  ⟨insP_grows d r h.1, fun p hp => by
    rcases mem_insP hp with e | e
    · rw [e]; exact ⟨hd, hr⟩
    · exact h.2 p e⟩
theorem putE_zero {d r : Int} (h : putE d r = 0) : (0 ≤ d ∧ d ≤ 109572) ∧ (0 ≤ r ∧ r ≤ 1000000000) := by
  unfold putE at h
  split at h
  · omega
  · split at h
    · omega
    · omega
theorem Okl.put {l : List (Int × Int)} (h : Okl l) (d r : Int) : Okl (putV l d r) := by
  unfold putV
  split
  · rename_i he
    exact h.ins (putE_zero he).1 (putE_zero he).2
  · exact h
theorem putV_len (l : List (Int × Int)) (d r : Int) : (putV l d r).length ≤ l.length + 1 := by
  unfold putV
  split
  · exact insP_len d r l
  · omega
structure Tab (s : St) (tb : Nat) (v : Value) (l : List (Int × Int)) : Prop where
  lo : 8 ≤ tb
  lt : tb < s.next
  cell : s.getC tb = some [v]
  sl : SlcU s v l
  blo : ∀ b, blkOf v = some b → 8 ≤ b
theorem Tab.apart {s : St} {tb : Nat} {v : Value} {l : List (Int × Int)} (h : Tab s tb v l) : blkOf v ≠ some tb := by
  rcases h.sl with ⟨_, rfl⟩ | ⟨sb, rfl, h2, h3, h4⟩
  · intro e; cases e
  · intro e
    have e' : sb = tb := Option.some.inj e
    subst e'
    rw [h.cell] at h3
    cases l with
    | nil => exact h4 rfl
    | cons p l => exact absurd (congrArg List.length (Option.some.inj h3)) (by simp [flatV])
theorem Tab.blt {s : St} {tb : Nat} {v : Value} {l : List (Int × Int)} (h : Tab s tb v l) : ∀ b, blkOf v = some b → b < s.next := by
  intro b hb
  rcases h.sl with ⟨_, rfl⟩ | ⟨sb, rfl, h2, h3, h4⟩
  · cases hb
  · cases hb; exact h2
/-- what leaves a table's blocks as they are leaves the table -/
theorem Tab.keep {s u : St} {tb : Nat} {v : Value} {l : List (Int × Int)} (h : Tab s tb v l) (hn : s.next ≤ u.next) (h1 : u.getC tb = s.getC tb) (h2 : ∀ b, blkOf v = some b → u.getC b = s.getC b) : Tab u tb v l := by
  refine ⟨h.lo, Nat.lt_of_lt_of_le h.lt hn, h1.trans h.cell, ?_, h.blo⟩
  rcases h.sl with h0 | ⟨sb, rfl, a, b, c⟩
  · exact .inl h0
  · exact .inr ⟨sb, rfl, Nat.lt_of_lt_of_le a hn, (h2 sb rfl).trans b, c⟩
theorem Tab.grew {k : Nat} {s u : St} {tb : Nat} {v : Value} {l : List (Int × Int)} (h : Tab s tb v l) (g : Grew k s u) : Tab u tb v l :=
  h.keep g.1 (g.2.2 tb h.lt) fun b hb => g.2.2 b (h.blt b hb)
theorem Tab.at {s : St} {tb : Nat} {v : Value} {l : List (Int × Int)} (h : Tab s tb v l) : TabAt s tb l :=
  ⟨h.lt, v, h.cell, by
    rcases h.sl with h | ⟨sb, h1, h2, h3, _⟩
    · exact Or.inl h
    · exact Or.inr ⟨sb, _, h1, h2, h3⟩⟩
theorem put (M : Nat) (hM : 2000 ≤ M) (s : St) (tb : Nat) (v : Value) (l : List (Int × Int)) (d r : Int) (hl : l.length < 256) (ho : Okl l) (ht : Tab s tb v l) (hn : s.next + 3 ≤ lim) :
    ∃ v' u', callN E (M + 4) 27 [.pointer (some ⟨tb, 0, none⟩), .int .i64 d, .int .i64 r] s = some (.int .i64 (putE d r), u') ∧ Tab u' tb v' (putV l d r) ∧ s.next ≤ u'.next ∧ u'.next ≤ s.next + 4 ∧ (∀ y, y < s.next → y ≠ tb → blkOf v ≠ some y → u'.getC y = s.getC y) ∧ ∀ b, blkOf v' = some b → blkOf v = some b ∨ s.next ≤ b := by
  by_cases hd : d < 0 ∨ 109572 < d
  · have e : putE d r = 12 := if_pos hd
    have e' : putV l d r = l := if_neg (by rw [e]; decide)
    rw [e, e']
    exact ⟨v, s, put_day (M + 3) _ d r s hd, ht, by omega, by omega, fun _ _ _ _ => rfl, fun b hb => .inl hb⟩
  by_cases hr : r < 0 ∨ 1000000000 < r
  · have e : putE d r = 1 := by unfold putE; rw [if_neg hd, if_pos hr]
    have e' : putV l d r = l := if_neg (by rw [e]; decide)
    rw [e, e']
    exact ⟨v, s, put_rate (M + 3) _ d r s (by omega) hr, ht, by omega, by omega, fun _ _ _ _ => rfl, fun b hb => .inl hb⟩
  have e : putE d r = 0 := by unfold putE; rw [if_neg hd, if_neg hr]
  have e' : putV l d r = insP l d r := if_pos e
  have hs := ho.1.sorted
  have hlo := ht.lo
  have hlt := ht.lt
  rw [e, e']
  by_cases hx : ∃ k, ∃ hk : k < l.length, l[k].1 = d
  · obtain ⟨k, hk, hkd⟩ := hx
    rcases ht.sl with ⟨h0, _⟩ | ⟨sb, hv, hsb, hc, hne⟩
    · subst h0; exact absurd hk (by simp)
    subst hv
    have gr := List.pairwise_iff_getElem.1 ho.1
    obtain ⟨u', r1, r2, r3, r4, r5⟩ := put_same M hM s tb sb (UNK + 2) l d r (by omega) hs ht.lt ht.cell hsb hc (by omega) (by omega) (by omega) k
      ⟨hk, fun x h hx => by rw [← hkd]; exact hs x k h hk (by omega), fun x h hx => by rw [← hkd]; exact gr k x hk h (by omega)⟩ hk hkd (ht.blo sb rfl)
    have hpe := insP_same d r l k hk hkd fun x h hx => by rw [← hkd]; exact gr x k h hk hx
    rw [hpe] at r4
    have hlen : (insP l d r).length = l.length := by rw [← hpe, List.length_set]
    refine ⟨_, u', r1, ⟨ht.lo, by omega, (r5 tb ht.lt fun e => ht.apart (congrArg some e.symm)).trans ht.cell, .inr ⟨sb, by rw [hlen], by omega, r4, fun h0 => ?_⟩, ht.blo⟩, r2, by omega, fun y h1 h2 h3 => r5 y h1 fun e => h3 (congrArg some e.symm), fun b hb => .inl hb⟩
    rw [h0] at hlen
    have : l.length = 0 := hlen.symm
    omega
  · have hno : ∀ x (h : x < l.length), l[x].1 ≠ d := fun x h e => hx ⟨x, h, e⟩
    obtain ⟨k, u', sb', r1, r2, r3, r4, r5, r6, r7, r8, r9⟩ := put_new M hM s tb v l d r hl hs ht.lt ht.cell ht.sl hn (by omega) ht.lo (by omega) (by omega) hno
    have hpe := insP_new d r l k r2.1 r2.2.1 r2.2.2 hno
    have hlen : (insP l d r).length = l.length + 1 := by rw [← hpe]; exact insS_len l k _ r2.1
    rw [hpe] at r8
    refine ⟨_, u', r1, ⟨ht.lo, by omega, r7, .inr ⟨sb', by rw [hlen], r6, r8, fun h0 => ?_⟩, fun b hb => ?_⟩, r3, r4, r9, fun b hb => .inr ?_⟩
    · rw [h0] at hlen; simp at hlen
    · cases hb; show 8 ≤ sb'; omega
    · cases hb; exact r5
end Go.Proofs.Ytdnedangfnincaa.AbsAccO.R
namespace Go.Proofs.Ytdnedangfnincaa.AbsAccO.R
open Go Go.Abs Go.Proofs
set_option maxRecDepth 100000
set_option linter.unusedVariables false
set_option linter.unusedSimpArgs false
/-! Sum: its loop -/
def nxt : List (Int × Int) → Int
  | [] => 109573
  | q :: _ => q.1
def gain (d e r f t : Int) : Int := if 0 < min e t - max d f then (min e t - max d f) * r else 0
def sumP (f t : Int) : List (Int × Int) → Int
  | [] => 0
  | p :: l => gain p.1 (nxt l) p.2 f t + sumP f t l
theorem mulB {a b : Int} (ha : 0 ≤ a) (ha' : a ≤ 109573) (hb : 0 ≤ b) (hb' : b ≤ 1000000000) : 0 ≤ a * b ∧ a * b ≤ 109573000000000 :=
  ⟨Int.mul_nonneg ha hb, Int.le_trans (Int.mul_le_mul ha' hb' hb (by omega)) (by omega)⟩
theorem gainB {d e r f t : Int} (hf : 0 ≤ f ∧ f ≤ 109573) (ht : 0 ≤ t ∧ t ≤ 109573) (hr : 0 ≤ r ∧ r ≤ 1000000000) : 0 ≤ gain d e r f t ∧ gain d e r f t ≤ 109573000000000 := by
  unfold gain
  split
  · exact mulB (by omega) (by omega) hr.1 hr.2
  · omega
theorem drop_nxt (l : List (Int × Int)) (i : Nat) (h : i < l.length) : nxt (l.drop i) = l[i].1 := by
  rw [List.drop_eq_getElem_cons h]; rfl
theorem Grew.trans {j k : Nat} {a b c : St} (h : Grew j a b) (g : Grew k b c) : Grew (j + k) a c :=
  ⟨Nat.le_trans h.1 g.1, by have := h.2.1; have := g.2.1; omega, fun y hy => (g.2.2 y (Nat.lt_of_lt_of_le hy h.1)).trans (h.2.2 y hy)⟩
theorem Own.sns {s u w : St} (h : Own s u) (hn : w.next = u.next + 1) (hw : ∀ y, w.wr.testBit y = true → u.wr.testBit y = true ∨ y = u.next) (hr : ∀ y, w.rd.testBit y = true → u.rd.testBit y = true ∨ y < u.next) : Own s w := by
  have := h.1
  refine ⟨by omega, fun y hy => ?_, fun y hy => ?_⟩
  · rcases hw y hy with k | k
    · rcases h.2.1 y k with k | k
      · exact .inl k
      · exact .inr ⟨k.1, by omega⟩
    · exact .inr ⟨by omega, by omega⟩
  · rcases hr y hy with k | k
    · rcases h.2.2 y k with k | k
      · exact .inl k
      · exact .inr (by omega)
    · exact .inr (by omega)
theorem sumL (rec : Rec) (N : Nat) (s : St) (tb sb c : Nat) (l : List (Int × Int)) (f t : Int) (hl : l.length ≤ 256) (ho : Okl l) (hf : 0 ≤ f ∧ f ≤ 109573) (ht : 0 ≤ t ∧ t ≤ 109573) (h8 : 8 ≤ s.next) (htb : tb < s.next) (hv : s.getC tb = some [.slice (some ⟨sb, 0, none⟩) l.length c]) (hsb : sb < s.next) (hc : s.getC sb = some (flatV l)) (hn : s.next + 300 ≤ lim) :
    ∀ (fuel i : Nat) (a : Int) (fs : Frm) (u : St), Grew i s u → Own s u → fs.get t0 = some (.pointer (some ⟨tb, 0, none⟩)) → fs.get t1 = some (.int .i64 f) → fs.get t2 = some (.int .i64 t) → fs.get t7 = some (.int .i64 a) → fs.get t21 = some (.slice (some ⟨sb, 0, none⟩) l.length c) → fs.get t22 = some (.int .i64 (l.length : Int)) → fs.get t23 = some (.int .i64 (i : Int)) → i ≤ l.length → 0 ≤ a → a ≤ (i : Int) * 109573000000000 → l.length - i < fuel →
    ∃ fs' u', loopF (c63_l0 rec N) fuel fs u = some (.exit 0, fs', u') ∧ Grew 256 s u' ∧ Own s u' ∧ fs'.get t7 = some (.int .i64 (a + sumP f t (l.drop i))) := by
  intro fuel
  induction fuel with
  | zero => intro i a fs u _ _ _ _ _ _ _ _ _ _ _ _ h; omega
  | succ fuel ih =>
    intro i a fs u hu hk h0 h1 h2 h7 h21 h22 h23 hi ha0 ha1 hfu
    have hlim : lim = 1000000000 := rfl
    have h40 : (2:Nat) ^ 40 = 1099511627776 := rfl
    rw [loop_s, d63_l0]
    unfold D63_l0
    by_cases hlt : i < l.length
    · have e1 : decide ((i : Int) < (l.length : Int)) = true := decide_eq_true (by omega)
      have q1 := hu.1
      have q2 := hu.2.1
      have ok := ho.2 l[i] (List.getElem_mem hlt)
      have uc : u.getC sb = some (flatV l) := (hu.2.2 sb hsb).trans hc
      have ld2 : oLoadN 2 (.v (.pointer (some ⟨sb, 0 + i * 2, none⟩))) rec PT.nil u = some (aggOf [.int .i64 l[i].1, .int .i64 l[i].2], u.seen sb) := load2_e sb (0 + i * 2) _ _ _ rec PT.nil u uc (by rw [flat_len]; omega) (by rw [Nat.zero_add]; exact flat_two l i hlt)
      obtain ⟨ua, a1, a2, a3, a4⟩ := alloc_e (u.seen sb) [.int .i64 0, .int .i64 0] (by rw [St.seen_next]; omega) rfl
      have nw := new2_e (.int .i64 0) (.int .i64 0) rec PT.nil (u.seen sb) ua a1
      have sto := store2_e (u.seen sb).next (.int .i64 0) (.int .i64 0) (.int .i64 l[i].1) (.int .i64 l[i].2) rec PT.nil ua a3
      rw [St.seen_next] at a2 a3 a4 nw sto
      obtain ⟨w, hw⟩ : ∃ w, w = ua.set u.next (some [.int .i64 l[i].1, .int .i64 l[i].2]) := ⟨_, rfl⟩
      rw [← hw] at sto
      have wget : ∀ y, w.getC y = if y = u.next then some [.int .i64 l[i].1, .int .i64 l[i].2] else u.getC y := by
        intro y
        rw [hw, set_getC _ _ _ _ (by omega) (by omega) rfl]
        by_cases e : y = u.next
        · rw [if_pos e, if_pos e]
        · rw [if_neg e, if_neg e, a4 y e, seen_getC]
      have wnext : w.next = u.next + 1 := by rw [hw, St.set_next, a2]
      have wn : w.getC u.next = some [.int .i64 l[i].1, .int .i64 l[i].2] := by rw [wget, if_pos rfl]
      have wt : w.getC tb = some [.slice (some ⟨sb, 0, none⟩) l.length c] := by rw [wget, if_neg (by omega), hu.2.2 tb htb, hv]
      have ws : w.getC sb = some (flatV l) := by rw [wget, if_neg (by omega), uc]
      have hgw : ∀ z, (∀ y, z.getC y = w.getC y) → z.next = w.next → Grew (i + 1) s z := fun z hz hzn => ⟨by omega, by omega, fun y hy => by rw [hz, wget, if_neg (by omega), hu.2.2 y hy]⟩
      have hkw : Own s w := by
        refine Own.sns hk wnext (fun y hy => ?_) (fun y hy => ?_)
        · have aw := (St.alloc_some a1).2.2.2.2.1
          rw [hw, St.set_wr, testBit_lor, testBit_bit, aw, testBit_lor, testBit_bit, sn_wr, St.seen_next] at hy
          rw [Bool.or_eq_true, Bool.or_eq_true, decide_eq_true_eq] at hy
          rcases hy with (h | h) | h
          · exact .inl h
          · exact .inr (by omega)
          · exact .inr (by omega)
        · have ar := (St.alloc_some a1).2.2.2.1
          rw [hw, set_rd, ar, St.seen_rd, testBit_lor, testBit_bit, Bool.or_eq_true, decide_eq_true_eq] at hy
          rcases hy with h | h
          · exact .inl h
          · exact .inr (by omega)
      have l1 : ∀ (rec : Rec) (fs : Frm) (z : St), (∀ y, z.getC y = w.getC y) → oLoad1 (.v (.pointer (some ⟨tb, 0 + 0, none⟩))) rec fs z = some (.slice (some ⟨sb, 0, none⟩) l.length c, z.seen tb) := fun rec fs z h => load1_e tb (0 + 0) _ _ rec fs z ((h tb).trans wt) rfl
      have l3 : ∀ (rec : Rec) (fs : Frm) (z : St), (∀ y, z.getC y = w.getC y) → oLoad1 (.v (.pointer (some ⟨u.next, 0 + 0, none⟩))) rec fs z = some (.int .i64 l[i].1, z.seen u.next) := fun rec fs z h => load1_e u.next (0 + 0) _ _ rec fs z ((h u.next).trans wn) rfl
      have l4 : ∀ (rec : Rec) (fs : Frm) (z : St), (∀ y, z.getC y = w.getC y) → oLoad1 (.v (.pointer (some ⟨u.next, 0 + 1, none⟩))) rec fs z = some (.int .i64 l[i].2, z.seen u.next) := fun rec fs z h => load1_e u.next (0 + 1) _ _ rec fs z ((h u.next).trans wn) rfl
      have hai : int2 addO (.int .i64 (i : Int)) (.int .i64 1) = some (.int .i64 ((i + 1 : Nat) : Int)) := by rw [add_e _ _ (by omega) (by omega)]; rfl
      have hdrop := List.drop_eq_getElem_cons hlt
      have rest : ∀ (b : Int) (fs' : Frm) (z : St), (∀ y, z.getC y = w.getC y) → z.next = w.next → Own s z → b = a + gain l[i].1 (nxt (l.drop (i + 1))) l[i].2 f t → fs'.get t0 = some (.pointer (some ⟨tb, 0, none⟩)) → fs'.get t1 = some (.int .i64 f) → fs'.get t2 = some (.int .i64 t) → fs'.get t7 = some (.int .i64 b) → fs'.get t21 = some (.slice (some ⟨sb, 0, none⟩) l.length c) → fs'.get t22 = some (.int .i64 (l.length : Int)) → fs'.get t23 = some (.int .i64 ((i + 1 : Nat) : Int)) →
          ∃ fs'' u', loopF (c63_l0 rec N) fuel fs' z = some (.exit 0, fs'', u') ∧ Grew 256 s u' ∧ Own s u' ∧ fs''.get t7 = some (.int .i64 (a + sumP f t (l.drop i))) := by
        intro b fs' z hz hzn hzw hb k0 k1 k2 k7 k21 k22 k23
        have gb := gainB (d := l[i].1) (e := nxt (l.drop (i + 1))) (r := l[i].2) hf ht ok.2
        obtain ⟨fs'', u', r1, r2, rk, r3⟩ := ih (i + 1) b fs' z (hgw z hz hzn) hzw k0 k1 k2 k7 k21 k22 k23 (by omega) (by omega) (by omega) (by omega)
        refine ⟨fs'', u', r1, r2, rk, ?_⟩
        rw [r3, hdrop, hb]
        show _ = some (Value.int .i64 (a + (gain _ _ _ f t + sumP f t (l.drop (i + 1)))))
        rw [Int.add_assoc]
      have mv : ∀ x : Int, 0 < x → x ≤ 109573 → int2 mulO (.int .i64 x) (.int .i64 l[i].2) = some (.int .i64 (x * l[i].2)) := fun x hx hx' => by
        have := mulB (Int.le_of_lt hx) hx' ok.2.1 ok.2.2
        exact mul_e _ _ (by omega) (by omega)
      have av : ∀ x : Int, 0 < x → x ≤ 109573 → int2 addO (.int .i64 a) (.int .i64 (x * l[i].2)) = some (.int .i64 (a + x * l[i].2)) := fun x hx hx' => by
        have := mulB (Int.le_of_lt hx) hx' ok.2.1 ok.2.2
        exact add_e _ _ (by omega) (by omega)
      by_cases hlast : i + 1 < l.length
      · have e11 : decide ((i : Int) < (l.length : Int) - 1) = true := decide_eq_true (by omega)
        have l2 : ∀ (rec : Rec) (fs : Frm) (z : St), (∀ y, z.getC y = w.getC y) → oLoad1 (.v (.pointer (some ⟨sb, 0 + (i + 1) * 2 + 0, none⟩))) rec fs z = some (.int .i64 l[i + 1].1, z.seen sb) := fun rec fs z h => load1_e sb _ _ _ rec fs z ((h sb).trans ws) (by rw [Nat.zero_add, Nat.add_zero, flat_day l (i + 1) hlast])
        have hnx := drop_nxt l (i + 1) hlast
        have ok2 := ho.2 l[i + 1] (List.getElem_mem hlast)
        have sv : int2 subO (.int .i64 (min l[i + 1].1 t)) (.int .i64 (max l[i].1 f)) = some (.int .i64 (min l[i + 1].1 t - max l[i].1 f)) := sub_e _ _ (by omega) (by omega)
        by_cases hp : 0 < min l[i + 1].1 t - max l[i].1 f
        · have e24 : decide (0 < min l[i + 1].1 t - max l[i].1 f) = true := decide_eq_true hp
          simp (disch := first | omega | (intro y; simp only [seen_getC])) only [op2_s', op_s', op2_op, op2_op2, op2_cond, ev_v', call_r', map_c', map_n', bin_e', pick_e', not_e, ext_e', nth_z', nth_1', nth_2', nth_3', gval_e, gval_u', cmp_e, orUndef_t', orUndef_f', condV_t', condV_f', cond_true, cond_false, eqI_eq, neI_eq, ltI_eq, leI_eq, gtI_eq', geI_eq, Bool.not_true, Bool.not_false, beq_self_eq_true, tf_beq, ft_beq, eq_self, decide_true, decide_false, oneOf1, orU_some, h0, h1, h2, h7, h21, h22, h23, e1, idxL_e, ld2, nw, sto, nilCheck_e, fieldAddr_e, l1, lenL_e, sub_e, e11, hai, l2, min_e, max_e, l3, sv, e24, l4, mv _ hp (by omega), av _ hp (by omega), thenX_n']
          exact rest _ _ _ (fun y => by simp only [seen_getC]) (by simp only [St.seen_next]) (by repeat (first | exact hkw | refine Own.seen ?_ _ (by first | omega | (simp only [St.seen_next]; omega)))) (by unfold gain; rw [hnx, if_pos hp]) ((by kernel_rfl : _ = fs.get t0).trans h0) ((by kernel_rfl : _ = fs.get t1).trans h1) ((by kernel_rfl : _ = fs.get t2).trans h2) (by kernel_rfl) ((by kernel_rfl : _ = fs.get t21).trans h21) ((by kernel_rfl : _ = fs.get t22).trans h22) (by kernel_rfl)
        · have e24 : decide (0 < min l[i + 1].1 t - max l[i].1 f) = false := decide_eq_false hp
          simp (disch := first | omega | (intro y; simp only [seen_getC])) only [op2_s', op_s', op2_op, op2_op2, op2_cond, ev_v', call_r', map_c', map_n', bin_e', pick_e', not_e, ext_e', nth_z', nth_1', nth_2', nth_3', gval_e, gval_u', cmp_e, orUndef_t', orUndef_f', condV_t', condV_f', cond_true, cond_false, eqI_eq, neI_eq, ltI_eq, leI_eq, gtI_eq', geI_eq, Bool.not_true, Bool.not_false, beq_self_eq_true, tf_beq, ft_beq, eq_self, decide_true, decide_false, oneOf1, orU_some, h0, h1, h2, h7, h21, h22, h23, e1, idxL_e, ld2, nw, sto, nilCheck_e, fieldAddr_e, l1, lenL_e, sub_e, e11, hai, l2, min_e, max_e, l3, sv, e24, thenX_n']
          exact rest a _ _ (fun y => by simp only [seen_getC]) (by simp only [St.seen_next]) (by repeat (first | exact hkw | refine Own.seen ?_ _ (by first | omega | (simp only [St.seen_next]; omega)))) (by unfold gain; rw [hnx, if_neg hp, Int.add_zero]) ((by kernel_rfl : _ = fs.get t0).trans h0) ((by kernel_rfl : _ = fs.get t1).trans h1) ((by kernel_rfl : _ = fs.get t2).trans h2) ((by kernel_rfl : _ = fs.get t7).trans h7) ((by kernel_rfl : _ = fs.get t21).trans h21) ((by kernel_rfl : _ = fs.get t22).trans h22) (by kernel_rfl)
      · have e11 : decide ((i : Int) < (l.length : Int) - 1) = false := decide_eq_false (by omega)
        have hnx : nxt (l.drop (i + 1)) = 109573 := by rw [List.drop_eq_nil_of_le (by omega)]; rfl
        have sv : int2 subO (.int .i64 (min 109573 t)) (.int .i64 (max l[i].1 f)) = some (.int .i64 (min 109573 t - max l[i].1 f)) := sub_e _ _ (by omega) (by omega)
        by_cases hp : 0 < min 109573 t - max l[i].1 f
        · have e24 : decide (0 < min 109573 t - max l[i].1 f) = true := decide_eq_true hp
          simp (disch := first | omega | (intro y; simp only [seen_getC])) only [op2_s', op_s', op2_op, op2_op2, op2_cond, ev_v', call_r', map_c', map_n', bin_e', pick_e', not_e, ext_e', nth_z', nth_1', nth_2', nth_3', gval_e, gval_u', cmp_e, orUndef_t', orUndef_f', condV_t', condV_f', cond_true, cond_false, eqI_eq, neI_eq, ltI_eq, leI_eq, gtI_eq', geI_eq, Bool.not_true, Bool.not_false, beq_self_eq_true, tf_beq, ft_beq, eq_self, decide_true, decide_false, oneOf1, orU_some, h0, h1, h2, h7, h21, h22, h23, e1, idxL_e, ld2, nw, sto, nilCheck_e, fieldAddr_e, l1, lenL_e, sub_e, e11, hai, min_e, max_e, l3, sv, e24, l4, mv _ hp (by omega), av _ hp (by omega), thenX_n']
          exact rest _ _ _ (fun y => by simp only [seen_getC]) (by simp only [St.seen_next]) (by repeat (first | exact hkw | refine Own.seen ?_ _ (by first | omega | (simp only [St.seen_next]; omega)))) (by unfold gain; rw [hnx, if_pos hp]) ((by kernel_rfl : _ = fs.get t0).trans h0) ((by kernel_rfl : _ = fs.get t1).trans h1) ((by kernel_rfl : _ = fs.get t2).trans h2) (by kernel_rfl) ((by kernel_rfl : _ = fs.get t21).trans h21) ((by kernel_rfl : _ = fs.get t22).trans h22) (by kernel_rfl)
        · have e24 : decide (0 < min 109573 t - max l[i].1 f) = false := decide_eq_false hp
          simp (disch := first | omega | (intro y; simp only [seen_getC])) only [op2_s', op_s', op2_op, op2_op2, op2_cond, ev_v', call_r', map_c', map_n', bin_e', pick_e', not_e, ext_e', nth_z', nth_1', nth_2', nth_3', gval_e, gval_u', cmp_e, orUndef_t', orUndef_f', condV_t', condV_f', cond_true, cond_false, eqI_eq, neI_eq, ltI_eq, leI_eq, gtI_eq', geI_eq, Bool.not_true, Bool.not_false, beq_self_eq_true, tf_beq, ft_beq, eq_self, decide_true, decide_false, oneOf1, orU_some, h0, h1, h2, h7, h21, h22, h23, e1, idxL_e, ld2, nw, sto, nilCheck_e, fieldAddr_e, l1, lenL_e, sub_e, e11, hai, min_e, max_e, l3, sv, e24, thenX_n']
          exact rest a _ _ (fun y => by simp only [seen_getC]) (by simp only [St.seen_next]) (by repeat (first | exact hkw | refine Own.seen ?_ _ (by first | omega | (simp only [St.seen_next]; omega)))) (by unfold gain; rw [hnx, if_neg hp, Int.add_zero]) ((by kernel_rfl : _ = fs.get t0).trans h0) ((by kernel_rfl : _ = fs.get t1).trans h1) ((by kernel_rfl : _ = fs.get t2).trans h2) ((by kernel_rfl : _ = fs.get t7).trans h7) ((by kernel_rfl : _ = fs.get t21).trans h21) ((by kernel_rfl : _ = fs.get t22).trans h22) (by kernel_rfl)
    · have e1 : decide ((i : Int) < (l.length : Int)) = false := decide_eq_false (by omega)
      simp only [op2_s', op_s', op2_op, op2_op2, op2_cond, ev_v', call_r', map_c', map_n', bin_e', pick_e', not_e, ext_e', nth_z', nth_1', nth_2', nth_3', gval_e, gval_u', cmp_e, orUndef_t', orUndef_f', condV_t', condV_f', cond_true, cond_false, eqI_eq, neI_eq, ltI_eq, leI_eq, gtI_eq', geI_eq, Bool.not_true, Bool.not_false, beq_self_eq_true, tf_beq, ft_beq, eq_self, decide_true, decide_false, oneOf1, orU_some, h22, h23, e1, thenX_e']
      refine ⟨_, _, rfl, ⟨hu.1, by have := hu.2.1; omega, hu.2.2⟩, hk, ?_⟩
      rw [List.drop_eq_nil_of_le (by omega)]
      show _ = some (Value.int .i64 (a + 0))
      rw [Int.add_zero]
      exact (by kernel_rfl : _ = fs.get t7).trans h7
/-! Sum, whole -/
def clamp (x : Int) : Int := min (max x 0) 109573
theorem k63 (M : Nat) (a b c : Value) (s : St) : callN E (M + 1) 63 [a, b, c] s = callF (callN E M) M c63 [a, b, c] s := by kernel_rfl
theorem sum (M : Nat) (hM : 2000 ≤ M) (s : St) (tb : Nat) (v : Value) (l : List (Int × Int)) (f t : Int) (hl : l.length ≤ 256) (ho : Okl l) (htab : Tab s tb v l) (h8 : 8 ≤ s.next) (hn : s.next + 300 ≤ lim) :
    ∃ u', callN E (M + 1) 63 [.pointer (some ⟨tb, 0, none⟩), .int .i64 f, .int .i64 t] s = some (.int .i64 (sumP (clamp f) (clamp t) l), u') ∧ Grew 256 s u' ∧ Own s u' := by
  have hcf : 0 ≤ clamp f ∧ clamp f ≤ 109573 := by unfold clamp; omega
  have hct : 0 ≤ clamp t ∧ clamp t ≤ 109573 := by unfold clamp; omega
  have l1 : oLoad1 (.v (.pointer (some ⟨tb, 0 + 0, none⟩))) (callN E M) PT.nil s = some (v, s.seen tb) := load1_e tb (0 + 0) _ _ _ PT.nil s htab.cell rfl
  have main : ∃ fs' u', loopF (c63_l0 (callN E M) M) M (PT.put (.int .i64 0) t23 (PT.put (.int .i64 (l.length : Int)) t22 (PT.put v t21 (PT.put (.pointer (some ⟨tb, 0 + 0, none⟩)) t20 (PT.put (.pointer (some ⟨tb, 0, none⟩)) t19 (PT.put (.pointer (some ⟨tb, 0, none⟩)) t18 (PT.put (.int .i64 0) t7 (PT.put (.int .i64 (clamp t)) t2 (PT.put (.int .i64 (clamp f)) t1 (PT.put (.int .i64 (clamp t)) t17 (PT.put (.int .i64 (max t 0)) t16 (PT.put (.int .i64 t) t15 (PT.put (.int .i64 (clamp f)) t14 (PT.put (.int .i64 (max f 0)) t13 (PT.put (.int .i64 f) t12 (PT.put (.int .i64 0) t6 (PT.put (.int .i64 t) t2 (PT.put (.int .i64 f) t1 (PT.put (.pointer (some ⟨tb, 0, none⟩)) t0 PT.nil))))))))))))))))))) (s.seen tb) = some (.exit 0, fs', u') ∧ Grew 256 s u' ∧ Own s u' ∧ fs'.get t7 = some (.int .i64 (sumP (clamp f) (clamp t) l)) := by
    rcases htab.sl with ⟨rfl, rfl⟩ | ⟨sb, rfl, hsb, hc, hne⟩
    · obtain ⟨M, rfl⟩ : ∃ m, M = m + 1 := ⟨M - 1, by omega⟩
      rw [loop_s, d63_l0]
      unfold D63_l0
      have g23 : ∀ x : Frm, (PT.put (.int .i64 0) t23 x).get t23 = some (.int .i64 0) := fun x => by kernel_rfl
      have g22 : ∀ (x : Frm) (y : Value), (PT.put y t23 (PT.put (.int .i64 (([] : List (Int × Int)).length : Int)) t22 x)).get t22 = some (.int .i64 0) := fun x y => by kernel_rfl
      have e1 : decide ((0 : Int) < 0) = false := rfl
      simp only [g23, g22, op2_s', op_s', op2_op, op2_op2, op2_cond, ev_v', call_r', map_c', map_n', bin_e', pick_e', not_e, ext_e', nth_z', nth_1', nth_2', nth_3', gval_e, gval_u', cmp_e, orUndef_t', orUndef_f', condV_t', condV_f', cond_true, cond_false, eqI_eq, neI_eq, ltI_eq, leI_eq, gtI_eq', geI_eq, Bool.not_true, Bool.not_false, beq_self_eq_true, tf_beq, ft_beq, eq_self, decide_true, decide_false, oneOf1, orU_some, e1, thenX_e']
      exact ⟨_, _, rfl, ⟨by rw [St.seen_next]; omega, by rw [St.seen_next]; omega, fun y _ => seen_getC _ _ _⟩, (Own.refl _).seen _ htab.lt, by kernel_rfl⟩
    · obtain ⟨fs', u', r1, r2, rk, r3⟩ := sumL (callN E M) M s tb sb (UNK + 2) l (clamp f) (clamp t) hl ho hcf hct h8 htab.lt htab.cell hsb hc hn M 0 0 (PT.put (.int .i64 0) t23 (PT.put (.int .i64 (l.length : Int)) t22 (PT.put (.slice (some ⟨sb, 0, none⟩) l.length (UNK + 2)) t21 (PT.put (.pointer (some ⟨tb, 0 + 0, none⟩)) t20 (PT.put (.pointer (some ⟨tb, 0, none⟩)) t19 (PT.put (.pointer (some ⟨tb, 0, none⟩)) t18 (PT.put (.int .i64 0) t7 (PT.put (.int .i64 (clamp t)) t2 (PT.put (.int .i64 (clamp f)) t1 (PT.put (.int .i64 (clamp t)) t17 (PT.put (.int .i64 (max t 0)) t16 (PT.put (.int .i64 t) t15 (PT.put (.int .i64 (clamp f)) t14 (PT.put (.int .i64 (max f 0)) t13 (PT.put (.int .i64 f) t12 (PT.put (.int .i64 0) t6 (PT.put (.int .i64 t) t2 (PT.put (.int .i64 f) t1 (PT.put (.pointer (some ⟨tb, 0, none⟩)) t0 PT.nil))))))))))))))))))) (s.seen tb)
        ⟨by rw [St.seen_next]; omega, by rw [St.seen_next]; omega, fun y _ => seen_getC _ _ _⟩ ((Own.refl _).seen _ htab.lt) (by kernel_rfl) (by kernel_rfl) (by kernel_rfl) (by kernel_rfl) (by kernel_rfl) (by kernel_rfl) (by kernel_rfl) (by omega) (by omega) (by omega) (by omega)
      rw [List.drop_zero, Int.zero_add] at r3
      exact ⟨fs', u', r1, r2, rk, r3⟩
  obtain ⟨fs', u', r1, r2, rk, r3⟩ := main
  refine ⟨u', ?_, r2, rk⟩
  have hlen : ∀ w, oLenL (.v v) (callN E M) PT.nil w = some (.int .i64 (l.length : Int), w) := fun w => by
    rcases htab.sl with ⟨rfl, rfl⟩ | ⟨sb, rfl, h2, h3, h4⟩ <;> exact lenL_e _ _ _ _ PT.nil w
  rw [k63, d63]
  unfold D63
  have c1 : min (max f 0) 109573 = clamp f := rfl
  have c2 : min (max t 0) 109573 = clamp t := rfl
  simp only [op2_s', op_s', op2_op, op2_op2, op2_cond, ev_v', call_r', map_c', map_n', bin_e', pick_e', not_e, ext_e', nth_z', nth_1', nth_2', nth_3', gval_e, gval_u', cmp_e, orUndef_t', orUndef_f', condV_t', condV_f', cond_true, cond_false, eqI_eq, neI_eq, ltI_eq, leI_eq, gtI_eq', geI_eq, Bool.not_true, Bool.not_false, beq_self_eq_true, tf_beq, ft_beq, eq_self, decide_true, decide_false, oneOf1, orU_some, max_e, min_e, c1, c2, nilCheck_e, fieldAddr_e, l1, hlen]
  rw [r1]
  simp only [op2_s', blkX_e, Nat.beq_refl, cond_true, thenX_n', d63_r0, D63_r0, r3, orU_some, finX_r']
  first | rfl | (show _ = _; kernel_rfl)
end Go.Proofs.Ytdnedangfnincaa.AbsAccO.R
