import Derived.Test.YtdnedangfnincaaAbsY
namespace Go.Abs
set_option linter.unusedVariables false
set_option linter.unusedSimpArgs false
/-- an equation that simp does not take for one by computing (else the kernel compares whole runs) -/
theorem nrfl {α : Type} {a b : α} (h : a = b) : a = b := h
/-! a run, opened: one operation after the other, each the head of what follows -/
theorem op2_op2 {α β γ δ ε : Type} (A : Option (α × β)) (f : α → β → Option (γ × δ)) (g : γ → δ → Option ε) : opt2 (opt2 A f) g = opt2 A fun x y => opt2 (f x y) g := by cases A <;> rfl
theorem op2_op {α γ δ ε : Type} (A : Option α) (f : α → Option (γ × δ)) (g : γ → δ → Option ε) : opt2 (opt A f) g = opt A fun x => opt2 (f x) g := by cases A <;> rfl
theorem op2_s {α β γ : Type} (a : α) (b : β) (k : α → β → Option γ) : opt2 (some (a, b)) k = k a b := nrfl rfl
theorem op2_n {α β γ : Type} (k : α → β → Option γ) : opt2 none k = none := nrfl rfl
theorem op_s {α β : Type} (a : α) (k : α → Option β) : opt (some a) k = k a := nrfl rfl
theorem op_n {α β : Type} (k : α → Option β) : opt none k = none := nrfl rfl
theorem ops_n (rec : Rec) (fs : Frm) (s : St) : runOps rec [] fs s = some (fs, s) := nrfl rfl
theorem ops_c (rec : Rec) (o : AOper) (l : List AOper) (fs : Frm) (s : St) : runOps rec (o :: l) fs s = op1 rec o (runOps rec l) fs s := nrfl rfl
theorem op1_u (rec : Rec) (dst : Option Abs.P) (op : OpF) (ld : Option Arg) (k : Frm → St → OutF) (fs : Frm) (s : St) : op1 rec ⟨dst, op, none, ld⟩ k fs s = opt2 (op rec fs s) fun v s => k (putT fs dst v) s := nrfl rfl
noncomputable def orUndef (b : Bool) (x : Out) (s : St) : Out := bif b then x else some (undef, s)
theorem op1_gj (rec : Rec) (dst : Option Abs.P) (op : OpF) (ld : Option Arg) (p : Abs.P) (w : Bool) (k : Frm → St → OutF) (fs : Frm) (s : St) : op1 rec ⟨dst, op, some (p, w), ld⟩ k fs s = opt (gval w (orU (fs.get p))) fun b => opt2 (orUndef b (op rec fs s) s) fun v s => k (putT fs dst v) s := by
  show opt _ _ = opt _ _
  congr 1
  funext b
  cases b <;> rfl
theorem orUndef_t (x : Out) (s : St) : orUndef true x s = x := nrfl rfl
theorem orUndef_f (x : Out) (s : St) : orUndef false x s = some (undef, s) := nrfl rfl
/-- what follows, behind an exit -/
noncomputable def thenX (k : Frm → St → OutX) (e : AExit) (r : Frm × St) : OutX := AExit.rec (k r.1 r.2) (fun i => some (.exit i, r)) (some (.ret, r)) e
theorem thenX_n (k : Frm → St → OutX) (fs : Frm) (s : St) : thenX k .norm (fs, s) = k fs s := nrfl rfl
theorem thenX_e (k : Frm → St → OutX) (i : Nat) (r : Frm × St) : thenX k (.exit i) r = some (.exit i, r) := nrfl rfl
theorem thenX_r (k : Frm → St → OutX) (r : Frm × St) : thenX k .ret r = some (.ret, r) := nrfl rfl
theorem x_seq (a b : X) (rec : Rec) (n : Nat) (fs : Frm) (s : St) : xSeq a b rec n fs s = opt2 (a rec n fs s) (thenX (b rec n)) := nrfl rfl
theorem x_ops (l : List AOper) (rec : Rec) (n : Nat) (fs : Frm) (s : St) : xOps l rec n fs s = opt2 (runOps rec l fs s) fun fs s => some (.norm, fs, s) := nrfl rfl
theorem x_skip (rec : Rec) (n : Nat) (fs : Frm) (s : St) : xSkip rec n fs s = some (.norm, fs, s) := nrfl rfl
theorem x_ret (rec : Rec) (n : Nat) (fs : Frm) (s : St) : xRet rec n fs s = some (.ret, fs, s) := nrfl rfl
theorem x_exit (i : Nat) (rec : Rec) (n : Nat) (fs : Frm) (s : St) : xExit i rec n fs s = some (.exit i, fs, s) := nrfl rfl
noncomputable def condV {α : Type} (v : Value) (A B : Option α) : Option α := match v with
  | .bool t => Bool.rec B A t
  | _ => none
theorem x_cond (x : Arg) (a b : X) (rec : Rec) (n : Nat) (fs : Frm) (s : St) : xCond x a b rec n fs s = condV (ev fs x) (a rec n fs s) (b rec n fs s) := nrfl rfl
theorem condV_t {α : Type} (A B : Option α) : condV (.bool true) A B = A := nrfl rfl
theorem condV_f {α : Type} (A B : Option α) : condV (.bool false) A B = B := nrfl rfl
theorem condV_if {α : Type} (p : Prop) [Decidable p] (A B : Option α) : condV (.bool (decide p)) A B = if p then A else B := by
  by_cases h : p <;> simp [h, condV]
theorem op2_cond {β γ ε : Type} (v : Value) (A B : Option (β × γ)) (g : β → γ → Option ε) : opt2 (condV v A B) g = condV v (opt2 A g) (opt2 B g) := by
  cases v with
  | bool t => cases t <;> rfl
  | _ => rfl
noncomputable def blkX (id : Nat) (e : AExit) (r : Frm × St) : OutX := AExit.rec (some (.norm, r)) (fun i => Bool.rec (some (.exit i, r)) (some (.norm, r)) (Nat.beq i id)) (some (.ret, r)) e
theorem blkX_n (id : Nat) (r : Frm × St) : blkX id .norm r = some (.norm, r) := nrfl rfl
theorem blkX_r (id : Nat) (r : Frm × St) : blkX id .ret r = some (.ret, r) := nrfl rfl
theorem blkX_e (id i : Nat) (r : Frm × St) : blkX id (.exit i) r = bif Nat.beq i id then some (.norm, r) else some (.exit i, r) := by
  show (Bool.rec _ _ _ : OutX) = _
  cases Nat.beq i id <;> rfl
theorem x_block (id : Nat) (b : X) (rec : Rec) (n : Nat) (fs : Frm) (s : St) : xBlock id b rec n fs s = opt2 (b rec n fs s) (blkX id) := nrfl rfl
theorem x_loop (b : X) (rec : Rec) (n : Nat) (fs : Frm) (s : St) : xLoop b rec n fs s = loopF (b rec n) n fs s := nrfl rfl
noncomputable def finX (rs : List ARes) (e : AExit) (r : Frm × St) : Out := AExit.rec (opt2 (results r.1 rs r.2) fun vs s => some (oneOf vs, s)) (fun _ => none) (opt2 (results r.1 rs r.2) fun vs s => some (oneOf vs, s)) e
theorem finX_r (rs : List ARes) (fs : Frm) (s : St) : finX rs .ret (fs, s) = opt2 (results fs rs s) fun vs s => some (oneOf vs, s) := nrfl rfl
theorem finX_n (rs : List ARes) (fs : Frm) (s : St) : finX rs .norm (fs, s) = opt2 (results fs rs s) fun vs s => some (oneOf vs, s) := nrfl rfl
theorem call_f (rec : Rec) (n : Nat) (fn : AFunc) (args : List Value) (s : St) (h : Nat.ble (lenN args) fn.ntmps = true) : callF rec n fn args s = opt2 (fn.code rec n (frame args 0 .nil) s) (finX fn.results) := by
  unfold callF; rw [h]; rfl
theorem res_n (fs : Frm) (s : St) : results fs [] s = some ([], s) := nrfl rfl
theorem res_t (fs : Frm) (t : Abs.P) (l : List ARes) (s : St) : results fs (.tmp t :: l) s = opt2 (results fs l s) fun vs s => some (orU (fs.get t) :: vs, s) := nrfl rfl
theorem res_c (fs : Frm) (a : Abs.P) (n : Option Nat) (l : List ARes) (s : St) : results fs (.cell a n :: l) s = opt2 (res1 fs s (.cell a n)) fun v s => opt2 (results fs l s) fun vs s => some (v :: vs, s) := nrfl rfl
theorem mov_f (x : Arg) (rec : Rec) (fs : Frm) (s : St) : oMov x rec fs s = some (ev fs x, s) := nrfl rfl
/-! a loop -/
theorem loop_z (b : Frm → St → OutX) (fs : Frm) (s : St) : loopF b 0 fs s = none := nrfl rfl
theorem loop_s (b : Frm → St → OutX) (n : Nat) (fs : Frm) (s : St) : loopF b (n + 1) fs s = opt2 (b fs s) (thenX (loopF b n)) := nrfl rfl

/-! a region in one order -/
theorem x_reg (l : List AOper) (un : List (Nat × Nat)) (rec : Rec) (n : Nat) (fs : Frm) (s : St) : xReg l un rec n fs s = opt2 (runReg rec l fs s) fun ms r => bif apartAll ms un then some (.norm, r) else none := nrfl rfl
theorem reg_n (rec : Rec) (fs : Frm) (s : St) : runReg rec [] fs s = some ([], fs, s) := nrfl rfl
theorem reg_c (rec : Rec) (o : AOper) (l : List AOper) (fs : Frm) (s : St) : runReg rec (o :: l) fs s = reg1 rec o (runReg rec l) fs s := nrfl rfl
/-- one operation of a region: its value, its marks, the state behind it -/
noncomputable def rU (o : Out) (fs : Frm) (s : St) (ld : Option Arg) : Option (Value × (Mk × St)) := opt2 o fun v s1 => some (v, (mkOf fs s s1 ld, ⟨s1.heap, s1.next, Nat.lor s.rd s1.rd, Nat.lor s.wr s1.wr⟩))
noncomputable def orM (b : Bool) (x : Option (Value × (Mk × St))) (s : St) : Option (Value × (Mk × St)) := bif b then x else some (undef, (⟨(0, 0), s, s, none⟩, s))
theorem reg1_u (rec : Rec) (dst : Option Abs.P) (op : OpF) (ld : Option Arg) (k : Frm → St → OutM) (fs : Frm) (s : St) : reg1 rec ⟨dst, op, none, ld⟩ k fs s = opt2 (rU (op rec fs ⟨s.heap, s.next, 0, 0⟩) fs s ld) fun v m => consM m.1 (k (putT fs dst v) m.2) := by
  show (opt2 (op rec fs ⟨s.heap, s.next, 0, 0⟩) fun v s1 => consM (mkOf fs s s1 ld) (k (putT fs dst v) ⟨s1.heap, s1.next, Nat.lor s.rd s1.rd, Nat.lor s.wr s1.wr⟩)) = _
  unfold rU
  rw [op2_op2]
  rfl
theorem reg1_g (rec : Rec) (dst : Option Abs.P) (op : OpF) (ld : Option Arg) (p : Abs.P) (w : Bool) (k : Frm → St → OutM) (fs : Frm) (s : St) : reg1 rec ⟨dst, op, some (p, w), ld⟩ k fs s = opt (gval w (orU (fs.get p))) fun b => opt2 (orM b (rU (op rec fs ⟨s.heap, s.next, 0, 0⟩) fs s ld) s) fun v m => consM m.1 (k (putT fs dst v) m.2) := by
  show opt _ _ = opt _ _
  congr 1
  funext b
  cases b with
  | false => rfl
  | true =>
    show (opt2 (op rec fs ⟨s.heap, s.next, 0, 0⟩) fun v s1 => consM (mkOf fs s s1 ld) (k (putT fs dst v) ⟨s1.heap, s1.next, Nat.lor s.rd s1.rd, Nat.lor s.wr s1.wr⟩)) = _
    unfold orM rU
    rw [cond_true, op2_op2]
    rfl
theorem op2_cons {γ : Type} (m : Mk) (r : OutM) (f : List Mk → Frm × St → Option γ) : opt2 (consM m r) f = opt2 r fun ms r => f (m :: ms) r := by
  unfold consM
  rw [op2_op2]
  rfl
theorem op2_bif {α β γ : Type} (c : Bool) (A : Option (α × β)) (g : α → β → Option γ) : opt2 (bif c then A else none) g = bif c then opt2 A g else none := by cases c <;> rfl

/-! the operations at known values -/
theorem ev_v (fs : Frm) (v : Value) : ev fs (.v v) = v := nrfl rfl
theorem call_r (f : FuncId) (args : List Arg) (rec : Rec) (fs : Frm) (s : St) : oCall f args rec fs s = rec f (mapN (ev fs) args) s := nrfl rfl
theorem map_c {α β : Type} (f : α → β) (x : α) (l : List α) : mapN f (x :: l) = f x :: mapN f l := nrfl rfl
theorem map_n {α β : Type} (f : α → β) : mapN f [] = [] := nrfl rfl
theorem bin_e (f : Value → Value → Option Value) (x y : Value) (rec : Rec) (fs : Frm) (s : St) : oBin f (.v x) (.v y) rec fs s = opt (f x y) fun v => some (v, s) := nrfl rfl
theorem pick_e (b : Bool) (x y : Value) (rec : Rec) (fs : Frm) (s : St) : oPick (.v (.bool b)) (.v x) (.v y) rec fs s = some (bif b then x else y, s) := nrfl rfl
theorem not_e (b : Bool) (rec : Rec) (fs : Frm) (s : St) : oNot (.v (.bool b)) rec fs s = some (.bool (!b), s) := by cases b <;> rfl
theorem ext_e (l : List Value) (i : Nat) (rec : Rec) (fs : Frm) (s : St) : oExtract (.v (tupOf l)) i rec fs s = opt (nth l i) fun v => some (v, s) := nrfl rfl
theorem nth_z {α : Type} (x : α) (l : List α) : nth (x :: l) 0 = some x := nrfl rfl
theorem nth_s {α : Type} (x : α) (l : List α) (n : Nat) : nth (x :: l) (n + 1) = nth l n := nrfl rfl
theorem nth_1 {α : Type} (x y : α) (l : List α) : nth (x :: y :: l) 1 = some y := nrfl rfl
theorem nth_2 {α : Type} (x y z : α) (l : List α) : nth (x :: y :: z :: l) 2 = some z := nrfl rfl
theorem nth_3 {α : Type} (x y z u : α) (l : List α) : nth (x :: y :: z :: u :: l) 3 = some u := nrfl rfl
theorem gval_e (w b : Bool) : gval w (.bool b) = some (b == w) := by cases w <;> cases b <;> rfl
theorem gval_u (w : Bool) : gval w undef = some false := nrfl rfl
theorem cmp_e (f : Int → Int → Bool) (k : IntKind) (a b : Int) : int2 (cmpO f) (.int k a) (.int k b) = some (.bool (f a b)) := by cases k <;> rfl
theorem wrap_i64 (n : Int) (h1 : -9223372036854775808 ≤ n) (h2 : n ≤ 9223372036854775807) : IntKind.i64.wrap n = n := by
  simp only [IntKind.wrap, IntKind.bits, IntKind.signed]
  simp
  omega
theorem add_e (a b : Int) (h1 : -9223372036854775808 ≤ a + b) (h2 : a + b ≤ 9223372036854775807) : int2 addO (.int .i64 a) (.int .i64 b) = some (.int .i64 (a + b)) := by
  show addO .i64 a b = _
  rw [addO_eq, wrap_i64 _ h1 h2]
theorem sub_e (a b : Int) (h1 : -9223372036854775808 ≤ a - b) (h2 : a - b ≤ 9223372036854775807) : int2 subO (.int .i64 a) (.int .i64 b) = some (.int .i64 (a - b)) := by
  show subO .i64 a b = _
  rw [subO_eq, wrap_i64 _ h1 h2]
theorem mul_e (a b : Int) (h1 : -9223372036854775808 ≤ a * b) (h2 : a * b ≤ 9223372036854775807) : int2 mulO (.int .i64 a) (.int .i64 b) = some (.int .i64 (a * b)) := by
  show mulO .i64 a b = _
  rw [mulO_eq, wrap_i64 _ h1 h2]
theorem quo_e (a b : Int) (h : 0 ≤ a) (h1 : a ≤ 9223372036854775807) (hb : 0 < b) : int2 quoO (.int .i64 a) (.int .i64 b) = some (.int .i64 (a / b)) := by
  show quoO .i64 a b = _
  unfold quoO
  rw [eqI_eq, mkInt_eq, Int.tdiv_eq_ediv_of_nonneg h, wrap_i64 _ (by have := Int.ediv_nonneg h (Int.le_of_lt hb); omega) (by have := Int.ediv_le_self b h; omega)]
  simp [show ¬ b = 0 by omega]
theorem rem_e (a b : Int) (h : 0 ≤ a) (hb : 0 < b) : int2 remO (.int .i64 a) (.int .i64 b) = some (.int .i64 (a % b)) := by
  have e : remO .i64 a b = some (.int .i64 (a.tmod b)) := by unfold remO; rw [eqI_eq, forceI_eq]; simp [show ¬ b = 0 by omega]
  show remO .i64 a b = _
  rw [e, Int.tmod_eq_emod_of_nonneg h]
theorem neg_e (a : Int) (rec : Rec) (fs : Frm) (s : St) (h1 : -9223372036854775807 ≤ a) (h2 : a ≤ 9223372036854775807) : oNeg (.v (.int .i64 a)) rec fs s = some (.int .i64 (-a), s) := by
  show (opt (mkInt .i64 (Int.sub 0 a)) fun v => some (v, s)) = _
  rw [mkInt_eq]
  show some (Value.int .i64 (IntKind.i64.wrap (0 - a)), s) = _
  rw [wrap_i64 _ (by omega) (by omega)]
  simp
theorem min_e (a b : Int) (rec : Rec) (fs : Frm) (s : St) : oMM false (.v (.int .i64 a)) [.v (.int .i64 b)] rec fs s = some (.int .i64 (min a b), s) := by
  show some (Value.int .i64 (bif ltI b a then b else a), s) = _
  rw [ltI_eq]
  by_cases h : b < a
  · simp [h]; omega
  · simp [h]; omega
theorem max_e (a b : Int) (rec : Rec) (fs : Frm) (s : St) : oMM true (.v (.int .i64 a)) [.v (.int .i64 b)] rec fs s = some (.int .i64 (max a b), s) := by
  show some (Value.int .i64 (bif ltI a b then b else a), s) = _
  rw [ltI_eq]
  by_cases h : a < b
  · simp [h]; omega
  · simp [h]; omega
end Go.Abs
