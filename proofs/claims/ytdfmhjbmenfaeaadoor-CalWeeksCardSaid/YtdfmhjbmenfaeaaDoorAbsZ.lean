import Derived.Test.YtdfmhjbmenfaeaaDoorAbsY
namespace Go.Abs
set_option linter.unusedVariables false
set_option linter.unusedSimpArgs false
theorem put_h {α : Type} (v : α) : ∀ t : PT α, PT.put v .h t = (match t with | .nil => PT.node (some v) .nil .nil | .node _ l r => PT.node (some v) l r) := fun t => by cases t <;> rfl
theorem put_h_n {α : Type} (v : α) : PT.put v .h (PT.nil) = PT.node (some v) .nil .nil := rfl
theorem put_l_n {α : Type} (v : α) (p : Abs.P) : PT.put v (.l p) PT.nil = PT.node none (PT.put v p .nil) .nil := rfl
theorem put_r_n {α : Type} (v : α) (p : Abs.P) : PT.put v (.r p) PT.nil = PT.node none .nil (PT.put v p .nil) := rfl
theorem put_h_c {α : Type} (v : α) (w : Option α) (l r : PT α) : PT.put v .h (PT.node w l r) = PT.node (some v) l r := rfl
theorem put_l_c {α : Type} (v : α) (w : Option α) (l r : PT α) (p : Abs.P) : PT.put v (.l p) (PT.node w l r) = PT.node w (PT.put v p l) r := rfl
theorem put_r_c {α : Type} (v : α) (w : Option α) (l r : PT α) (p : Abs.P) : PT.put v (.r p) (PT.node w l r) = PT.node w l (PT.put v p r) := rfl
theorem get_n {α : Type} (p : Abs.P) : (PT.nil : PT α).get p = none := rfl
theorem get_h_c {α : Type} (w : Option α) (l r : PT α) : (PT.node w l r).get .h = w := rfl
theorem get_l_c {α : Type} (w : Option α) (l r : PT α) (p : Abs.P) : (PT.node w l r).get (.l p) = l.get p := rfl
theorem get_r_c {α : Type} (w : Option α) (l r : PT α) (p : Abs.P) : (PT.node w l r).get (.r p) = r.get p := rfl
theorem run_mov (x : Arg) (rec : Rec) (fs : Frm) (s : St) : oMov x rec fs s = some (ev fs x, s) := rfl
theorem op2_some {α β γ : Type} (a : α) (b : β) (k : α → β → Option γ) : opt2 (some (a, b)) k = k a b := rfl
theorem opt_s {α β : Type} (a : α) (k : α → Option β) : opt (some a) k = k a := rfl
theorem opt_n {α β : Type} (k : α → Option β) : opt none k = none := rfl
theorem want_none (fs : Frm) : wanted fs none = some true := rfl
theorem ev_v (fs : Frm) (v : Value) : ev fs (.v v) = v := rfl
theorem ev_t (fs : Frm) (p : Abs.P) : ev fs (.t p) = orU (fs.get p) := rfl
theorem orU_some (v : Value) : orU (some v) = v := rfl
theorem putT_some (fs : Frm) (d : Abs.P) (v : Value) : putT fs (some d) v = PT.put v d fs := rfl
theorem putT_none (fs : Frm) (v : Value) : putT fs none v = fs := rfl
theorem op1_eq (rec : Rec) (dst : Option Abs.P) (op : OpF) (ld : Option Arg) (k : Frm → St → OutF) (fs : Frm) (s : St) : op1 rec ⟨dst, op, none, ld⟩ k fs s = opt2 (op rec fs s) fun v s => k (putT fs dst v) s := rfl
theorem op1_g (rec : Rec) (dst : Option Abs.P) (op : OpF) (ld : Option Arg) (p : Abs.P) (w : Bool) (k : Frm → St → OutF) (fs : Frm) (s : St) : op1 rec ⟨dst, op, some (p, w), ld⟩ k fs s = opt (gval w (orU (fs.get p))) fun b => bif b then opt2 (op rec fs s) fun v s => k (putT fs dst v) s else k (putT fs dst undef) s := by
  show opt _ _ = opt _ _
  congr 1
  funext b
  cases b <;> rfl
theorem runOps_n (rec : Rec) (fs : Frm) (s : St) : runOps rec [] fs s = some (fs, s) := rfl
theorem bin_eq (f : Value → Value → Option Value) (x y : Arg) (rec : Rec) (fs : Frm) (s : St) : oBin f x y rec fs s = opt (f (ev fs x) (ev fs y)) fun v => some (v, s) := rfl
theorem pick_eq (c x y : Arg) (rec : Rec) (fs : Frm) (s : St) (b : Bool) (h : ev fs c = .bool b) : oPick c x y rec fs s = some (bif b then ev fs x else ev fs y, s) := by unfold oPick; rw [h]
theorem rem_eq (k : IntKind) (a b : Int) (h : b ≠ 0) : int2 remO (.int k a) (.int k b) = some (.int k (a.tmod b)) := by
  have e : remO k a b = some (.int k (a.tmod b)) := by unfold remO; rw [eqI_eq, forceI_eq]; simp [h]
  cases k <;> exact e
theorem cmp_eq (f : Int → Int → Bool) (k : IntKind) (a b : Int) : int2 (cmpO f) (.int k a) (.int k b) = some (.bool (f a b)) := by
  cases k <;> rfl
theorem gval_b (w b : Bool) : gval w (.bool b) = some (b == w) := by cases w <;> cases b <;> rfl
theorem wrap_i64 (n : Int) (h1 : -9223372036854775808 ≤ n) (h2 : n ≤ 9223372036854775807) : IntKind.i64.wrap n = n := by
  simp only [IntKind.wrap, IntKind.bits, IntKind.signed]
  simp
  omega
theorem add_i (a b : Int) (h1 : -9223372036854775808 ≤ a + b) (h2 : a + b ≤ 9223372036854775807) : int2 addO (.int .i64 a) (.int .i64 b) = some (.int .i64 (a + b)) := by
  show addO .i64 a b = _
  rw [addO_eq, wrap_i64 _ h1 h2]
theorem sub_i (a b : Int) (h1 : -9223372036854775808 ≤ a - b) (h2 : a - b ≤ 9223372036854775807) : int2 subO (.int .i64 a) (.int .i64 b) = some (.int .i64 (a - b)) := by
  show subO .i64 a b = _
  rw [subO_eq, wrap_i64 _ h1 h2]
theorem mul_i (a b : Int) (h1 : -9223372036854775808 ≤ a * b) (h2 : a * b ≤ 9223372036854775807) : int2 mulO (.int .i64 a) (.int .i64 b) = some (.int .i64 (a * b)) := by
  show mulO .i64 a b = _
  rw [mulO_eq, wrap_i64 _ h1 h2]
theorem quo_i (a b : Int) (h : 0 ≤ a) (h1 : a ≤ 9223372036854775807) (hb : 0 < b) : int2 quoO (.int .i64 a) (.int .i64 b) = some (.int .i64 (a / b)) := by
  show quoO .i64 a b = _
  unfold quoO
  rw [eqI_eq, mkInt_eq, Int.tdiv_eq_ediv_of_nonneg h, wrap_i64 _ (by have := Int.ediv_nonneg h (Int.le_of_lt hb); omega) (by have := Int.ediv_le_self b h; omega)]
  simp [show ¬ b = 0 by omega]
theorem rem_i (a b : Int) (h : 0 ≤ a) (hb : 0 < b) : int2 remO (.int .i64 a) (.int .i64 b) = some (.int .i64 (a % b)) := by
  rw [rem_eq _ _ _ (by omega), Int.tmod_eq_emod_of_nonneg h]
def eqPath : Abs.P → Abs.P → Bool
  | .h, .h => true
  | .l p, .l q => eqPath p q
  | .r p, .r q => eqPath p q
  | _, _ => false
theorem eqPath_iff : ∀ p q, eqPath p q = true ↔ p = q
  | .h, .h => by simp [eqPath]
  | .h, .l q => by simp [eqPath]
  | .h, .r q => by simp [eqPath]
  | .l p, .h => by simp [eqPath]
  | .l p, .l q => by simp [eqPath, eqPath_iff p q]
  | .l p, .r q => by simp [eqPath]
  | .r p, .h => by simp [eqPath]
  | .r p, .l q => by simp [eqPath]
  | .r p, .r q => by simp [eqPath, eqPath_iff p q]
theorem get_put (v : Value) (p q : Abs.P) (t : Frm) : (PT.put v p t).get q = bif eqPath q p then some v else t.get q := by
  cases h : eqPath q p with
  | true => rw [(eqPath_iff q p).1 h, PT.get_put_same]; rfl
  | false => rw [PT.get_put_ne _ _ _ _ (fun e => by rw [(eqPath_iff q p).2 e] at h; cases h)]; rfl
theorem ep_hh : eqPath .h .h = true := rfl
theorem ep_hl (q : Abs.P) : eqPath .h (.l q) = false := rfl
theorem ep_hr (q : Abs.P) : eqPath .h (.r q) = false := rfl
theorem ep_lh (q : Abs.P) : eqPath (.l q) .h = false := rfl
theorem ep_rh (q : Abs.P) : eqPath (.r q) .h = false := rfl
theorem ep_ll (p q : Abs.P) : eqPath (.l p) (.l q) = eqPath p q := rfl
theorem ep_rr (p q : Abs.P) : eqPath (.r p) (.r q) = eqPath p q := rfl
theorem ep_lr (p q : Abs.P) : eqPath (.l p) (.r q) = false := rfl
theorem ep_rl (p q : Abs.P) : eqPath (.r p) (.l q) = false := rfl
theorem call_eq (f : FuncId) (args : List Arg) (rec : Rec) (fs : Frm) (s : St) : oCall f args rec fs s = rec f (mapN (ev fs) args) s := rfl
theorem mapN_c {α β : Type} (f : α → β) (x : α) (l : List α) : mapN f (x :: l) = f x :: mapN f l := rfl
theorem mapN_n {α β : Type} (f : α → β) : mapN f [] = [] := rfl
theorem seqF_eq (a b : Frm → St → OutX) (fs : Frm) (s : St) : seqF a b fs s = opt2 (a fs s) fun e r => AExit.rec (b r.1 r.2) (fun i => some (.exit i, r)) (some (.ret, r)) e := rfl
theorem loopF_s (b : Frm → St → OutX) (n : Nat) : loopF b (n + 1) = seqF b (loopF b n) := rfl
theorem pick_b (c x y : Arg) (rec : Rec) (fs : Frm) (s : St) : oPick c x y rec fs s = (match ev fs c with | .bool b => some (bif b then ev fs x else ev fs y, s) | _ => none) := rfl
theorem not_b (x : Arg) (rec : Rec) (fs : Frm) (s : St) (b : Bool) (h : ev fs x = .bool b) : oNot x rec fs s = some (.bool (!b), s) := by unfold oNot; rw [h]; cases b <;> rfl
theorem not_eq (x : Arg) (rec : Rec) (fs : Frm) (s : St) : oNot x rec fs s = (match ev fs x with | .bool b => some (.bool (!b), s) | _ => none) := by
  unfold oNot
  cases ev fs x with
  | bool b => cases b <;> rfl
  | _ => rfl
/-- a run, and what holds behind it -/
def Res (x : X) (rec : Rec) (n : Nat) (fs : Frm) (s : St) (Φ : AExit → Frm → St → Prop) : Prop := ∃ e fs' s', x rec n fs s = some (e, fs', s') ∧ Φ e fs' s'
def thenR (b : X) (rec : Rec) (n : Nat) (Φ : AExit → Frm → St → Prop) : AExit → Frm → St → Prop
  | .norm, f, t => Res b rec n f t Φ
  | .exit i, f, t => Φ (.exit i) f t
  | .ret, f, t => Φ .ret f t
theorem Res.seq {a b : X} {rec : Rec} {n : Nat} {fs : Frm} {s : St} {Φ : AExit → Frm → St → Prop} (h : Res a rec n fs s (thenR b rec n Φ)) : Res (xSeq a b) rec n fs s Φ := by
  obtain ⟨e, f, t, h1, h2⟩ := h
  unfold Res xSeq
  rw [h1]
  cases e with
  | norm => exact h2
  | exit i => exact ⟨_, _, _, rfl, h2⟩
  | ret => exact ⟨_, _, _, rfl, h2⟩
theorem Res.ops {l : List AOper} {rec : Rec} {n : Nat} {fs fs' : Frm} {s s' : St} {Φ : AExit → Frm → St → Prop} (h : runOps rec l fs s = some (fs', s')) (k : Φ .norm fs' s') : Res (xOps l) rec n fs s Φ := by
  unfold Res xOps
  rw [h]
  exact ⟨_, _, _, rfl, k⟩
theorem Res.ret {rec : Rec} {n : Nat} {fs : Frm} {s : St} {Φ : AExit → Frm → St → Prop} (k : Φ .ret fs s) : Res xRet rec n fs s Φ := ⟨_, _, _, rfl, k⟩
theorem Res.skip {rec : Rec} {n : Nat} {fs : Frm} {s : St} {Φ : AExit → Frm → St → Prop} (k : Φ .norm fs s) : Res xSkip rec n fs s Φ := ⟨_, _, _, rfl, k⟩
theorem Res.cond {x : Arg} {a b : X} {rec : Rec} {n : Nat} {fs : Frm} {s : St} {Φ : AExit → Frm → St → Prop} {t : Bool} (h : ev fs x = .bool t) (k : Res (bif t then a else b) rec n fs s Φ) : Res (xCond x a b) rec n fs s Φ := by
  unfold Res xCond
  rw [h]
  cases t <;> exact k
theorem Res.loop {b : X} {id : Nat} {rec : Rec} {n : Nat} {fs fs' : Frm} {s s' : St} {Φ : AExit → Frm → St → Prop} (h : loopF (b rec n) n fs s = some (.exit id, fs', s')) (k : Φ .norm fs' s') : Res (xBlock id (xLoop b)) rec n fs s Φ := by
  have h1 : xLoop b rec n fs s = some (.exit id, fs', s') := h
  unfold Res xBlock
  rw [h1]
  refine ⟨.norm, fs', s', ?_, k⟩
  show (Bool.rec _ _ (Nat.beq id id) : OutX) = _
  rw [Nat.beq_refl]
theorem path0 : path 0 = .h := rfl
theorem bft : (false == true) = false := rfl
theorem ext_eq (x : Arg) (i : Nat) (rec : Rec) (fs : Frm) (s : St) (l : List Value) (h : ev fs x = tupOf l) : oExtract x i rec fs s = opt (nth l i) fun v => some (v, s) := by unfold oExtract; rw [h]; rfl
end Go.Abs
