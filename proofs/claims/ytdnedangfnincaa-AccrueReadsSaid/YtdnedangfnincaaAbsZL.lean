import Derived.Test.YtdnedangfnincaaAbsZH
namespace Go.Abs
set_option linter.unusedVariables false
set_option linter.unusedSimpArgs false
/-! regions whose operations cannot conflict run one operation after the other -/
def z0 (s : St) : St := ⟨s.heap, s.next, 0, 0⟩
def jn (s s1 : St) : St := ⟨s1.heap, s1.next, Nat.lor s.rd s1.rd, Nat.lor s.wr s1.wr⟩
noncomputable def rV (o : Out) (s : St) : Out := opt2 o fun v s1 => some (v, jn s s1)
theorem z0_getC (s : St) (x : Nat) : (z0 s).getC x = s.getC x := nrfl rfl
theorem z0_next (s : St) : (z0 s).next = s.next := nrfl rfl
theorem jn_getC (s s1 : St) (x : Nat) : (jn s s1).getC x = s1.getC x := nrfl rfl
theorem jn_next (s s1 : St) : (jn s s1).next = s1.next := nrfl rfl
theorem rV_s (v : Value) (s s1 : St) : rV (some (v, s1)) s = some (v, jn s s1) := nrfl rfl
theorem zor (x : Nat) : Nat.lor 0 x = x := Nat.zero_or _
theorem jn_z (s : St) : jn s (z0 s) = s := by
  unfold jn z0
  rw [lor_0, lor_0]
theorem jn_seen (s : St) (x : Nat) : jn s ((z0 s).seen x) = s.seen x := by
  unfold jn St.seen z0
  rw [force_eq, force_eq]
  show (⟨s.heap, s.next, Nat.lor s.rd (Nat.lor 0 (bit x)), Nat.lor s.wr 0⟩ : St) = _
  rw [lor_0, zor]
theorem jn_set (s : St) (x : Nat) (b : Option Blk) : jn s ((z0 s).set x b) = s.set x b := by
  unfold jn St.set z0
  rw [force_eq, force_eq]
  show (⟨s.heap.put 40 x (bif Nat.ble 8 x then b else none), s.next, Nat.lor s.rd 0, Nat.lor s.wr (Nat.lor 0 (bit x))⟩ : St) = _
  rw [lor_0, zor]
/-- kinds of marks: 0 of what is plain, 1 of a load, 2 of anything else -/
def KindOk (m : Mk) (k : Nat) : Prop := match k with
  | 0 => m.m = (0, 0) ∧ m.ld = none
  | 1 => m.m = (0, 0)
  | _ => m.ld = none
def allK : List Mk → List Nat → Prop
  | [], [] => True
  | m :: ms, k :: ks => KindOk m k ∧ allK ms ks
  | _, _ => False
def okP2 (a b : Nat) : Bool := (Nat.ble a 1 && Nat.ble b 1) || (Nat.beq a 0 || Nat.beq b 0)
noncomputable def okP (ks : List Nat) (p : Nat × Nat) : Bool := Option.rec false (fun a => Option.rec false (fun b => okP2 a b) (nth ks p.2)) (nth ks p.1)
theorem allK_nth : ∀ {ms : List Mk} {ks : List Nat} (i : Nat) (k : Nat), allK ms ks → nth ks i = some k → ∃ m, nth ms i = some m ∧ KindOk m k
  | [], [], i, k, _, h => by cases h
  | m :: ms, k' :: ks, 0, k, h, hk => by
    obtain rfl : k' = k := Option.some.inj hk
    exact ⟨m, rfl, h.1⟩
  | m :: ms, k' :: ks, i + 1, k, h, hk => allK_nth (ms := ms) (ks := ks) i k h.2 hk
  | [], _ :: _, _, _, h, _ => h.elim
  | _ :: _, [], _, _, h, _ => h.elim
theorem ldFree_0 (l w : Mk) (h : w.m = (0, 0)) : ldFree l w = true := by
  unfold ldFree
  rw [h]
  cases l.ld with
  | none => rfl
  | some q =>
    show (bif hasBit 0 q.1 then _ else true) = true
    rw [show hasBit 0 q.1 = false by rw [hasBit_eq]; exact Nat.zero_testBit _]
    rfl
theorem ldFree_n (l w : Mk) (h : l.ld = none) : ldFree l w = true := by
  unfold ldFree
  rw [h]
theorem apartM_r (a : Nat × Nat) : apartM a (0, 0) = true := by
  show (Nat.beq (Nat.land a.2 (Nat.lor 0 0)) 0 && Nat.beq (Nat.land a.1 0) 0) = true
  rw [show Nat.lor 0 0 = 0 from rfl, show Nat.land a.2 0 = 0 from Nat.and_zero _, show Nat.land a.1 0 = 0 from Nat.and_zero _]
  rfl
theorem apartM_l (a : Nat × Nat) : apartM (0, 0) a = true := by
  show (Nat.beq (Nat.land 0 (Nat.lor a.1 a.2)) 0 && Nat.beq (Nat.land 0 a.2) 0) = true
  rw [show Nat.land 0 (Nat.lor a.1 a.2) = 0 from Nat.zero_and _, show Nat.land 0 a.2 = 0 from Nat.zero_and _]
  rfl
theorem apartK_ok {a b : Mk} {i j : Nat} (ha : KindOk a i) (hb : KindOk b j) (h : okP2 i j = true) : apartK a b = true := by
  have key : apartM a.m b.m = true ∧ ldFree a b = true ∧ ldFree b a = true := by
    match i, j, ha, hb, h with
    | 0, 0, ha, hb, _ => exact ⟨by rw [ha.1]; exact apartM_l _, ldFree_n _ _ ha.2, ldFree_n _ _ hb.2⟩
    | 0, 1, ha, hb, _ => exact ⟨by rw [ha.1]; exact apartM_l _, ldFree_n _ _ ha.2, ldFree_0 _ _ ha.1⟩
    | 0, j + 2, ha, hb, _ => exact ⟨by rw [ha.1]; exact apartM_l _, ldFree_n _ _ ha.2, ldFree_n _ _ hb⟩
    | 1, 0, ha, hb, _ => exact ⟨by rw [hb.1]; exact apartM_r _, ldFree_0 _ _ hb.1, ldFree_n _ _ hb.2⟩
    | 1, 1, ha, hb, _ => exact ⟨by rw [show a.m = (0, 0) from ha]; exact apartM_l _, ldFree_0 _ _ hb, ldFree_0 _ _ ha⟩
    | 1, j + 2, ha, hb, h => cases h
    | i + 2, 0, ha, hb, _ => exact ⟨by rw [hb.1]; exact apartM_r _, ldFree_n _ _ ha, ldFree_n _ _ hb.2⟩
    | i + 2, 1, ha, hb, h => cases h
    | i + 2, j + 2, ha, hb, h => cases h
  unfold apartK
  rw [key.1, key.2.1, key.2.2]
  rfl
theorem apartKs (ks : List Nat) {ms : List Mk} (h : allK ms ks) : ∀ (un : List (Nat × Nat)), un.all (okP ks) = true → apartAll ms un = true
  | [], _ => rfl
  | p :: un, hu => by
    rw [List.all_cons, Bool.and_eq_true] at hu
    have ih := apartKs ks h un hu.2
    have h1 := hu.1
    unfold okP at h1
    cases e1 : nth ks p.1 with
    | none => rw [e1] at h1; cases h1
    | some i =>
      cases e2 : nth ks p.2 with
      | none => rw [e1, e2] at h1; cases h1
      | some j =>
        rw [e1, e2] at h1
        obtain ⟨a, a1, a2⟩ := allK_nth _ _ h e1
        obtain ⟨b, b1, b2⟩ := allK_nth _ _ h e2
        have hp : apartP ms p = true := by
          unfold apartP
          rw [a1, b1]
          exact apartK_ok a2 b2 h1
        show (bif apartP ms p then apartAll ms un else false) = true
        rw [hp]; exact ih
noncomputable def opQ (rec : Rec) (o : AOper) (k : Frm → St → OutF) (fs : Frm) (s : St) : OutF :=
  opt (wanted fs o.guard) fun b => Bool.rec (k (putT fs o.dst undef) s) (opt2 (rV (o.op rec fs (z0 s)) s) fun v s => k (putT fs o.dst v) s) b
noncomputable def runQ (rec : Rec) (l : List AOper) : Frm → St → OutF := List.rec (fun fs s => some (fs, s)) (fun o _ ih => opQ rec o ih) l
def OpK (o : AOper) (k : Nat) : Prop := ∀ rec fs s v s1, o.op rec fs (z0 s) = some (v, s1) → KindOk (mkOf fs s s1 o.ld) k
def OpsK : List AOper → List Nat → Prop
  | [], [] => True
  | o :: l, k :: ks => OpK o k ∧ OpsK l ks
  | _, _ => False
theorem reg_run (rec : Rec) : ∀ (l : List AOper) (ks : List Nat), OpsK l ks → ∀ (fs : Frm) (s : St),
    runQ rec l fs s = opt2 (runReg rec l fs s) (fun ms r => some r) ∧ ∀ ms r, runReg rec l fs s = some (ms, r) → allK ms ks
  | [], [], _, fs, s => ⟨rfl, fun ms r h => by cases h; trivial⟩
  | [], _ :: _, h, _, _ => h.elim
  | _ :: _, [], h, _, _ => h.elim
  | o :: l, k :: ks, h, fs, s => by
    have ih := reg_run rec l ks h.2
    have e1 : runQ rec (o :: l) fs s = opQ rec o (runQ rec l) fs s := rfl
    have e2 : runReg rec (o :: l) fs s = reg1 rec o (runReg rec l) fs s := rfl
    rw [e1, e2]
    unfold opQ reg1
    cases wanted fs o.guard with
    | none => exact ⟨rfl, fun ms r h => by cases h⟩
    | some b =>
      rw [op_s, op_s]
      cases b with
      | false =>
        obtain ⟨i1, i2⟩ := ih (putT fs o.dst undef) s
        refine ⟨?_, fun ms r hr => ?_⟩
        · show runQ rec l _ s = opt2 (consM _ (runReg rec l _ s)) _
          rw [op2_cons]
          exact i1
        · obtain ⟨ms', r', h1, h2⟩ := opt2_some.1 hr
          cases h2
          refine ⟨?_, i2 _ _ h1⟩
          match k with
          | 0 => exact ⟨rfl, rfl⟩
          | 1 => exact rfl
          | k + 2 => exact rfl
      | true =>
        show opt2 (rV (o.op rec fs (z0 s)) s) (fun v s => runQ rec l (putT fs o.dst v) s) = opt2 (opt2 (o.op rec fs (z0 s)) fun v s1 => consM (mkOf fs s s1 o.ld) (runReg rec l (putT fs o.dst v) (jn s s1))) _ ∧
          ∀ ms r, (opt2 (o.op rec fs (z0 s)) fun v s1 => consM (mkOf fs s s1 o.ld) (runReg rec l (putT fs o.dst v) (jn s s1))) = some (ms, r) → _
        cases ho : o.op rec fs (z0 s) with
        | none => exact ⟨rfl, fun ms r h => by cases h⟩
        | some p =>
          obtain ⟨v, s1⟩ := p
          have hk := h.1 rec fs s v s1 ho
          obtain ⟨i1, i2⟩ := ih (putT fs o.dst v) (jn s s1)
          rw [rV_s, op2_s, op2_s]
          refine ⟨?_, fun ms r hr => ?_⟩
          · rw [op2_cons]
            exact i1
          · obtain ⟨ms', r', h1, h2⟩ := opt2_some.1 hr
            cases h2
            exact ⟨hk, i2 _ _ h1⟩
theorem reg_q {l : List AOper} {ks : List Nat} (h : OpsK l ks) {un : List (Nat × Nat)} (hu : un.all (okP ks) = true) (rec : Rec) (n : Nat) (fs : Frm) (s : St) :
    xReg l un rec n fs s = opt2 (runQ rec l fs s) fun fs s => some (.norm, fs, s) := by
  obtain ⟨h1, h2⟩ := reg_run rec l ks h fs s
  rw [x_reg, h1]
  cases hr : runReg rec l fs s with
  | none => rfl
  | some p =>
    obtain ⟨ms, r⟩ := p
    rw [op2_s, op2_s, apartKs ks (h2 _ _ hr) un hu]
    rfl
theorem rq_n (rec : Rec) (fs : Frm) (s : St) : runQ rec [] fs s = some (fs, s) := nrfl rfl
theorem rq_c (rec : Rec) (o : AOper) (l : List AOper) (fs : Frm) (s : St) : runQ rec (o :: l) fs s = opQ rec o (runQ rec l) fs s := nrfl rfl
theorem opQ_u (rec : Rec) (dst : Option Abs.P) (op : OpF) (ld : Option Arg) (k : Frm → St → OutF) (fs : Frm) (s : St) : opQ rec ⟨dst, op, none, ld⟩ k fs s = opt2 (rV (op rec fs (z0 s)) s) fun v s => k (putT fs dst v) s := nrfl rfl
theorem opQ_g (rec : Rec) (dst : Option Abs.P) (op : OpF) (ld : Option Arg) (p : Abs.P) (w : Bool) (k : Frm → St → OutF) (fs : Frm) (s : St) : opQ rec ⟨dst, op, some (p, w), ld⟩ k fs s = opt (gval w (orU (fs.get p))) fun b => opt2 (orUndef b (rV (op rec fs (z0 s)) s) s) fun v s => k (putT fs dst v) s := by
  show opt _ _ = opt _ _
  congr 1
  funext b
  cases b <;> rfl
theorem ok2 {o : AOper} (h : o.ld = none) : OpK o 2 := fun rec fs s v s1 _ => by
  show (mkOf fs s s1 o.ld).ld = none
  rw [h]; rfl
theorem ok1 {o : AOper} {x : Arg} (h : o.ld = some x) : OpK o 1 := fun rec fs s v s1 _ => by
  show (mkOf fs s s1 o.ld).m = (0, 0)
  rw [h]; rfl
/-- an operation that does nothing to memory -/
def Qv (op : OpF) : Prop := ∀ rec fs, ∃ o : Option Value, ∀ s, op rec fs s = opt o fun v => some (v, s)
theorem Qv.sm {op : OpF} (h : Qv op) (rec : Rec) (fs : Frm) (s : St) : rV (op rec fs (z0 s)) s = op rec fs s := by
  obtain ⟨o, h⟩ := h rec fs
  rw [h, h]
  cases o with
  | none => rfl
  | some v => rw [op_s, op_s, rV_s, jn_z]
theorem ok0 {o : AOper} (h : Qv o.op) (hl : o.ld = none) : OpK o 0 := fun rec fs s v s1 hr => by
  obtain ⟨q, hq⟩ := h rec fs
  rw [hq] at hr
  obtain ⟨u, _, hu⟩ := opt_some.1 hr
  cases hu
  rw [hl]
  exact ⟨rfl, rfl⟩
theorem qv_n {op : OpF} {f : Rec → Frm → Option Value} (h : ∀ rec fs s, op rec fs s = opt (f rec fs) fun v => some (v, s)) : Qv op := fun rec fs => ⟨f rec fs, h rec fs⟩
theorem op_op {α β γ : Type} (A : Option α) (f : α → Option β) (g : β → Option γ) : opt (opt A f) g = opt A fun x => opt (f x) g := by cases A <;> rfl
theorem qv_mov (x : Arg) : Qv (oMov x) := fun rec fs => ⟨some (ev fs x), fun s => rfl⟩
theorem qv_pick (c a b : Arg) : Qv (oPick c a b) := fun rec fs => ⟨match ev fs c with | .bool t => some (bif t then ev fs a else ev fs b) | _ => none, fun s => by unfold oPick; cases ev fs c <;> rfl⟩
theorem qv_build (z : List Value) (p : List (Nat × Nat × Arg)) : Qv (oBuild z p) := fun rec fs => ⟨opt (fillN fs p z) fun c => some (aggOf c), fun s => by rw [op_op]; rfl⟩
theorem qv_nil (x : Arg) : Qv (oNilCheck x) := fun rec fs => ⟨match ev fs x with | .pointer (some p) => some (.pointer (some p)) | .func (.func f) a b => some (.func (.func f) a b) | _ => none, fun s => by unfold oNilCheck; cases ev fs x with | pointer p => cases p <;> rfl | func f a b => cases f <;> rfl | _ => rfl⟩
theorem qv_bin (f : Value → Value → Option Value) (x y : Arg) : Qv (oBin f x y) := fun rec fs => ⟨f (ev fs x) (ev fs y), fun s => rfl⟩
theorem qv_eqv (f : Value → Value → Option Bool) (n : Bool) (x y : Arg) : Qv (oEqv f n x y) := fun rec fs => ⟨opt (f (ev fs x) (ev fs y)) fun b => some (.bool (bif n then !b else b)), fun s => by rw [op_op]; rfl⟩
theorem qv_eqs (n : Bool) (l : List (Nat × EqF)) (x y : Arg) : Qv (oEqs n l x y) := fun rec fs => ⟨match ev fs x with | .agg a => (match ev fs y with | .agg b => opt (eqAll a.toList b.toList l) fun r => some (.bool (bif n then !r else r)) | _ => none) | _ => none, fun s => by
  unfold oEqs
  cases ev fs x with
  | agg a => cases ev fs y with
    | agg b => dsimp only; rw [op_op]; rfl
    | _ => rfl
  | _ => rfl⟩
theorem qv_neg (x : Arg) : Qv (oNeg x) := fun rec fs => ⟨match ev fs x with | .int k n => mkInt k (Int.sub 0 n) | _ => none, fun s => by unfold oNeg; cases ev fs x <;> rfl⟩
theorem qv_compl (x : Arg) : Qv (oCompl x) := fun rec fs => ⟨match ev fs x with | .int k n => setI k (bitXor k (if k.signed then -1 else k.max) n) | _ => none, fun s => by unfold oCompl; cases ev fs x <;> rfl⟩
theorem qv_not (x : Arg) : Qv (oNot x) := fun rec fs => ⟨match ev fs x with | .bool b => some (.bool (Bool.rec true false b)) | _ => none, fun s => by unfold oNot; cases ev fs x <;> rfl⟩
theorem qv_conv (k : IntKind) (x : Arg) : Qv (oConv k x) := fun rec fs => ⟨match ev fs x with | .int _ n => mkInt k n | _ => none, fun s => by unfold oConv; cases ev fs x <;> rfl⟩
theorem qv_same (x : Arg) : Qv (oSame x) := fun rec fs => ⟨match ev fs x with | .string b => some (.string b) | _ => none, fun s => by unfold oSame; cases ev fs x <;> rfl⟩
theorem qv_func (fn : Fn) (a b : List Arg) : Qv (oFunc fn a b) := fun rec fs => ⟨some (.func fn ⟨mapN (ev fs) a⟩ ⟨mapN (ev fs) b⟩), fun s => rfl⟩
theorem qv_slices (x : Arg) (lo hi : Option Arg) : Qv (oSliceS x lo hi) := fun rec fs => ⟨match ev fs x with | .string b => opt (boundD fs hi (lenN b.data.toList) (lenN b.data.toList)) fun h => opt (boundD fs lo h 0) fun l => some (.string ⟨⟨takeN (h - l) (dropN l b.data.toList)⟩⟩) | _ => none, fun s => by
  unfold oSliceS
  cases ev fs x with
  | string b =>
    dsimp only
    simp only [op_op, op_s]
  | _ => rfl⟩
theorem qv_fieldaddr (o : Nat) (x : Arg) : Qv (oFieldAddr o x) := fun rec fs => ⟨match ev fs x with | .pointer (some a) => some (.pointer (some (addA a o))) | _ => none, fun s => by unfold oFieldAddr; cases ev fs x with | pointer p => cases p <;> rfl | _ => rfl⟩
theorem qv_field (n : Option Nat) (o : Nat) (x : Arg) : Qv (oField n o x) := fun rec fs => ⟨match ev fs x with | .agg cs => (match n with | none => nth cs.toList o | some n => bif Nat.ble (o + n) (lenN cs.toList) then some (aggOf (takeN n (dropN o cs.toList))) else none) | _ => none, fun s => by
  unfold oField
  cases ev fs x with
  | agg cs => cases n with
    | none => rfl
    | some n =>
      show (bif Nat.ble (o + n) (lenN cs.toList) then _ else none) = opt (bif Nat.ble (o + n) (lenN cs.toList) then _ else none) _
      cases Nat.ble (o + n) (lenN cs.toList) <;> rfl
  | _ => rfl⟩
theorem qv_idxl (es : Nat) (x i : Arg) : Qv (oIdxAddrL es x i) := fun rec fs => ⟨match ev fs x with | .slice (some a) n _ => opt (idx fs i n) fun i => some (.pointer (some (addA a (i * es)))) | _ => none, fun s => by
  unfold oIdxAddrL
  cases ev fs x with
  | slice a n c => cases a with
    | some a => dsimp only; rw [op_op]; rfl
    | none => rfl
  | _ => rfl⟩
theorem qv_idxaa (n es : Nat) (x i : Arg) : Qv (oIdxAddrA n es x i) := fun rec fs => ⟨match ev fs x with | .pointer (some a) => opt (idx fs i n) fun i => some (.pointer (some (addA a (i * es)))) | _ => none, fun s => by
  unfold oIdxAddrA
  cases ev fs x with
  | pointer a => cases a with
    | some a => dsimp only; rw [op_op]; rfl
    | none => rfl
  | _ => rfl⟩
theorem qv_idxs (x i : Arg) : Qv (oIdxS x i) := fun rec fs => ⟨match ev fs x with | .string b => (match ev fs i with | .int _ i => (match i with | .ofNat i => opt (nth b.data.toList i) fun c => force c.toNat fun c => some (.int .u8 (.ofNat c)) | .negSucc _ => none) | _ => none) | _ => none, fun s => by
  unfold oIdxS
  cases ev fs x with
  | string b => cases ev fs i with
    | int k i => cases i with
      | ofNat i =>
        dsimp only
        rw [op_op]
        congr 1
        funext c
        rw [force_eq, force_eq]
        rfl
      | negSucc i => rfl
    | _ => rfl
  | _ => rfl⟩
theorem qv_extract (x : Arg) (i : Nat) : Qv (oExtract x i) := fun rec fs => ⟨match ev fs x with | .tuple vs => nth vs.toList i | _ => none, fun s => by unfold oExtract; cases ev fs x <;> rfl⟩
theorem qv_ext (g : List Value → Option Value) (l : List Arg) : Qv (oExt g l) := fun rec fs => ⟨g (mapN (ev fs) l), fun s => rfl⟩
theorem qv_lens (x : Arg) : Qv (oLenS x) := fun rec fs => ⟨match ev fs x with | .string b => some (.int .i64 (.ofNat (lenN b.data.toList))) | _ => none, fun s => by
  unfold oLenS
  cases ev fs x with
  | string b => show force _ _ = _; rw [force_eq]; rfl
  | _ => rfl⟩
theorem qv_lenl (x : Arg) : Qv (oLenL x) := fun rec fs => ⟨match ev fs x with | .slice _ n _ => some (.int .i64 (.ofNat n)) | _ => none, fun s => by unfold oLenL; cases ev fs x <;> rfl⟩
theorem qv_lenc (n : Nat) : Qv (oLenC n) := fun rec fs => ⟨some (.int .i64 (.ofNat n)), fun s => rfl⟩
theorem qv_mm (b : Bool) (x : Arg) (l : List Arg) : Qv (oMM b x l) := fun rec fs => ⟨mm b (mapN (ev fs) l) (ev fs x), fun s => rfl⟩
theorem qv_iface (t : TypeId) (x : Arg) : Qv (oIface t x) := fun rec fs => ⟨some (.iface t (ev fs x)), fun s => rfl⟩
theorem sm_mov (x : Arg) (rec : Rec) (fs : Frm) (s : St) : rV (oMov x rec fs (z0 s)) s = oMov x rec fs s := (qv_mov x).sm rec fs s
theorem sm_pick (c a b : Arg) (rec : Rec) (fs : Frm) (s : St) : rV (oPick c a b rec fs (z0 s)) s = oPick c a b rec fs s := (qv_pick c a b).sm rec fs s
theorem sm_build (z : List Value) (p : List (Nat × Nat × Arg)) (rec : Rec) (fs : Frm) (s : St) : rV (oBuild z p rec fs (z0 s)) s = oBuild z p rec fs s := (qv_build z p).sm rec fs s
theorem sm_nil (x : Arg) (rec : Rec) (fs : Frm) (s : St) : rV (oNilCheck x rec fs (z0 s)) s = oNilCheck x rec fs s := (qv_nil x).sm rec fs s
theorem sm_bin (f : Value → Value → Option Value) (x y : Arg) (rec : Rec) (fs : Frm) (s : St) : rV (oBin f x y rec fs (z0 s)) s = oBin f x y rec fs s := (qv_bin f x y).sm rec fs s
theorem sm_eqv (f : Value → Value → Option Bool) (n : Bool) (x y : Arg) (rec : Rec) (fs : Frm) (s : St) : rV (oEqv f n x y rec fs (z0 s)) s = oEqv f n x y rec fs s := (qv_eqv f n x y).sm rec fs s
theorem sm_eqs (n : Bool) (l : List (Nat × EqF)) (x y : Arg) (rec : Rec) (fs : Frm) (s : St) : rV (oEqs n l x y rec fs (z0 s)) s = oEqs n l x y rec fs s := (qv_eqs n l x y).sm rec fs s
theorem sm_neg (x : Arg) (rec : Rec) (fs : Frm) (s : St) : rV (oNeg x rec fs (z0 s)) s = oNeg x rec fs s := (qv_neg x).sm rec fs s
theorem sm_compl (x : Arg) (rec : Rec) (fs : Frm) (s : St) : rV (oCompl x rec fs (z0 s)) s = oCompl x rec fs s := (qv_compl x).sm rec fs s
theorem sm_not (x : Arg) (rec : Rec) (fs : Frm) (s : St) : rV (oNot x rec fs (z0 s)) s = oNot x rec fs s := (qv_not x).sm rec fs s
theorem sm_conv (k : IntKind) (x : Arg) (rec : Rec) (fs : Frm) (s : St) : rV (oConv k x rec fs (z0 s)) s = oConv k x rec fs s := (qv_conv k x).sm rec fs s
theorem sm_same (x : Arg) (rec : Rec) (fs : Frm) (s : St) : rV (oSame x rec fs (z0 s)) s = oSame x rec fs s := (qv_same x).sm rec fs s
theorem sm_func (fn : Fn) (a b : List Arg) (rec : Rec) (fs : Frm) (s : St) : rV (oFunc fn a b rec fs (z0 s)) s = oFunc fn a b rec fs s := (qv_func fn a b).sm rec fs s
theorem sm_slices (x : Arg) (lo hi : Option Arg) (rec : Rec) (fs : Frm) (s : St) : rV (oSliceS x lo hi rec fs (z0 s)) s = oSliceS x lo hi rec fs s := (qv_slices x lo hi).sm rec fs s
theorem sm_fieldaddr (o : Nat) (x : Arg) (rec : Rec) (fs : Frm) (s : St) : rV (oFieldAddr o x rec fs (z0 s)) s = oFieldAddr o x rec fs s := (qv_fieldaddr o x).sm rec fs s
theorem sm_field (n : Option Nat) (o : Nat) (x : Arg) (rec : Rec) (fs : Frm) (s : St) : rV (oField n o x rec fs (z0 s)) s = oField n o x rec fs s := (qv_field n o x).sm rec fs s
theorem sm_idxl (es : Nat) (x i : Arg) (rec : Rec) (fs : Frm) (s : St) : rV (oIdxAddrL es x i rec fs (z0 s)) s = oIdxAddrL es x i rec fs s := (qv_idxl es x i).sm rec fs s
theorem sm_idxaa (n es : Nat) (x i : Arg) (rec : Rec) (fs : Frm) (s : St) : rV (oIdxAddrA n es x i rec fs (z0 s)) s = oIdxAddrA n es x i rec fs s := (qv_idxaa n es x i).sm rec fs s
theorem sm_idxs (x i : Arg) (rec : Rec) (fs : Frm) (s : St) : rV (oIdxS x i rec fs (z0 s)) s = oIdxS x i rec fs s := (qv_idxs x i).sm rec fs s
theorem sm_extract (x : Arg) (i : Nat) (rec : Rec) (fs : Frm) (s : St) : rV (oExtract x i rec fs (z0 s)) s = oExtract x i rec fs s := (qv_extract x i).sm rec fs s
theorem sm_ext (g : List Value → Option Value) (l : List Arg) (rec : Rec) (fs : Frm) (s : St) : rV (oExt g l rec fs (z0 s)) s = oExt g l rec fs s := (qv_ext g l).sm rec fs s
theorem sm_lens (x : Arg) (rec : Rec) (fs : Frm) (s : St) : rV (oLenS x rec fs (z0 s)) s = oLenS x rec fs s := (qv_lens x).sm rec fs s
theorem sm_lenl (x : Arg) (rec : Rec) (fs : Frm) (s : St) : rV (oLenL x rec fs (z0 s)) s = oLenL x rec fs s := (qv_lenl x).sm rec fs s
theorem sm_lenc (n : Nat) (rec : Rec) (fs : Frm) (s : St) : rV (oLenC n rec fs (z0 s)) s = oLenC n rec fs s := (qv_lenc n).sm rec fs s
theorem sm_mm (b : Bool) (x : Arg) (l : List Arg) (rec : Rec) (fs : Frm) (s : St) : rV (oMM b x l rec fs (z0 s)) s = oMM b x l rec fs s := (qv_mm b x l).sm rec fs s
theorem sm_iface (t : TypeId) (x : Arg) (rec : Rec) (fs : Frm) (s : St) : rV (oIface t x rec fs (z0 s)) s = oIface t x rec fs s := (qv_iface t x).sm rec fs s
theorem sm_load1 (x : Arg) (rec : Rec) (fs : Frm) (s : St) : rV (oLoad1 x rec fs (z0 s)) s = oLoad1 x rec fs s := by
  unfold oLoad1
  split
  · rw [z0_getC]
    cases s.getC _ with
    | none => rfl
    | some c =>
      rw [op_s, op_s]
      cases nth c _ with
      | none => rfl
      | some v => rw [op_s, op_s, rV_s, jn_seen]
  · rfl
theorem read_z (s : St) (b o n : Nat) : (z0 s).read b o n = opt2 (s.read b o n) fun c _ => some (c, (z0 s).seen b) := by
  unfold St.read
  rw [z0_getC]
  cases s.getC b with
  | none => rfl
  | some c =>
    rw [op_s, op_s]
    cases Nat.ble (o + n) (lenN c) <;> rfl
theorem read_s {s s' : St} {b o n : Nat} {c : List Value} (h : s.read b o n = some (c, s')) : s' = s.seen b := by
  unfold St.read at h
  obtain ⟨d, _, h⟩ := opt_some.1 h
  obtain ⟨_, h⟩ := cond_some.1 h
  cases h
  rfl
theorem sm_loadn (n : Nat) (x : Arg) (rec : Rec) (fs : Frm) (s : St) : rV (oLoadN n x rec fs (z0 s)) s = oLoadN n x rec fs s := by
  unfold oLoadN
  split
  · rename_i p _
    rw [read_z]
    cases h : s.read p.block p.off n with
    | none => rfl
    | some q =>
      obtain ⟨c, s'⟩ := q
      rw [read_s h, op2_s, op2_s, op2_s, rV_s, jn_seen]
  · rfl
theorem sm_bytesstr (x : Arg) (rec : Rec) (fs : Frm) (s : St) : rV (oBytesStr x rec fs (z0 s)) s = oBytesStr x rec fs s := by
  unfold oBytesStr
  split
  · rw [rV_s, jn_z]
  · rename_i a n _ _
    cases Nat.beq n 0 with
    | true => rw [cond_true, cond_true, rV_s, jn_z]
    | false =>
      rw [cond_false, cond_false, read_z]
      cases h : s.read a.block a.off n with
      | none => rfl
      | some q =>
        obtain ⟨c, s'⟩ := q
        rw [read_s h, op2_s, op2_s, op2_s]
        cases bytesOf c with
        | none => rfl
        | some l => rw [op_s, op_s, rV_s, jn_seen]
  · rfl
theorem alloc_z (s : St) (c : Blk) : (z0 s).alloc c = opt2 (s.alloc c) fun b s' => some (b, ⟨s'.heap, s'.next, 0, Nat.lor 0 (bit s.next)⟩) := by
  unfold St.alloc
  rw [forceL_eq, forceL_eq]
  show (bif Nat.ble s.next lim then force s.next fun n => some (n, force (Nat.lor 0 (bit n)) fun wr => (⟨s.heap.put 40 n (some c), Nat.succ n, 0, wr⟩ : St)) else none) = _
  cases Nat.ble s.next lim with
  | true => simp only [cond_true, force_eq]; rfl
  | false => rfl
theorem alloc_w {s s' : St} {c : Blk} {b : Nat} (h : s.alloc c = some (b, s')) : s' = ⟨s'.heap, s'.next, s.rd, Nat.lor s.wr (bit s.next)⟩ := by
  unfold St.alloc at h
  rw [forceL_eq] at h
  obtain ⟨_, h⟩ := cond_some.1 h
  rw [force_eq, force_eq] at h
  cases h
  rfl
theorem rV_alloc (s : St) (c : Blk) (f : Nat → Value) : rV (opt2 ((z0 s).alloc c) fun b s => some (f b, s)) s = opt2 (s.alloc c) fun b s => some (f b, s) := by
  rw [alloc_z]
  cases h : s.alloc c with
  | none => rfl
  | some q =>
    obtain ⟨b, s'⟩ := q
    rw [op2_s, op2_s, op2_s, rV_s]
    rw [alloc_w h]
    unfold jn
    dsimp only
    rw [lor_0, zor]
theorem sm_new (c : List Value) (rec : Rec) (fs : Frm) (s : St) : rV (oNew c rec fs (z0 s)) s = oNew c rec fs s := rV_alloc s c fun b => .pointer (some ⟨b, 0, none⟩)
theorem sm_box (x : Arg) (rec : Rec) (fs : Frm) (s : St) : rV (oBox x rec fs (z0 s)) s = oBox x rec fs s := by
  unfold oBox
  cases Nat.beq _ 0 with
  | true => rfl
  | false => exact sm_new _ rec fs s
theorem sm_buildslice (n : Nat) (z : List Value) (p : List (Nat × Nat × Arg)) (rec : Rec) (fs : Frm) (s : St) : rV (oBuildSlice n z p rec fs (z0 s)) s = oBuildSlice n z p rec fs s := by
  unfold oBuildSlice
  cases fillN fs p z with
  | none => rfl
  | some c => exact rV_alloc s c fun b => .slice (some ⟨b, 0, none⟩) n n
theorem write_z (s : St) (b o : Nat) (vs : List Value) : (z0 s).write b o vs = opt (s.write b o vs) fun s' => some ⟨s'.heap, s'.next, 0, Nat.lor 0 (bit b)⟩ := by
  unfold St.write
  rw [z0_getC]
  cases s.getC b with
  | none => rfl
  | some c =>
    rw [op_s, op_s]
    cases Nat.ble (o + lenN vs) (lenN c) with
    | false => rfl
    | true =>
      rw [cond_true, cond_true, forceL_eq, forceL_eq, op_s]
      unfold St.set
      rw [force_eq, force_eq]
      rfl
theorem write_w {s s' : St} {b o : Nat} {vs : List Value} (h : s.write b o vs = some s') : s' = ⟨s'.heap, s'.next, s.rd, Nat.lor s.wr (bit b)⟩ := by
  unfold St.write at h
  obtain ⟨c, _, h⟩ := opt_some.1 h
  obtain ⟨_, h⟩ := cond_some.1 h
  rw [forceL_eq] at h
  cases h
  unfold St.set
  rw [force_eq]
theorem sm_store (n : Nat) (a x : Arg) (rec : Rec) (fs : Frm) (s : St) : rV (oStore n a x rec fs (z0 s)) s = oStore n a x rec fs s := by
  unfold oStore
  split
  · rename_i p _
    cases Nat.beq _ n with
    | false => rfl
    | true =>
      rw [cond_true, cond_true, write_z]
      cases h : s.write p.block p.off (cellsOf (ev fs x)) with
      | none => rfl
      | some s' =>
        rw [op_s, op_s, op_s, rV_s, write_w h]
        unfold jn
        dsimp only
        rw [lor_0, zor]
  · rfl
/-! loops, of the slots that matter alone -/
abbrev OutV (τ : Type) := Option (AExit × τ × St)
noncomputable def thenV {τ : Type} (k : τ → St → OutV τ) (e : AExit) (r : τ × St) : OutV τ := AExit.rec (k r.1 r.2) (fun i => some (.exit i, r)) (some (.ret, r)) e
noncomputable def loopV {τ : Type} (b : τ → St → OutV τ) (n : Nat) : τ → St → OutV τ := Nat.rec (motive := fun _ => τ → St → OutV τ) (fun _ _ => none) (fun _ ih v s => opt2 (b v s) (thenV ih)) n
theorem loopV_s {τ : Type} (b : τ → St → OutV τ) (n : Nat) (v : τ) (s : St) : loopV b (n + 1) v s = opt2 (b v s) (thenV (loopV b n)) := nrfl rfl
theorem thenV_n {τ : Type} (k : τ → St → OutV τ) (v : τ) (s : St) : thenV k .norm (v, s) = k v s := nrfl rfl
theorem thenV_e {τ : Type} (k : τ → St → OutV τ) (i : Nat) (r : τ × St) : thenV k (.exit i) r = some (.exit i, r) := nrfl rfl
theorem thenV_r {τ : Type} (k : τ → St → OutV τ) (r : τ × St) : thenV k .ret r = some (.ret, r) := nrfl rfl
/-- behind a loop -/
noncomputable def exV {γ : Type} (X : Nat → Option γ) (R : Option γ) (e : AExit) : Option γ := AExit.rec none X R e
theorem exV_e {γ : Type} (X : Nat → Option γ) (R : Option γ) (i : Nat) : exV X R (.exit i) = X i := nrfl rfl
theorem exV_r {γ : Type} (X : Nat → Option γ) (R : Option γ) : exV X R .ret = R := nrfl rfl
theorem loop_j {τ κ γ : Type} (pr : Frm → τ) (pc : Frm → κ) (B : κ → τ → St → OutV τ) (body : Frm → St → OutX)
    (h : ∀ fs s, opt2 (body fs s) (fun e r => some (e, ((pr r.1, pc r.1), r.2))) = opt2 (B (pc fs) (pr fs) s) fun e r => some (e, ((r.1, pc fs), r.2)))
    (K : AExit → Frm × St → Option γ) (K' : κ → AExit → τ × St → Option γ)
    (hx : ∀ i fs s, K (.exit i) (fs, s) = K' (pc fs) (.exit i) (pr fs, s)) (hr : ∀ fs s, K .ret (fs, s) = K' (pc fs) .ret (pr fs, s)) :
    ∀ (n : Nat) (fs : Frm) (s : St), opt2 (loopF body n fs s) K = opt2 (loopV (B (pc fs)) n (pr fs) s) (K' (pc fs))
  | 0, fs, s => rfl
  | n + 1, fs, s => by
    have ih := loop_j pr pc B body h K K' hx hr n
    rw [loop_s, loopV_s, op2_op2, op2_op2]
    have e1 : (fun (e : AExit) (r : Frm × St) => opt2 (thenX (loopF body n) e r) K) = fun e r => (fun (e : AExit) (q : (τ × κ) × St) => (AExit.rec (opt2 (loopV (B q.1.2) n q.1.1 q.2) (K' q.1.2)) (fun i => K' q.1.2 (.exit i) (q.1.1, q.2)) (K' q.1.2 .ret (q.1.1, q.2)) e : Option γ)) e ((pr r.1, pc r.1), r.2) := by
      funext e r
      cases e with
      | norm => exact ih r.1 r.2
      | exit i => exact hx i r.1 r.2
      | ret => exact hr r.1 r.2
    have e2 : (fun (e : AExit) (r : τ × St) => opt2 (thenV (loopV (B (pc fs)) n) e r) (K' (pc fs))) = fun e r => (fun (e : AExit) (q : (τ × κ) × St) => (AExit.rec (opt2 (loopV (B q.1.2) n q.1.1 q.2) (K' q.1.2)) (fun i => K' q.1.2 (.exit i) (q.1.1, q.2)) (K' q.1.2 .ret (q.1.1, q.2)) e : Option γ)) e ((r.1, pc fs), r.2) := by
      funext e r
      cases e <;> rfl
    rw [e1, e2]
    generalize (fun (e : AExit) (q : (τ × κ) × St) => (AExit.rec (opt2 (loopV (B q.1.2) n q.1.1 q.2) (K' q.1.2)) (fun i => K' q.1.2 (.exit i) (q.1.1, q.2)) (K' q.1.2 .ret (q.1.1, q.2)) e : Option γ)) = G
    have hh := congrArg (fun o => opt2 o fun e q => G e q) (h fs s)
    simp only [op2_op2, op2_s] at hh
    exact hh
theorem op2_bf {α β γ : Type} (c : Bool) (A B : Option (α × β)) (g : α → β → Option γ) : opt2 (bif c then A else B) g = bif c then opt2 A g else opt2 B g := by cases c <;> rfl
theorem mov_v (v : Value) (rec : Rec) (fs : Frm) (s : St) : oMov (.v v) rec fs s = some (v, s) := nrfl rfl
theorem x_regc (o : AOper) (l : List AOper) (un : List (Nat × Nat)) (rec : Rec) (n : Nat) (fs : Frm) (s : St) : xReg (o :: l) un rec n fs s = opt2 (runReg rec (o :: l) fs s) fun ms r => bif apartAll ms un then some (.norm, r) else none := nrfl rfl
theorem okn : OpsK [] [] := trivial
theorem okc {o : AOper} {l : List AOper} {k : Nat} {ks : List Nat} (h : OpK o k) (t : OpsK l ks) : OpsK (o :: l) (k :: ks) := ⟨h, t⟩
end Go.Abs
