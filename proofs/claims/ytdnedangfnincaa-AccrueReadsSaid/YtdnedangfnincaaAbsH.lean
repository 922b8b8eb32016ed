import Derived.Test.YtdnedangfnincaaAbsG
namespace Go.Abs
set_option linter.unusedVariables false
set_option linter.unusedSimpArgs false
section
variable {P : Program} {gl : Nat → Bool} {o : Oper}

theorem ok_binS {op : BinOp} {f : Value → Value → Option Value} {t u : TypeId} {x y : Operand} (ho : o.op = .binOp op t x y u) (hf : strF op = some f) : OpOk P gl o (oBin f (cA x) (cA y)) := by
  refine OpOk.pure fun rec fs s v s' hF => ?_
  obtain ⟨r, hr, hF⟩ := opt_k hF
  cases hF
  refine ⟨rfl, fun ρ a w ha => ?_⟩
  rw [ho] at ha
  obtain ⟨h1, ha⟩ := args1 ha
  obtain ⟨h2, ha⟩ := args1 ha
  have hstr : ∃ a b, ev fs (cA x) = .string a ∧ ev fs (cA y) = .string b := by
    cases op <;> simp only [strF, Option.some.injEq, reduceCtorEq] at hf <;> subst hf <;> obtain ⟨a', b', e1, e2, hr⟩ := str2_some hr <;> exact ⟨_, _, e1, e2⟩
  obtain ⟨p, q, e1, e2⟩ := hstr
  rw [e1, e2] at hr
  rw [e1] at h1; rw [e2] at h2
  obtain ⟨hrun, hrel⟩ := run_strF (P := P) (w := w) hf hr t
  refine ⟨v, ?_, hrel ρ⟩
  unfold execOp; rw [ho]
  show (do let z ← (do eqGuard op t x y (a.eval x) (a.eval y); binOp op t (a.eval x) (a.eval y) : Sem Value); pure (Next.value z) : Sem Next).run P w = _
  rw [run_wrap, h1.string_inv, h2.string_inv]
  simp only [Sem.run_bind, run_guard_str, Result.andThen_ok, hrun]

theorem VRel.slice_inv {ρ : Ren} {b : Option Addr} {n c : Nat} {v : Value} (h : VRel ρ (.slice b n c) v) : ∃ b' c', v = .slice b' n c' ∧ b'.isSome = b.isSome := by
  cases h <;> exact ⟨_, _, rfl, rfl⟩
theorem VRel.func_inv {ρ : Ren} {fn : Fn} {a b : Array Value} {v : Value} (h : VRel ρ (.func fn a b) v) : ∃ a' b', v = .func fn a' b' ∧ LR ρ a.toList a'.toList ∧ LR ρ b.toList b'.toList := by
  cases h with
  | func fn ha hb h k => exact ⟨_, _, rfl, ⟨by simpa using ha, fun i x y hx hy => h i x y (by simpa using hx) (by simpa using hy)⟩, ⟨by simpa using hb, fun i x y hx hy => k i x y (by simpa using hx) (by simpa using hy)⟩⟩
theorem VRel.ptrNil_inv {ρ : Ren} {v : Value} (h : VRel ρ (.pointer none) v) : v = .pointer none := by cases h; rfl
theorem VRel.nilFunc_inv {ρ : Ren} {v : Value} (h : VRel ρ .nilFunc v) : v = .nilFunc := by cases h; rfl
theorem VRel.ptr_shape {ρ : Ren} {b : Option Addr} {v : Value} (h : VRel ρ (.pointer b) v) : ∃ b', v = .pointer b' ∧ b'.isSome = b.isSome := by
  cases h <;> exact ⟨_, rfl, rfl⟩

theorem VRel.map_shape {ρ : Ren} {b : Option Nat} {v : Value} (h : VRel ρ (.map b) v) : ∃ b', v = .map b' ∧ b'.isSome = b.isSome := by
  cases h <;> exact ⟨_, rfl, rfl⟩
/-- a way of comparing, and the type at which it is Go's -/
def eqOk (P : Program) (f : Value → Value → Option Bool) (t : TypeId) : Prop :=
  (f = eqB ∧ P.underlying t = some .bool) ∨ (f = eqP ∧ ∃ e, P.underlying t = some (.pointer e)) ∨ (f = eqL ∧ ∃ e, P.underlying t = some (.slice e)) ∨ (f = eqF ∧ ∃ a b c, P.underlying t = some (.func a b c)) ∨ (f = eqM ∧ ∃ k e, P.underlying t = some (.map k e))
theorem eqIn_bool {w : World} {t : TypeId} (d : Nat) (p q : Bool) (hd : P.underlying t = some .bool) : (Op.equalIn (d + 1) t (.bool p) (.bool q)).run P w = .ok (p == q) w := by
  unfold Op.equalIn; simp only [Sem.run_bind, run_underlying hd, Result.andThen_ok]; rfl
theorem eqIn_ptr0 {w : World} {t e : TypeId} (d : Nat) (c : Option Addr) (hd : P.underlying t = some (.pointer e)) : (Op.equalIn (d + 1) t (.pointer none) (.pointer c)).run P w = .ok c.isNone w := by
  unfold Op.equalIn; simp only [Sem.run_bind, run_underlying hd, Result.andThen_ok]; rfl
theorem eqIn_ptr1 {w : World} {t e : TypeId} (d : Nat) (c : Addr) (hd : P.underlying t = some (.pointer e)) : (Op.equalIn (d + 1) t (.pointer (some c)) (.pointer none)).run P w = .ok false w := by
  unfold Op.equalIn; simp only [Sem.run_bind, run_underlying hd, Result.andThen_ok]; rfl
theorem eqIn_sl0 {w : World} {t e : TypeId} (d : Nat) (a b m n : Nat) (c : Option Addr) (hd : P.underlying t = some (.slice e)) : (Op.equalIn (d + 1) t (.slice none a b) (.slice c m n)).run P w = .ok c.isNone w := by
  unfold Op.equalIn; simp only [Sem.run_bind, run_underlying hd, Result.andThen_ok]; rfl
theorem eqIn_sl1 {w : World} {t e : TypeId} (d : Nat) (a b m n : Nat) (c : Addr) (hd : P.underlying t = some (.slice e)) : (Op.equalIn (d + 1) t (.slice (some c) a b) (.slice none m n)).run P w = .ok false w := by
  unfold Op.equalIn; simp only [Sem.run_bind, run_underlying hd, Result.andThen_ok]; rfl
theorem eqIn_fn {w : World} {t : TypeId} {x y : Value} {b : Bool} (d : Nat) {d1 d2 d3} (hd : P.underlying t = some (.func d1 d2 d3)) (hb : (x = .nilFunc ∧ y = .nilFunc ∧ b = true) ∨ (x = .nilFunc ∧ (∃ f p q, y = .func f p q) ∧ b = false) ∨ ((∃ f p q, x = .func f p q) ∧ y = .nilFunc ∧ b = false)) :
    (Op.equalIn (d + 1) t x y).run P w = .ok b w := by
  rcases hb with ⟨rfl, rfl, rfl⟩ | ⟨rfl, ⟨f, p, q, rfl⟩, rfl⟩ | ⟨⟨f, p, q, rfl⟩, rfl, rfl⟩ <;>
    (unfold Op.equalIn; simp only [Sem.run_bind, run_underlying hd, Result.andThen_ok]; rfl)
theorem eqIn_mp0 {w : World} {t k e : TypeId} (d : Nat) (c : Option Nat) (hd : P.underlying t = some (.map k e)) : (Op.equalIn (d + 1) t (.map none) (.map c)).run P w = .ok c.isNone w := by
  unfold Op.equalIn; simp only [Sem.run_bind, run_underlying hd, Result.andThen_ok]; rfl
theorem eqIn_mp1 {w : World} {t k e : TypeId} (d : Nat) (c : Nat) (hd : P.underlying t = some (.map k e)) : (Op.equalIn (d + 1) t (.map (some c)) (.map none)).run P w = .ok false w := by
  unfold Op.equalIn; simp only [Sem.run_bind, run_underlying hd, Result.andThen_ok]; rfl
theorem run_eqV {w : World} {t : TypeId} {f : Value → Value → Option Bool} (ht : eqOk P f t) {ρ : Ren} {x y x' y' : Value} {b : Bool} (h : f x y = some b) (hx : VRel ρ x x') (hy : VRel ρ y y') (p q : Operand) (neg : Bool) :
    (do eqGuard (if neg then .neq else .eql) t p q x' y'; binOp (if neg then .neq else .eql) t x' y' : Sem Value).run P w = .ok (.bool (bif neg then !b else b)) w := by
  have key : (Op.equal t x' y').run P w = .ok b w ∧ (eqGuard (if neg then .neq else .eql) t p q x' y').run P w = .ok () w ∧ binOp (if neg then .neq else .eql) t x' y' = (if neg then (do pure (.bool (!(← Op.equal t x' y')))) else (do pure (.bool (← Op.equal t x' y')))) := by
    rcases ht with ⟨rfl, hd⟩ | ⟨rfl, e, hd⟩ | ⟨rfl, e, hd⟩ | ⟨rfl, d1, d2, d3, hd⟩ | ⟨rfl, mk, me, hd⟩
    · unfold eqB at h
      split at h
      · split at h
        · cases h
          rw [hx.bool_inv, hy.bool_inv]
          refine ⟨?_, ?_, ?_⟩
          · refine (eqIn_bool (P := P) 9999 _ _ hd).trans ?_; exact (fun a b : Bool => (by cases a <;> cases b <;> rfl : (Result.ok (a == b) w : Result Bool) = Result.ok (Bool.rec (Bool.rec true false b) b a) w)) _ _
          · unfold eqGuard; cases neg <;> simp
          · cases neg <;> simp [binOp]
        · cases h
      · cases h
    · unfold eqP at h
      split at h
      · split at h
        · rename_i c
          cases h
          rw [hx.ptrNil_inv]
          obtain ⟨c', rfl, hc⟩ := hy.ptr_shape
          refine ⟨?_, ?_, ?_⟩
          · refine (eqIn_ptr0 (P := P) 9999 _ hd).trans ?_; cases c <;> cases c' <;> first | rfl | (cases hc; done)
          · unfold eqGuard; cases neg <;> simp
          · cases neg <;> simp [binOp]
        · cases h
      · split at h
        · cases h
          obtain ⟨l, _, _, rfl⟩ := hx.ptr_inv
          rw [hy.ptrNil_inv]
          refine ⟨?_, ?_, ?_⟩
          · exact eqIn_ptr1 (P := P) 9999 _ hd
          · unfold eqGuard; cases neg <;> simp
          · cases neg <;> simp [binOp]
        · cases h
      · cases h
    · unfold eqL at h
      split at h
      · split at h
        · rename_i c _ _
          cases h
          obtain ⟨x1, x2, rfl, hx1⟩ := hx.slice_inv
          obtain ⟨y1, y2, rfl, hy1⟩ := hy.slice_inv
          cases x1 with
          | some _ => cases hx1
          | none =>
            refine ⟨?_, ?_, ?_⟩
            · refine (eqIn_sl0 (P := P) 9999 _ _ _ _ _ hd).trans ?_; cases c <;> cases y1 <;> first | rfl | (cases hy1; done)
            · unfold eqGuard; cases neg <;> simp
            · cases neg <;> simp [binOp]
        · cases h
      · split at h
        · cases h
          obtain ⟨x1, x2, rfl, hx1⟩ := hx.slice_inv
          obtain ⟨y1, y2, rfl, hy1⟩ := hy.slice_inv
          cases y1 with
          | some _ => cases hy1
          | none => cases x1 with
            | none => cases hx1
            | some x1 =>
              refine ⟨?_, ?_, ?_⟩
              · exact eqIn_sl1 (P := P) 9999 _ _ _ _ _ hd
              · unfold eqGuard; cases neg <;> simp
              · cases neg <;> simp [binOp]
        · cases h
      · cases h
    · unfold eqF at h
      split at h
      · rw [hx.nilFunc_inv]
        split at h
        · cases h
          rw [hy.nilFunc_inv]
          refine ⟨?_, ?_, ?_⟩
          · exact eqIn_fn (P := P) 9999 hd (.inl ⟨rfl, rfl, rfl⟩)
          · unfold eqGuard; cases neg <;> simp
          · cases neg <;> simp [binOp]
        · cases h
          obtain ⟨_, _, rfl, _, _⟩ := hy.func_inv
          refine ⟨?_, ?_, ?_⟩
          · exact eqIn_fn (P := P) 9999 hd (.inr (.inl ⟨rfl, ⟨_, _, _, rfl⟩, rfl⟩))
          · unfold eqGuard; cases neg <;> simp
          · cases neg <;> simp [binOp]
        · cases h
      · split at h
        · cases h
          obtain ⟨_, _, rfl, _, _⟩ := hx.func_inv
          rw [hy.nilFunc_inv]
          refine ⟨?_, ?_, ?_⟩
          · exact eqIn_fn (P := P) 9999 hd (.inr (.inr ⟨⟨_, _, _, rfl⟩, rfl, rfl⟩))
          · unfold eqGuard; cases neg <;> simp
          · cases neg <;> simp [binOp]
        · cases h
      · cases h
    · unfold eqM at h
      split at h
      · split at h
        · rename_i c
          cases h
          obtain ⟨x1, rfl, hx1⟩ := hx.map_shape
          obtain ⟨c', rfl, hc⟩ := hy.map_shape
          cases x1 with
          | some _ => cases hx1
          | none =>
            refine ⟨?_, ?_, ?_⟩
            · refine (eqIn_mp0 (P := P) 9999 _ hd).trans ?_; cases c <;> cases c' <;> first | rfl | (cases hc; done)
            · unfold eqGuard; cases neg <;> simp
            · cases neg <;> simp [binOp]
        · cases h
      · split at h
        · cases h
          obtain ⟨x1, rfl, hx1⟩ := hx.map_shape
          obtain ⟨c', rfl, hc⟩ := hy.map_shape
          cases c' with
          | some _ => cases hc
          | none => cases x1 with
            | none => cases hx1
            | some x1 =>
              refine ⟨?_, ?_, ?_⟩
              · exact eqIn_mp1 (P := P) 9999 _ hd
              · unfold eqGuard; cases neg <;> simp
              · cases neg <;> simp [binOp]
        · cases h
      · cases h
  obtain ⟨k1, k2, k3⟩ := key
  simp only [Sem.run_bind, k2, Result.andThen_ok, k3]
  cases neg <;> simp [k1]
theorem ok_eqv {op : BinOp} {f : Value → Value → Option Bool} {t u : TypeId} {x y : Operand} {neg : Bool} (ho : o.op = .binOp op t x y u) (hop : op = if neg then .neq else .eql) (ht : eqOk P f t) : OpOk P gl o (oEqv f neg (cA x) (cA y)) := by
  refine OpOk.pure fun rec fs s v s' hF => ?_
  obtain ⟨r, hr, hF⟩ := opt_k hF
  cases hF
  refine ⟨rfl, fun ρ a w ha => ?_⟩
  rw [ho] at ha
  obtain ⟨h1, ha⟩ := args1 ha
  obtain ⟨h2, ha⟩ := args1 ha
  refine ⟨_, ?_, .bool _⟩
  unfold execOp; rw [ho, hop]
  show (do let z ← (do eqGuard (if neg then .neq else .eql) t x y (a.eval x) (a.eval y); binOp (if neg then .neq else .eql) t (a.eval x) (a.eval y) : Sem Value); pure (Next.value z) : Sem Next).run P w = _
  rw [run_wrap, run_eqV ht hr h1 h2]; rfl

theorem ok_neg {t : TypeId} {x : Operand} (ho : o.op = .unOp .neg t x) : OpOk P gl o (oNeg (cA x)) := by
  refine OpOk.pure fun rec fs s v s' hF => ?_
  unfold oNeg at hF
  split at hF
  · rename_i k n hk
    rw [mkInt_eq] at hF
    cases hF
    refine ⟨rfl, fun ρ a w ha => ?_⟩
    rw [ho] at ha
    have h1 := (args1 ha).1
    rw [hk] at h1
    refine ⟨_, ?_, .int _ _⟩
    unfold execOp; rw [ho]
    simp only [h1.int_inv, Op.unary, Op.intArith]
    rfl
  · cases hF
theorem ok_compl {t : TypeId} {x : Operand} (ho : o.op = .unOp .xor t x) : OpOk P gl o (oCompl (cA x)) := by
  refine OpOk.pure fun rec fs s v s' hF => ?_
  unfold oCompl at hF
  split at hF
  · rename_i k n hk
    rw [setI_eq] at hF
    cases hF
    refine ⟨rfl, fun ρ a w ha => ?_⟩
    rw [ho] at ha
    have h1 := (args1 ha).1
    rw [hk] at h1
    refine ⟨_, ?_, .int _ _⟩
    unfold execOp; rw [ho]
    simp [h1.int_inv, Op.unary, Op.intBits, bitXor]
  · cases hF
theorem ok_not {t : TypeId} {x : Operand} (ho : o.op = .unOp .not t x) : OpOk P gl o (oNot (cA x)) := by
  refine OpOk.pure fun rec fs s v s' hF => ?_
  unfold oNot at hF
  split at hF
  · rename_i b hk
    cases hF
    refine ⟨rfl, fun ρ a w ha => ?_⟩
    rw [ho] at ha
    have h1 := (args1 ha).1
    rw [hk] at h1
    refine ⟨.bool (!b), ?_, ?_⟩
    · unfold execOp; rw [ho]
      simp [h1.bool_inv, Op.unary]
    · cases b <;> exact .bool _
  · cases hF
theorem ok_conv {src dst : TypeId} {k : IntKind} {x : Operand} (ho : o.op = .convert src dst x) {k' : IntKind} (hs : P.underlying src = some (.int k')) (hd : P.underlying dst = some (.int k)) : OpOk P gl o (oConv k (cA x)) := by
  refine OpOk.pure fun rec fs s v s' hF => ?_
  unfold oConv at hF
  split at hF
  · rename_i k1 n hk
    rw [mkInt_eq] at hF
    cases hF
    refine ⟨rfl, fun ρ a w ha => ?_⟩
    rw [ho] at ha
    have h1 := (args1 ha).1
    rw [hk] at h1
    refine ⟨_, ?_, .int _ _⟩
    unfold execOp; rw [ho]
    simp [h1.int_inv, convert, run_underlying hs, run_underlying hd, Conv.intToInt]
  · cases hF
theorem ok_same {src dst : TypeId} {x : Operand} (ho : o.op = .convert src dst x) (hs : P.underlying src = some .string) (hd : P.underlying dst = some .string) : OpOk P gl o (oSame (cA x)) := by
  refine OpOk.pure fun rec fs s v s' hF => ?_
  unfold oSame at hF
  split at hF
  · rename_i b hk
    cases hF
    refine ⟨rfl, fun ρ a w ha => ?_⟩
    rw [ho] at ha
    have h1 := (args1 ha).1
    rw [hk] at h1
    refine ⟨_, ?_, .string _⟩
    unfold execOp; rw [ho]
    simp [h1.string_inv, convert, run_underlying hs, run_underlying hd]
  · cases hF
theorem LR.evs {ρ : Ren} {fs : Frm} {a : Act} : ∀ {l : List Operand}, ArgsOk ρ fs a l → LR ρ (mapN (ev fs) (cAs l)) (l.map a.eval)
  | [], _ => LR.nil ρ
  | x :: l, h => LR.cons (args1 h).1 (LR.evs (args1 h).2)
theorem ok_func {fn : Fn} {p q : Array Operand} (ho : o.op = .makeFunc fn p q) : OpOk P gl o (oFunc fn (cAs p.toList) (cAs q.toList)) := by
  refine OpOk.pure fun rec fs s v s' hF => ?_
  cases hF
  refine ⟨rfl, fun ρ a w ha => ?_⟩
  rw [ho] at ha
  have ha' : ArgsOk ρ fs a p.toList ∧ ArgsOk ρ fs a q.toList := ⟨fun x hx => ha x (by simp [Op.operands, hx]), fun x hx => ha x (by simp [Op.operands, hx])⟩
  have l1 := LR.evs ha'.1
  have l2 := LR.evs ha'.2
  refine ⟨.func fn (p.map a.eval) (q.map a.eval), ?_, ?_⟩
  · unfold execOp; rw [ho]; rfl
  · refine .func fn (by have := l1.1; simpa using this) (by have := l2.1; simpa using this) (fun i x y hx hy => l1.2 i x y (by simpa using hx) (by simpa using hy)) (fun i x y hx hy => l2.2 i x y (by simpa using hx) (by simpa using hy))
theorem ok_iface {t : TypeId} {x : Operand} (ho : o.op = .makeInterface t x) {d : TypeDesc} (hd : P.underlying t = some d) (hn : ∀ m, d ≠ .interface m) : OpOk P gl o (oIface t (cA x)) := by
  refine OpOk.pure fun rec fs s v s' hF => ?_
  cases hF
  refine ⟨rfl, fun ρ a w ha => ?_⟩
  rw [ho] at ha
  refine ⟨.iface t (a.eval x), ?_, .iface t (args1 ha).1⟩
  unfold execOp; rw [ho]
  simp only [Instr.makeInterface, Sem.run_bind, run_underlying hd, Result.andThen_ok]
  rfl
end
end Go.Abs
