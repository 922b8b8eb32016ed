import Derived.Test.YtdnedangfnincaaAbsE
namespace Go.Abs
set_option linter.unusedVariables false
set_option linter.unusedSimpArgs false

/-- the machine's state is sound: no block at or above the counter -/
structure SOk (s : St) : Prop where
  top : s.next ≤ lim + 1
  dead : ∀ x, s.next ≤ x → s.get x = none
theorem SOk.step {s s' : St} (h : SOk s) (k : AStep s s') : SOk s' := ⟨k.top h.top, k.out h.dead h.top⟩
theorem SOk.lt {s : St} (h : SOk s) {x : Nat} {b : Blk} (hb : s.get x = some b) : x < s.next := by
  rcases Nat.lt_or_ge x s.next with h1 | h1
  · exact h1
  · rw [h.dead x h1] at hb; cases hb
theorem SOk.lt40 {s : St} (h : SOk s) {x : Nat} {b : Blk} (hb : s.get x = some b) : x + 1 < 2 ^ 40 := by
  have h1 := h.lt hb
  have h2 := h.top
  unfold lim at h2; omega

/-- a function with a body of Go's -/
def FnOk (P : Program) (f : FuncId) : Prop := ∃ fn, P.funcs[f]? = some fn ∧ fn.body.isNone = false ∧ (fn.name == "runtime.NumGoroutine") = false
def RecOk (P : Program) (gl : Nat → Bool) (rec : Rec) : Prop :=
  ∀ f args s v s', rec f args s = some (v, s') → SOk s → FnOk P f ∧ AStep s s' ∧ ∀ ρ Y w (args' : List Value), Ctx gl ρ Y s s' w → LR ρ args args' →
    Calls P f args'.toArray w fun e w' => ∃ ρ' v', e = .returned v' ∧ VRel ρ' v v' ∧ Good ρ ρ' Y s s' w w'
/-- the operands, one by one -/
def ArgsOk (ρ : Ren) (fs : Frm) (a : Act) (l : List Operand) : Prop := ∀ x ∈ l, VRel ρ (ev fs (cA x)) (a.eval x)
def OpOk (P : Program) (gl : Nat → Bool) (o : Oper) (F : OpF) : Prop :=
  ∀ rec, RecOk P gl rec → ∀ fs s v s', F rec fs s = some (v, s') → SOk s → AStep s s' ∧ ∀ ρ Y w a, Ctx gl ρ Y s s' w → ArgsOk ρ fs a o.op.operands.toList →
    ∀ (K : Act → World → Prop) (Q : Exit → Act → World → Prop), (∀ ρ' v' w', VRel ρ' v v' → Good ρ ρ' Y s s' w w' → K (a.put o.dst v') w') → o.wp P a w K Q

section
variable {P : Program} {gl : Nat → Bool} {o : Oper} {F : OpF}
theorem wp_value {a : Act} {w w' : World} {v' : Value} {K : Act → World → Prop} {Q : Exit → Act → World → Prop} (h : (execOp a.eval o).run P w = .ok (.value v') w') (hk : K (a.put o.dst v') w') : o.wp P a w K Q := by
  unfold Oper.wp; rw [h]; exact hk
theorem wp_skipped {a : Act} {w w' : World} {K : Act → World → Prop} {Q : Exit → Act → World → Prop} (h : (execOp a.eval o).run P w = .ok .skip w') (hk : K (a.put o.dst undef) w') : o.wp P a w K Q := by
  unfold Oper.wp; rw [h]; exact hk
/-- an operation that touches no memory -/
theorem OpOk.pure (h : ∀ rec fs s v s', F rec fs s = some (v, s') → s' = s ∧ ∀ ρ a w, ArgsOk ρ fs a o.op.operands.toList → ∃ v', (execOp a.eval o).run P w = .ok (.value v') w ∧ VRel ρ v v') : OpOk P gl o F := by
  intro rec _ fs s v s' hF hso
  obtain ⟨rfl, hr⟩ := h rec fs s v s' hF
  refine ⟨AStep.refl _, fun ρ Y w a c ha K Q hK => ?_⟩
  obtain ⟨v', hv, hrel⟩ := hr ρ a w ha
  exact wp_value hv (hK ρ v' w hrel (Good.refl c.rel))
theorem OpOk.bad : OpOk P gl o oBad := fun _ _ _ _ _ _ h _ => by cases h
end

/-! what a related value is -/
section
variable {ρ : Ren} {v : Value}
theorem VRel.int_inv {k : IntKind} {n : Int} (h : VRel ρ (.int k n) v) : v = .int k n := by cases h; rfl
theorem VRel.bool_inv {b : Bool} (h : VRel ρ (.bool b) v) : v = .bool b := by cases h; rfl
theorem VRel.string_inv {b : ByteArray} (h : VRel ρ (.string b) v) : v = .string b := by cases h; rfl
theorem VRel.ptr_inv {p : Addr} (h : VRel ρ (.pointer (some p)) v) : ∃ l, p.spot = none ∧ ρ p.block = some l ∧ v = .pointer (some ⟨l.blk, l.base + p.off, none⟩) := by cases h with | ptr h => exact ⟨_, rfl, h, rfl⟩
end

theorem opt_k {α β : Type} {o : Option α} {k : α → Option β} {b : β} (h : opt o k = some b) : ∃ a, o = some a ∧ k a = some b := opt_some.1 h
theorem opt2_k {α β γ : Type} {o : Option (α × β)} {k : α → β → Option γ} {c : γ} (h : opt2 o k = some c) : ∃ a b, o = some (a, b) ∧ k a b = some c := opt2_some.1 h

/-! sums -/
theorem bitAnd_eq (k : IntKind) (a b : Int) : bitAnd k a b = k.wrap ((BitVec.ofInt k.bits a &&& BitVec.ofInt k.bits b).toNat : Int) := by
  unfold bitAnd
  cases a with
  | negSucc m => rfl
  | ofNat m => cases b with
    | negSucc n => rfl
    | ofNat n =>
      show (bif Nat.blt m (topOf k) && Nat.blt n (topOf k) then Int.ofNat (Nat.land m n) else _) = _
      rw [blt_eq', blt_eq']
      by_cases h1 : m < topOf k
      · by_cases h2 : n < topOf k
        · simp only [h1, h2, decide_true, Bool.and_self, cond_true]
          have hk : topOf k ≤ 2 ^ k.bits := by cases k <;> simp [topOf, IntKind.bits]
          have e : (BitVec.ofInt k.bits (Int.ofNat m) &&& BitVec.ofInt k.bits (Int.ofNat n)).toNat = m &&& n := by
            have e1 : BitVec.ofInt k.bits (Int.ofNat m) = BitVec.ofNat k.bits m := BitVec.ofInt_natCast k.bits m
            have e2 : BitVec.ofInt k.bits (Int.ofNat n) = BitVec.ofNat k.bits n := BitVec.ofInt_natCast k.bits n
            rw [e1, e2, BitVec.toNat_and, BitVec.toNat_ofNat, BitVec.toNat_ofNat, Nat.mod_eq_of_lt (by omega), Nat.mod_eq_of_lt (by omega)]
          rw [e]
          have hle : (m &&& n) ≤ topOf k - 1 := by have := @Nat.and_le_left m n; omega
          exact (wrap_small k (m &&& n) hle).symm
        · simp only [h1, h2, decide_true, decide_false, Bool.and_false, cond_false]
      · simp only [h1, decide_false, Bool.false_and, cond_false]

theorem run_guard_int (P : Program) (w : World) (op : BinOp) (t : TypeId) (x y : Operand) (k k' : IntKind) (a b : Int) :
    (eqGuard op t x y (.int k a) (.int k' b)).run P w = .ok () w := by unfold eqGuard; cases op <;> simp
theorem run_guard_str (P : Program) (w : World) (op : BinOp) (t : TypeId) (x y : Operand) (a b : ByteArray) :
    (eqGuard op t x y (.string a) (.string b)).run P w = .ok () w := by unfold eqGuard; cases op <;> simp

theorem int2_some {f : IntKind → Int → Int → Option Value} {x y v : Value} (h : int2 f x y = some v) : ∃ k a b, x = .int k a ∧ y = .int k b ∧ f k a b = some v := by
  unfold int2 at h
  split at h
  · rename_i k a
    split at h
    · rename_i k' b
      rw [brec_eq, eqK_eq] at h
      by_cases e : k = k'
      · subst e; simp at h; exact ⟨k, a, b, rfl, rfl, h⟩
      · simp [e] at h
    · cases h
  · cases h
theorem sh2_some {f : IntKind → Int → Int → Option Value} {x y v : Value} (h : sh2 f x y = some v) : ∃ k a k' b, x = .int k a ∧ y = .int k' b ∧ f k a b = some v := by
  unfold sh2 at h
  split at h
  · split at h
    · exact ⟨_, _, _, _, rfl, rfl, h⟩
    · cases h
  · cases h

theorem run_binInt {P : Program} {w : World} (op : BinOp) {t : TypeId} {p q : Operand} {x y v : Value} (h : binF op x y = some v) :
    ∃ k a k' b, x = .int k a ∧ y = .int k' b ∧ (do eqGuard op t p q x y; binOp op t x y : Sem Value).run P w = .ok v w := by
  cases op <;> simp only [binF] at h
  case shl =>
    obtain ⟨k, a, k', b, rfl, rfl, hf⟩ := sh2_some h
    clear h
    refine ⟨k, a, k', b, rfl, rfl, ?_⟩
    unfold shlO at hf
    rw [cond_none, ltI_eq, mkInt_eq] at hf
    obtain ⟨h1, h2⟩ := hf
    cases h2
    simp only [Sem.run_bind, run_guard_int, Result.andThen_ok, binOp, Op.shift]
    rw [if_neg (by simpa using h1)]
    rfl
  case shr =>
    obtain ⟨k, a, k', b, rfl, rfl, hf⟩ := sh2_some h
    clear h
    refine ⟨k, a, k', b, rfl, rfl, ?_⟩
    unfold shrO at hf
    rw [cond_none, ltI_eq, setI_eq] at hf
    obtain ⟨h1, h2⟩ := hf
    cases h2
    simp only [Sem.run_bind, run_guard_int, Result.andThen_ok, binOp, Op.shift]
    rw [if_neg (by simpa using h1)]
    rfl
  case quo =>
    obtain ⟨k, a, b, rfl, rfl, hf⟩ := int2_some h
    clear h
    refine ⟨k, a, k, b, rfl, rfl, ?_⟩
    unfold quoO at hf
    rw [cond_none, eqI_eq, mkInt_eq] at hf
    obtain ⟨h1, h2⟩ := hf
    cases h2
    simp only [Sem.run_bind, run_guard_int, Result.andThen_ok, binOp, Op.intDiv, ne_eq, not_true, if_false]
    rw [if_neg (by simpa using h1)]
    rfl
  case rem =>
    obtain ⟨k, a, b, rfl, rfl, hf⟩ := int2_some h
    clear h
    refine ⟨k, a, k, b, rfl, rfl, ?_⟩
    unfold remO at hf
    rw [cond_none, eqI_eq, forceI_eq] at hf
    obtain ⟨h1, h2⟩ := hf
    cases h2
    simp only [Sem.run_bind, run_guard_int, Result.andThen_ok, binOp, Op.intDiv, ne_eq, not_true, if_false]
    rw [if_neg (by simpa using h1)]
    rfl
  all_goals
    obtain ⟨k, a, b, rfl, rfl, hf⟩ := int2_some h
    clear h
    refine ⟨k, a, k, b, rfl, rfl, ?_⟩
    simp only [cmpO, addO_eq, subO_eq, mulO_eq, andO, orO, xorO, andNotO, setI_eq, eqI_eq, neI_eq, ltI_eq, leI_eq, gtI_eq, geI_eq, bitAnd_eq, bitOr, bitXor, bitAndNot, Option.some.injEq] at hf
    subst hf
    simp only [Sem.run_bind, run_guard_int, Result.andThen_ok, binOp, ne_eq, not_true, if_false, Op.intArith, Op.intBits, Op.intCmp]
    first | rfl | (simp only [Sem.run_pure]; first | rfl | (congr 2; simp; done) | (congr 2; first | rfl | (simp [bne, BEq.beq])))
end Go.Abs
