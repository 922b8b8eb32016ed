import Derived.Test.YtdnedangfnincaaAbsF
import Derived.Lib.Strings
import Derived.Lib.Bytes
import Derived.Laws.Concat
import Derived.Lib.SmallJoins
import Derived.WideShapes
namespace Go.Abs
set_option linter.unusedVariables false
set_option linter.unusedSimpArgs false
section
variable {P : Program} {gl : Nat → Bool} {o : Oper} {w : World}

theorem run_info {t : TypeId} {i : TypeInfo} (h : P.info? t = some i) : (typeInfo t).run P w = .ok i w := by simp [typeInfo, h]
theorem run_size {t : TypeId} {n : Nat} (h : sizeT P t = some n) : (sizeOf t).run P w = .ok n w := by
  unfold sizeT at h
  rw [Option.map_eq_some_iff] at h
  obtain ⟨i, hi, rfl⟩ := h
  simp [sizeOf, typeInfo, hi]
theorem info_of_size {t : TypeId} {n : Nat} (h : sizeT P t = some n) : ∃ i, P.info? t = some i ∧ i.size = n := by
  unfold sizeT at h
  rw [Option.map_eq_some_iff] at h
  exact h
theorem info_of_bytes {t : TypeId} {n : Nat} (h : bytesT P t = some n) : ∃ i, P.info? t = some i ∧ i.bytes = n := by
  unfold bytesT at h
  rw [Option.map_eq_some_iff] at h
  exact h
theorem gndCells_cells {v : Value} {z : List Value} (h : gndCells v = some z) : v.cells.toList = z ∧ z.all gnd1 = true := by
  cases v with
  | agg cs =>
    simp only [gndCells] at h
    split at h
    · rename_i hg; cases h; exact ⟨rfl, hg⟩
    · cases h
  | _ =>
    simp only [gndCells] at h
    split at h
    · rename_i hg; cases h; exact ⟨rfl, by simp only [List.all_cons, List.all_nil, hg]; rfl⟩
    · cases h
theorem info_of_zero {t : TypeId} {z : List Value} (h : zeroT P t = some z) : ∃ i v, P.info? t = some i ∧ i.zero = some v ∧ v.cells.toList = z ∧ z.all gnd1 = true := by
  unfold zeroT at h
  rw [Option.bind_eq_some_iff] at h
  obtain ⟨v, hv, hc⟩ := h
  rw [Option.bind_eq_some_iff] at hv
  obtain ⟨i, hi, hz⟩ := hv
  exact ⟨i, v, hi, hz, gndCells_cells hc⟩
theorem run_zero {t : TypeId} {z : List Value} (h : zeroT P t = some z) : ∃ v, (zeroValue t).run P w = .ok v w ∧ v.cells.toList = z ∧ z.all gnd1 = true := by
  obtain ⟨i, v, hi, hz, hc⟩ := info_of_zero h
  exact ⟨v, by simp [zeroValue, typeInfo, hi, hz], hc⟩
theorem run_isAgg {t : TypeId} {b : Bool} (h : isAggT P t = some b) : (isAgg t).run P w = .ok b w := by
  unfold isAggT at h
  unfold isAgg
  split at h
  · rename_i d hd; cases h; simp [run_underlying hd]
  · rename_i d hd; cases h; simp [run_underlying hd]
  · rename_i d h1 h2 hd
    cases h
    simp only [Sem.run_bind, run_underlying hd, Result.andThen_ok]
    rfl
  · cases h
theorem gnd1_rel {ρ : Ren} {v : Value} (h : gnd1 v = true) : VRel ρ v v ∧ one v = true := by
  unfold gnd1 at h
  split at h <;> first
    | exact ⟨.bool _, rfl⟩ | exact ⟨.int _ _, rfl⟩ | exact ⟨.string _, rfl⟩ | exact ⟨.ptrNil, rfl⟩ | exact ⟨.sliceNil, rfl⟩ | exact ⟨.mapNil, rfl⟩
    | exact ⟨.chanNil, rfl⟩ | exact ⟨.nilFunc, rfl⟩ | exact ⟨.nilIface, rfl⟩ | cases h
theorem gnd_CR {ρ : Ren} {l : List Value} (h : l.all gnd1 = true) : CR ρ l l := by
  rw [List.all_eq_true] at h
  refine ⟨⟨rfl, fun i x y hx hy => ?_⟩, fun x hx => (gnd1_rel (ρ := ρ) (h x hx)).2⟩
  rw [hx] at hy; cases hy
  exact (gnd1_rel (h x (List.mem_of_getElem? hx))).1
theorem gnd_rel {ρ : Ren} {v : Value} (h : gnd v = true) : VRel ρ v v := by
  unfold gnd at h
  split at h
  · rename_i cs
    have := gnd_CR (ρ := ρ) h
    have h2 := VRel.agg_of this
    simpa [aggOf] using h2
  · exact (gnd1_rel h).1

/-! the operations that touch no memory -/
theorem run_wrap (s : Sem Value) (w : World) : (do let x ← s; pure (Next.value x) : Sem Next).run P w = (s.run P w).andThen fun x w' => .ok (.value x) w' := by simp
theorem args1 {ρ : Ren} {fs : Frm} {a : Act} {x : Operand} {l : List Operand} (h : ArgsOk ρ fs a (x :: l)) : VRel ρ (ev fs (cA x)) (a.eval x) ∧ ArgsOk ρ fs a l := ⟨h x (by simp), fun y hy => h y (by simp [hy])⟩

theorem ok_mov {x : Operand} (ho : o.op = .move x ∨ o.op = .assign x) : OpOk P gl o (oMov (cA x)) := by
  refine OpOk.pure fun rec fs s v s' hF => ?_
  cases hF
  refine ⟨rfl, fun ρ a w ha => ⟨a.eval x, ?_, ?_⟩⟩
  · rcases ho with ho | ho <;> (unfold execOp; rw [ho]; rfl)
  · rcases ho with ho | ho <;> (rw [ho] at ha; exact (args1 ha).1)
theorem ok_pick {c x y : Operand} (ho : o.op = .pick c x y) : OpOk P gl o (oPick (cA c) (cA x) (cA y)) := by
  refine OpOk.pure fun rec fs s v s' hF => ?_
  unfold oPick at hF
  split at hF
  · rename_i t ht
    cases hF
    refine ⟨rfl, fun ρ a w ha => ?_⟩
    rw [ho] at ha
    obtain ⟨h1, ha⟩ := args1 ha
    obtain ⟨h2, ha⟩ := args1 ha
    obtain ⟨h3, ha⟩ := args1 ha
    rw [ht] at h1
    have e := h1.bool_inv
    refine ⟨if t then a.eval x else a.eval y, ?_, ?_⟩
    · unfold execOp; rw [ho]; simp [e, asBool]
    · cases t
      · exact h3
      · exact h2
  · cases hF
theorem ok_bin {op : BinOp} {t u : TypeId} {x y : Operand} (ho : o.op = .binOp op t x y u) : OpOk P gl o (oBin (binF op) (cA x) (cA y)) := by
  refine OpOk.pure fun rec fs s v s' hF => ?_
  obtain ⟨r, hr, hF⟩ := opt_k hF
  cases hF
  refine ⟨rfl, fun ρ a w ha => ?_⟩
  rw [ho] at ha
  obtain ⟨h1, ha⟩ := args1 ha
  obtain ⟨h2, ha⟩ := args1 ha
  obtain ⟨k, p, k', q, e1, e2, hrun⟩ := run_binInt (P := P) (w := w) op (t := t) (p := x) (q := y) hr
  rw [e1] at h1; rw [e2] at h2
  rw [e1, e2] at hrun
  refine ⟨v, ?_, ?_⟩
  · unfold execOp; rw [ho]
    show (do let x ← (do eqGuard op t x y (a.eval x) (a.eval y); binOp op t (a.eval x) (a.eval y) : Sem Value); pure (Next.value x) : Sem Next).run P w = _
    rw [run_wrap, h1.int_inv, h2.int_inv, hrun]; rfl
  · rw [e1, e2] at hr
    cases op <;> simp only [binF] at hr <;> first
      | (obtain ⟨k, a, k', b, _, _, hf⟩ := sh2_some hr; unfold shlO at hf; rw [cond_none, mkInt_eq] at hf; cases hf.2; exact .int _ _)
      | (obtain ⟨k, a, k', b, _, _, hf⟩ := sh2_some hr; unfold shrO at hf; rw [cond_none, setI_eq] at hf; cases hf.2; exact .int _ _)
      | (obtain ⟨k, a, b, _, _, hf⟩ := int2_some hr; unfold quoO at hf; rw [cond_none, mkInt_eq] at hf; cases hf.2; exact .int _ _)
      | (obtain ⟨k, a, b, _, _, hf⟩ := int2_some hr; unfold remO at hf; rw [cond_none, forceI_eq] at hf; cases hf.2; exact .int _ _)
      | (obtain ⟨k, a, b, _, _, hf⟩ := int2_some hr; simp only [cmpO, addO_eq, subO_eq, mulO_eq, andO, orO, xorO, andNotO, setI_eq, Option.some.injEq] at hf; subst hf; first | exact .int _ _ | exact .bool _)

theorem str2_some {f : List UInt8 → List UInt8 → Option Value} {x y v : Value} (h : str2 f x y = some v) : ∃ a b, x = .string a ∧ y = .string b ∧ f a.data.toList b.data.toList = some v := by
  unfold str2 at h
  split at h
  · split at h
    · exact ⟨_, _, rfl, rfl, h⟩
    · cases h
  · cases h
theorem bytesLess_total : ∀ (a b : List UInt8), (Op.bytesLess a b || decide (a = b)) = !Op.bytesLess b a
  | [], [] => rfl
  | [], _ :: _ => by simp [Op.bytesLess]
  | _ :: _, [] => by simp [Op.bytesLess]
  | x :: a, y :: b => by
    have ih := bytesLess_total a b
    simp only [Op.bytesLess]
    by_cases h : x = y
    · subst h
      simpa using ih
    · have h' : ¬ y = x := fun e => h e.symm
      have : x < y ∨ y < x := by
        simp only [UInt8.lt_iff_toNat_lt]
        have : x.toNat ≠ y.toNat := fun e => h (UInt8.toNat_inj.1 e)
        omega
      rcases this with h2 | h2
      · have h3 : ¬ y < x := by simp only [UInt8.lt_iff_toNat_lt] at h2 ⊢; omega
        simp [h, h', h2, h3]
      · have h3 : ¬ x < y := by simp only [UInt8.lt_iff_toNat_lt] at h2 ⊢; omega
        simp [h, h', h2, h3]
theorem beq_bytes (a b : List UInt8) : (a == b) = decide (a = b) := by
  by_cases h : a = b
  · subst h; simp
  · simp [h]
theorem run_strF {op : BinOp} {f : Value → Value → Option Value} {a b : ByteArray} {v : Value} (hf : strF op = some f) (h : f (.string a) (.string b) = some v) (t : TypeId) :
    (binOp op t (.string a) (.string b)).run P w = .ok v w ∧ ∀ ρ, VRel ρ v v := by
  have hl := ByteArray.toList_eq a
  have hm := ByteArray.toList_eq b
  cases op <;> simp only [strF, Option.some.injEq, reduceCtorEq] at hf <;> subst hf <;> obtain ⟨a', b', e1, e2, hr⟩ := str2_some h <;> cases e1 <;> cases e2
  case add =>
    unfold catO at hr
    rw [cond_some, ble_eq', lenN_eq, lenN_eq, app_eq] at hr
    obtain ⟨h1, h2⟩ := hr
    cases h2
    have h3 := of_decide_eq_true h1
    refine ⟨?_, fun ρ => .string _⟩
    have h4 : a.size + b.size ≤ 9223372036854775807 := by simpa using h3
    have := run_string_add_sum (P := P) (w := w) a b h4
    show (Op.stringOp .add a b).run P w = _
    rw [this]
    congr 2
  all_goals
    cases hr
    refine ⟨?_, fun ρ => .bool _⟩
    simp only [binOp, Op.stringOp, hl, hm, Sem.run_pure, beq_bytes, eqBytes_eq, neBytes, ltBytes_eq, leBytes, gtBytes, geBytes, bytesLess_total]
    try (first | rfl | (simp only [Bool.not_not]))
end
end Go.Abs
