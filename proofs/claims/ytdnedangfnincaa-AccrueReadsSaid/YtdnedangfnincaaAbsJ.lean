import Derived.Test.YtdnedangfnincaaAbsI
import Derived.Laws.StructEq
import Derived.Laws.Tables
namespace Go.Abs
set_option linter.unusedVariables false
set_option linter.unusedSimpArgs false
section
variable {P : Program} {gl : Nat → Bool} {o : Oper}

theorem ok_fieldAddr {t : TypeId} {x : Operand} {i : Nat} {fs : Array Field} {f : Field} {n : Nat} (ho : o.op = .fieldAddr t x i) (ht : P.underlying t = some (.struct fs)) (hf : fs[i]? = some f) (hn : sizeT P f.type = some n) (h0 : n ≠ 0) : OpOk P gl o (oFieldAddr f.offset (cA x)) := by
  refine OpOk.pure fun rec frm s v s' hF => ?_
  unfold oFieldAddr at hF
  split at hF
  · rename_i p hb
    cases hF
    refine ⟨rfl, fun ρ a w ha => ?_⟩
    rw [ho] at ha
    have hx := (args1 ha).1
    rw [hb] at hx
    obtain ⟨l, hsp, hl, hx⟩ := hx.ptr_inv
    refine ⟨.pointer (some ⟨l.blk, l.base + (p.off + f.offset), none⟩), ?_, ?_⟩
    · unfold execOp; rw [ho]
      simp [Instr.fieldAt, run_underlying ht, hf, hx, Instr.sureAddr, fieldPlace, run_size hn, h0, addr_add, Nat.add_assoc]
    · rw [addA_eq]; exact .ptr hl
  · cases hF
theorem ok_field1 {t : TypeId} {x : Operand} {i : Nat} {fs : Array Field} {f : Field} (ho : o.op = .field t x i) (ht : P.underlying t = some (.struct fs)) (hf : fs[i]? = some f) (hn : isAggT P f.type = some false) : OpOk P gl o (oField none f.offset (cA x)) := by
  refine OpOk.pure fun rec frm s v s' hF => ?_
  unfold oField at hF
  split at hF
  · rename_i cs hb
    obtain ⟨r, hr, hF⟩ := opt_k hF
    cases hF
    refine ⟨rfl, fun ρ a w ha => ?_⟩
    rw [ho] at ha
    have hx := (args1 ha).1
    rw [hb] at hx
    obtain ⟨cs', hx, hc⟩ := hx.agg_inv
    rw [nth_eq] at hr
    obtain ⟨y, hy, hrel⟩ := hc.1.get hr
    refine ⟨y, ?_, hrel⟩
    unfold execOp; rw [ho]
    have hy' : cs'[f.offset]? = some y := by simpa using hy
    simp [Instr.field, run_underlying ht, hf, hx, asAgg, part, run_isAgg hn, hy']
  · cases hF
theorem ok_fieldN {t : TypeId} {x : Operand} {i n : Nat} {fs : Array Field} {f : Field} (ho : o.op = .field t x i) (ht : P.underlying t = some (.struct fs)) (hf : fs[i]? = some f) (hn : isAggT P f.type = some true) (hs : sizeT P f.type = some n) : OpOk P gl o (oField (some n) f.offset (cA x)) := by
  refine OpOk.pure fun rec frm s v s' hF => ?_
  unfold oField at hF
  split at hF
  · rename_i cs hb
    simp only at hF
    rw [cond_some, ble_eq', lenN_eq] at hF
    obtain ⟨h1, hF⟩ := hF
    cases hF
    refine ⟨rfl, fun ρ a w ha => ?_⟩
    rw [ho] at ha
    have hx := (args1 ha).1
    rw [hb] at hx
    obtain ⟨cs', hx, hc⟩ := hx.agg_inv
    refine ⟨.agg (cs'.extract f.offset (f.offset + n)), ?_, ?_⟩
    · unfold execOp; rw [ho]
      simp [Instr.field, run_underlying ht, hf, hx, asAgg, part, run_isAgg hn, run_size hs]
    · have := VRel.agg_of ((hc.drop f.offset).take n)
      rw [takeN_eq, dropN_eq]
      have e : ((cs'.toList.drop f.offset).take n).toArray = cs'.extract f.offset (f.offset + n) := by
        apply Array.ext'; simp
      rw [e] at this; exact this
  · cases hF
theorem ok_idxAddrA {t e : TypeId} {n es : Nat} {x i : Operand} (ho : o.op = .indexAddr t x i) (ht : P.underlying t = some (.array n e)) (he : sizeT P e = some es) : OpOk P gl o (oIdxAddrA n es (cA x) (cA i)) := by
  refine OpOk.pure fun rec frm s v s' hF => ?_
  unfold oIdxAddrA at hF
  split at hF
  · rename_i p hb
    obtain ⟨j, hj, hF⟩ := opt_k hF
    cases hF
    refine ⟨rfl, fun ρ a w ha => ?_⟩
    rw [ho] at ha
    obtain ⟨hx, ha⟩ := args1 ha
    have hi := (args1 ha).1
    rw [hb] at hx
    obtain ⟨l, hsp, hl, hx⟩ := hx.ptr_inv
    obtain ⟨k, hk, hlt⟩ := idx_some hj
    rw [hk] at hi
    refine ⟨.pointer (some ⟨l.blk, l.base + (p.off + j * es), none⟩), ?_, ?_⟩
    · unfold execOp; rw [ho]
      have h1 : (0 : Int) ≤ (j : Int) ∧ (j : Int) < (n : Int) := ⟨Int.natCast_nonneg j, by omega⟩
      simp only [Instr.indexAt, hi.int_inv, asIntOf, Sem.run_bind, Sem.run_pure, Result.andThen_ok, run_underlying ht, hx, Instr.sureAddr]
      simp [h1, run_size he, addr_add, Nat.add_assoc, hlt]
    · rw [addA_eq]; exact .ptr hl
  · cases hF
theorem ok_idxAddrL {t e : TypeId} {es : Nat} {x i : Operand} (ho : o.op = .indexAddr t x i) (ht : P.underlying t = some (.slice e)) (he : sizeT P e = some es) : OpOk P gl o (oIdxAddrL es (cA x) (cA i)) := by
  refine OpOk.pure fun rec frm s v s' hF => ?_
  unfold oIdxAddrL at hF
  split at hF
  · rename_i p n c hb
    obtain ⟨j, hj, hF⟩ := opt_k hF
    cases hF
    refine ⟨rfl, fun ρ a w ha => ?_⟩
    rw [ho] at ha
    obtain ⟨hx, ha⟩ := args1 ha
    have hi := (args1 ha).1
    rw [hb] at hx
    obtain ⟨hsp, l, hl, hxc⟩ := hx.slice_cases
    obtain ⟨k, hk, hlt⟩ := idx_some hj
    rw [hk] at hi
    rcases hxc with ⟨c', hv, hn, hm, hc⟩ | ⟨h0, _⟩
    · refine ⟨.pointer (some ⟨l.blk, l.base + (p.off + j * es), none⟩), ?_, ?_⟩
      · unfold execOp; rw [ho]
        simp only [Instr.indexAt, hi.int_inv, asIntOf, Sem.run_bind, Sem.run_pure, Result.andThen_ok, run_underlying ht, hv]
        simp [run_size he, addr_add, Nat.add_assoc, hlt]
      · rw [addA_eq]; exact .ptr hl
    · omega
  · cases hF
theorem ok_idxA1 {t e : TypeId} {n es : Nat} {x i : Operand} (ho : o.op = .index t x i) (ht : P.underlying t = some (.array n e)) (he : sizeT P e = some es) (hn : isAggT P e = some false) : OpOk P gl o (oIdxA n es false (cA x) (cA i)) := by
  refine OpOk.pure fun rec frm s v s' hF => ?_
  unfold oIdxA at hF
  split at hF
  · rename_i cs hb
    obtain ⟨j, hj, hF⟩ := opt_k hF
    simp only [cond_false] at hF
    obtain ⟨r, hr, hF⟩ := opt_k hF
    cases hF
    refine ⟨rfl, fun ρ a w ha => ?_⟩
    rw [ho] at ha
    obtain ⟨hx, ha⟩ := args1 ha
    have hi := (args1 ha).1
    rw [hb] at hx
    obtain ⟨cs', hx, hc⟩ := hx.agg_inv
    obtain ⟨k, hk, hlt⟩ := idx_some hj
    rw [hk] at hi
    rw [nth_eq] at hr
    obtain ⟨y, hy, hrel⟩ := hc.1.get hr
    refine ⟨y, ?_, hrel⟩
    have hy' : cs'[j * es]? = some y := by simpa using hy
    unfold execOp; rw [ho]
    simp only [Instr.index, hi.int_inv, asIntOf, Sem.run_bind, Sem.run_pure, Result.andThen_ok, run_underlying ht, hx]
    simp [run_size he, hlt, part, run_isAgg hn, hy']
  · cases hF
theorem ok_idxAN {t e : TypeId} {n es : Nat} {x i : Operand} (ho : o.op = .index t x i) (ht : P.underlying t = some (.array n e)) (he : sizeT P e = some es) (hn : isAggT P e = some true) : OpOk P gl o (oIdxA n es true (cA x) (cA i)) := by
  refine OpOk.pure fun rec frm s v s' hF => ?_
  unfold oIdxA at hF
  split at hF
  · rename_i cs hb
    obtain ⟨j, hj, hF⟩ := opt_k hF
    simp only [cond_true] at hF
    rw [cond_some, ble_eq', lenN_eq] at hF
    obtain ⟨h1, hF⟩ := hF
    cases hF
    refine ⟨rfl, fun ρ a w ha => ?_⟩
    rw [ho] at ha
    obtain ⟨hx, ha⟩ := args1 ha
    have hi := (args1 ha).1
    rw [hb] at hx
    obtain ⟨cs', hx, hc⟩ := hx.agg_inv
    obtain ⟨k, hk, hlt⟩ := idx_some hj
    rw [hk] at hi
    refine ⟨.agg (cs'.extract (j * es) (j * es + es)), ?_, ?_⟩
    · unfold execOp; rw [ho]
      simp only [Instr.index, hi.int_inv, asIntOf, Sem.run_bind, Sem.run_pure, Result.andThen_ok, run_underlying ht, hx]
      simp [run_size he, hlt, part, run_isAgg hn]
    · have := VRel.agg_of ((hc.drop (j * es)).take es)
      rw [takeN_eq, dropN_eq]
      have e : ((cs'.toList.drop (j * es)).take es).toArray = cs'.extract (j * es) (j * es + es) := by
        apply Array.ext'; simp
      rw [e] at this; exact this
  · cases hF
theorem ok_idxS {t : TypeId} {x i : Operand} (ho : o.op = .index t x i) (ht : P.underlying t = some .string) : OpOk P gl o (oIdxS (cA x) (cA i)) := by
  refine OpOk.pure fun rec frm s v s' hF => ?_
  unfold oIdxS at hF
  split at hF
  · rename_i b hb
    split at hF
    · rename_i k q hk
      split at hF
      · rename_i j
        obtain ⟨c, hc, hF⟩ := opt_k hF
        rw [force_eq] at hF
        cases hF
        refine ⟨rfl, fun ρ a w ha => ?_⟩
        rw [ho] at ha
        obtain ⟨hx, ha⟩ := args1 ha
        have hi := (args1 ha).1
        rw [hb] at hx
        rw [hk] at hi
        rw [nth_eq] at hc
        refine ⟨_, ?_, .int _ _⟩
        unfold execOp; rw [ho]
        have hc' : b[j]? = some c := by
          have h1 : j < b.size := by have := (List.getElem?_eq_some_iff.1 hc).1; simpa using this
          have h2 := (List.getElem?_eq_some_iff.1 hc).2
          rw [getElem?_pos b j h1]
          congr 1
        have h0 : (0 : Int) ≤ (j : Int) := Int.natCast_nonneg j
        simp only [Instr.index, hi.int_inv, asIntOf, Sem.run_bind, Sem.run_pure, Result.andThen_ok, run_underlying ht, hx.string_inv]
        simp [h0, hc']
      · cases hF
    · cases hF
  · cases hF
theorem ok_extract {x : Operand} {i : Nat} (ho : o.op = .extract x i) : OpOk P gl o (oExtract (cA x) i) := by
  refine OpOk.pure fun rec frm s v s' hF => ?_
  unfold oExtract at hF
  split at hF
  · rename_i cs hb
    obtain ⟨r, hr, hF⟩ := opt_k hF
    cases hF
    refine ⟨rfl, fun ρ a w ha => ?_⟩
    rw [ho] at ha
    have hx := (args1 ha).1
    rw [hb] at hx
    obtain ⟨cs', hx, hc⟩ := hx.tuple_inv
    rw [nth_eq] at hr
    obtain ⟨y, hy, hrel⟩ := hc.get hr
    have hy' : cs'[i]? = some y := by simpa using hy
    refine ⟨y, ?_, hrel⟩
    unfold execOp; rw [ho]
    simp [Instr.extract, hx, hy']
  · cases hF
theorem ok_nilCheck {x : Operand} (ho : o.op = .nilCheck x) : OpOk P gl o (oNilCheck (cA x)) := by
  refine OpOk.pure fun rec frm s v s' hF => ?_
  unfold oNilCheck at hF
  split at hF
  · rename_i p hb
    cases hF
    refine ⟨rfl, fun ρ a w ha => ?_⟩
    rw [ho] at ha
    have hx := (args1 ha).1
    rw [hb] at hx
    have hx2 := hx
    obtain ⟨l, hsp, hl, hx⟩ := hx.ptr_inv
    rw [hx] at hx2
    refine ⟨_, ?_, hx2⟩
    unfold execOp; rw [ho]
    simp [hx]
  · rename_i f p q hb
    cases hF
    refine ⟨rfl, fun ρ a w ha => ?_⟩
    rw [ho] at ha
    have hx := (args1 ha).1
    rw [hb] at hx
    have hx2 := hx
    obtain ⟨p', q', hx, _⟩ := hx.func_inv
    rw [hx] at hx2
    refine ⟨_, ?_, hx2⟩
    unfold execOp; rw [ho]
    simp [hx]
  · cases hF

/-! built-in functions -/
theorem run_bi {b : Builtin} {ts : Array TypeId} {args : Array Operand} (ho : o.op = .call ⟨.builtin b, args, ts⟩) (a : Act) (w : World) :
    (execOp a.eval o).run P w = (builtin b ts o.type (args.map fun | .const _ => true | _ => false) (args.map a.eval)).run P w := by
  unfold execOp; rw [ho]; rfl
theorem bi_args {ρ : Ren} {fs : Frm} {a : Act} {b : Builtin} {ts : Array TypeId} {args : Array Operand} {l : List Operand} (h : ArgsOk ρ fs a (Op.call ⟨.builtin b, args, ts⟩).operands.toList) (hl : args.toList = l) : ArgsOk ρ fs a l := by
  subst hl
  exact fun x hx => h x (by simpa [Op.operands, Call.operands] using hx)
theorem ok_lenS {ts : Array TypeId} {args : Array Operand} {x : Operand} {t : TypeId} (ho : o.op = .call ⟨.builtin .len, args, ts⟩) (hl : args.toList = [x]) (h0 : ts[0]? = some t) (ht : P.underlying t = some .string) : OpOk P gl o (oLenS (cA x)) := by
  refine OpOk.pure fun rec frm s v s' hF => ?_
  have hargs : args = #[x] := by apply Array.ext'; simpa using hl
  unfold oLenS at hF
  split at hF
  · rename_i b hb
    rw [force_eq] at hF
    cases hF
    refine ⟨rfl, fun ρ a w ha => ?_⟩
    rw [ho] at ha
    have hx := (args1 (bi_args ha hl)).1
    rw [hb] at hx
    refine ⟨_, ?_, .int _ _⟩
    rw [run_bi ho, hargs]
    simp [builtin, Builtin.len_, h0, run_underlying ht, hx.string_inv, goInt, lenN_eq]
  · cases hF
theorem ok_lenL {ts : Array TypeId} {args : Array Operand} {x : Operand} {t e : TypeId} (ho : o.op = .call ⟨.builtin .len, args, ts⟩) (hl : args.toList = [x]) (h0 : ts[0]? = some t) (ht : P.underlying t = some (.slice e)) : OpOk P gl o (oLenL (cA x)) := by
  refine OpOk.pure fun rec frm s v s' hF => ?_
  have hargs : args = #[x] := by apply Array.ext'; simpa using hl
  unfold oLenL at hF
  split at hF
  · rename_i b n c hb
    cases hF
    refine ⟨rfl, fun ρ a w ha => ?_⟩
    rw [ho] at ha
    have hx := (args1 (bi_args ha hl)).1
    rw [hb] at hx
    obtain ⟨b', c', hx, _⟩ := hx.slice_inv
    refine ⟨_, ?_, .int _ _⟩
    rw [run_bi ho, hargs]
    simp [builtin, Builtin.len_, h0, run_underlying ht, hx, goInt]
  · cases hF
theorem ok_lenC {ts : Array TypeId} {args : Array Operand} {x : Operand} {t e : TypeId} {n : Nat} (ho : o.op = .call ⟨.builtin .len, args, ts⟩) (hl : args.toList = [x]) (h0 : ts[0]? = some t) (ht : P.underlying t = some (.array n e)) : OpOk P gl o (oLenC n) := by
  refine OpOk.pure fun rec frm s v s' hF => ?_
  have hargs : args = #[x] := by apply Array.ext'; simpa using hl
  cases hF
  refine ⟨rfl, fun ρ a w ha => ⟨_, ?_, .int _ _⟩⟩
  rw [run_bi ho, hargs]
  simp [builtin, Builtin.len_, h0, run_underlying ht, goInt]
theorem ok_cap {ts : Array TypeId} {args : Array Operand} {x : Operand} {t e : TypeId} (ho : o.op = .call ⟨.builtin .cap, args, ts⟩) (hl : args.toList = [x]) (h0 : ts[0]? = some t) (ht : P.underlying t = some (.slice e)) : OpOk P gl o (oCap (cA x)) := by
  refine OpOk.pure fun rec frm s v s' hF => ?_
  have hargs : args = #[x] := by apply Array.ext'; simpa using hl
  unfold oCap at hF
  split at hF
  · rename_i b n c hb
    rw [cond_some, blt_eq'] at hF
    obtain ⟨hc, hF⟩ := hF
    have hc' : c < UNK := of_decide_eq_true hc
    cases hF
    refine ⟨rfl, fun ρ a w ha => ?_⟩
    rw [ho] at ha
    have hx := (args1 (bi_args ha hl)).1
    rw [hb] at hx
    have hx' : ∃ b', a.eval x = .slice b' n c := by
      cases b with
      | none => generalize a.eval x = vx at hx; cases hx; exact ⟨_, rfl⟩
      | some p =>
        obtain ⟨_, l, _, hh⟩ := hx.slice_cases
        rcases hh with ⟨c', hv, _, _, hcc⟩ | ⟨h0, o', hv, hcc⟩
        · rcases hcc with rfl | ⟨e, _, h1, _⟩
          · exact ⟨_, hv⟩
          · omega
        · rcases hcc with rfl | ⟨e, _, h1, _⟩
          · subst h0; exact ⟨_, hv⟩
          · omega
    obtain ⟨b', hx'⟩ := hx'
    refine ⟨_, ?_, .int _ _⟩
    rw [run_bi ho, hargs]
    simp [builtin, Builtin.cap_, h0, run_underlying ht, hx', goInt]
  · cases hF
theorem run_mm {w : World} {ρ : Ren} {mx : Bool} : ∀ (l : List Value) (x v : Value) (l' : List Value) (x' : Value), mm mx l x = some v → LR ρ l l' → VRel ρ x x' →
    ∃ v', (l'.foldlM (if mx then Builtin.max2 else Builtin.min2) x').run P w = .ok v' w ∧ VRel ρ v v'
  | [], x, v, l', x', h, hl, hx => by
    cases h
    rw [hl.nil_inv]
    exact ⟨x', rfl, hx⟩
  | y :: l, x, v, l', x', h, hl, hx => by
    obtain ⟨y', m', rfl, hy, hm⟩ := hl.cons_inv
    have h' : mm1 mx (mm mx l) y x = some v := h
    unfold mm1 at h'
    split at h'
    · rename_i k a
      split at h'
      · rename_i k' b
        obtain ⟨v', hv, hr⟩ := run_mm l _ v m' _ h' hm (.int (ρ := ρ) k _)
        refine ⟨v', ?_, hr⟩
        rw [hx.int_inv, hy.int_inv]
        simp only [List.foldlM_cons, Sem.run_bind]
        have e : ((if mx = true then Builtin.max2 else Builtin.min2) (.int k a) (.int k' b)).run P w = .ok (.int k (bif mx then bif ltI a b then b else a else bif ltI b a then b else a)) w := by
          cases mx
          · simp only [Bool.false_eq_true, if_false, Builtin.min2, cond_false, ltI_eq, Sem.run_pure]
            by_cases hh : b < a <;> simp [hh]
          · simp only [if_true, Builtin.max2, cond_true, ltI_eq, Sem.run_pure]
            by_cases hh : a < b <;> simp [hh]
        rw [e]
        exact hv
      · cases h'
    · cases h'
theorem ok_mm {mx : Bool} {ts : Array TypeId} {args : Array Operand} {x : Operand} {l : List Operand} (ho : o.op = .call ⟨.builtin (if mx then .max else .min), args, ts⟩) (hl : args.toList = x :: l) : OpOk P gl o (oMM mx (cA x) (cAs l)) := by
  refine OpOk.pure fun rec frm s v s' hF => ?_
  have hargs : args = (x :: l).toArray := by apply Array.ext'; simpa using hl
  obtain ⟨r, hr, hF⟩ := opt_k hF
  cases hF
  refine ⟨rfl, fun ρ a w ha => ?_⟩
  rw [ho] at ha
  obtain ⟨hx, hls⟩ := args1 (bi_args ha hl)
  obtain ⟨v', hv, hrel⟩ := run_mm (P := P) (w := w) _ _ _ _ _ hr (LR.evs hls) hx
  refine ⟨v', ?_, hrel⟩
  rw [run_bi ho, hargs]
  cases mx
  · simp only [Bool.false_eq_true, if_false] at hv ⊢
    simp [builtin, Builtin.min_, hv]
  · simp only [if_true] at hv ⊢
    simp [builtin, Builtin.max_, hv]

/-! structs -/
theorem run_part {w : World} {t : TypeId} (h : isAggT P t = some false) {cs : Array Value} {off : Nat} {v : Value} (hv : cs[off]? = some v) : (part t cs off).run P w = .ok v w := by
  simp [part, run_isAgg h, hv]
theorem eqIn_scal {w : World} {d : Nat} {t : TypeId} {g : EqF} (ht : eqOf P t = some g) {x y : Value} {b : Bool} (h : g x y = some b) {ρ : Ren} {x' y' : Value} (hx : VRel ρ x x') (hy : VRel ρ y y') :
    (Op.equalIn (d + 1) t x' y').run P w = .ok b w := by
  unfold eqOf at ht
  split at ht
  · rename_i k hk
    cases ht
    unfold eqN at h
    split at h
    · split at h
      · rw [cond_some, eqK_eq, eqI_eq] at h
        obtain ⟨h1, h2⟩ := h
        have := of_decide_eq_true h1
        subst this
        cases h2
        rw [hx.int_inv, hy.int_inv, run_equalIn_int w d t _ k _ _ hk]
        rfl
      · cases h
    · cases h
  · rename_i hk
    cases ht
    unfold eqB at h
    split at h
    · split at h
      · cases h
        rw [hx.bool_inv, hy.bool_inv, run_equalIn_bool' w d t _ _ hk]
        exact (fun a b : Bool => (by cases a <;> cases b <;> rfl : (Result.ok (a == b) w : Result Bool) = Result.ok (Bool.rec (Bool.rec true false b) b a) w)) _ _
      · cases h
    · cases h
  · rename_i hk
    cases ht
    unfold eqT at h
    split at h
    · split at h
      · cases h
        rw [hx.string_inv, hy.string_inv, run_equalIn_string w d t _ _ hk, ByteArray.toList_eq, ByteArray.toList_eq, eqBytes_eq, beq_bytes]
      · cases h
    · cases h
  · cases ht
theorem isAgg_of_eqOf {t : TypeId} {g : EqF} (h : eqOf P t = some g) : isAggT P t = some false := by
  unfold eqOf at h
  unfold isAggT
  split at h <;> rename_i hk <;> first | (rw [hk]; done) | (rw [hk]) | cases h
theorem run_fields {w : World} {d : Nat} {ρ : Ren} {xs ys xs' ys' : Array Value} (hx : CR ρ xs.toList xs'.toList) (hy : CR ρ ys.toList ys'.toList) : ∀ (fs : List Field) (l : List (Nat × EqF)) (b : Bool), flat P fs = some l → eqAll xs.toList ys.toList l = some b →
    (Op.eqFields (d + 1) xs' ys' fs).run P w = .ok b w
  | [], l, b, hf, h => by cases hf; cases h; rfl
  | f :: fs, l, b, hf, h => by
    unfold flat at hf
    split at hf
    · cases hf
    · rename_i hn
      split at hf
      · cases hf
      · rename_i g hg
        split at hf
        · cases hf
        · rename_i m hm
          cases hf
          have h' : (opt (nth xs.toList f.offset) fun x => opt (nth ys.toList f.offset) fun y => opt (g x y) fun b => opt (eqAll xs.toList ys.toList m) fun c => some (b && c)) = some b := h
          obtain ⟨x, h1, h'⟩ := opt_k h'
          obtain ⟨y, h2, h'⟩ := opt_k h'
          obtain ⟨r, h3, h'⟩ := opt_k h'
          obtain ⟨c, h4, h'⟩ := opt_k h'
          cases h'
          rw [nth_eq] at h1 h2
          obtain ⟨x', k1, r1⟩ := hx.1.get h1
          obtain ⟨y', k2, r2⟩ := hy.1.get h2
          have ih := run_fields hx hy fs m c hm h4 (w := w) (d := d)
          have ha := isAgg_of_eqOf hg
          rw [Op.eqFields, if_pos hn]
          simp only [Sem.run_bind, run_part (w := w) ha (by simpa using k1 : xs'[f.offset]? = some x'), run_part (w := w) ha (by simpa using k2 : ys'[f.offset]? = some y'), Result.andThen_ok, eqIn_scal (w := w) (d := d) hg h3 r1 r2]
          cases r
          · simp
          · simpa using ih
theorem ok_eqs {op : BinOp} {t u : TypeId} {x y : Operand} {fs : Array Field} {l : List (Nat × EqF)} {neg : Bool} (ho : o.op = .binOp op t x y u) (hop : op = if neg then .neq else .eql) (ht : P.underlying t = some (.struct fs)) (hg : P.eqGuardType P.depth t = false) (hs : P.stoodInHeld t = false) (hf : flat P fs.toList = some l) : OpOk P gl o (oEqs neg l (cA x) (cA y)) := by
  refine OpOk.pure fun rec frm s v s' hF => ?_
  unfold oEqs at hF
  split at hF
  · rename_i xs hxs
    split at hF
    · rename_i ys hys
      obtain ⟨r, hr, hF⟩ := opt_k hF
      cases hF
      refine ⟨rfl, fun ρ a w ha => ?_⟩
      rw [ho] at ha
      obtain ⟨h1, ha⟩ := args1 ha
      obtain ⟨h2, ha⟩ := args1 ha
      rw [hxs] at h1; rw [hys] at h2
      obtain ⟨xs', e1, c1⟩ := h1.agg_inv
      obtain ⟨ys', e2, c2⟩ := h2.agg_inv
      have hfo : P.fieldsOf t = fs := by simp [Program.fieldsOf, ht]
      have hrun : (Op.equalIn 10000 t (.agg xs') (.agg ys')).run P w = .ok r w := by
        have := run_equalIn_struct (P := P) w 9999 t xs' ys' (by rw [hfo]; exact ht) hs
        rw [hfo] at this
        exact this.trans (run_fields c1 c2 fs.toList l r hf hr (d := 9998))
      refine ⟨_, ?_, .bool _⟩
      unfold execOp; rw [ho, hop]
      show (do let z ← (do eqGuard (if neg then .neq else .eql) t x y (a.eval x) (a.eval y); binOp (if neg then .neq else .eql) t (a.eval x) (a.eval y) : Sem Value); pure (Next.value z) : Sem Next).run P w = _
      rw [run_wrap, e1, e2]
      cases neg
      · simp only [Bool.false_eq_true, if_false, Sem.run_bind, run_eqGuard_agg w .eql t x y xs' ys' hg, Result.andThen_ok, run_eql_struct, hrun, cond_false]
      · simp only [if_true, Sem.run_bind, run_eqGuard_agg w .neq t x y xs' ys' hg, Result.andThen_ok, run_neq_struct, hrun, cond_true]
    · cases hF
  · cases hF

/-! structs made of parts -/
theorem fold_set (off : Nat) : ∀ (l : List Value) (k : Nat) (cells : Array Value), off + k + l.length ≤ cells.size →
    ((l.zipIdx k).foldl (fun (cs : Array Value) (p : Value × Nat) => cs.setIfInBounds (off + p.2) p.1) cells).toList = cells.toList.take (off + k) ++ l ++ cells.toList.drop (off + k + l.length)
  | [], k, cells, h => by simp
  | v :: l, k, cells, h => by
    simp only [List.zipIdx_cons, List.foldl_cons]
    rw [fold_set off l (k + 1) (cells.setIfInBounds (off + k) v) (by simp at h ⊢; omega)]
    have e := list_seg_step cells.toList (off + k) v l (by simp at h ⊢; omega)
    simpa [Array.toList_setIfInBounds, Nat.add_assoc] using e
theorem fill_rel {ρ : Ren} {fs : Frm} {a : Act} {place : Nat → Option (Nat × Nat)} : ∀ (parts : List (Nat × Operand)) (ps : List (Nat × Nat × Arg)) (cells r : List Value) (cells' : Array Value),
    cParts place parts = some ps → fillN fs ps cells = some r → CR ρ cells cells'.toList → ArgsOk ρ fs a (parts.map (·.2)) →
    ∃ r', Instr.fill place cells' (parts.map fun p => (p.1, a.eval p.2)) = some r' ∧ CR ρ r r'.toList
  | [], ps, cells, r, cells', hp, hf, hc, ha => by
    cases hp; cases hf
    exact ⟨cells', rfl, hc⟩
  | (i, x) :: parts, ps, cells, r, cells', hp, hf, hc, ha => by
    unfold cParts at hp
    simp only [List.mapM_cons, Option.bind_eq_bind, Option.pure_def] at hp
    rw [Option.bind_eq_some_iff] at hp
    obtain ⟨q, hq, hp⟩ := hp
    rw [Option.bind_eq_some_iff] at hp
    obtain ⟨rest, hrest, hp⟩ := hp
    cases hp
    rw [Option.bind_eq_some_iff] at hq
    obtain ⟨⟨off, size⟩, hpl, hq⟩ := hq
    simp only at hq
    split at hq
    · cases hq
    rename_i hz
    cases hq
    have hf' : (bif Nat.beq (lenN (cellsOf (ev fs (cA x)))) size && Nat.ble (off + size) (lenN cells) then fillN fs rest (app (takeN off cells) (app (cellsOf (ev fs (cA x))) (dropN (off + size) cells))) else none) = some r := hf
    rw [cond_some, beq_eq', ble_eq', lenN_eq, lenN_eq] at hf'
    obtain ⟨h1, hf'⟩ := hf'
    simp only [Bool.and_eq_true, decide_eq_true_eq] at h1
    obtain ⟨hx, ha'⟩ := args1 (l := parts.map (·.2)) ha
    have hne : cellsOf (ev fs (cA x)) ≠ [] := by intro e; rw [e] at h1; simp at h1; omega
    have hcx := hx.cells hne
    have hsz : (a.eval x).cells.size = size := by have := hcx.1.1; rw [h1.1] at this; simpa using this.symm
    have hlen : cells'.size = cells.length := by have := hc.1.1; simpa using this.symm
    obtain ⟨r', hr', hcr⟩ := fill_rel parts rest _ r ((a.eval x).cells.zipIdx.foldl (fun (cs : Array Value) (p : Value × Nat) => cs.setIfInBounds (off + p.2) p.1) cells') hrest hf' (by
      have e : ((a.eval x).cells.zipIdx.foldl (fun (cs : Array Value) (p : Value × Nat) => cs.setIfInBounds (off + p.2) p.1) cells').toList = cells'.toList.take off ++ (a.eval x).cells.toList ++ cells'.toList.drop (off + size) := by
        have := fold_set off (a.eval x).cells.toList 0 cells' (by simp [hsz, hlen]; omega)
        rw [← Array.foldl_toList]
        simpa [hsz] using this
      rw [e, app_eq, app_eq, takeN_eq, dropN_eq, List.append_assoc]
      exact (hc.take off).append (hcx.append (hc.drop (off + size)))) ha'
    refine ⟨r', ?_, hcr⟩
    simp only [List.map_cons, Instr.fill, hpl, hsz]
    rw [if_neg (by simp [hlen]; omega)]
    exact hr'
end
end Go.Abs
