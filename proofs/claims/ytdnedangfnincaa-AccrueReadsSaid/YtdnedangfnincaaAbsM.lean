import Derived.Test.YtdnedangfnincaaAbsL
import Derived.Laws.BytesString
namespace Go.Abs
set_option linter.unusedVariables false
set_option linter.unusedSimpArgs false
section
variable {P : Program} {gl : Nat → Bool} {o : Oper}

theorem ok_append {ts : Array TypeId} {args : Array Operand} {x y : Operand} {t u e : TypeId} {z : List Value} {n bytes : Nat} (ho : o.op = .call ⟨.builtin .append, args, ts⟩) (hl : args.toList = [x, y]) (hts : ts.toList = [t, u]) (ht : P.underlying t = some (.slice e))
    (hu : (∃ e, P.underlying u = some (.slice e)) ∨ P.underlying u = some .string) (hn : sizeT P e = some n) (hb : bytesT P e = some bytes) (hz : zeroT P e = some z) (hzl : z.length = n) : OpOk P gl o (oAppend n bytes (cA x) (cA y)) := by
  intro rec _ fs s v s' hF hso
  have hargs : args = #[x, y] := by apply Array.ext'; simpa using hl
  have htse : ts = #[t, u] := by apply Array.ext'; simpa using hts
  unfold oAppend at hF
  split at hF
  · rename_i base sl sc hb0
    obtain ⟨⟨m, new, s1⟩, hsrc, hF⟩ := opt_k hF
    simp only at hF
    have hs1 : s1.heap = s.heap ∧ s1.next = s.next ∧ AStep s s1 := by
      unfold srcCells at hsrc
      split at hsrc
      · cases hsrc; exact ⟨rfl, rfl, AStep.refl _⟩
      · rw [Bool.cond_eq_ite] at hsrc
        split at hsrc
        · cases hsrc; exact ⟨rfl, rfl, AStep.refl _⟩
        · obtain ⟨c2, s3, hr, hsrc⟩ := opt2_k hsrc
          cases hsrc
          have hst := AStep.read hr
          obtain ⟨blk, _, _, _, rfl⟩ := St.read_some hr
          exact ⟨seen_heap s _, St.seen_next s _, hst⟩
      · rw [cond_some] at hsrc; obtain ⟨_, hsrc⟩ := hsrc; cases hsrc; exact ⟨rfl, rfl, AStep.refl _⟩
      · cases hsrc
    obtain ⟨hh, hnx, hst1⟩ := hs1
    have hst2 := appendTo_step (hso.of_same hh hnx) hF
    refine ⟨hst1.trans hst2, fun ρ Y w a cx har K Q hK => ?_⟩
    rw [ho] at har
    obtain ⟨hx, har⟩ := args1 (bi_args har hl)
    have hy := (args1 har).1
    rw [hb0] at hx
    obtain ⟨i, hi, hin⟩ := info_of_size hn
    obtain ⟨i2, hi2, hib⟩ := info_of_bytes hb
    rw [hi] at hi2; cases hi2
    obtain ⟨i3, zv, hi3, hiz, hzc, hg⟩ := info_of_zero hz
    rw [hi] at hi3; cases hi3
    subst hin
    obtain ⟨_, _, news, hnews⟩ := srcCells_ok (tx := u) cx hst2 hso hsrc hy hu
    obtain ⟨ρ', v', w', hrun, hv, good⟩ := appendTo_ok (ty := o.type) (z := zv) (cx.of_same hh hnx) hF hib (by rw [← hzl, ← hzc]; simp) hx (Apx.of_src ht hi hiz hnews.src) hnews.rel
    refine wp_value ?_ (hK ρ' v' w' hv (good.of_same hh hnx))
    have hm : (#[x, y] : Array Operand).map a.eval = #[a.eval x, a.eval y] := by simp
    rw [run_bi ho, hargs, htse, hm]
    show (do let z ← Builtin.append_ #[t, u] o.type #[a.eval x, a.eval y]; pure (Next.value z) : Sem Next).run P w = _
    rw [run_wrap, hrun]; rfl
  · cases hF
theorem ok_copy {ts : Array TypeId} {args : Array Operand} {x y : Operand} {t u e : TypeId} {n : Nat} (ho : o.op = .call ⟨.builtin .copy, args, ts⟩) (hl : args.toList = [x, y]) (hts : ts.toList = [t, u]) (ht : P.underlying t = some (.slice e))
    (hn : sizeT P e = some n) : OpOk P gl o (oCopy n (cA x) (cA y)) := by
  intro rec _ fs s v s' hF hso
  have hargs : args = #[x, y] := by apply Array.ext'; simpa using hl
  have htse : ts = #[t, u] := by apply Array.ext'; simpa using hts
  have fin : ∀ (a : Act) (w w' : World) (m : Nat), (Builtin.copy_ #[t, u] o.type #[a.eval x, a.eval y]).run P w = .ok (goInt m) w' → (execOp a.eval o).run P w = .ok (.value (.int .i64 (Int.ofNat m))) w' := by
    intro a w w' m h
    have hm : (#[x, y] : Array Operand).map a.eval = #[a.eval x, a.eval y] := by simp
    rw [run_bi ho, hargs, htse, hm]
    show (do let z ← Builtin.copy_ #[t, u] o.type #[a.eval x, a.eval y]; pure (Next.value z) : Sem Next).run P w = _
    rw [run_wrap, h]; rfl
  -- nothing is copied
  have none0 : ∀ (a : Act) (w : World) (b b' : Option Addr) (k c k' c' : Nat), a.eval x = .slice b k c → a.eval y = .slice b' k' c' → Nat.min k' k = 0 → (Builtin.copy_ #[t, u] o.type #[a.eval x, a.eval y]).run P w = .ok (goInt (0 : Nat)) w := by
    intro a w b b' k c k' c' h1 h2 h3
    cases b <;> cases b' <;> simp [Builtin.copy_, run_underlying ht, h1, h2, Builtin.lenOf, h3, run_size hn, Builtin.firstCells, loadCells, loadCellsFrom, storeCells]
  unfold oCopy at hF
  split at hF
  · rename_i base dn dc hb0
    split at hF
    · rename_i kn kc hb1
      cases hF
      refine ⟨AStep.refl _, fun ρ Y w a cx har K Q hK => ?_⟩
      rw [ho] at har
      obtain ⟨hx, har⟩ := args1 (bi_args har hl)
      have hy := (args1 har).1
      rw [hb0] at hx; rw [hb1] at hy
      obtain ⟨b1, c1, hx', _⟩ := hx.slice_inv
      have hkn : kn = 0 := by generalize a.eval y = vy at hy; cases hy; rfl
      obtain ⟨b2, c2, hy', _⟩ := hy.slice_inv
      exact wp_value (fin a w w 0 (none0 a w _ _ _ _ _ _ hx' hy' (by rw [hkn]; exact Nat.zero_min _))) (hK ρ _ w (.int _ _) (Good.refl cx.rel))
    · rename_i p m mc hb1
      rw [force_eq] at hF
      by_cases h0 : Nat.min m dn = 0
      · rw [h0] at hF
        cases hF
        refine ⟨AStep.refl _, fun ρ Y w a cx har K Q hK => ?_⟩
        rw [ho] at har
        obtain ⟨hx, har⟩ := args1 (bi_args har hl)
        have hy := (args1 har).1
        rw [hb0] at hx; rw [hb1] at hy
        obtain ⟨b1, c1, hx', _⟩ := hx.slice_inv
        obtain ⟨b2, c2, hy', _⟩ := hy.slice_inv
        exact wp_value (fin a w w 0 (none0 a w _ _ _ _ _ _ hx' hy' h0)) (hK ρ _ w (.int _ _) (Good.refl cx.rel))
      · rw [beq_eq'] at hF
        simp only [h0, decide_false, cond_false] at hF
        split at hF
        · cases hF
        · rename_i q
          obtain ⟨c, s1, hr, hF⟩ := opt2_k hF
          obtain ⟨s2, hw, hF⟩ := opt_k hF
          cases hF
          have hst1 := AStep.read hr
          have hst2 := AStep.write hw (hso.step hst1)
          refine ⟨hst1.trans hst2, fun ρ Y w a cx har K Q hK => ?_⟩
          rw [ho] at har
          obtain ⟨hx, har⟩ := args1 (bi_args har hl)
          have hy := (args1 har).1
          rw [hb0] at hx; rw [hb1] at hy
          obtain ⟨blk, hg, hle, rfl, rfl⟩ := St.read_some hr
          have hY : Y p.block := cx.seen (St.getC_get hg) (.inl (hst2.rd _ (seen_bit s p.block)))
          have cx1 : Ctx gl ρ Y (s.seen p.block) s' w := cx.of_same (seen_heap s _) (St.seen_next s _)
          obtain ⟨_, ly, hly, hyc⟩ := hy.slice_cases
          obtain ⟨_, lx, hlx, hxc⟩ := hx.slice_cases
          rcases hyc with ⟨cy, hy', _⟩ | ⟨hm0, _⟩
          · rcases hxc with ⟨cx', hx', _⟩ | ⟨hd0, _⟩
            · obtain ⟨arr, hrun, hrel, _⟩ := run_cells (P := P) cx.rel hY hg hly hle
              obtain ⟨blk2, hg2, _, heq⟩ := St.write_some hw
              have hY2 : Y q.block := cx1.seen (St.getC_get hg2) (.inr (by rw [heq]; exact set_bit _ _ _))
              obtain ⟨w', hst, good⟩ := run_put (P := P) cx1.top cx1.yok cx1.rel (cx1.high (by rw [heq]; exact set_bit _ _ _)) hw hY2 hlx hrel
              refine wp_value (fin a w w' (Nat.min m dn) ?_) (hK ρ _ w' (.int _ _) (good.of_same (seen_heap s _) (St.seen_next s _)))
              simp [Builtin.copy_, run_underlying ht, hx', hy', Builtin.lenOf, run_size hn, Builtin.firstCells, hrun, hst]
            · exfalso; subst hd0; exact h0 (Nat.min_zero _)
          · exfalso; subst hm0; exact h0 (Nat.zero_min _)
    · cases hF
  · cases hF

theorem bytesOf_cons (v : Value) (c : List Value) : bytesOf (v :: c) = (match v with
      | .int .u8 n => opt (bytesOf c) fun r => some (UInt8.ofNat n.toNat :: r)
      | _ => none) := rfl
theorem bytesOf_some : ∀ (c : List Value) (l : List UInt8), bytesOf c = some l → ∃ ns : List Int, c = ns.map (Value.int .u8) ∧ l = ns.map fun n => UInt8.ofNat n.toNat
  | [], l, h => by cases h; exact ⟨[], rfl, rfl⟩
  | v :: c, l, h => by
    rw [bytesOf_cons] at h
    split at h
    · rename_i n
      obtain ⟨r, hr, h⟩ := opt_k h
      cases h
      obtain ⟨ns, rfl, rfl⟩ := bytesOf_some c r hr
      exact ⟨n :: ns, rfl, rfl⟩
    · cases h
theorem LR.ints {ρ : Ren} : ∀ (ns : List Int) (l : List Value), LR ρ (ns.map (Value.int .u8)) l → l = ns.map (Value.int .u8)
  | [], l, h => h.nil_inv
  | n :: ns, l, h => by
    obtain ⟨y, l', rfl, hy, hl⟩ := h.cons_inv
    rw [hy.int_inv, LR.ints ns l' hl]; rfl
theorem push_fold : ∀ (ns : List Int) (b : ByteArray), (ns.foldl (fun r n => r.push (UInt8.ofNat n.toNat)) b).data.toList = b.data.toList ++ ns.map fun n => UInt8.ofNat n.toNat
  | [], b => by simp
  | n :: ns, b => by
    simp only [List.foldl_cons, List.map_cons]
    rw [push_fold ns]
    simp [ByteArray.push]
theorem ok_bytesStr {src dst e : TypeId} {x : Operand} (ho : o.op = .convert src dst x) (hs : P.underlying src = some (.slice e)) (hd : P.underlying dst = some .string) (he : P.underlying e = some (.int .u8)) : OpOk P gl o (oBytesStr (cA x)) := by
  intro rec _ fs s v s' hF hso
  have fin : ∀ (a : Act) (w : World) (b : ByteArray), (Conv.bytesToString (a.eval x)).run P w = .ok (.string b) w → (∃ q k c, a.eval x = .slice q k c) → (execOp a.eval o).run P w = .ok (.value (.string b)) w := by
    intro a w b h ⟨q, k, c, hx⟩
    unfold execOp; rw [ho]
    show (do let z ← convert src dst (a.eval x); pure (Next.value z) : Sem Next).run P w = _
    rw [run_wrap]
    have : (convert src dst (a.eval x)).run P w = .ok (.string b) w := by
      rw [hx] at h ⊢
      simp [convert, run_underlying hs, run_underlying hd, run_underlying he, h]
    rw [this]; rfl
  have e0 : (⟨⟨[]⟩⟩ : ByteArray) = ByteArray.empty := rfl
  unfold oBytesStr at hF
  split at hF
  · rename_i n c hb
    cases hF
    refine ⟨AStep.refl _, fun ρ Y w a cx har K Q hK => ?_⟩
    rw [ho] at har
    have hx := (args1 har).1
    rw [hb] at hx
    have hx' : a.eval x = .slice none 0 0 := by generalize a.eval x = vx at hx; cases hx; rfl
    refine wp_value (fin a w ByteArray.empty ?_ ⟨_, _, _, hx'⟩) (hK ρ _ w (by rw [e0]; exact .string _) (Good.refl cx.rel))
    rw [hx']; simp [Conv.bytesToString]
  · rename_i p n c hb
    by_cases h0 : n = 0
    · subst h0
      cases hF
      refine ⟨AStep.refl _, fun ρ Y w a cx har K Q hK => ?_⟩
      rw [ho] at har
      have hx := (args1 har).1
      rw [hb] at hx
      obtain ⟨b', c', hx', hb'⟩ := hx.slice_inv
      refine wp_value (fin a w ByteArray.empty ?_ ⟨_, _, _, hx'⟩) (hK ρ _ w (by rw [e0]; exact .string _) (Good.refl cx.rel))
      rw [hx']
      cases b' with
      | none => simp [Conv.bytesToString]
      | some q =>
        have := run_bytesToString (P := P) w q 0 c' [] (by simp [loadCells, loadCellsFrom])
        simpa using this
    · rw [beq_eq'] at hF
      simp only [h0, decide_false, cond_false] at hF
      obtain ⟨cl, s1, hr, hF⟩ := opt2_k hF
      obtain ⟨l, hl, hF⟩ := opt_k hF
      cases hF
      have hst := AStep.read hr
      refine ⟨hst, fun ρ Y w a cx har K Q hK => ?_⟩
      rw [ho] at har
      have hx := (args1 har).1
      rw [hb] at hx
      obtain ⟨blk, hg, hle, rfl, rfl⟩ := St.read_some hr
      have hY : Y p.block := cx.seen (St.getC_get hg) (.inl (seen_bit s p.block))
      obtain ⟨_, lc, hlc, hxc⟩ := hx.slice_cases
      rcases hxc with ⟨c', hx', _⟩ | ⟨hm0, _⟩
      · obtain ⟨arr, hrun, hrel, _⟩ := run_cells (P := P) cx.rel hY hg hlc hle
        obtain ⟨ns, hns, rfl⟩ := bytesOf_some _ _ hl
        rw [hns] at hrel
        have harr := LR.ints ns arr.toList hrel.1
        have harr' : arr = (ns.map (Value.int .u8)).toArray := by apply Array.ext'; simpa using harr
        have hrs := run_bytesToString (P := P) w ⟨lc.blk, lc.base + p.off, none⟩ n c' ns (by rw [hrun, harr'])
        refine wp_value (fin a w _ (by rw [hx']; exact hrs) ⟨_, _, _, hx'⟩) (hK ρ _ w ?_ (Good.seen cx.rel _))
        have e1 : (⟨⟨ns.map fun n => UInt8.ofNat n.toNat⟩⟩ : ByteArray) = ns.foldl (fun r n => r.push (UInt8.ofNat n.toNat)) ByteArray.empty := by
          apply Go.WideShapes.bytes_inj
          rw [push_fold]; simp
        rw [e1]; exact .string _
      · exact absurd hm0 h0
  · cases hF

/-! calls -/
theorem run_callFunc {f : FuncId} (h : FnOk P f) (args : Array Value) (w : World) : (callFunc f args).run P w = .ok (.enter f args) w := by
  obtain ⟨fn, hf, hb, hn⟩ := h
  have hb' : fn.body ≠ none := by intro e; rw [e] at hb; cases hb
  have hn' : ¬ fn.name = "runtime.NumGoroutine" := by simpa using hn
  simp [callFunc, hf, hn', hb']
theorem wp_enter {f : FuncId} {args : List Value} {a : Act} {w : World} {K : Act → World → Prop} {Q : Exit → Act → World → Prop} {ρ : Ren} {Y : Nat → Prop} {s s' : St} {v : Value}
    (he : (execOp a.eval o).run P w = .ok (.enter f args.toArray) w)
    (hc : Calls P f args.toArray w fun e w' => ∃ ρ' v', e = .returned v' ∧ VRel ρ' v v' ∧ Good ρ ρ' Y s s' w w') (hK : ∀ ρ' v' w', VRel ρ' v v' → Good ρ ρ' Y s s' w w' → K (a.put o.dst v') w') : o.wp P a w K Q := by
  unfold Oper.wp
  rw [he, Oper.upon_enter]
  refine hc.mono fun e w' ⟨ρ', v', h1, h2, h3⟩ => ?_
  subst h1
  exact hK ρ' v' w' h2 h3
theorem ok_call {f : FuncId} {args : Array Operand} {ts : Array TypeId} (ho : o.op = .call ⟨.value (.func f), args, ts⟩) : OpOk P gl o (oCall f (cAs args.toList)) := by
  intro rec hrec fs s v s' hF hso
  obtain ⟨hfn, hst, hcall⟩ := hrec _ _ _ _ _ hF hso
  refine ⟨hst, fun ρ Y w a cx har K Q hK => ?_⟩
  rw [ho] at har
  have hls : ArgsOk ρ fs a args.toList := fun x hx => har x (by simp [Op.operands, Call.operands]; exact .inr (by simpa using hx))
  have hc := hcall ρ Y w (args.toList.map a.eval) cx (LR.evs hls)
  refine wp_enter ?_ hc hK
  unfold execOp; rw [ho]
  have := run_callFunc hfn (args.map a.eval) w
  have e : (args.toList.map a.eval).toArray = args.map a.eval := by apply Array.ext'; simp
  rw [e]
  simp only [resolve, Sem.run_bind, Deferred.ofValue, Act.eval, Sem.run_pure, Result.andThen_ok, invoke, Array.append_empty, Array.empty_append]
  exact this
theorem ok_callV {x : Operand} {args : Array Operand} {ts : Array TypeId} (ho : o.op = .call ⟨.value x, args, ts⟩) : OpOk P gl o (oCallV (cA x) (cAs args.toList)) := by
  intro rec hrec fs s v s' hF hso
  unfold oCallV at hF
  split at hF
  · rename_i f p q hb
    obtain ⟨hfn, hst, hcall⟩ := hrec _ _ _ _ _ hF hso
    refine ⟨hst, fun ρ Y w a cx har K Q hK => ?_⟩
    rw [ho] at har
    have hx := har x (by simp [Op.operands, Call.operands])
    have hls : ArgsOk ρ fs a args.toList := fun y hy => har y (by simp [Op.operands, Call.operands]; exact .inr (by simpa using hy))
    rw [hb] at hx
    obtain ⟨p', q', hx', hp, hq⟩ := hx.func_inv
    have hc := hcall ρ Y w (p'.toList ++ (args.toList.map a.eval ++ q'.toList)) cx (by rw [app_eq, app_eq]; exact hp.append ((LR.evs hls).append hq))
    refine wp_enter ?_ hc hK
    unfold execOp; rw [ho]
    have e : (p'.toList ++ (args.toList.map a.eval ++ q'.toList)).toArray = (p' ++ args.map a.eval) ++ q' := by apply Array.ext'; simp
    rw [e]
    simp only [resolve, Sem.run_bind, hx', Deferred.ofValue, Sem.run_pure, Result.andThen_ok, invoke]
    exact run_callFunc hfn _ w
  · cases hF
/-- a function without a body, that is reckoned -/
def ExtOk (P : Program) (f : FuncId) (g : List Value → Option Value) : Prop :=
  ∀ args v, g args = some v → ∀ ρ (args' : List Value) w, LR ρ args args' → ∃ v', (callFunc f args'.toArray).run P w = .ok (.value v') w ∧ VRel ρ v v'
theorem ok_ext {f : FuncId} {g : List Value → Option Value} {args : Array Operand} {ts : Array TypeId} (ho : o.op = .call ⟨.value (.func f), args, ts⟩) (hg : ExtOk P f g) : OpOk P gl o (oExt g (cAs args.toList)) := by
  refine OpOk.pure fun rec fs s v s' hF => ?_
  obtain ⟨r, hr, hF⟩ := opt_k hF
  cases hF
  refine ⟨rfl, fun ρ a w har => ?_⟩
  rw [ho] at har
  have hls : ArgsOk ρ fs a args.toList := fun x hx => har x (by simp [Op.operands, Call.operands]; exact .inr (by simpa using hx))
  obtain ⟨v', hv, hrel⟩ := hg _ _ hr ρ _ w (LR.evs hls)
  refine ⟨v', ?_, hrel⟩
  have e : (args.toList.map a.eval).toArray = args.map a.eval := by apply Array.ext'; simp
  rw [e] at hv
  unfold execOp; rw [ho]
  simp only [resolve, Sem.run_bind, Deferred.ofValue, Act.eval, Sem.run_pure, Result.andThen_ok, invoke, Array.append_empty, Array.empty_append]
  exact hv
end
end Go.Abs
