import Derived.Test.YtdnedangfnincaaAbsM
import Derived.MapKept
namespace Go.Abs
set_option linter.unusedVariables false
set_option linter.unusedSimpArgs false
section
variable {P : Program} {gl : Nat → Bool} {o : Oper}

/-! maps -/
theorem mapOf_blk {s : St} {x c : Nat} {es : List Value} (h : s.mapOf x = some (c, es)) : ∃ b, s.get x = some b := by
  unfold St.mapOf at h
  obtain ⟨b, hb, _⟩ := opt_k h
  exact ⟨b, hb⟩
theorem mapOf_mapB {s : St} {x c : Nat} {es : List Value} (h : s.get x = some (mapB c es)) : s.mapOf x = some (c, es) := by
  unfold St.mapOf
  rw [h]; rfl
theorem VRel.map_inv {ρ : Ren} {b : Nat} {v : Value} (h : VRel ρ (.map (some b)) v) : ∃ l, ρ b = some l ∧ l.room < l.base ∧ v = .map (some l.blk) := by cases h with | map h hm => exact ⟨_, h, hm, rfl⟩
theorem VRel.mapNil_inv {ρ : Ren} {v : Value} (h : VRel ρ (.map none) v) : v = .map none := by cases h; rfl
/-- the map that a block stands for -/
theorem map_at {ρ : Ren} {Y : Nat → Prop} {s : St} {w : World} (h : HRel ρ Y s w) {b c : Nat} {vs : List Value} {l : Loc} (hY : Y b) (hm : s.mapOf b = some (c, vs)) (hl : ρ b = some l) (hr : l.room < l.base) :
    ∃ es : Array MapEntry, w.heap[l.blk]? = some (.map es c) ∧ s.get b = some (mapB c vs) ∧ vs.length = es.size ∧ ∀ (i : Nat) (v : Value) (e : MapEntry), vs[i]? = some v → es[i]? = some e → ERel ρ v e := by
  obtain ⟨blk, hb⟩ := mapOf_blk hm
  obtain ⟨l', hl', hbr⟩ := h.blk b blk hY hb
  rw [hl] at hl'; cases hl'
  obtain ⟨_, es, c', vs', hw, rfl, h1, h2⟩ := hbr.map hr
  rw [mapOf_mapB hb] at hm
  cases hm
  exact ⟨es, hw, hb, h1, h2⟩
def keyD : Option IntKind → TypeDesc
  | some k => .int k
  | none => .string
theorem keyT_some {t : TypeId} {kd : Option IntKind} (h : keyT P t = some kd) : P.underlying t = some (keyD kd) := by
  unfold keyT at h
  split at h
  · cases h; assumption
  · cases h; assumption
  · cases h
theorem okKey_is {kd : Option IntKind} {v : Value} (h : okKey kd v = true) : MapKept.IsKey (keyD kd) v := by
  cases v <;> first | cases h | skip
  · rename_i k n
    cases kd with
    | none => cases h
    | some k' =>
      have h : eqK k k' = true := h
      rw [eqK_eq] at h
      show k = k'
      exact of_decide_eq_true h
  · cases kd with
    | none => trivial
    | some k' => cases h
theorem okKey_rel {ρ : Ren} {kd : Option IntKind} {v v' : Value} (h : okKey kd v = true) (hr : VRel ρ v v') : v' = v := by
  cases v <;> first | cases h | skip
  · exact hr.int_inv
  · exact hr.string_inv
theorem eqKey_now {kd : Option IntKind} {k x : Value} {b : Bool} (hk : okKey kd k = true) (h : eqKey k x = some b) : Instr.sameNow (keyD kd) k x = some b := by
  cases k <;> first | cases hk | skip
  · rename_i k n
    cases kd with
    | none => cases hk
    | some k' =>
      cases x <;> first | cases h | skip
      rename_i k2 n2
      have h : (bif eqK k k2 then some (eqI n n2) else none) = some b := h
      rw [cond_some, eqK_eq, decide_eq_true_eq, eqI_eq] at h
      obtain ⟨h1, h2⟩ := h
      cases h2
      simp [keyD, Instr.sameNow, h1]
      rfl
  · rename_i n
    cases kd with
    | some k' => cases hk
    | none =>
      cases x with
      | string n2 =>
        have h : some (eqBytes n.data.toList n2.data.toList) = some b := h
        cases h
        rw [eqBytes_eq]
        show some (n == n2) = _
        congr 1
        cases hq : (n == n2) with
        | true => rw [(MapKept.bytes_beq n n2).1 hq]; simp
        | false =>
          symm
          rw [decide_eq_false_iff_not]
          intro e
          have : n = n2 := by
            cases n; cases n2
            simp only at e
            rw [Array.ext' e]
          rw [(MapKept.bytes_beq n n2).2 this] at hq
          cases hq
      | _ => cases h
theorem entryOf_entryV (k x : Value) (b : Nat) : entryOf (entryV k x b) = some (k, x, b) := rfl
noncomputable def findEI (k : Value) (es : List Value) (i : Nat) : Option (Option (Nat × Value × Nat)) :=
  List.rec (motive := fun _ => Nat → Option (Option (Nat × Value × Nat))) (fun _ => some none) (fun e _ ih i => opt (entryOf e) fun p => opt (eqKey k p.1) fun b => bif b then some (some (i, p.2)) else ih (Nat.succ i)) es i
theorem findEI_cons (k e : Value) (es : List Value) (i : Nat) : findEI k (e :: es) i = opt (entryOf e) fun p => opt (eqKey k p.1) fun b => bif b then some (some (i, p.2)) else findEI k es (i + 1) := rfl
theorem find_now {ρ : Ren} {kd : Option IntKind} {k : Value} (hk : okKey kd k = true) : ∀ (vs : List Value) (es : List MapEntry) (i : Nat) (r : Option (Nat × Value × Nat)), vs.length = es.length → (∀ (j : Nat) v e, vs[j]? = some v → es[j]? = some e → ERel ρ v e) → findEI k vs i = some r →
    (r = none ∧ Instr.findNow (keyD kd) k es i = some none) ∨ ∃ j x e, r = some (i + j, x, e.born) ∧ es[j]? = some e ∧ vs[j]? = some (entryV e.key x e.born) ∧ okVal x = true ∧ VRel ρ x e.val ∧ Instr.sameNow (keyD kd) k e.key = some true ∧ Instr.findNow (keyD kd) k es i = some (some (i + j, e.val))
  | [], [], i, r, _, _, h => by cases h; exact .inl ⟨rfl, rfl⟩
  | [], _ :: _, i, r, hl, _, h => by simp at hl
  | _ :: _, [], i, r, hl, _, h => by simp at hl
  | v :: vs, e :: es, i, r, hl, he, h => by
    obtain ⟨x, rfl, hx, hxr⟩ := he 0 v e rfl rfl
    rw [findEI_cons] at h
    obtain ⟨p, hp, h⟩ := opt_k h
    rw [entryOf_entryV] at hp
    cases hp
    obtain ⟨b, hb, h⟩ := opt_k h
    have hn := eqKey_now hk hb
    cases b with
    | true =>
      have h : some (some (i, x, e.born)) = some r := h
      cases h
      exact .inr ⟨0, x, e, rfl, rfl, rfl, hx, hxr, hn, by simp [Instr.findNow, hn]⟩
    | false =>
      have h : findEI k vs (i + 1) = some r := h
      rcases find_now hk vs es (i + 1) r (by simpa using hl) (fun j v' e' h1 h2 => he (j + 1) v' e' (by simpa using h1) (by simpa using h2)) h with ⟨h1, h2⟩ | ⟨j, y, e', h1, h2, h3, h4, h5, h6, h7⟩
      · exact .inl ⟨h1, by simp [Instr.findNow, hn, h2]⟩
      · refine .inr ⟨j + 1, y, e', ?_, by simpa using h2, by simpa using h3, h4, h5, h6, ?_⟩
        · rw [h1]; congr 2; omega
        · simp only [Instr.findNow, hn, h7]; congr 3; omega
theorem zeroV_some {t : TypeId} {z : Value} (h : zeroV P t = some z) : gnd z = true ∧ ∀ w, (zeroValue t).run P w = .ok z w := by
  unfold zeroV at h
  obtain ⟨v, hv, hc⟩ := Option.bind_eq_some_iff.1 h
  obtain ⟨i, hi, hz⟩ := Option.bind_eq_some_iff.1 hv
  split at hc
  · cases hc
    refine ⟨by assumption, fun w => ?_⟩
    simp [zeroValue, typeInfo, hi, hz]
  · cases hc
theorem gnd_okVal {z : Value} (h : gnd z = true) : okVal z = true := by
  cases z <;> first | rfl | cases h | skip
  rename_i o
  cases o with
  | none => rfl
  | some _ => cases h
theorem run_lookupM {w : World} {t kt et : TypeId} {kd : Option IntKind} {k z : Value} {r : Nat} {es : Array MapEntry} {clock : Nat} {q : Option (Nat × Value)} (ok : Bool) (ht : P.underlying t = some (.map kt et)) (hkt : P.underlying kt = some (keyD kd)) (hk : MapKept.IsKey (keyD kd) k)
    (hb : w.heap[r]? = some (.map es clock)) (hf : Instr.findNow (keyD kd) k es.toList 0 = some q) (hz : ∀ w, (zeroValue et).run P w = .ok z w) :
    (Instr.lookup t (.map (some r)) k ok).run P w = .ok (match q with | some (_, v) => if ok then .tuple #[v, .bool true] else v | none => if ok then .tuple #[z, .bool false] else z) w := by
  unfold Instr.lookup
  simp only [Sem.run_bind, run_underlying ht, Result.andThen_ok, MapKept.run_getObj_map hb, Sem.run_pure, MapKept.run_checkKey (n := 9999) hkt hk, MapKept.run_findKey hkt hf]
  cases q with
  | none => simp only [Sem.run_bind, hz, Result.andThen_ok, Sem.run_pure]
  | some p => obtain ⟨i, v⟩ := p; simp only [Sem.run_pure, Result.andThen_ok]; cases ok <;> rfl
theorem run_lookupN {w : World} {t kt et : TypeId} {kd : Option IntKind} {k z : Value} (ok : Bool) (ht : P.underlying t = some (.map kt et)) (hkt : P.underlying kt = some (keyD kd)) (hk : MapKept.IsKey (keyD kd) k)
    (hz : ∀ w, (zeroValue et).run P w = .ok z w) :
    (Instr.lookup t (.map none) k ok).run P w = .ok (if ok then .tuple #[z, .bool false] else z) w := by
  have hf : Instr.findNow (keyD kd) k ([] : List MapEntry) 0 = some none := rfl
  unfold Instr.lookup
  simp only [Sem.run_bind, run_underlying ht, Result.andThen_ok, Sem.run_pure, MapKept.run_checkKey (n := 9999) hkt hk, MapKept.run_findKey hkt hf, hz]
theorem mpair_rel {ρ : Ren} {x y : Value} {b : Bool} (h : VRel ρ x y) : VRel ρ (tupOf [x, .bool b]) (.tuple #[y, .bool b]) := VRel.tuple_of (LR.cons h (LR.cons (.bool _) (LR.nil ρ)))
theorem ok_lookup {t kt et : TypeId} {kd : Option IntKind} {ok : Bool} {z : Value} {x y : Operand} (ho : o.op = .lookup t x y ok) (ht : P.underlying t = some (.map kt et)) (hkt : keyT P kt = some kd) (hz : zeroV P et = some z) : OpOk P gl o (oLookup kd z ok (cA x) (cA y)) := by
  intro rec _ fs s v s' hF hso
  unfold oLookup at hF
  rw [cond_none, Bool.not_eq_false'] at hF
  obtain ⟨hk, hF⟩ := hF
  obtain ⟨hzg, hzr⟩ := zeroV_some hz
  have hku := keyT_some hkt
  have hki := okKey_is hk
  split at hF
  · rename_i hx0
    cases hF
    refine ⟨AStep.refl _, fun ρ Y w a cx ha K Q hK => ?_⟩
    rw [ho] at ha
    obtain ⟨hx, ha⟩ := args1 ha
    have hy := (args1 ha).1
    rw [hx0] at hx
    have hy' := okKey_rel hk hy
    refine wp_value (v' := if ok then .tuple #[z, .bool false] else z) (w' := w) ?_ (hK ρ _ w ?_ (Good.refl cx.rel))
    · unfold execOp; rw [ho]
      simp only [hx.mapNil_inv, hy', run_wrap, run_lookupN ok ht hku hki hzr, Result.andThen_ok]
    · cases ok
      · exact gnd_rel hzg
      · exact mpair_rel (gnd_rel hzg)
  · rename_i b hx0
    obtain ⟨⟨c, vs⟩, hm, hF⟩ := opt_k hF
    obtain ⟨r, hr, hF⟩ := opt_k hF
    have hs' : s' = s.seen b := by cases r <;> (cases hF; rfl)
    subst hs'
    refine ⟨AStep.seen _ _, fun ρ Y w a cx ha K Q hK => ?_⟩
    rw [ho] at ha
    obtain ⟨hx, ha⟩ := args1 ha
    have hy := (args1 ha).1
    rw [hx0] at hx
    have hy' := okKey_rel hk hy
    obtain ⟨l, hl, hlr, hx⟩ := hx.map_inv
    obtain ⟨blk, hb⟩ := mapOf_blk hm
    have hY := cx.seen hb (.inl (seen_bit s b))
    obtain ⟨es, hw, _, hlen, her⟩ := map_at cx.rel hY hm hl hlr
    have hfr : findEI (ev fs (cA y)) vs 0 = some r := hr
    rcases find_now (ρ := ρ) hk vs es.toList 0 r (by simpa using hlen) (fun j v e h1 h2 => her j v e h1 (by simpa using h2)) hfr with ⟨rfl, h2⟩ | ⟨j, xv, e, rfl, h2, h3, h4, h5, h6, h7⟩
    · cases hF
      refine wp_value (v' := if ok then .tuple #[z, .bool false] else z) (w' := w) ?_ (hK ρ _ w ?_ (Good.seen cx.rel _))
      · unfold execOp; rw [ho]
        simp only [hx, hy', run_wrap, run_lookupM ok ht hku hki hw h2 hzr, Result.andThen_ok]
      · cases ok
        · exact gnd_rel hzg
        · exact mpair_rel (gnd_rel hzg)
    · cases hF
      refine wp_value (v' := if ok then .tuple #[e.val, .bool true] else e.val) (w' := w) ?_ (hK ρ _ w ?_ (Good.seen cx.rel _))
      · unfold execOp; rw [ho]
        simp only [hx, hy', run_wrap, run_lookupM ok ht hku hki hw h7 hzr, Result.andThen_ok]
      · cases ok
        · exact h5
        · exact mpair_rel h5
  · cases hF

/-! a map made; entries put -/
theorem ok_makeMap {t : TypeId} (ho : o.op = .makeMap t none) : OpOk P gl o oMakeMap := by
  intro rec _ fs s v s' hF hso
  obtain ⟨n, s1, ha, hF⟩ := opt2_k hF
  cases hF
  refine ⟨AStep.alloc ha, fun ρ Y w a cx _ K Q hK => ?_⟩
  obtain ⟨hn, _, hnx, _⟩ := St.alloc_some ha
  subst hn
  have good : Good ρ (ρ.upd s.next ⟨w.heap.size, 1, 0⟩) Y s s' w (w.alloc (.map #[] 0)) :=
    Good.allocB cx.yok (cx.new (by omega)) cx.rel ha (fun k hk => (MapKept.heap_alloc w _).2 k hk)
      (.inr ⟨Nat.lt_succ_self 0, #[], 0, [], (MapKept.heap_alloc w _).1, rfl, rfl, fun i v e h => by simp at h⟩) (by simp [World.alloc, -World.alloc_eq]) rfl rfl rfl
  refine wp_value (v' := .map (some w.heap.size)) (w' := w.alloc (.map #[] 0)) ?_ (hK _ _ _ (VRel.map (l := ⟨w.heap.size, 1, 0⟩) (by simp [Ren.upd]) (Nat.lt_succ_self 0)) good)
  unfold execOp; rw [ho]
  simp [Instr.makeMap]
theorem setN_eq {α : Type} : ∀ (l : List α) (n : Nat) (v : α), setN l n v = l.set n v
  | [], _, _ => rfl
  | x :: l, 0, v => rfl
  | x :: l, n + 1, v => by show x :: setN l n v = _; rw [setN_eq l n v]; rfl
/-- the world's map, changed -/
def setMap (w : World) (r : Nat) (es : Array MapEntry) (c : Nat) : World := { w with heap := w.heap.setIfInBounds r (.map es c) }
theorem Good.map {ρ : Ren} {Y : Nat → Prop} {s : St} {w : World} {x c : Nat} {b : Blk} {l : Loc} {vs : List Value} {es es0 : Array MapEntry} {c0 : Nat}
    (top : s.next ≤ lim + 1) (yok : ∀ x, Y x → x < s.next) (h : HRel ρ Y s w) (h8 : 8 ≤ x) (hx : Y x) (hb : s.get x = some b) (hl : ρ x = some l) (hr : l.room < l.base) (hw : w.heap[l.blk]? = some (.map es0 c0))
    (hlen : vs.length = es.size) (he : ∀ (i : Nat) (v : Value) (e : MapEntry), vs[i]? = some v → es[i]? = some e → ERel ρ v e) : Good ρ ρ Y s (s.set x (some (mapB c vs))) w (setMap w l.blk es c) :=
  Good.writeB top yok h h8 hx hb hl (.inr ⟨hr, es, c, vs, (MapKept.heap_set hw).1, rfl, hlen, he⟩) (fun k hk => (MapKept.heap_set hw).2 k hk) (by simp [setMap]) rfl rfl rfl
theorem sameBits_key {kd : Option IntKind} {k x : Value} (hk : MapKept.IsKey (keyD kd) k) (h : Instr.sameNow (keyD kd) k x = some true) : Instr.sameBits 10000 x k = true := by
  cases kd with
  | none =>
    cases k with
    | string a =>
      cases x with
      | string b =>
        have h : some (a == b) = some true := h
        have e : a = b := (MapKept.bytes_beq a b).1 (Option.some.inj h)
        subst e
        exact (MapKept.bytes_beq a a).2 rfl
      | _ => cases h
    | _ => cases hk
  | some kk =>
    cases k with
    | int k1 a =>
      cases x with
      | int k2 b =>
        have h1 : (if k1 = k2 then some (a == b) else none) = some true := h
        split at h1
        · rename_i e
          subst e
          have e2 : a = b := by
            have h1 := Option.some.inj h1
            simpa using h1
          subst e2
          show (k1 == k1 && a == a) = true
          simp
        · cases h1
      | _ => cases h
    | _ => cases hk
/-- what an entry that is put makes of a map -/
theorem put_ok {ρ : Ren} {Y : Nat → Prop} {s : St} {w : World} {b c : Nat} {vs : List Value} {l : Loc} {kd : Option IntKind} {k x x' : Value} {r : Option (Nat × Value × Nat)} {es : Array MapEntry}
    (top : s.next ≤ lim + 1) (yok : ∀ x, Y x → x < s.next) (h : HRel ρ Y s w) (h8 : 8 ≤ b) (hY : Y b) (hg : s.get b = some (mapB c vs)) (hl : ρ b = some l) (hlr : l.room < l.base) (hw : w.heap[l.blk]? = some (.map es c)) (hlen : vs.length = es.size)
    (her : ∀ (i : Nat) (v : Value) (e : MapEntry), vs[i]? = some v → es[i]? = some e → ERel ρ v e) (hk : okKey kd k = true) (hx : okVal x = true) (hxr : VRel ρ x x') (hr : findE k vs = some r) :
    (r = none ∧ Instr.findNow (keyD kd) k es.toList 0 = some none ∧ Good ρ ρ Y s (putE s b c vs k x none) w (setMap w l.blk (es.push { key := k, val := x', born := c }) (c + 1))) ∨
    ∃ j y e, r = some (j, y, e.born) ∧ es[j]? = some e ∧ okVal y = true ∧ VRel ρ y e.val ∧ Instr.findNow (keyD kd) k es.toList 0 = some (some (j, e.val)) ∧ Instr.sameBits 10000 e.key k = true ∧
      Good ρ ρ Y s (putE s b c vs k x (some (j, y, e.born))) w (setMap w l.blk (es.modify j fun e => { e with key := k, val := x' }) c) := by
  have hfr : findEI k vs 0 = some r := hr
  rcases find_now (ρ := ρ) hk vs es.toList 0 r (by simpa using hlen) (fun j v e h1 h2 => her j v e h1 (by simpa using h2)) hfr with ⟨rfl, h2⟩ | ⟨j, y, e, rfl, h2, h3, h4, h5, h6, h7⟩
  · refine .inl ⟨rfl, h2, ?_⟩
    have e1 : putE s b c vs k x none = s.set b (some (mapB (c + 1) (vs ++ [entryV k x c]))) := by
      show (force (Nat.succ c) fun c' => s.set b (some (mapB c' (app vs [entryV k x c])))) = _
      rw [force_eq, app_eq]
    rw [e1]
    refine Good.map top yok h h8 hY hg hl hlr hw (by simp [hlen]) (fun i v e hv he => ?_)
    rw [List.getElem?_append] at hv
    rw [Array.getElem?_push] at he
    by_cases hi : i < vs.length
    · have : ¬ i = es.size := by omega
      simp only [hi, if_true] at hv
      simp only [this, if_false] at he
      exact her i v e hv he
    · simp only [hi, if_false] at hv
      by_cases hi2 : i = es.size
      · have e3 : i - vs.length = 0 := by omega
        rw [e3] at hv
        simp only [hi2, if_true, Option.some.injEq] at he
        simp only [List.getElem?_cons_zero, Option.some.injEq] at hv
        subst hv; subst he
        exact ⟨x, rfl, hx, hxr⟩
      · have : ¬ i < es.size := by omega
        simp [hi2, Array.getElem?_eq_none (show es.size ≤ i by omega)] at he
  · rw [Nat.zero_add] at h7 ⊢
    have hj : es[j]? = some e := by simpa using h2
    refine .inr ⟨j, y, e, rfl, hj, h4, h5, h7, sameBits_key (okKey_is hk) h6, ?_⟩
    have e1 : putE s b c vs k x (some (j, y, e.born)) = s.set b (some (mapB c (vs.set j (entryV k x e.born)))) := by
      show s.set b (some (mapB c (setN vs j (entryV k x e.born)))) = _
      rw [setN_eq]
    rw [e1]
    refine Good.map top yok h h8 hY hg hl hlr hw (by simp [hlen]) (fun i v e' hv he => ?_)
    rw [List.getElem?_set] at hv
    rw [Array.getElem?_modify] at he
    by_cases hi : j = i
    · subst hi
      simp only [if_true] at hv he
      split at hv
      · cases hv
        rw [hj] at he
        simp only [Option.map_some, Option.some.injEq] at he
        subst he
        exact ⟨x, rfl, hx, hxr⟩
      · cases hv
    · simp only [hi, if_false] at hv he
      exact her i v e' hv he
theorem AStep.put {s : St} {b c : Nat} {vs : List Value} {k x : Value} {r : Option (Nat × Value × Nat)} (hso : SOk s) {blk : Blk} (hb : s.get b = some blk) : AStep s (putE s b c vs k x r) := by
  cases r with
  | none =>
    have e1 : putE s b c vs k x none = s.set b (some (mapB (c + 1) (app vs [entryV k x c]))) := by
      show (force (Nat.succ c) fun c' => s.set b (some (mapB c' (app vs [entryV k x c])))) = _
      rw [force_eq]
    rw [e1]
    exact AStep.set s b _ (hso.lt40 hb) (by rw [hb]; rfl)
  | some q => exact AStep.set s b _ (hso.lt40 hb) (by rw [hb]; rfl)
theorem put_bit (s : St) (b c : Nat) (vs : List Value) (k x : Value) (r : Option (Nat × Value × Nat)) : (putE s b c vs k x r).wr.testBit b = true := by
  cases r with
  | none =>
    have e1 : putE s b c vs k x none = s.set b (some (mapB (c + 1) (app vs [entryV k x c]))) := by
      show (force (Nat.succ c) fun c' => s.set b (some (mapB c' (app vs [entryV k x c])))) = _
      rw [force_eq]
    rw [e1]; exact set_bit _ _ _
  | some q => exact set_bit _ _ _
theorem keyStays {w : World} {x k : Value} (h : Instr.sameBits 10000 x k = true) : (Instr.keyThatStays x k).run P w = .ok k w := by
  unfold Instr.keyThatStays
  rw [h]; rfl
theorem ok_mapUpdate {t kt et : TypeId} {kd : Option IntKind} {m k x : Operand} (ho : o.op = .mapUpdate t m k x) (ht : P.underlying t = some (.map kt et)) (hkt : keyT P kt = some kd) : OpOk P gl o (oMapUpdate kd (cA m) (cA k) (cA x)) := by
  intro rec _ fs s v s' hF hso
  unfold oMapUpdate at hF
  rw [cond_some, Bool.and_eq_true] at hF
  obtain ⟨⟨hk, hv⟩, hF⟩ := hF
  have hku := keyT_some hkt
  have hki := okKey_is hk
  split at hF
  · rename_i b hx0
    obtain ⟨⟨c, vs⟩, hm, hF⟩ := opt_k hF
    obtain ⟨r, hr, hF⟩ := opt_k hF
    cases hF
    obtain ⟨blk, hb⟩ := mapOf_blk hm
    refine ⟨AStep.put hso hb, fun ρ Y w a cx ha K Q hK => ?_⟩
    rw [ho] at ha
    obtain ⟨hx, ha⟩ := args1 ha
    obtain ⟨hy, ha⟩ := args1 ha
    have hz := (args1 ha).1
    rw [hx0] at hx
    have hy' := okKey_rel hk hy
    obtain ⟨l, hl, hlr, hx⟩ := hx.map_inv
    have hY := cx.seen hb (.inr (put_bit _ _ _ _ _ _ _))
    obtain ⟨es, hw, hg, hlen, her⟩ := map_at cx.rel hY hm hl hlr
    rcases put_ok (x := ev fs (cA x)) cx.top cx.yok cx.rel (cx.high (put_bit _ _ _ _ _ _ _)) hY hg hl hlr hw hlen her hk hv hz hr with ⟨rfl, hf, good⟩ | ⟨j, y, e, rfl, hj, _, _, hf, hsb, good⟩
    · refine wp_skipped (w' := _) ?_ (hK ρ undef _ (.any _) good)
      unfold execOp; rw [ho]
      simp only [hx, hy', Instr.mapUpdate, Sem.run_bind, run_underlying ht, Result.andThen_ok, MapKept.run_getObj_map hw, MapKept.run_checkKey (n := 9999) hku hki, MapKept.run_findKey hku hf, MapKept.run_setObj_map _ hw, Sem.run_pure]
      rfl
    · refine wp_skipped (w' := _) ?_ (hK ρ undef _ (.any _) good)
      have hj' : ((es[j]?).map (·.key)).getD (ev fs (cA k)) = e.key := by rw [hj]; rfl
      unfold execOp; rw [ho]
      simp only [hx, hy', Instr.mapUpdate, Sem.run_bind, run_underlying ht, Result.andThen_ok, MapKept.run_getObj_map hw, MapKept.run_checkKey (n := 9999) hku hki, MapKept.run_findKey hku hf, hj', keyStays hsb, MapKept.run_setObj_map _ hw, Sem.run_pure]
      rfl
  · cases hF
theorem ok_mapEntry {t kt et : TypeId} {kd : Option IntKind} {z : Value} {m k : Operand} (ho : o.op = .mapEntry t m k) (ht : P.underlying t = some (.map kt et)) (hkt : keyT P kt = some kd) (hz : zeroV P et = some z) : OpOk P gl o (oMapEntry kd z (cA m) (cA k)) := by
  intro rec _ fs s v s' hF hso
  unfold oMapEntry at hF
  rw [cond_some] at hF
  obtain ⟨hk, hF⟩ := hF
  have hku := keyT_some hkt
  have hki := okKey_is hk
  obtain ⟨hzg, hzr⟩ := zeroV_some hz
  split at hF
  · rename_i b hx0
    obtain ⟨⟨c, vs⟩, hm, hF⟩ := opt_k hF
    obtain ⟨r, hr, hF⟩ := opt_k hF
    obtain ⟨blk, hb⟩ := mapOf_blk hm
    have hst : AStep s s' ∧ s'.wr.testBit b = true := by
      cases r with
      | none => cases hF; exact ⟨AStep.put hso hb, put_bit _ _ _ _ _ _ _⟩
      | some q => cases hF; exact ⟨AStep.put hso hb, put_bit _ _ _ _ _ _ _⟩
    refine ⟨hst.1, fun ρ Y w a cx ha K Q hK => ?_⟩
    rw [ho] at ha
    obtain ⟨hx, ha⟩ := args1 ha
    have hy := (args1 ha).1
    rw [hx0] at hx
    have hy' := okKey_rel hk hy
    obtain ⟨l, hl, hlr, hx⟩ := hx.map_inv
    have hY := cx.seen hb (.inr hst.2)
    obtain ⟨es, hw, hg, hlen, her⟩ := map_at cx.rel hY hm hl hlr
    have hfr : findEI (ev fs (cA k)) vs 0 = some r := hr
    cases r with
    | none =>
      cases hF
      rcases put_ok (x := z) cx.top cx.yok cx.rel (cx.high hst.2) hY hg hl hlr hw hlen her hk (gnd_okVal hzg) (gnd_rel hzg) hr with ⟨_, hf, good⟩ | ⟨j, y, e, h0, _⟩
      · refine wp_value (v' := .tuple #[z, goInt c]) (w' := _) ?_ (hK ρ _ _ (VRel.tuple_of (LR.cons (gnd_rel hzg) (LR.cons (.int _ _) (LR.nil ρ)))) good)
        unfold execOp; rw [ho]
        simp only [hx, hy', run_wrap, Instr.mapEntry, Sem.run_bind, run_underlying ht, Result.andThen_ok, MapKept.run_getObj_map hw, MapKept.run_checkKey (n := 9999) hku hki, MapKept.run_findKey hku hf, hzr, MapKept.run_setObj_map _ hw, Sem.run_pure]
        rfl
      · cases h0
    | some q =>
      cases hF
      rcases find_now (ρ := ρ) hk vs es.toList 0 _ (by simpa using hlen) (fun j v e h1 h2 => her j v e h1 (by simpa using h2)) hfr with ⟨h0, _⟩ | ⟨j, y, e, h1, h2, h3, h4, h5, h6, h7⟩
      · cases h0
      · cases h1
        rcases put_ok (x := y) (x' := e.val) cx.top cx.yok cx.rel (cx.high hst.2) hY hg hl hlr hw hlen her hk h4 h5 hr with ⟨h0, _⟩ | ⟨j', y', e', h0, hj, _, _, hf, hsb, good⟩
        · cases h0
        · have e1 : 0 + j = j' := by injection h0 with h0; injection h0
          have e2 : y = y' := by injection h0 with h0; injection h0 with _ h0; injection h0
          have ej : es[j']? = some e := by rw [← e1, Nat.zero_add]; simpa using h2
          rw [ej] at hj
          cases hj
          rw [Nat.zero_add] at e1
          subst e1
          subst e2
          have hj' : ((es[j]?).map (·.key)).getD (ev fs (cA k)) = e.key := by rw [ej]; rfl
          have hb' : (((es[j]?).map (·.born)).getD 0 : Nat) = e.born := by rw [ej]; rfl
          have hb2 : (((es[j]?).map fun x => (x.born : Int)).getD 0 : Int) = e.born := by rw [ej]; rfl
          have hmod : es.modify j (fun e => { e with key := ev fs (cA k) }) = es.modify j (fun e' => { e' with key := ev fs (cA k), val := e.val }) := by
            apply Array.ext_getElem?
            intro i
            rw [Array.getElem?_modify, Array.getElem?_modify]
            by_cases hi : j = i
            · subst hi; simp [ej]
            · simp [hi]
          have good' : Good ρ ρ Y s (putE s b c vs (ev fs (cA k)) y (some (0 + j, y, e.born))) w (setMap w l.blk (es.modify j fun e => { e with key := ev fs (cA k) }) c) := by
            rw [hmod, Nat.zero_add]; exact good
          refine wp_value (v' := .tuple #[e.val, goInt e.born]) (w' := _) ?_ (hK ρ _ _ (VRel.tuple_of (LR.cons h5 (LR.cons (.int _ _) (LR.nil ρ)))) good')
          unfold execOp; rw [ho]
          simp only [hx, hy', run_wrap, Instr.mapEntry, Sem.run_bind, run_underlying ht, Result.andThen_ok, MapKept.run_getObj_map hw, MapKept.run_checkKey (n := 9999) hku hki, MapKept.run_findKey hku hf, hj', hb', hb2, keyStays hsb, MapKept.run_setObj_map _ hw, Sem.run_pure]
          rfl
  · cases hF
noncomputable def findBI (n : Nat) (es : List Value) (i : Nat) : Option (Option (Nat × Value)) :=
  List.rec (motive := fun _ => Nat → Option (Option (Nat × Value))) (fun _ => some none) (fun e _ ih i => opt (entryOf e) fun p => bif Nat.beq p.2.2 n then some (some (i, p.1)) else ih (Nat.succ i)) es i
theorem findBI_cons (n : Nat) (e : Value) (es : List Value) (i : Nat) : findBI n (e :: es) i = opt (entryOf e) fun p => bif Nat.beq p.2.2 n then some (some (i, p.1)) else findBI n es (i + 1) := rfl
theorem find_born {ρ : Ren} {n : Nat} : ∀ (vs : List Value) (es : List MapEntry) (i : Nat) (q : Nat × Value), vs.length = es.length → (∀ (j : Nat) v e, vs[j]? = some v → es[j]? = some e → ERel ρ v e) → findBI n vs i = some (some q) →
    ∃ j e, q = (i + j, e.key) ∧ es[j]? = some e ∧ e.born = n ∧ es.findIdx? (fun e => (e.born : Int) == (n : Int)) = some j
  | [], [], i, q, _, _, h => by cases h
  | [], _ :: _, i, r, hl, _, h => by simp at hl
  | _ :: _, [], i, r, hl, _, h => by simp at hl
  | v :: vs, e :: es, i, q, hl, he, h => by
    obtain ⟨x, rfl, hx, hxr⟩ := he 0 v e rfl rfl
    rw [findBI_cons] at h
    obtain ⟨p, hp, h⟩ := opt_k h
    rw [entryOf_entryV] at hp
    cases hp
    rw [beq_eq'] at h
    by_cases hb : e.born = n
    · simp only [hb, decide_true, cond_true, Option.some.injEq] at h
      subst h
      exact ⟨0, e, rfl, rfl, hb, by simp [List.findIdx?_cons, hb]⟩
    · simp only [hb, decide_false, cond_false] at h
      obtain ⟨j, e', h1, h2, h3, h4⟩ := find_born vs es (i + 1) q (by simpa using hl) (fun j v' e' h1 h2 => he (j + 1) v' e' (by simpa using h1) (by simpa using h2)) h
      have hb2 : ((e.born : Int) == (n : Int)) = false := by simp; omega
      exact ⟨j + 1, e', by rw [h1]; congr 1; omega, by simpa using h2, h3, by simp [List.findIdx?_cons, hb2, h4]⟩
theorem ok_entryStore {t : TypeId} {m k x : Operand} (ho : o.op = .entryStore t m k x) : OpOk P gl o (oEntryStore (cA m) (cA k) (cA x)) := by
  intro rec _ fs s v s' hF hso
  unfold oEntryStore at hF
  rw [cond_some] at hF
  obtain ⟨hv, hF⟩ := hF
  split at hF
  · rename_i b hx0
    obtain ⟨⟨c, vs⟩, hm, hF⟩ := opt_k hF
    obtain ⟨born, hbo, hF⟩ := opt_k hF
    obtain ⟨r, hr, hF⟩ := opt_k hF
    obtain ⟨q, hq, hF⟩ := opt_k hF
    subst hq
    cases hF
    obtain ⟨blk, hb⟩ := mapOf_blk hm
    refine ⟨AStep.set s b _ (hso.lt40 hb) (by rw [hb]; rfl), fun ρ Y w a cx ha K Q hK => ?_⟩
    rw [ho] at ha
    obtain ⟨hx, ha⟩ := args1 ha
    obtain ⟨hy, ha⟩ := args1 ha
    have hz := (args1 ha).1
    rw [hx0] at hx
    obtain ⟨kk, hyk⟩ : ∃ kk, ev fs (cA k) = .int kk (born : Int) := by
      unfold natI at hbo
      split at hbo
      · split at hbo
        · cases hbo; exact ⟨_, by assumption⟩
        · cases hbo
      · cases hbo
    rw [hyk] at hy
    obtain ⟨l, hl, hlr, hx⟩ := hx.map_inv
    have hY := cx.seen hb (.inr (set_bit _ _ _))
    obtain ⟨es, hw, hg, hlen, her⟩ := map_at cx.rel hY hm hl hlr
    have hfr : findBI born vs 0 = some (some q) := hr
    obtain ⟨j, e, rfl, h2, h3, h4⟩ := find_born (ρ := ρ) vs es.toList 0 q (by simpa using hlen) (fun j v e h1 h2 => her j v e h1 (by simpa using h2)) hfr
    have h2' : es[j]? = some e := by simpa using h2
    have h4' : es.findIdx? (fun e => (e.born : Int) == (born : Int)) = some j := by obtain ⟨l0⟩ := es; simpa using h4
    have good : Good ρ ρ Y s (s.set b (some (mapB c (setN vs (0 + j) (entryV e.key (ev fs (cA x)) born))))) w (setMap w l.blk (es.modify j fun e => { e with val := a.eval x }) c) := by
      rw [setN_eq, Nat.zero_add]
      refine Good.map cx.top cx.yok cx.rel (cx.high (by first | exact set_bit _ _ _ | (rw [heq]; exact set_bit _ _ _) | (rw [he]; exact set_bit _ _ _))) hY hg hl hlr hw (by simp [hlen]) (fun i v e' hv' he => ?_)
      rw [List.getElem?_set] at hv'
      rw [Array.getElem?_modify] at he
      by_cases hi : j = i
      · subst hi
        simp only [if_true] at hv' he
        split at hv'
        · cases hv'
          rw [h2'] at he
          simp only [Option.map_some, Option.some.injEq] at he
          subst he
          exact ⟨ev fs (cA x), by rw [← h3], hv, hz⟩
        · cases hv'
      · simp only [hi, if_false] at hv' he
        exact her i v e' hv' he
    refine wp_skipped (w' := _) ?_ (hK ρ undef _ (.any _) good)
    unfold execOp; rw [ho]
    simp only [hx, hy.int_inv, Instr.entryStore, Sem.run_bind, Result.andThen_ok, MapKept.run_getObj_map hw, asInt, asIntOf, Sem.run_pure, h4', MapKept.run_setObj_map _ hw]
    rfl
  · cases hF
theorem ok_lenM {t k e : TypeId} {args : Array Operand} {ts : Array TypeId} {x : Operand} (ho : o.op = .call ⟨.builtin .len, args, ts⟩) (hl : args.toList = [x]) (ht : ts[0]? = some t) (hd : P.underlying t = some (.map k e)) : OpOk P gl o (oLenM (cA x)) := by
  intro rec _ fs s v s' hF hso
  unfold oLenM at hF
  have hargs : args = #[x] := by apply Array.ext'; rw [hl]
  subst hargs
  split at hF
  · rename_i hx0
    cases hF
    refine ⟨AStep.refl _, fun ρ Y w a cx ha K Q hK => ?_⟩
    rw [ho] at ha
    have hx := (args1 (l := []) (by simpa [Op.operands, Call.operands] using ha)).1
    rw [hx0] at hx
    refine wp_value (v' := .int .i64 0) (w' := w) ?_ (hK ρ _ w (.int _ _) (Good.refl cx.rel))
    unfold execOp; rw [ho]
    simp [resolve, invoke, builtin, Builtin.len_, hx.mapNil_inv, ht, run_underlying hd, goInt]
  · rename_i b hx0
    obtain ⟨⟨c, vs⟩, hm, hF⟩ := opt_k hF
    rw [force_eq] at hF
    cases hF
    obtain ⟨blk, hb⟩ := mapOf_blk hm
    refine ⟨AStep.seen _ _, fun ρ Y w a cx ha K Q hK => ?_⟩
    rw [ho] at ha
    have hx := (args1 (l := []) (by simpa [Op.operands, Call.operands] using ha)).1
    rw [hx0] at hx
    obtain ⟨l, hl2, hlr, hx⟩ := hx.map_inv
    have hY := cx.seen hb (.inl (seen_bit s b))
    obtain ⟨es, hw, _, hlen, her⟩ := map_at cx.rel hY hm hl2 hlr
    refine wp_value (v' := .int .i64 (lenN vs : Nat)) (w' := w) ?_ (hK ρ _ w (.int _ _) (Good.seen cx.rel _))
    unfold execOp; rw [ho]
    rw [lenN_eq]
    simp [resolve, invoke, builtin, Builtin.len_, hx, ht, run_underlying hd, goInt, MapKept.run_getObj_map hw, hlen]
  · cases hF
end
end Go.Abs
