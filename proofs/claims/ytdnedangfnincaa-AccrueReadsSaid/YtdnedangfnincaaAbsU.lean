import Derived.Test.YtdnedangfnincaaAbsS
import Derived.Below
import Derived.KernelRfl
namespace Go.Abs
set_option linter.unusedVariables false
set_option linter.unusedSimpArgs false
theorem frame_cons (v : Value) (l : List Value) (k : Nat) (fs : Frm) : frame (v :: l) k fs = frame l (k + 1) (PT.put v (path k) fs) := rfl
theorem frame_get : ∀ (l : List Value) (k : Nat) (fs : Frm) (t : Nat), t < 4000 → k + l.length ≤ 4000 → (frame l k fs).get (path t) = if k ≤ t ∧ t < k + l.length then l[t - k]? else fs.get (path t)
  | [], k, fs, t, _, _ => by
    have : ¬ (k ≤ t ∧ t < k + ([] : List Value).length) := by simp
    rw [if_neg this]; rfl
  | v :: l, k, fs, t, ht, hk => by
    rw [List.length_cons] at hk
    rw [frame_cons, frame_get l (k + 1) _ t ht (by omega), List.length_cons]
    by_cases h1 : k + 1 ≤ t ∧ t < k + 1 + l.length
    · rw [if_pos h1, if_pos (by omega), show t - k = (t - (k + 1)) + 1 by omega, List.getElem?_cons_succ]
    · rw [if_neg h1]
      by_cases h2 : t = k
      · subst h2
        rw [PT.get_put_same, if_pos (by omega), Nat.sub_self]; rfl
      · rw [PT.get_put_ne _ _ _ _ (fun e => h2 (path_inj ht (by omega) e)), if_neg (by omega)]
theorem PT.get_nil {α : Type} (p : Abs.P) : (PT.nil : PT α).get p = none := rfl
theorem frame_rel {ρ : Ren} {args args' : List Value} {N : Nat} (h : LR ρ args args') (hl : args.length ≤ 4000) :
    FRel ρ N (frame args 0 .nil) { tmps := args'.toArray ++ Array.replicate (N - args'.toArray.size) undef, defers := [] } := by
  refine ⟨by simp; omega, fun t ht => ?_, rfl⟩
  rw [frame_get args 0 .nil t ht (by omega)]
  by_cases h1 : t < args.length
  · rw [if_pos (by omega), Nat.sub_zero]
    have h2 : t < args'.length := by rw [← h.1]; exact h1
    have := h.2 t _ _ (List.getElem?_eq_getElem h1) (List.getElem?_eq_getElem h2)
    rw [List.getElem?_eq_getElem h1]
    simpa [orU, Array.getElem?_append, h2] using this
  · rw [if_neg (by omega), PT.get_nil]
    exact .any _

section
variable {P : Program} {gl : Nat → Bool} {ex : FuncId → Option (List Value → Option Value)} {N : Nat}
theorem Ctx.same {ρ : Ren} {Y : Nat → Prop} {s s1 s' : St} {w : World} (c : Ctx gl ρ Y s s' w) (hh : s1.heap = s.heap) (hn : s1.next = s.next) : Ctx gl ρ Y s1 s' w := by
  have hg : ∀ x, s1.get x = s.get x := fun x => by unfold St.get; rw [hh]
  refine ⟨by rw [hn]; exact c.top, fun x hx => by rw [hn]; exact c.yok x hx, fun x hx => by rw [hn] at hx; exact c.foot x hx, fun x h1 h2 => by rw [hn] at h1; exact c.fresh x h1 h2, fun g h => by rw [hn]; exact c.glob g h,
    fun x hx => by rw [hn] at hx; rw [hg]; exact c.dead x hx, ⟨fun x b hx hb => by rw [hg] at hb; exact c.rel.blk x b hx hb, fun x y l m hx hy h1 h2 => by rw [hg] at h1 h2; exact c.rel.inj x y l m hx hy h1 h2⟩, c.wlow, c.groom⟩

def resM (tmps : Array Value) : ResultVar → Sem Value
  | .tmp t => pure (tmps.getD t undef)
  | .cell a t => do loadVar t (← asAddr (tmps.getD a undef))
theorem res1_ok {r : ResultVar} {ar : ARes} (hr : cRes P N r = some ar) {fs : Frm} {s s' : St} {v : Value} (h : res1 fs s ar = some (v, s')) :
    s'.heap = s.heap ∧ s'.next = s.next ∧ AStep s s' ∧ ∀ ρ Y w a, Ctx gl ρ Y s s' w → FRel ρ N fs a → ∃ v', (resM a.tmps r).run P w = .ok v' w ∧ VRel ρ v v' := by
  cases r with
  | tmp t =>
    change (if slotOk N t then some (ARes.tmp (path t)) else none) = some ar at hr
    split at hr
    · rename_i hs
      cases hr
      cases h
      exact ⟨rfl, rfl, AStep.refl _, fun ρ Y w a cx hf => ⟨_, rfl, hf.rel t (slot_lt hs).2⟩⟩
    · cases hr
  | cell a t =>
    change (if slotOk N a then match isAggT P t with
      | some true => (sizeT P t).map fun n => ARes.cell (path a) (some n)
      | some false => some (.cell (path a) none)
      | none => none
    else none) = some ar at hr
    split at hr
    · rename_i hs
      have ht := (slot_lt hs).2
      have hev : ∀ (fs : Frm), ev fs (.t (path a)) = orU (fs.get (path a)) := fun _ => rfl
      split at hr
      · rename_i hagg
        obtain ⟨n, hn, hr⟩ := Option.map_eq_some_iff.1 hr
        subst hr
        change oLoadN n (.t (path a)) (fun _ _ _ => none) fs s = some (v, s') at h
        unfold oLoadN at h
        split at h
        · rename_i p hb
          obtain ⟨c, s1, hc, h⟩ := opt2_k h
          cases h
          obtain ⟨blk, hg, hle, rfl, rfl⟩ := St.read_some hc
          refine ⟨by unfold St.seen; rw [force_eq], St.seen_next _ _, AStep.read hc, fun ρ Y w act cx hf => ?_⟩
          have hx := hf.rel a ht
          rw [← hev, hb] at hx
          obtain ⟨l, hsp, hl, hx⟩ := hx.ptr_inv
          have hY := cx.seen (St.getC_get hg) (.inl (seen_bit s p.block))
          obtain ⟨arr, hrun, hrel, _⟩ := run_cells (P := P) cx.rel hY hg hl hle
          refine ⟨.agg arr, ?_, by simpa using VRel.agg_of hrel⟩
          show (do loadVar t (← asAddr (act.tmps.getD a undef)) : Sem Value).run P w = _; rw [hx]
          simp [asAddr, loadVar, run_isAgg hagg, run_size hn, hrun]
        · cases h
      · rename_i hagg
        cases hr
        change oLoad1 (.t (path a)) (fun _ _ _ => none) fs s = some (v, s') at h
        unfold oLoad1 at h
        split at h
        · rename_i p hb
          obtain ⟨c, hc, h⟩ := opt_k h
          obtain ⟨r, hr, h⟩ := opt_k h
          cases h
          refine ⟨by unfold St.seen; rw [force_eq], St.seen_next _ _, AStep.seen _ _, fun ρ Y w act cx hf => ?_⟩
          have hx := hf.rel a ht
          rw [← hev, hb] at hx
          obtain ⟨l, hsp, hl, hx⟩ := hx.ptr_inv
          have hY := cx.seen (St.getC_get hc) (.inl (seen_bit s p.block))
          rw [nth_eq] at hr
          obtain ⟨v', hv, hrel, _⟩ := run_cell cx.rel hY hc hl hr
          refine ⟨v', ?_, hrel⟩
          show (do loadVar t (← asAddr (act.tmps.getD a undef)) : Sem Value).run P w = _; rw [hx]
          simp [asAddr, loadVar, run_isAgg hagg, hv]
        · cases h
      · cases hr
    · cases hr
theorem results_ok : ∀ (rl : List ResultVar) (al : List ARes) (fs : Frm) (s s' : St) (vs : List Value), rl.mapM (cRes P N) = some al → Abs.results fs al s = some (vs, s') →
    s'.heap = s.heap ∧ s'.next = s.next ∧ AStep s s' ∧ ∀ ρ Y w a, Ctx gl ρ Y s s' w → FRel ρ N fs a → ∃ vs', (rl.mapM (resM a.tmps)).run P w = .ok vs' w ∧ LR ρ vs vs'
  | [], al, fs, s, s', vs, hal, h => by
    simp only [List.mapM_nil, Option.pure_def, Option.some.injEq] at hal
    subst hal
    cases h
    exact ⟨rfl, rfl, AStep.refl _, fun ρ Y w a cx hf => ⟨[], rfl, LR.nil ρ⟩⟩
  | r :: rl, al, fs, s, s', vs, hal, h => by
    simp only [List.mapM_cons, Option.bind_eq_bind, Option.pure_def] at hal
    obtain ⟨ar, har, hal⟩ := Option.bind_eq_some_iff.1 hal
    obtain ⟨als, hals, hal⟩ := Option.bind_eq_some_iff.1 hal
    cases hal
    change opt2 (res1 fs s ar) (fun v s => opt2 (Abs.results fs als s) fun vs s => some (v :: vs, s)) = some (vs, s') at h
    obtain ⟨v, s1, h1, h⟩ := opt2_k h
    obtain ⟨vs1, s2, h2, h⟩ := opt2_k h
    cases h
    obtain ⟨hh, hn, st1, k1⟩ := res1_ok (gl := gl) har h1
    obtain ⟨hh2, hn2, st2, k2⟩ := results_ok rl als fs s1 _ vs1 hals h2
    refine ⟨hh2.trans hh, hn2.trans hn, st1.trans st2, fun ρ Y w a cx hf => ?_⟩
    obtain ⟨v', hv, hr⟩ := k1 ρ Y w a (cx.first st2) hf
    obtain ⟨vs', hvs, hrs⟩ := k2 ρ Y w a (cx.same hh hn) hf
    refine ⟨v' :: vs', ?_, LR.cons hr hrs⟩
    simp only [List.mapM_cons, Sem.run_bind, hv, Result.andThen_ok, hvs]
    rfl
theorem oneOf_rel {ρ : Ren} {vs : List Value} {vs' : Array Value} (h : LR ρ vs vs'.toList) : VRel ρ (oneOf vs) (if h : vs'.size = 1 then vs'[0] else .tuple vs') := by
  obtain ⟨l⟩ := vs'
  match vs, l, h with
  | [], [], h => simpa [oneOf] using VRel.tuple_of h
  | [v], [v'], h => simpa [oneOf] using h.2 0 v v' rfl rfl
  | a :: b :: vs, [], h => exact absurd h.1 (by simp)
  | a :: b :: vs, [c], h => exact absurd h.1 (by simp)
  | a :: b :: vs, c :: d :: vs', h => simpa [oneOf] using VRel.tuple_of h
  | [], c :: vs', h => exact absurd h.1 (by simp)
  | [v], [], h => exact absurd h.1 (by simp)
  | [v], c :: d :: vs', h => exact absurd h.1 (by simp)
theorem run_results {fn : Func} {tmps : Array Value} {w : World} {vs' : List Value} (h : (fn.results.toList.mapM (resM tmps)).run P w = .ok vs' w) :
    (Go.results fn tmps).run P w = .ok (if h : vs'.toArray.size = 1 then vs'.toArray[0] else .tuple vs'.toArray) w := by
  have e : (fn.results.mapM (resM tmps) : Sem (Array Value)) = List.toArray <$> fn.results.toList.mapM (resM tmps) := by
    rw [← List.mapM_toArray]
  have e2 : Go.results fn tmps = (do let vs ← fn.results.mapM (resM tmps); pure (if h : vs.size = 1 then vs[0] else .tuple vs)) := rfl
  rw [e2, e]
  simp only [map_eq_pure_bind, bind_assoc, pure_bind, Sem.run_bind, h, Result.andThen_ok]
  rfl

theorem callF_ok (hm : P.follows .mixedOrders = true) (hex : ∀ f g, ex f = some g → ExtOk P f g) {rec : Rec} (hrec : RecOk P gl rec) (n : Nat) {f : FuncId} {fn : Func} {afn : AFunc} (hf : P.funcs[f]? = some fn) (hc : cFunc P gl ex fn = some afn)
    {args : List Value} {s s' : St} {v : Value} (h : callF rec n afn args s = some (v, s')) (hso : SOk s) :
    FnOk P f ∧ AStep s s' ∧ ∀ ρ Y w (args' : List Value), Ctx gl ρ Y s s' w → LR ρ args args' →
      Calls P f args'.toArray w fun e w' => ∃ ρ' v', e = .returned v' ∧ VRel ρ' v v' ∧ Good ρ ρ' Y s s' w w' := by
  unfold cFunc at hc
  simp only [Option.bind_eq_bind, Option.pure_def] at hc
  obtain ⟨b, hb, hc⟩ := Option.bind_eq_some_iff.1 hc
  split at hc
  · cases hc
  · rename_i hnum
    obtain ⟨al, hal, hc⟩ := Option.bind_eq_some_iff.1 hc
    cases hc
    unfold callF at h
    rw [cond_none] at h
    obtain ⟨hlen, h⟩ := h
    simp only [Bool.not_eq_false', ble_eq', lenN_eq, decide_eq_true_eq] at hlen
    have hl4 : args.length ≤ 4000 := Nat.le_trans hlen (Nat.min_le_right _ _)
    obtain ⟨e, ⟨fs1, s1⟩, h1, h⟩ := opt2_k h
    obtain ⟨st1, k1⟩ := cCode_ok (N := fn.ntmps) hm hex hrec n b _ _ _ _ _ h1 hso
    have key : ∀ vs, Abs.results fs1 al s1 = some (vs, s') → v = oneOf vs → (exOf e = .normal ∨ exOf e = .ret) → FnOk P f ∧ AStep s s' ∧ ∀ ρ Y w (args' : List Value), Ctx gl ρ Y s s' w → LR ρ args args' →
        Calls P f args'.toArray w fun e w' => ∃ ρ' v', e = .returned v' ∧ VRel ρ' v v' ∧ Good ρ ρ' Y s s' w w' := by
      intro vs hres hv hex
      obtain ⟨hh, hn, st2, k2⟩ := results_ok (P := P) (gl := gl) (N := fn.ntmps) fn.results.toList al fs1 s1 s' vs hal hres
      refine ⟨⟨fn, hf, by rw [hb]; rfl, by simpa using hnum⟩, st1.trans st2, fun ρ Y w args' cx ha => calls_of_wp hf hb ?_⟩
      refine k1 ρ Y w _ (cx.first st2) (frame_rel ha hl4) _ fun ρ' a' w' g hf' => ?_
      have cx2 := cx.then st1 g
      obtain ⟨vs', hrun, hrel⟩ := k2 ρ' _ w' a' cx2 hf'
      have hpost : a'.defers = [] ∧ ∃ v, (Go.results fn a'.tmps).run P w' = .ok v w' ∧ ∃ ρ'' v', Ending.returned v = .returned v' ∧ VRel ρ'' (oneOf vs) v' ∧ Good ρ ρ'' Y s s' w w' :=
        ⟨hf'.defers, _, run_results hrun, ρ', _, rfl, oneOf_rel (by simpa using hrel), Good.trans cx st1 st2 g (Good.still g.rel hh hn rfl rfl rfl rfl)⟩
      subst hv
      rcases hex with hex | hex <;> rw [hex] <;> exact hpost
    cases e with
    | norm =>
      obtain ⟨vs, s2, h2, h⟩ := opt2_k h
      cases h
      exact key vs h2 rfl (.inl rfl)
    | ret =>
      obtain ⟨vs, s2, h2, h⟩ := opt2_k h
      cases h
      exact key vs h2 rfl (.inr rfl)
    | exit i => cases h

/-- every function of the table is the program's -/
def Env.Ok (P : Program) (gl : Nat → Bool) (ex : FuncId → Option (List Value → Option Value)) (E : Env) : Prop :=
  (∀ f c, E.fns.get f = some c → ∃ fn, P.funcs[f]? = some fn ∧ cFunc P gl ex fn = some c) ∧ RecOk P gl E.known
theorem callN_ok (hm : P.follows .mixedOrders = true) (hex : ∀ f g, ex f = some g → ExtOk P f g) {E : Env} (hE : E.Ok P gl ex) : ∀ n, RecOk P gl (callN E n) := by
  intro n
  induction n with
  | zero => exact fun f args s v s' h => by cases h
  | succ n ih =>
    intro f args s v s' h hso
    change call1 E (callN E n) n f args s = some (v, s') at h
    unfold call1 at h
    cases hk : E.known f args s with
    | some r =>
      rw [hk] at h
      have hk' : E.known f args s = some (v, s') := by rw [hk]; exact h
      exact hE.2 f args s v s' hk' hso
    | none =>
      rw [hk] at h
      obtain ⟨afn, h1, h2⟩ := opt_k h
      obtain ⟨fn, hf, hc⟩ := hE.1 f afn h1
      exact callF_ok hm hex ih n hf hc h2 hso
def noGl : Nat → Bool := fun _ => false
def st0 : St := ⟨.nil, 0, 0, 0⟩
end
end Go.Abs
