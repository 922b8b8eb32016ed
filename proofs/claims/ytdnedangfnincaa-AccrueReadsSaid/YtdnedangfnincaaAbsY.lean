import Derived.Test.YtdnedangfnincaaAbsX
import Derived.Lib.Repeat
namespace Go.Abs
set_option linter.unusedVariables false
set_option linter.unusedSimpArgs false
/-! functions that are told by a contract: what they made is forgotten -/
theorem Good.below {ρ : Ren} {Y : Nat → Prop} {s : St} {w w' : World} (h : HRel ρ Y s w) (hb : RowKit.Below w.heap.size w w') : Good ρ ρ Y s s w w' where
  ext := fun _ _ => rfl
  dom := fun x h1 h2 => by omega
  rel := by
    refine ⟨fun x b hx hs => ?_, fun x y l m hx hy h1 h2 => ?_⟩
    · have hx' : Y x := hx.resolve_right (by omega)
      obtain ⟨l, hl, hbr⟩ := h.blk x b hx' hs
      exact ⟨l, hl, hbr.mono (fun _ _ k => k) (hb.block _ (h.lt hx' hs hl))⟩
    · exact h.inj x y l m (hx.resolve_right (by omega)) (hy.resolve_right (by omega)) h1 h2
  size := hb.size
  old := fun k hk _ => hb.block k hk
  fresh := fun x l h1 h2 => by omega
  bound := fun x l h1 h2 => by omega
  os := hb.os
  tape := hb.tape
  output := hb.output
def strOf (v : Value) : Option (List UInt8) := match v with | .string b => some b.data.toList | _ => none
theorem strOf_some {v : Value} {l : List UInt8} (h : strOf v = some l) : ∃ b : ByteArray, v = .string b ∧ b.data.toList = l := by
  unfold strOf at h
  split at h
  · cases h; exact ⟨_, rfl, rfl⟩
  · cases h
def i64Of (v : Value) : Option Nat := match v with
  | .int k n => match k with
    | .i64 => match n with
      | .ofNat m => some m
      | .negSucc _ => none
    | _ => none
  | _ => none
theorem i64Of_some {v : Value} {m : Nat} (h : i64Of v = some m) : v = .int .i64 (m : Int) := by
  unfold i64Of at h
  split at h
  · split at h
    · split at h
      · cases h; rfl
      · cases h
    · cases h
  · cases h
def args2 {α : Type} (l : List Value) (k : Value → Value → Option α) : Option α := match l with
  | [a, b] => k a b
  | _ => none
theorem args2_some {α : Type} {l : List Value} {k : Value → Value → Option α} {v : α} (h : args2 l k = some v) : ∃ a b, l = [a, b] ∧ k a b = some v := by
  unfold args2 at h
  split at h
  · exact ⟨_, _, rfl, h⟩
  · cases h
/-- strings.Repeat, by its contract -/
noncomputable def repeatK (f0 : FuncId) (rest : FuncId → List Value → St → Option (Value × St)) : FuncId → List Value → St → Option (Value × St) := fun f args s =>
  bif Nat.beq f f0 then args2 args fun a b => opt (strOf a) fun l => opt (i64Of b) fun c =>
    bif Nat.ble (lenN l * c) 140737488355328 && Nat.ble c 9223372036854775807 then some (.string ⟨⟨rep c l⟩⟩, s) else none
  else rest f args s
theorem rep_eq (l : List UInt8) : ∀ c, rep c l = Lib.repeatL l c
  | 0 => rfl
  | c + 1 => by rw [rep_succ, rep_eq l c]; rfl
theorem repeatK_ok {P : Program} {gl : Nat → Bool} {f0 : FuncId} {rest : FuncId → List Value → St → Option (Value × St)} (hf : FnOk P f0) (hr : RecOk P gl rest)
    (h : ∀ (s : ByteArray) (c : Nat) (w : World), c ≤ 9223372036854775807 → s.size * c ≤ 140737488355328 →
      Calls P f0 #[.string s, .int .i64 c] w fun e w' => e = .returned (.string ⟨(Lib.repeatL s.data.toList c).toArray⟩) ∧ RowKit.Below w.heap.size w w') : RecOk P gl (repeatK f0 rest) := by
  intro f args s v s' hk hso
  unfold repeatK at hk
  rw [beq_eq'] at hk
  by_cases hff : f = f0
  · subst hff
    simp only [decide_true, cond_true] at hk
    obtain ⟨a, b, rfl, hk⟩ := args2_some hk
    obtain ⟨l, hl, hk⟩ := opt_k hk
    obtain ⟨c, hc, hk⟩ := opt_k hk
    rw [cond_some, Bool.and_eq_true, ble_eq', ble_eq', decide_eq_true_eq, decide_eq_true_eq, lenN_eq] at hk
    obtain ⟨⟨h1, h2⟩, hk⟩ := hk
    cases hk
    obtain ⟨bs, rfl, rfl⟩ := strOf_some hl
    obtain rfl := i64Of_some hc
    refine ⟨hf, AStep.refl _, fun ρ Y w args' cx ha => ?_⟩
    obtain ⟨x, l1, rfl, hx, ha⟩ := ha.cons_inv
    obtain ⟨y, l2, rfl, hy, ha⟩ := ha.cons_inv
    obtain rfl := ha.nil_inv
    obtain rfl := hx.string_inv
    obtain rfl := hy.int_inv
    refine (h bs c w h2 (by have e : bs.size = bs.data.toList.length := (Array.length_toList).symm; rw [e]; exact h1)).mono fun e w' ⟨he, hb⟩ => ?_
    refine ⟨ρ, _, he, ?_, Good.below cx.rel hb⟩
    have e2 : (⟨⟨rep c bs.data.toList⟩⟩ : ByteArray) = ⟨(Lib.repeatL bs.data.toList c).toArray⟩ := by rw [rep_eq]
    rw [e2]
    exact .string _
  · simp only [hff, decide_false, cond_false] at hk
    exact hr f args s v s' hk hso
/-- maps.Clone, by its contract -/
noncomputable def cloneK (f0 : FuncId) (rest : FuncId → List Value → St → Option (Value × St)) : FuncId → List Value → St → Option (Value × St) := fun f args s =>
  bif Nat.beq f f0 then (match args with
    | [v] => (match v with
      | .map r => (match r with
        | none => some (.map none, s)
        | some b => opt (s.mapOf b) fun p => opt2 ((s.seen b).alloc (mapB p.1 p.2)) fun n s => some (.map (some n), s))
      | _ => none)
    | _ => none)
  else rest f args s
theorem cloneK_ok {P : Program} {gl : Nat → Bool} {f0 : FuncId} {rest : FuncId → List Value → St → Option (Value × St)} (hf : FnOk P f0) (hr : RecOk P gl rest)
    (h : ∀ (b : Nat) (es : Array MapEntry) (clock : Nat) (w : World), w.heap[b]? = some (.map es clock) →
      Calls P f0 #[.map (some b)] w fun e w' => e = .returned (.map (some w.heap.size)) ∧ w' = w.alloc (.map es clock))
    (h0 : ∀ w, Calls P f0 #[.map none] w fun e w' => e = .returned (.map none) ∧ w' = w) : RecOk P gl (cloneK f0 rest) := by
  intro f args s v s' hk hso
  unfold cloneK at hk
  rw [beq_eq'] at hk
  by_cases hff : f = f0
  · subst hff
    simp only [decide_true, cond_true] at hk
    split at hk
    · split at hk
      · split at hk
        · cases hk
          refine ⟨hf, AStep.refl _, fun ρ Y w args' cx ha => ?_⟩
          obtain ⟨x, l1, rfl, hx, ha⟩ := ha.cons_inv
          obtain rfl := ha.nil_inv
          obtain rfl := hx.mapNil_inv
          exact (h0 w).mono fun e w' ⟨he, hw⟩ => by subst hw; exact ⟨ρ, _, he, .mapNil, Good.refl cx.rel⟩
        · rename_i b
          obtain ⟨⟨c, vs⟩, hm, hk⟩ := opt_k hk
          obtain ⟨n, s1, ha0, hk⟩ := opt2_k hk
          cases hk
          obtain ⟨blk, hb⟩ := mapOf_blk hm
          have hst := AStep.alloc ha0
          obtain ⟨hn, _, hnx, _⟩ := St.alloc_some ha0
          subst hn
          refine ⟨hf, (AStep.seen s b).trans hst, fun ρ Y w args' cx ha => ?_⟩
          obtain ⟨x, l1, rfl, hx, ha⟩ := ha.cons_inv
          obtain rfl := ha.nil_inv
          obtain ⟨l, hl, hlr, rfl⟩ := hx.map_inv
          have hY : Y b := cx.seen hb (.inl (hst.rd _ (seen_bit s b)))
          obtain ⟨es, hw, hg, hlen, her⟩ := map_at cx.rel hY hm hl hlr
          refine (h l.blk es c w hw).mono fun e w' ⟨he, hw'⟩ => ?_
          subst hw'
          have cx1 : Ctx gl ρ Y (s.seen b) s' w := cx.of_same (seen_heap s b) (St.seen_next s b)
          have good : Good ρ (ρ.upd (s.seen b).next ⟨w.heap.size, 1, 0⟩) Y (s.seen b) s' w (w.alloc (.map es c)) :=
            Good.allocB cx1.yok (cx1.new (by omega)) cx1.rel ha0 (fun k hk => (MapKept.heap_alloc w _).2 k hk)
              (.inr ⟨Nat.lt_succ_self 0, es, c, vs, (MapKept.heap_alloc w _).1, rfl, hlen, fun i v e h1 h2 => by
                obtain ⟨x, h3, h4, h5⟩ := her i v e h1 h2
                exact ⟨x, h3, h4, h5.mono (Ren.upd_le (cx1.new (by omega)))⟩⟩) (by simp [World.alloc, -World.alloc_eq]) rfl rfl rfl
          exact ⟨_, _, he, VRel.map (l := ⟨w.heap.size, 1, 0⟩) (by simp [Ren.upd]) (Nat.lt_succ_self 0), good.of_same (seen_heap s b) (St.seen_next s b)⟩
      · cases hk
    · cases hk
  · simp only [hff, decide_false, cond_false] at hk
    exact hr f args s v s' hk hso
end Go.Abs
