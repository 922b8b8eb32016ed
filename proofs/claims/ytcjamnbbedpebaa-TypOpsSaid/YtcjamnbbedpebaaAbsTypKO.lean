import Derived.Test.YtcjamnbbedpebaaAbsTypKE
import Derived.Test.YtcjamnbbedpebaaAbsY
namespace Go.Proofs.Ytcjamnbbedpebaa.AbsTypK
open Go Go.Abs Go.Proofs
set_option maxRecDepth 1000000
set_option linter.unusedVariables false
noncomputable section
/-- a closed call that is true, told -/
def trueK (f0 : FuncId) (rest : FuncId → List Value → St → Option (Value × St)) : FuncId → List Value → St → Option (Value × St) := fun f args s =>
  bif Nat.beq f f0 then (match args with
    | [] => some (.bool true, s)
    | _ => none)
  else rest f args s
theorem trueK_ok {P : Program} {gl : Nat → Bool} {f0 : FuncId} {rest : FuncId → List Value → St → Option (Value × St)} (hf : FnOk P f0) (hr : RecOk P gl rest)
    (h : ∀ w, Calls P f0 #[] w fun e w' => e = .returned (.bool true) ∧ RowKit.Below w.heap.size w w') : RecOk P gl (trueK f0 rest) := by
  intro f args s v s' hk hso
  unfold trueK at hk
  rw [beq_eq'] at hk
  by_cases hff : f = f0
  · subst hff
    simp only [decide_true, cond_true] at hk
    split at hk
    · cases hk
      refine ⟨hf, AStep.refl _, fun ρ Y w args' cx ha => ?_⟩
      obtain rfl := ha.nil_inv
      exact (h w).mono fun e w' ⟨he, hb⟩ => ⟨ρ, _, he, .bool _, Good.below cx.rel hb⟩
    · cases hk
  · simp only [hff, decide_false, cond_false] at hk
    exact hr f args s v s' hk hso
/-- a function of a text that is told of some texts -/
def findB (l : List UInt8) (ws : List (List UInt8 × Bool)) : Option Bool := List.rec none (fun w _ ih => bif eqBytes w.1 l then some w.2 else ih) ws
def memoK (f0 : FuncId) (ws : List (List UInt8 × Bool)) (rest : FuncId → List Value → St → Option (Value × St)) : FuncId → List Value → St → Option (Value × St) := fun f args s =>
  bif Nat.beq f f0 then (match args with
    | [a] => opt (strOf a) fun l => opt (findB l ws) fun b => some (.bool b, s)
    | _ => none)
  else rest f args s
theorem findB_mem {l : List UInt8} : ∀ {ws : List (List UInt8 × Bool)} {b : Bool}, findB l ws = some b → (l, b) ∈ ws
  | [], b, h => by cases h
  | w :: ws, b, h => by
    change (bif eqBytes w.1 l then some w.2 else findB l ws) = some b at h
    rw [eqBytes_eq] at h
    by_cases e : w.1 = l
    · simp only [e, decide_true, cond_true] at h
      cases h
      subst e
      exact List.mem_cons_self
    · simp only [e, decide_false, cond_false] at h
      exact List.mem_cons_of_mem _ (findB_mem h)
theorem memoK_ok {P : Program} {gl : Nat → Bool} {f0 : FuncId} {ws : List (List UInt8 × Bool)} {rest : FuncId → List Value → St → Option (Value × St)} (hf : FnOk P f0) (hr : RecOk P gl rest)
    (h : ∀ l b, (l, b) ∈ ws → ∀ w, Calls P f0 #[.string ⟨⟨l⟩⟩] w fun e w' => e = .returned (.bool b) ∧ RowKit.Below w.heap.size w w') : RecOk P gl (memoK f0 ws rest) := by
  intro f args s v s' hk hso
  unfold memoK at hk
  rw [beq_eq'] at hk
  by_cases hff : f = f0
  · subst hff
    simp only [decide_true, cond_true] at hk
    split at hk
    · obtain ⟨l, hl, hk⟩ := opt_k hk
      obtain ⟨b, hb, hk⟩ := opt_k hk
      cases hk
      obtain ⟨bs, rfl, rfl⟩ := strOf_some hl
      refine ⟨hf, AStep.refl _, fun ρ Y w args' cx ha => ?_⟩
      obtain ⟨x, l1, rfl, hx, ha⟩ := ha.cons_inv
      obtain rfl := ha.nil_inv
      obtain rfl := hx.string_inv
      exact (h _ _ (findB_mem hb) w).mono fun e w' ⟨he, hb⟩ => ⟨ρ, _, he, .bool _, Good.below cx.rel hb⟩
    · cases hk
  · simp only [hff, decide_false, cond_false] at hk
    exact hr f args s v s' hk hso
/-- a closed call that answers so -/
def isB (b : Bool) (o : Option (Value × St)) : Bool := Option.rec false (fun p => Prod.rec (fun v _ => match v with | .bool c => Bool.rec (Bool.rec true false c) c b | _ => false) p) o
theorem isB_spec {b : Bool} {o : Option (Value × St)} (h : isB b o = true) : ∃ s', o = some (.bool b, s') := by
  cases o with
  | none => cases h
  | some p =>
    obtain ⟨v, s'⟩ := p
    cases v with
    | bool c =>
      refine ⟨s', ?_⟩
      cases b <;> cases c <;> first | rfl | cases h
    | _ => cases h
theorem args_bool {P : Program} {ex : FuncId → Option (List Value → Option Value)} (hm : P.follows .mixedOrders = true) (hex : ∀ f g, ex f = some g → ExtOk P f g) {E : Env} (hE : E.Ok P noGl ex) {n : Nat} {f : FuncId} {b : Bool}
    {args : List Value} (ha : args.all gnd = true) (h : isB b (callN E n f args st0) = true) (w : World) : Calls P f args.toArray w fun e w' => e = .returned (.bool b) ∧ RowKit.Below w.heap.size w w' := by
  obtain ⟨s', hs⟩ := isB_spec h
  obtain ⟨_, _, k⟩ := callN_ok hm hex hE n f args st0 _ s' hs ⟨Nat.zero_le _, fun x _ => T.get_nil x⟩
  have cx : Ctx noGl (fun _ => none) (fun _ => False) st0 s' w :=
    ⟨Nat.zero_le _, fun x hx => hx.elim, fun x hx => absurd hx (Nat.not_lt_zero _), fun _ _ _ => rfl, fun g hg => (by cases hg), fun x _ => T.get_nil x, ⟨fun x b hx => hx.elim, fun x y l m hx => hx.elim⟩⟩
  refine (k _ _ w args cx (LR.gnd ha)).mono fun e w' he => ?_
  obtain ⟨ρ', v', rfl, hv, g⟩ := he
  rw [hv.bool_inv]
  exact ⟨rfl, g.os, g.tape, g.output, g.size, fun k hk => g.old k hk fun x l hx => hx.elim⟩
def E0 : Env := ⟨fns, noKnown⟩
theorem awake_run : isTrue (callN E0 100000 8 [] st0) = true := by kernel_rfl
theorem awake_ok (w : World) : Calls Try.prog 8 #[] w fun e w' => e = .returned (.bool true) ∧ RowKit.Below w.heap.size w w' :=
  closed_true mixed exOk ⟨fnsOk, noKnown_ok⟩ awake_run w
def wordsB : List (List UInt8 × Bool) := [([120], false), ([121], false), ([114], false), ([105, 110, 112, 117, 116], true), ([114, 117, 108, 101], true), ([98, 111, 111, 108], true), ([99, 111, 117, 110, 116], true), ([109, 111, 110, 101, 121], true), ([114, 97, 116, 101], true), ([100, 97, 116, 101], true), ([109, 111, 110, 101, 121, 115], true), ([97, 110, 100], true), ([111, 114], true), ([109, 105, 110], true), ([109, 97, 120], true)]
def keptB (p : List UInt8 × Bool) : Bool := isB p.2 (callN E0 1000 32 [.string ⟨⟨p.1⟩⟩] st0)
theorem words_run : wordsB.all keptB = true := by kernel_rfl
theorem words_ok (l : List UInt8) (b : Bool) (h : (l, b) ∈ wordsB) (w : World) : Calls Try.prog 32 #[.string ⟨⟨l⟩⟩] w fun e w' => e = .returned (.bool b) ∧ RowKit.Below w.heap.size w w' :=
  args_bool (args := [.string ⟨⟨l⟩⟩]) mixed exOk ⟨fnsOk, noKnown_ok⟩ rfl (List.all_eq_true.1 words_run (l, b) h) w
def E : Env := ⟨fns, memoK 32 wordsB (trueK 8 noKnown)⟩
theorem known : RecOk Try.prog gl (memoK 32 wordsB (trueK 8 noKnown)) :=
  memoK_ok ⟨_, Try.func32, by kernel_rfl, by kernel_rfl⟩ (trueK_ok ⟨_, Try.func8, by kernel_rfl, by kernel_rfl⟩ noKnown_ok awake_ok) words_ok
end
end Go.Proofs.Ytcjamnbbedpebaa.AbsTypK
