import Derived.Test.YtdnedangfnincaaAbsV
namespace Go.Abs
set_option linter.unusedVariables false
set_option linter.unusedSimpArgs false
/-! the two that carry -/
def u64Of (v : Value) : Option Nat := match v with
  | .int k n => match k with
    | .u64 => match n with
      | .ofNat m => some m
      | .negSucc _ => none
    | _ => none
  | _ => none
theorem u64Of_some {v : Value} {m : Nat} (h : u64Of v = some m) : v = .int .u64 (m : Int) := by
  unfold u64Of at h
  split at h
  · split at h
    · split at h
      · cases h; rfl
      · cases h
    · cases h
  · cases h
noncomputable def pair64 (a b : Nat) : Option Value := force a fun a => force b fun b => some (tupOf [.int .u64 (.ofNat a), .int .u64 (.ofNat b)])
theorem pair64_eq (a b : Nat) : pair64 a b = some (tupOf [.int .u64 (a : Int), .int .u64 (b : Int)]) := by unfold pair64; rw [force_eq, force_eq]; rfl
def args3 (l : List Value) (k : Value → Value → Value → Option Value) : Option Value := match l with
  | [a, b, c] => k a b c
  | _ => none
noncomputable def add64X (l : List Value) : Option Value := args3 l fun a b c => opt (u64Of a) fun x => opt (u64Of b) fun y => opt (u64Of c) fun z =>
  bif Nat.ble z 1 then pair64 (Nat.mod (x + y + z) 18446744073709551616) (Nat.div (x + y + z) 18446744073709551616) else none
noncomputable def sub64X (l : List Value) : Option Value := args3 l fun a b c => opt (u64Of a) fun x => opt (u64Of b) fun y => opt (u64Of c) fun z =>
  bif Nat.ble z 1 && Nat.blt y 18446744073709551616 then pair64 (Nat.mod (x + 18446744073709551616 - y - z) 18446744073709551616) (bif Nat.blt x (y + z) then 1 else 0) else none
theorem args3_some {l : List Value} {k : Value → Value → Value → Option Value} {v : Value} (h : args3 l k = some v) : ∃ a b c, l = [a, b, c] ∧ k a b c = some v := by
  unfold args3 at h
  split at h
  · exact ⟨_, _, _, rfl, h⟩
  · cases h
theorem LR.three {ρ : Ren} {k1 k2 k3 : IntKind} {x y z : Int} {l : List Value} (h : LR ρ [.int k1 x, .int k2 y, .int k3 z] l) : l = [.int k1 x, .int k2 y, .int k3 z] := by
  obtain ⟨a, l1, rfl, h1, h⟩ := h.cons_inv
  obtain ⟨b, l2, rfl, h2, h⟩ := h.cons_inv
  obtain ⟨c, l3, rfl, h3, h⟩ := h.cons_inv
  rw [h.nil_inv, h1.int_inv, h2.int_inv, h3.int_inv]
theorem pair_rel {ρ : Ren} (a b : Nat) : VRel ρ (tupOf [.int .u64 (a : Int), .int .u64 (b : Int)]) (.tuple #[.int .u64 (a : Int), .int .u64 (b : Int)]) :=
  VRel.tuple_of (LR.cons (.int _ _) (LR.cons (.int _ _) (LR.nil ρ)))
section
variable {P : Program} {f : FuncId}
theorem add64X_ok (h : ∀ (x y c : Int), 0 ≤ x → 0 ≤ y → 0 ≤ c → c ≤ 1 → ∀ w, (callFunc f #[.int .u64 x, .int .u64 y, .int .u64 c]).run P w =
    .ok (.value (.tuple #[.int .u64 ((x + y + c) % 18446744073709551616), .int .u64 ((x + y + c) / 18446744073709551616)])) w) : ExtOk P f add64X := by
  intro args v hg ρ args' w hl
  unfold add64X at hg
  obtain ⟨a, b, c, rfl, hg⟩ := args3_some hg
  obtain ⟨x, hx, hg⟩ := opt_k hg
  obtain ⟨y, hy, hg⟩ := opt_k hg
  obtain ⟨z, hz, hg⟩ := opt_k hg
  rw [cond_some, ble_eq', decide_eq_true_eq, pair64_eq] at hg
  obtain ⟨hz1, hg⟩ := hg
  cases hg
  rw [u64Of_some hx, u64Of_some hy, u64Of_some hz] at hl
  rw [hl.three]
  refine ⟨_, h x y z (Int.natCast_nonneg x) (Int.natCast_nonneg y) (Int.natCast_nonneg z) (by omega) w, ?_⟩
  have e1 : ((x : Int) + y + z) % 18446744073709551616 = ((Nat.mod (x + y + z) 18446744073709551616 : Nat) : Int) := by
    show _ = (((x + y + z) % 18446744073709551616 : Nat) : Int); omega
  have e2 : ((x : Int) + y + z) / 18446744073709551616 = ((Nat.div (x + y + z) 18446744073709551616 : Nat) : Int) := by
    show _ = (((x + y + z) / 18446744073709551616 : Nat) : Int); omega
  rw [e1, e2]
  exact pair_rel _ _
theorem sub64X_ok (h : ∀ (x y b : Int), 0 ≤ x → 0 ≤ y → y < 18446744073709551616 → 0 ≤ b → b ≤ 1 → ∀ w, (callFunc f #[.int .u64 x, .int .u64 y, .int .u64 b]).run P w =
    .ok (.value (.tuple #[.int .u64 ((x - y - b) % 18446744073709551616), .int .u64 (if x < y + b then 1 else 0)])) w) : ExtOk P f sub64X := by
  intro args v hg ρ args' w hl
  unfold sub64X at hg
  obtain ⟨a, b, c, rfl, hg⟩ := args3_some hg
  obtain ⟨x, hx, hg⟩ := opt_k hg
  obtain ⟨y, hy, hg⟩ := opt_k hg
  obtain ⟨z, hz, hg⟩ := opt_k hg
  rw [cond_some, Bool.and_eq_true, ble_eq', blt_eq', decide_eq_true_eq, decide_eq_true_eq, pair64_eq] at hg
  obtain ⟨⟨hz1, hy1⟩, hg⟩ := hg
  cases hg
  rw [u64Of_some hx, u64Of_some hy, u64Of_some hz] at hl
  rw [hl.three]
  refine ⟨_, h x y z (Int.natCast_nonneg x) (Int.natCast_nonneg y) (by omega) (Int.natCast_nonneg z) (by omega) w, ?_⟩
  have e1 : ((x : Int) - y - z) % 18446744073709551616 = ((Nat.mod (x + 18446744073709551616 - y - z) 18446744073709551616 : Nat) : Int) := by
    show _ = (((x + 18446744073709551616 - y - z) % 18446744073709551616 : Nat) : Int); omega
  have e2 : (if (x : Int) < y + z then (1 : Int) else 0) = ((bif Nat.blt x (y + z) then 1 else 0 : Nat) : Int) := by
    rw [blt_eq']
    by_cases hlt : x < y + z
    · rw [if_pos (by omega)]; simp [hlt]
    · rw [if_neg (by omega)]; simp [hlt]
  rw [e1, e2]
  exact pair_rel _ _
end
theorem ex_cons {P : Program} {i : FuncId} {g0 : List Value → Option Value} {rest : FuncId → Option (List Value → Option Value)} (h : ExtOk P i g0) (hr : ∀ f g, rest f = some g → ExtOk P f g) :
    ∀ f g, (bif Nat.beq f i then some g0 else rest f) = some g → ExtOk P f g := by
  intro f g hg
  rw [beq_eq'] at hg
  by_cases hf : f = i
  · subst hf
    simp only [decide_true, cond_true] at hg
    cases hg
    exact h
  · simp only [hf, decide_false, cond_false] at hg
    exact hr f g hg

/-! a call with plain values -/
theorem LR.gnd {ρ : Ren} : ∀ {l : List Value}, l.all gnd = true → LR ρ l l
  | [], _ => LR.nil ρ
  | v :: l, h => by
    simp only [List.all_cons, Bool.and_eq_true] at h
    exact LR.cons (gnd_rel h.1) (LR.gnd h.2)
end Go.Abs
