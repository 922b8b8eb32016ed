import Derived.Test.YtcjamnbbedpebaaAbsTypKO
import Derived.Test.YtcjamnbbedpebaaNameW
namespace Go.Proofs.Ytcjamnbbedpebaa.AbsTypK
open Go Go.Abs Go.Proofs
set_option maxRecDepth 1000000
set_option linter.unusedVariables false
noncomputable section
/-! a name that is the one name of a sum: told by its contract -/
def ptrOf (v : Value) : Option Addr := match v with
  | .pointer p => p
  | _ => none
theorem ptrOf_some {v : Value} {p : Addr} (h : ptrOf v = some p) : v = .pointer (some p) := by
  unfold ptrOf at h
  split at h
  · rw [h]
  · cases h
def sl1 (v : Value) : Option Addr := match v with
  | .slice b n _ => (match n with
    | 1 => b
    | _ => none)
  | _ => none
theorem sl1_some {v : Value} {p : Addr} (h : sl1 v = some p) : ∃ c, v = .slice (some p) 1 c := by
  unfold sl1 at h
  split at h
  · split at h
    · rw [h]; exact ⟨_, rfl⟩
    · cases h
  · cases h
def i64I (v : Value) : Option Int := match v with
  | .int k n => (match k with
    | .i64 => some n
    | _ => none)
  | _ => none
theorem i64I_some {v : Value} {n : Int} (h : i64I v = some n) : v = .int .i64 n := by
  unfold i64I at h
  split at h
  · split at h
    · cases h; rfl
    · cases h
  · cases h
def nameK (f0 : FuncId) (rest : FuncId → List Value → St → Option (Value × St)) : FuncId → List Value → St → Option (Value × St) := fun f args s =>
  bif Nat.beq f f0 then args2 args fun a b => opt (ptrOf a) fun p => opt (strOf b) fun nm =>
    opt (s.getC p.block) fun blk => opt (nth blk (p.off + 6)) fun w => opt (sl1 w) fun q =>
    opt ((s.seen p.block).getC q.block) fun fld => opt (nth fld q.off) fun x => opt (strOf x) fun nm' => opt (nth fld (q.off + 1)) fun y => opt (i64I y) fun k =>
    bif eqBytes nm nm' then some (.int .i64 k, (s.seen p.block).seen q.block) else none
  else rest f args s
theorem getC_seen (s : St) (x y : Nat) : (s.seen x).getC y = s.getC y := by
  unfold St.seen
  rw [force_eq]
  rfl
theorem nameK_ok {rest : FuncId → List Value → St → Option (Value × St)} (hr : RecOk Try.prog gl rest) : RecOk Try.prog gl (nameK 61 rest) := by
  intro f args s v s' hk hso
  unfold nameK at hk
  rw [beq_eq'] at hk
  by_cases hff : f = 61
  · subst hff
    simp only [decide_true, cond_true] at hk
    obtain ⟨a, b, rfl, hk⟩ := args2_some hk
    obtain ⟨p, hp, hk⟩ := opt_k hk
    obtain ⟨nm, hnm, hk⟩ := opt_k hk
    obtain ⟨blk, hblk, hk⟩ := opt_k hk
    obtain ⟨x6, h6, hk⟩ := opt_k hk
    obtain ⟨q, hq, hk⟩ := opt_k hk
    obtain ⟨fld, hfld, hk⟩ := opt_k hk
    obtain ⟨x0, h0, hk⟩ := opt_k hk
    obtain ⟨nm', hnm', hk⟩ := opt_k hk
    obtain ⟨x1, h1, hk⟩ := opt_k hk
    obtain ⟨k, hkk, hk⟩ := opt_k hk
    rw [eqBytes_eq] at hk
    by_cases hnn : nm = nm'
    · simp only [hnn, decide_true, cond_true] at hk
      cases hk
      subst hnn
      obtain rfl := ptrOf_some hp
      obtain ⟨bs, rfl, rfl⟩ := strOf_some hnm
      obtain ⟨c, rfl⟩ := sl1_some hq
      obtain ⟨bs', rfl, hb'⟩ := strOf_some hnm'
      obtain rfl := i64I_some hkk
      obtain rfl : bs' = bs := by
        obtain ⟨⟨l⟩⟩ := bs
        obtain ⟨⟨m⟩⟩ := bs'
        have e : m = l := hb'
        rw [e]
      rw [getC_seen] at hfld
      rw [nth_eq] at h6 h0 h1
      have st1 := AStep.seen s p.block
      have st2 := AStep.seen (s.seen p.block) q.block
      refine ⟨⟨_, Try.func61, by kernel_rfl, by kernel_rfl⟩, st1.trans st2, fun ρ Y w args' cx ha => ?_⟩
      obtain ⟨x, l1, rfl, hx, ha⟩ := ha.cons_inv
      obtain ⟨y, l2, rfl, hy, ha⟩ := ha.cons_inv
      obtain rfl := ha.nil_inv
      obtain rfl := hy.string_inv
      obtain ⟨l, hsp, hl, rfl⟩ := hx.ptr_inv
      have hYp : Y p.block := cx.seen (St.getC_get hblk) (.inl (st2.rd _ (seen_bit s p.block)))
      have hYq : Y q.block := cx.seen (St.getC_get hfld) (.inl (seen_bit (s.seen p.block) q.block))
      obtain ⟨v6, hc6, hrel6, _⟩ := run_cell cx.rel hYp hblk hl h6
      cases hrel6 with
      | @slice qb qo _ _ c' lq hlq hn hm hcc =>
        obtain ⟨v0, hc0, hrel0, _⟩ := run_cell cx.rel hYq hfld hlq h0
        obtain ⟨v1, hc1, hrel1, _⟩ := run_cell cx.rel hYq hfld hlq h1
        obtain rfl := hrel0.string_inv
        obtain rfl := hrel1.int_inv
        have hlt := cx.rel.lt hYq (St.getC_get hfld) hlq
        have hcall : Calls Try.prog 61 #[.pointer (some ⟨l.blk, l.base + p.off, none⟩), .string bs'] w fun e w' => e = .returned (.int .i64 k) ∧ RowKit.Below w.heap.size w w' :=
          (callsIn_wide (n := 3)).1 (NameW.name_in Fence.wide 3 trivial trivial trivial rfl (Nat.le_refl _) l.blk (l.base + p.off) lq.blk (lq.base + qo) c' bs' k w
            (by rw [Nat.add_assoc]; exact hc6) hc0 (by rw [Nat.add_assoc]; exact hc1) hlt)
        refine hcall.mono fun e w' ⟨he, hb⟩ => ⟨ρ, _, he, .int _ _, ?_⟩
        refine Good.of_same (s1 := (s.seen p.block).seen qb) ?_ ?_ (Good.below ?_ hb)
        · rw [seen_heap, seen_heap]
        · rw [St.seen_next, St.seen_next]
        · exact cx.rel.of_same (by rw [seen_heap, seen_heap])
    · simp only [hnn, decide_false, cond_false] at hk
      cases hk
  · simp only [hff, decide_false, cond_false] at hk
    exact hr f args s v s' hk hso
def EN : Env := ⟨fns, nameK 61 (trueK 8 noKnown)⟩
theorem knownN : RecOk Try.prog gl (nameK 61 (trueK 8 noKnown)) := nameK_ok (trueK_ok ⟨_, Try.func8, by kernel_rfl, by kernel_rfl⟩ noKnown_ok awake_ok)
theorem typKnown_run : isTrue (callN EN 100000 3 [] st0) = true := by kernel_rfl
theorem law (w : World) : Calls Try.prog 3 #[] w fun e w' => e = .returned (.bool true) ∧ RowKit.Below w.heap.size w w' :=
  closed_true (E := EN) mixed exOk ⟨fnsOk, knownN⟩ typKnown_run w
end
end Go.Proofs.Ytcjamnbbedpebaa.AbsTypK
