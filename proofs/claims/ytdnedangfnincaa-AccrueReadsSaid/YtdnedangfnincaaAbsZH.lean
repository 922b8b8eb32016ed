import Derived.Test.YtdnedangfnincaaAbsZF
namespace Go.Abs
set_option linter.unusedVariables false
set_option linter.unusedSimpArgs false
/-! memory, at a state of which little is known -/
theorem seen_getC (s : St) (x y : Nat) : (s.seen x).getC y = s.getC y := by unfold St.getC; rw [St.seen_get]
theorem set_getC (s : St) (x y : Nat) (c : Blk) (h8 : 8 ≤ x) (hx : x + 1 < 2 ^ 40) (hm : isMapB c = false) : (s.set x (some c)).getC y = if y = x then some c else s.getC y := by
  unfold St.getC
  rw [St.get_set s x y _ hx]
  by_cases h : y = x
  · simp only [h, h8, if_true]; rw [op_s, hm]; rfl
  · simp only [h, if_false]
/-- new memory -/
theorem alloc_e (s : St) (c : Blk) (h : s.next ≤ lim) (hm : isMapB c = false) : ∃ s', s.alloc c = some (s.next, s') ∧ s'.next = s.next + 1 ∧ s'.getC s.next = some c ∧ ∀ y, y ≠ s.next → s'.getC y = s.getC y := by
  have ha : ∃ s', s.alloc c = some (s.next, s') := by
    unfold St.alloc
    rw [forceL_eq, ble_eq', decide_eq_true h, cond_true, force_eq, force_eq]
    exact ⟨_, rfl⟩
  obtain ⟨s', ha⟩ := ha
  refine ⟨s', ha, (St.alloc_some ha).2.2.1, ?_, fun y hy => ?_⟩
  · unfold St.getC
    rw [St.alloc_get ha]
    simp only [if_true, op_s]
    rw [hm]; rfl
  · unfold St.getC
    rw [St.alloc_get ha]
    simp only [hy, if_false]
theorem lenL_e (a : Option Addr) (n c : Nat) (rec : Rec) (fs : Frm) (s : St) : oLenL (.v (.slice a n c)) rec fs s = some (.int .i64 (n : Int), s) := nrfl rfl
theorem nilCheck_e (p : Addr) (rec : Rec) (fs : Frm) (s : St) : oNilCheck (.v (.pointer (some p))) rec fs s = some (.pointer (some p), s) := nrfl rfl
theorem fieldAddr_e (b o k : Nat) (rec : Rec) (fs : Frm) (s : St) : oFieldAddr k (.v (.pointer (some ⟨b, o, none⟩))) rec fs s = some (.pointer (some ⟨b, o + k, none⟩), s) := by
  show some (Value.pointer (some (addA ⟨b, o, none⟩ k)), s) = _
  unfold addA; rw [force_eq]
theorem idxL_e (es b o n c i : Nat) (rec : Rec) (fs : Frm) (s : St) (h : i < n) : oIdxAddrL es (.v (.slice (some ⟨b, o, none⟩) n c)) (.v (.int .i64 (i : Int))) rec fs s = some (.pointer (some ⟨b, o + i * es, none⟩), s) := by
  show (opt (bif Nat.blt i n then force i some else none) fun i => some (Value.pointer (some (addA ⟨b, o, none⟩ (i * es))), s)) = _
  rw [blt_eq', decide_eq_true h, cond_true, force_eq, op_s]
  unfold addA
  rw [force_eq]
theorem load1_e (b i : Nat) (c : Blk) (v : Value) (rec : Rec) (fs : Frm) (s : St) (h : s.getC b = some c) (hv : nth c i = some v) : oLoad1 (.v (.pointer (some ⟨b, i, none⟩))) rec fs s = some (v, s.seen b) := by
  show (opt (s.getC b) fun c => opt (nth c i) fun v => some (v, s.seen b)) = _
  rw [h, op_s, hv, op_s]
theorem box1_e (v : Value) (rec : Rec) (fs : Frm) (s s' : St) (hc : cellsOf v = [v]) (h : s.alloc [v] = some (s.next, s')) : oBox (.v v) rec fs s = some (.pointer (some ⟨s.next, 0, none⟩), s') := by
  show (bif Nat.beq (lenN (cellsOf v)) 0 then none else opt2 (s.alloc (cellsOf v)) fun b s => some (Value.pointer (some ⟨b, 0, none⟩), s)) = _
  rw [hc, h]; rfl
/-- one cell stored -/
theorem store1_e (b i : Nat) (c : Blk) (v : Value) (rec : Rec) (fs : Frm) (s : St) (hc : cellsOf v = [v]) (h : s.getC b = some c) (hi : i < c.length) : oStore 1 (.v (.pointer (some ⟨b, i, none⟩))) (.v v) rec fs s = some (UV, s.set b (some (c.set i v))) := by
  show (bif Nat.beq (lenN (cellsOf v)) 1 then opt (s.write b i (cellsOf v)) fun s => some (UV, s) else none) = _
  rw [hc]
  show (opt (s.write b i [v]) fun s => some (UV, s)) = _
  unfold St.write
  rw [h, op_s, ble_eq', lenN_eq, lenN_eq, decide_eq_true (show i + [v].length ≤ c.length by simp; omega), cond_true, forceL_eq, op_s, app_eq, app_eq, takeN_eq, dropN_eq]
  congr 4
  rw [List.set_eq_take_append_cons_drop]
  simp [hi]
/-! a region's steps -/
theorem lor_0 (x : Nat) : Nat.lor x 0 = x := Nat.or_zero x
theorem rU_p (v : Value) (fs : Frm) (s : St) : rU (some (v, ⟨s.heap, s.next, 0, 0⟩)) fs s none = some (v, (⟨(0, 0), s, ⟨s.heap, s.next, 0, 0⟩, none⟩, s)) := by
  unfold rU
  rw [op2_s, lor_0, lor_0]
  rfl
theorem rU_l (v : Value) (x : Nat) (fs : Frm) (s : St) (a : Arg) : rU (some (v, St.seen ⟨s.heap, s.next, 0, 0⟩ x)) fs s (some a) = some (v, (⟨(0, 0), s, St.seen ⟨s.heap, s.next, 0, 0⟩ x, ldPlace fs a⟩, s.seen x)) := by
  have e : (⟨(St.seen ⟨s.heap, s.next, 0, 0⟩ x).heap, (St.seen ⟨s.heap, s.next, 0, 0⟩ x).next, Nat.lor s.rd (St.seen ⟨s.heap, s.next, 0, 0⟩ x).rd, Nat.lor s.wr (St.seen ⟨s.heap, s.next, 0, 0⟩ x).wr⟩ : St) = s.seen x := by
    unfold St.seen
    rw [force_eq, force_eq]
    show (⟨s.heap, s.next, Nat.lor s.rd (Nat.lor 0 (bit x)), Nat.lor s.wr 0⟩ : St) = _
    rw [lor_0, show Nat.lor 0 (bit x) = bit x from Nat.zero_or _]
  unfold rU
  rw [op2_s, e]
  rfl
theorem s0_getC (s : St) (x : Nat) : St.getC ⟨s.heap, s.next, 0, 0⟩ x = s.getC x := nrfl rfl
/-- nothing is written: nothing conflicts -/
theorem apart0 (ms : List Mk) (h : ∀ m ∈ ms, m.m = (0, 0)) : ∀ un : List (Nat × Nat), (∀ p ∈ un, p.1 < ms.length ∧ p.2 < ms.length) → apartAll ms un = true
  | [], _ => rfl
  | p :: un, hu => by
    have h1 := hu p List.mem_cons_self
    have ih := apart0 ms h un fun q hq => hu q (List.mem_cons_of_mem _ hq)
    have e : ∀ i (hi : i < ms.length), nth ms i = some ms[i] ∧ (ms[i]).m = (0, 0) := fun i hi => ⟨by rw [nth_eq, List.getElem?_eq_getElem hi], h _ (List.getElem_mem hi)⟩
    obtain ⟨a1, a2⟩ := e p.1 h1.1
    obtain ⟨b1, b2⟩ := e p.2 h1.2
    have hb : ∀ x, hasBit 0 x = false := fun x => by rw [hasBit_eq]; exact Nat.zero_testBit x
    have fr : ∀ l w : Mk, w.m = (0, 0) → ldFree l w = true := fun l w hw => by
      unfold ldFree
      rw [hw]
      cases l.ld with
      | none => rfl
      | some q =>
        show (bif hasBit 0 q.1 then _ else true) = true
        rw [hb]; rfl
    have hp : apartP ms p = true := by
      unfold apartP
      rw [a1, b1]
      show apartK ms[p.1] ms[p.2] = true
      unfold apartK
      rw [fr _ _ b2, fr _ _ a2, a2, b2]
      rfl
    show (bif apartP ms p then apartAll ms un else false) = true
    rw [hp]; exact ih
end Go.Abs
