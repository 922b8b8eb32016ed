import Derived.Test.YtdnedangfnincaaAbsH
namespace Go.Abs
set_option linter.unusedVariables false
set_option linter.unusedSimpArgs false
section
variable {P : Program} {gl : Nat → Bool} {o : Oper}

theorem addr_add (b n o : Nat) : (⟨b, o, none⟩ : Addr).add n = ⟨b, o + n, none⟩ := by unfold Addr.add; split <;> simp_all
theorem addA_eq (a : Addr) (n : Nat) : addA a n = ⟨a.block, a.off + n, none⟩ := force_eq _ _
theorem idx_some {fs : Frm} {i : Arg} {n j : Nat} (h : idx fs i n = some j) : ∃ k, ev fs i = .int k (Int.ofNat j) ∧ j < n := by
  unfold idx at h
  split at h
  · rename_i k i he
    split at h
    · rename_i m
      rw [cond_some, blt_eq', force_eq] at h
      obtain ⟨h1, h2⟩ := h
      cases h2
      exact ⟨k, he, of_decide_eq_true h1⟩
    · cases h
  · cases h
theorem bound_some {fs : Frm} {i : Arg} {n j : Nat} (h : bound fs i n = some j) : ∃ k, ev fs i = .int k (Int.ofNat j) ∧ j ≤ n := by
  unfold bound at h
  split at h
  · rename_i k i he
    split at h
    · rename_i m
      rw [cond_some, ble_eq', force_eq] at h
      obtain ⟨h1, h2⟩ := h
      cases h2
      exact ⟨k, he, of_decide_eq_true h1⟩
    · cases h
  · cases h
/-- a bound of a slice expression -/
def BndOk (x : Option Value) (y d r : Nat) : Prop := (x = none ∧ r = d) ∨ ∃ k, x = some (.int k (Int.ofNat r)) ∧ r ≤ y
theorem boundD_ok {ρ : Ren} {fs : Frm} {a : Act} {x : Option Operand} {y d r : Nat} (h : boundD fs (x.map cA) y d = some r) (ha : ∀ z, x = some z → VRel ρ (ev fs (cA z)) (a.eval z)) : BndOk (x.map a.eval) y d r := by
  cases x with
  | none => cases h; exact .inl ⟨rfl, rfl⟩
  | some z =>
    obtain ⟨k, he, hr⟩ := bound_some h
    have := ha z rfl
    rw [he] at this
    exact .inr ⟨k, by simp [this.int_inv], hr⟩
theorem run_sliceBound {w : World} {k : IntKind} {r y : Nat} (h : r ≤ y) (c : BoundsCode) : (Instr.sliceBound (.int k (Int.ofNat r)) y c).run P w = .ok r w := by
  unfold Instr.sliceBound
  simp only [asIntOf, Sem.run_bind, Sem.run_pure, Result.andThen_ok]
  rw [if_pos ⟨Int.natCast_nonneg r, by simpa using h⟩]
  rfl
theorem run_sliceBound' {w : World} {k : IntKind} {r y : Nat} (h : r ≤ y) (c : BoundsCode) : (Instr.sliceBound (.int k (r : Int)) y c).run P w = .ok r w := run_sliceBound h c
theorem VRel.sliceNil_inv {ρ : Ren} {v : Value} (h : VRel ρ (.slice none 0 0) v) : v = .slice none 0 0 := by cases h; rfl
theorem VRel.slice_cases {ρ : Ren} {p : Addr} {n c : Nat} {v : Value} (h : VRel ρ (.slice (some p) n c) v) : p.spot = none ∧ ∃ l, ρ p.block = some l ∧
    ((∃ c', v = .slice (some ⟨l.blk, l.base + p.off, none⟩) n c' ∧ n ≤ c' ∧ c' ≤ maxLen ∧ (c = c' ∨ ∃ es, 0 < es ∧ c = UNK + es ∧ l.base + p.off + c' * es = l.room)) ∨
     (n = 0 ∧ ∃ o', v = .slice (some ⟨l.blk, o', none⟩) 0 0 ∧ (c = 0 ∨ ∃ es, 0 < es ∧ c = UNK + es ∧ l.base + p.off = l.room))) := by
  cases h with
  | slice h hn hm hc => exact ⟨rfl, _, h, .inl ⟨_, rfl, hn, hm, hc⟩⟩
  | slice0 h hc => exact ⟨rfl, _, h, .inr ⟨rfl, _, rfl, hc⟩⟩
theorem run_bounds {w : World} {b : Bool} {len cap m h l : Nat} {lo hi mx : Option Value} (hm : BndOk mx cap cap m) (hh : BndOk hi m len h) (hx : mx.isSome = true → hi.isSome = true) (hl : BndOk lo h 0 l) :
    (Instr.sliceBounds b len cap lo hi mx).run P w = .ok (l, h, m) w := by
  unfold Instr.sliceBounds
  rcases hm with ⟨rfl, rfl⟩ | ⟨k1, rfl, h1⟩
  · rcases hh with ⟨rfl, rfl⟩ | ⟨k2, rfl, h2⟩
    · rcases hl with ⟨rfl, rfl⟩ | ⟨k3, rfl, h3⟩ <;> simp [run_sliceBound', *]
    · rcases hl with ⟨rfl, rfl⟩ | ⟨k3, rfl, h3⟩ <;> simp [run_sliceBound', *]
  · rcases hh with ⟨rfl, rfl⟩ | ⟨k2, rfl, h2⟩
    · exact absurd (hx rfl) (by simp)
    · rcases hl with ⟨rfl, rfl⟩ | ⟨k3, rfl, h3⟩ <;> simp [run_sliceBound', *]
theorem BndOk.le {x : Option Value} {y d r : Nat} (h : BndOk x y d r) (hd : d ≤ y) : r ≤ y := by
  rcases h with ⟨_, rfl⟩ | ⟨_, _, h⟩
  · exact hd
  · exact h

theorem argsOpt {ρ : Ren} {fs : Frm} {a : Act} {l : List Operand} {x : Option Operand} (h : ArgsOk ρ fs a l) (hx : ∀ z, x = some z → z ∈ l) : ∀ z, x = some z → VRel ρ (ev fs (cA z)) (a.eval z) := fun z hz => h z (hx z hz)
theorem slice_mem {t : TypeId} {x : Operand} {lo hi mx : Option Operand} : x ∈ (Op.slice t x lo hi mx).operands.toList ∧ (∀ z, lo = some z → z ∈ (Op.slice t x lo hi mx).operands.toList) ∧ (∀ z, hi = some z → z ∈ (Op.slice t x lo hi mx).operands.toList) ∧ (∀ z, mx = some z → z ∈ (Op.slice t x lo hi mx).operands.toList) := by
  refine ⟨by simp [Op.operands], fun z hz => by subst hz; simp [Op.operands], fun z hz => by subst hz; simp [Op.operands], fun z hz => by subst hz; simp [Op.operands]⟩

theorem ok_sliceS {t : TypeId} {x : Operand} {lo hi : Option Operand} (ho : o.op = .slice t x lo hi none) (ht : P.underlying t = some .string) : OpOk P gl o (oSliceS (cA x) (lo.map cA) (hi.map cA)) := by
  refine OpOk.pure fun rec fs s v s' hF => ?_
  unfold oSliceS at hF
  split at hF
  · rename_i b hb
    obtain ⟨h, hh, hF⟩ := opt_k hF
    obtain ⟨l, hl, hF⟩ := opt_k hF
    cases hF
    refine ⟨rfl, fun ρ a w ha => ?_⟩
    rw [ho] at ha
    obtain ⟨m1, m2, m3, m4⟩ := @slice_mem t x lo hi none
    have hx := ha x m1
    rw [hb] at hx
    have bh := boundD_ok hh (argsOpt ha m3)
    have bl := boundD_ok hl (argsOpt ha m2)
    rw [lenN_eq] at bh
    have hsz : b.size = b.data.toList.length := by simp
    refine ⟨.string (b.extract l h), ?_, ?_⟩
    · unfold execOp; rw [ho]
      have := run_bounds (P := P) (w := w) (b := false) (len := b.size) (cap := b.size) (m := b.size) (lo := lo.map a.eval) (hi := hi.map a.eval) (mx := none) (.inl ⟨rfl, rfl⟩) (by rw [hsz]; exact bh) (by simp) bl
      simp [Instr.sliceAt, Instr.slice, run_underlying ht, hx.string_inv, this]
    · have e : (⟨⟨takeN (h - l) (dropN l b.data.toList)⟩⟩ : ByteArray) = b.extract l h := by
        apply Go.WideShapes.bytes_inj
        rw [Go.Lib.extract_data, takeN_eq, dropN_eq]
      rw [e]; exact .string _
  · cases hF

theorem ok_sliceA {t e : TypeId} {n es : Nat} {x : Operand} {lo hi : Option Operand} (ho : o.op = .slice t x lo hi none) (ht : P.underlying t = some (.array n e)) (he : sizeT P e = some es) (hn : n ≤ 9223372036854775807) : OpOk P gl o (oSliceA n es (cA x) (lo.map cA) (hi.map cA)) := by
  refine OpOk.pure fun rec fs s v s' hF => ?_
  unfold oSliceA at hF
  split at hF
  · rename_i p hb
    obtain ⟨h, hh, hF⟩ := opt_k hF
    obtain ⟨l, hl, hF⟩ := opt_k hF
    rw [force_eq, force_eq] at hF
    cases hF
    refine ⟨rfl, fun ρ a w ha => ?_⟩
    rw [ho] at ha
    obtain ⟨m1, m2, m3, m4⟩ := @slice_mem t x lo hi none
    have hx := ha x m1
    rw [hb] at hx
    obtain ⟨lc, hsp, hlc, hx⟩ := hx.ptr_inv
    have bh := boundD_ok hh (argsOpt ha m3)
    have bl := boundD_ok hl (argsOpt ha m2)
    have h1 := bh.le (Nat.le_refl n)
    have h2 := bl.le (Nat.zero_le h)
    refine ⟨.slice (some ⟨lc.blk, lc.base + (p.off + if n = l then 0 else l * es), none⟩) (h - l) (n - l), ?_, ?_⟩
    · unfold execOp; rw [ho]
      have := run_bounds (P := P) (w := w) (b := false) (len := n) (cap := n) (m := n) (lo := lo.map a.eval) (hi := hi.map a.eval) (mx := none) (.inl ⟨rfl, rfl⟩) bh (by simp) bl
      simp only [Instr.sliceAt, Sem.run_bind, run_underlying ht, Result.andThen_ok, hx, Instr.sureAddr, Sem.run_pure, Option.map_none, this, run_size he]
      by_cases e1 : n = l
      · simp [e1]
      · simp [e1, addr_add, Nat.add_assoc]
    · obtain ⟨pb, po, ps⟩ := p
      simp only at hsp hlc
      subst hsp
      have key : (bif Nat.beq n l then (⟨pb, po, none⟩ : Addr) else addA ⟨pb, po, none⟩ (l * es)) = ⟨pb, po + (if n = l then 0 else l * es), none⟩ := by
        rw [addA_eq, beq_eq']
        by_cases e1 : n = l <;> simp [e1]
      rw [key]
      exact .slice hlc (by omega) (by simp only [maxLen]; omega) (.inl rfl)
  · cases hF

theorem ok_sliceL {t e : TypeId} {es : Nat} {x : Operand} {lo hi mx : Option Operand} (ho : o.op = .slice t x lo hi mx) (ht : P.underlying t = some (.slice e)) (he : sizeT P e = some es) (hmx : mx.isSome = true → hi.isSome = true) : OpOk P gl o (oSliceL es (cA x) (lo.map cA) (hi.map cA) (mx.map cA)) := by
  refine OpOk.pure fun rec fs s v s' hF => ?_
  have hmx' : ∀ a : Act, (mx.map a.eval).isSome = true → (hi.map a.eval).isSome = true := fun a h => by simpa using hmx (by simpa using h)
  unfold oSliceL at hF
  split at hF
  · -- nil
    rename_i n c hb
    rw [cond_some, beq_eq', beq_eq'] at hF
    obtain ⟨hz, hF⟩ := hF
    have hz' : n = 0 ∧ c = 0 := by simpa using hz
    obtain ⟨rfl, rfl⟩ := hz'
    obtain ⟨m, hm, hF⟩ := opt_k hF
    obtain ⟨h, hh, hF⟩ := opt_k hF
    obtain ⟨l, hl, hF⟩ := opt_k hF
    cases hF
    refine ⟨rfl, fun ρ a w ha => ?_⟩
    rw [ho] at ha
    obtain ⟨m1, m2, m3, m4⟩ := @slice_mem t x lo hi mx
    have hx := ha x m1
    rw [hb] at hx
    have bm := boundD_ok hm (argsOpt ha m4)
    have bh := boundD_ok hh (argsOpt ha m3)
    have bl := boundD_ok hl (argsOpt ha m2)
    have h0 : m = 0 := by have := bm.le (Nat.le_refl 0); omega
    have h1 : h = 0 := by have := bh.le (Nat.le_refl 0); omega
    have h2 : l = 0 := by have := bl.le (Nat.zero_le h); omega
    subst h0; subst h1; subst h2
    refine ⟨.slice none 0 0, ?_, .sliceNil⟩
    unfold execOp; rw [ho]
    have := run_bounds (P := P) (w := w) (b := true) bm bh (hmx' a) bl
    simp [Instr.sliceAt, Instr.slice, run_underlying ht, hx.sliceNil_inv, this, run_size he]
  · rename_i p n c hb
    rw [cond_none, beq_eq'] at hF
    obtain ⟨hes, hF⟩ := hF
    have hes' : es ≠ 0 := by simpa using hes
    obtain ⟨pb, po, ps⟩ := p
    rw [blt_eq'] at hF
    -- the concrete run, whatever its capacity
    have crun : ∀ (a : Act) (w : World) (q : Addr) (n' c' l h m : Nat), a.eval x = .slice (some q) n' c' → BndOk (mx.map a.eval) c' c' m → BndOk (hi.map a.eval) m n' h → BndOk (lo.map a.eval) h 0 l →
        (execOp a.eval o).run P w = .ok (.value (.slice (some (if m = l then q else q.add (l * es))) (h - l) (m - l))) w := by
      intro a w q n' c' l h m hx bm bh bl
      unfold execOp; rw [ho]
      have := run_bounds (P := P) (w := w) (b := true) bm bh (hmx' a) bl
      simp only [Instr.sliceAt, Instr.slice, Sem.run_bind, run_underlying ht, Result.andThen_ok, hx, this, run_size he, Sem.run_pure]
      by_cases e1 : m = l <;> simp [e1]
    by_cases hc : c < UNK
    · simp only [hc, decide_true, cond_true] at hF
      obtain ⟨m, hm, hF⟩ := opt_k hF
      obtain ⟨h, hh, hF⟩ := opt_k hF
      obtain ⟨l, hl, hF⟩ := opt_k hF
      rw [force_eq, force_eq] at hF
      cases hF
      refine ⟨rfl, fun ρ a w ha => ?_⟩
      rw [ho] at ha
      obtain ⟨m1, m2, m3, m4⟩ := @slice_mem t x lo hi mx
      have hx := ha x m1
      rw [hb] at hx
      have bm := boundD_ok hm (argsOpt ha m4)
      have bh := boundD_ok hh (argsOpt ha m3)
      have bl := boundD_ok hl (argsOpt ha m2)
      have i0 := bm.le (Nat.le_refl c)
      have i2 := bl.le (Nat.zero_le h)
      obtain ⟨hsp, l0, hρ, hxc⟩ := hx.slice_cases
      simp only at hsp hρ hxc
      subst hsp
      clear hx
      rcases hxc with ⟨c', hv, hn, hmm, hcc⟩ | ⟨hn0, o', hv, hcc⟩
      · have hcc' : c = c' := by rcases hcc with rfl | ⟨e, _, rfl, _⟩; rfl; omega
        subst hcc'
        have i1 : h ≤ m := by
          rcases bh with ⟨hhi, hr⟩ | ⟨_, _, hr⟩
          · rcases bm with ⟨hmi, hr2⟩ | ⟨k, hk, _⟩
            · omega
            · exact absurd (hmx' a (by rw [hk]; rfl)) (by rw [hhi]; simp)
          · exact hr
        refine ⟨_, crun a w _ _ _ l h m hv bm bh bl, ?_⟩
        have key : (bif Nat.beq m l then (⟨pb, po, none⟩ : Addr) else addA ⟨pb, po, none⟩ (l * es)) = ⟨pb, po + (if m = l then 0 else l * es), none⟩ := by
          rw [addA_eq, beq_eq']; by_cases e1 : m = l <;> simp [e1]
        have key2 : (if m = l then (⟨l0.blk, l0.base + po, none⟩ : Addr) else (⟨l0.blk, l0.base + po, none⟩ : Addr).add (l * es)) = ⟨l0.blk, l0.base + (po + (if m = l then 0 else l * es)), none⟩ := by
          rw [addr_add]; by_cases e1 : m = l <;> simp [e1, Nat.add_assoc]
        rw [key, key2]
        exact .slice hρ (by omega) (by omega) (.inl rfl)
      · subst hn0
        have hcc' : c = 0 := by rcases hcc with rfl | ⟨e, _, rfl, _⟩; rfl; omega
        subst hcc'
        have i3 : m = 0 := by omega
        subst i3
        have i4 : h = 0 := by
          rcases bh with ⟨hhi, hr⟩ | ⟨_, _, hr⟩
          · exact hr
          · omega
        subst i4
        have i5 : l = 0 := by omega
        subst i5
        refine ⟨_, crun a w _ _ _ 0 0 0 hv bm bh bl, ?_⟩
        have key : (bif Nat.beq 0 0 then (⟨pb, po, none⟩ : Addr) else addA ⟨pb, po, none⟩ (0 * es)) = ⟨pb, po, none⟩ := rfl
        rw [key]
        exact .slice0 hρ (.inl rfl)
    · simp only [hc, decide_false, cond_false] at hF
      rw [cond_none, beq_eq'] at hF
      obtain ⟨hcu, hF⟩ := hF
      have hcu' : c = UNK + es := by simpa using hcu
      subst hcu'
      cases mx with
      | none =>
        simp only [Option.map_none] at hF
        obtain ⟨h, hh, hF⟩ := opt_k hF
        obtain ⟨l, hl, hF⟩ := opt_k hF
        rw [force_eq] at hF
        cases hF
        refine ⟨rfl, fun ρ a w ha => ?_⟩
        rw [ho] at ha
        obtain ⟨m1, m2, m3, m4⟩ := @slice_mem t x lo hi none
        have hx := ha x m1
        rw [hb] at hx
        have bh := boundD_ok hh (argsOpt ha m3)
        have bl := boundD_ok hl (argsOpt ha m2)
        have i1 := bh.le (Nat.le_refl n)
        have i2 := bl.le (Nat.zero_le h)
        rw [addA_eq]
        obtain ⟨hsp, l0, hρ, hxc⟩ := hx.slice_cases
        simp only at hsp hρ hxc
        subst hsp
        clear hx
        rcases hxc with ⟨c', hv, hn, hmm, hcc⟩ | ⟨hn0, o', hv, hcc⟩
        · have hcc' : l0.base + po + c' * es = l0.room := by
            rcases hcc with h1 | ⟨e, _, h1, h2⟩
            · simp only [maxLen] at hmm; unfold UNK at h1; omega
            · have : e = es := by omega
              subst this; exact h2
          have bh' : BndOk (hi.map a.eval) c' n h := by
            rcases bh with hh | ⟨k, hk, hr⟩
            · exact .inl hh
            · exact .inr ⟨k, hk, by omega⟩
          refine ⟨_, crun a w _ _ _ l h c' hv (.inl ⟨rfl, rfl⟩) bh' bl, ?_⟩
          by_cases e1 : c' = l
          · subst e1
            have e2 : h - c' = 0 := by omega
            simp only [if_true, e2, Nat.sub_self]
            exact .slice0 hρ (.inr ⟨es, by omega, rfl, by omega⟩)
          · simp only [e1, if_false]
            rw [addr_add, Nat.add_assoc]
            refine .slice hρ (by omega) (by omega) (.inr ⟨es, by omega, rfl, ?_⟩)
            have e3 : (c' - l) * es + l * es = c' * es := by rw [← Nat.add_mul]; congr 1; omega
            omega
        · subst hn0
          have hcc' : l0.base + po = l0.room := by
            rcases hcc with h1 | ⟨e, _, h1, h2⟩
            · unfold UNK at h1; omega
            · exact h2
          have i3 : h = 0 := by omega
          subst i3
          have i4 : l = 0 := by omega
          subst i4
          refine ⟨_, crun a w _ _ _ 0 0 0 hv (.inl ⟨rfl, rfl⟩) bh bl, ?_⟩
          exact .slice0 hρ (.inr ⟨es, by omega, rfl, by simp only; omega⟩)
      | some z =>
        simp only [Option.map_some] at hF
        obtain ⟨m, hm, hF⟩ := opt_k hF
        obtain ⟨h, hh, hF⟩ := opt_k hF
        obtain ⟨l, hl, hF⟩ := opt_k hF
        rw [force_eq, force_eq] at hF
        cases hF
        refine ⟨rfl, fun ρ a w ha => ?_⟩
        rw [ho] at ha
        obtain ⟨m1, m2, m3, m4⟩ := @slice_mem t x lo hi (some z)
        have hx := ha x m1
        rw [hb] at hx
        have bm := boundD_ok (x := some z) hm (argsOpt ha m4)
        have bh := boundD_ok hh (argsOpt ha m3)
        have bl := boundD_ok hl (argsOpt ha m2)
        have i0 := bm.le (Nat.le_refl n)
        have i2 := bl.le (Nat.zero_le h)
        have i1 : h ≤ m := by
          rcases bh with ⟨hhi, hr⟩ | ⟨_, _, hr⟩
          · exact absurd (hmx' a rfl) (by rw [hhi]; simp)
          · exact hr
        have bm' : ∀ c', n ≤ c' → BndOk ((some z).map a.eval) c' c' m := by
          intro c' hc'
          rcases bm with ⟨hhi, hr⟩ | ⟨k, hk, hr⟩
          · cases hhi
          · exact .inr ⟨k, hk, by omega⟩
        obtain ⟨hsp, l0, hρ, hxc⟩ := hx.slice_cases
        simp only at hsp hρ hxc
        subst hsp
        have key : (bif Nat.beq m l then (⟨pb, po, none⟩ : Addr) else addA ⟨pb, po, none⟩ (l * es)) = (if m = l then ⟨pb, po, none⟩ else ⟨pb, po + l * es, none⟩) := by
          rw [addA_eq, beq_eq']; by_cases e1 : m = l <;> simp [e1]
        rw [key]
        clear hx
        rcases hxc with ⟨c', hv, hn, hmm, hcc⟩ | ⟨hn0, o', hv, hcc⟩
        · refine ⟨_, crun a w _ _ _ l h m hv (bm' c' hn) bh bl, ?_⟩
          by_cases e1 : m = l
          · simp only [e1, if_true]; exact .slice hρ (by omega) (by omega) (.inl rfl)
          · simp only [e1, if_false]; rw [addr_add, Nat.add_assoc]; exact .slice hρ (by omega) (by omega) (.inl rfl)
        · subst hn0
          have i3 : m = 0 := by omega
          subst i3
          have i4 : h = 0 := by omega
          subst i4
          have i5 : l = 0 := by omega
          subst i5
          refine ⟨_, crun a w _ _ _ 0 0 0 hv (bm' 0 (Nat.le_refl _)) bh bl, ?_⟩
          simp only [if_true]
          exact .slice0 hρ (.inl rfl)
  · cases hF
end
end Go.Abs
