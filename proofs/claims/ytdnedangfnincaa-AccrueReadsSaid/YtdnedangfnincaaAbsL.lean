import Derived.Test.YtdnedangfnincaaAbsK
import Derived.Lib.ConvBytes
import Derived.Deep.AppendSrc
namespace Go.Abs
set_option linter.unusedVariables false
set_option linter.unusedSimpArgs false
section
variable {P : Program} {gl : Nat → Bool} {o : Oper}

theorem ok_build {t : TypeId} {parts : Array (Nat × Operand)} {z : List Value} {ps : List (Nat × Nat × Arg)} {place : Nat → Option (Nat × Nat)} (ho : o.op = .build t parts) (hp : cParts place parts.toList = some ps)
    (hb : ∀ pv, ∃ zc : Array Value, CR (fun _ => none) z zc.toList ∧ z.all gnd1 = true ∧ zc.toList = z ∧ P.built t pv = Instr.fill place zc pv) : OpOk P gl o (oBuild z ps) := by
  refine OpOk.pure fun rec fs s v s' hF => ?_
  obtain ⟨c, hc, hF⟩ := opt_k hF
  cases hF
  refine ⟨rfl, fun ρ a w har => ?_⟩
  rw [ho] at har
  obtain ⟨zc, _, hg, hz, hbt⟩ := hb ((parts.map fun (i, x) => (i, a.eval x)).toList)
  obtain ⟨r', hr', hcr⟩ := fill_rel (ρ := ρ) (fs := fs) (a := a) parts.toList ps z c zc hp hc (by rw [hz]; exact gnd_CR hg) (fun x hx => har x (by simpa [Op.operands] using hx))
  refine ⟨.agg r', ?_, by simpa using VRel.agg_of hcr⟩
  have e2 : (parts.map fun (i, x) => (i, a.eval x)).toList = parts.toList.map fun p => (p.1, a.eval p.2) := by simp
  have hbuilt : P.built t (parts.map fun (i, x) => (i, a.eval x)).toList = some r' := by rw [hbt, e2]; exact hr'
  unfold execOp; rw [ho]
  show (do let z ← Instr.build t (parts.map fun (i, x) => (i, a.eval x)); pure (Next.value z) : Sem Next).run P w = _
  rw [run_wrap, run_build w t _ _ hbuilt]; rfl

theorem grown_le (w : World) (need old : Nat) (e : TypeId) (h : need ≤ 9223372036854775807) : need ≤ grownCap w need old e ∧ grownCap w need old e ≤ maxLen := by
  have hlt := Nat.mod_lt (w.tape w.drawn (.appendCap need old e)) (show 0 < 2 ^ 63 - need by omega)
  simp only [grownCap, Question.cut, maxLen]
  omega
theorem ofBytes_rel {ρ : Ren} (l : List UInt8) : CR ρ (ofBytes l) (l.map fun b => Value.int .u8 b.toNat) := by
  unfold ofBytes
  rw [mapN_eq]
  exact ⟨LR.of_map _ _ l fun x _ => .int _ _, fun x hx => by obtain ⟨b, _, rfl⟩ := List.mem_map.1 hx; rfl⟩
/-- a slice whose row is as long as its capacity says -/
theorem slice_grown {ρ : Ren} {n g r k c es : Nat} (he : 0 < es) (h : k ≤ c) (hm : c ≤ maxLen) (hr : c * es = r) : VRel (ρ.upd n ⟨g, 0, r⟩) (.slice (some ⟨n, 0, none⟩) k (UNK + es)) (.slice (some ⟨g, 0, none⟩) k c) := by
  have := VRel.slice (ρ := ρ.upd n ⟨g, 0, r⟩) (b := n) (o := 0) (n := k) (c := UNK + es) (c' := c) (l := ⟨g, 0, r⟩) (by simp [Ren.upd]) h hm (.inr ⟨es, he, rfl, by simpa using hr⟩)
  simpa using this
theorem Good.of_same {ρ ρ' : Ren} {Y : Nat → Prop} {s s1 s' : St} {w w' : World} (hh : s1.heap = s.heap) (hn : s1.next = s.next) (g : Good ρ ρ' Y s1 s' w w') : Good ρ ρ' Y s s' w w' := by
  have hg : ∀ x, s1.get x = s.get x := fun x => by show s1.heap.get x = s.heap.get x; rw [hh]
  exact ⟨fun x hx => g.ext x (by rw [hn]; exact hx), fun x h1 h2 => g.dom x (by rw [hn]; exact h1) h2, ⟨fun x b hx hb => g.rel.blk x b (by rw [hn]; exact hx) hb, fun x y l m hx hy => g.rel.inj x y l m (by rw [hn]; exact hx) (by rw [hn]; exact hy)⟩, g.size,
    fun k hk h => g.old k hk (fun x l hx hl hb hw hs => h x l hx hl hb hw (by rw [← hg]; exact hs)),
    fun x l h1 h2 h3 => by simpa only [hg] using g.fresh x l (by rw [hn]; exact h1) h2 h3, fun x l h1 h2 h3 => g.bound x l (by rw [hn]; exact h1) h2 h3, g.os, g.tape, g.output⟩
theorem HRel.of_same {ρ : Ren} {Y : Nat → Prop} {s s1 : St} {w : World} (hh : s1.heap = s.heap) (h : HRel ρ Y s w) : HRel ρ Y s1 w := by
  have hg : ∀ x, s1.get x = s.get x := fun x => by show s1.heap.get x = s.heap.get x; rw [hh]
  exact ⟨fun x b hx hb => h.blk x b hx (by rw [← hg]; exact hb), fun x y l m hx hy h1 h2 => h.inj x y l m hx hy (by rw [← hg]; exact h1) (by rw [← hg]; exact h2)⟩
theorem seen_heap (s : St) (x : Nat) : (s.seen x).heap = s.heap := by unfold St.seen; rw [force_eq]

/-! append -/
/-- what is appended, in Go's memory -/
structure News (P : Program) (ρ : Ren) (size : Nat) (tx : TypeId) (x : Value) (n : Nat) (new : List Value) (news : List Value) (w : World) : Prop where
  src : Src P size tx x n news w
  rel : CR ρ new news
theorem srcCells_ok {ρ : Ren} {Y : Nat → Prop} {s s1 s2 : St} {w : World} {es m : Nat} {y y' : Value} {new : List Value} {tx : TypeId} (cx : Ctx gl ρ Y s s2 w) (h2 : AStep s1 s2) (hso : SOk s) (h : srcCells s es y = some (m, new, s1)) (hy : VRel ρ y y')
    (hk : (∃ e, P.underlying tx = some (.slice e)) ∨ P.underlying tx = some .string) : s1.heap = s.heap ∧ s1.next = s.next ∧ ∃ news, News P ρ es tx y' m new news w := by
  unfold srcCells at h
  split at h
  · rename_i n c
    cases h
    obtain ⟨b', c', rfl, hb'⟩ := hy.slice_inv
    refine ⟨rfl, rfl, [], ⟨⟨hk, fun _ => ?_, ?_, ?_, by simp, fun _ h => by cases h⟩, CR.nil ρ⟩⟩
    · cases hy; rfl
    · cases hy; simp [Builtin.firstCells]
    · cases hy; simp [Builtin.firstCells]
  · rename_i p n c
    by_cases h0 : n = 0
    · subst h0
      cases h
      obtain ⟨b', c', rfl, hb'⟩ := hy.slice_inv
      refine ⟨rfl, rfl, [], ⟨⟨hk, fun _ => rfl, ?_, ?_, by simp, fun _ h => by cases h⟩, CR.nil ρ⟩⟩
      · cases b' <;> simp [Builtin.firstCells, loadCells, loadCellsFrom]
      · cases b' <;> simp [Builtin.firstCells, loadCells, loadCellsFrom]
    · rw [beq_eq'] at h
      simp only [h0, decide_false, cond_false] at h
      obtain ⟨c2, s3, hr, h⟩ := opt2_k h
      cases h
      obtain ⟨blk, hg, hle, rfl, rfl⟩ := St.read_some hr
      have hY : Y p.block := cx.seen (St.getC_get hg) (.inl (h2.rd _ (seen_bit s p.block)))
      obtain ⟨hsp, l, hl, hyc⟩ := hy.slice_cases
      rcases hyc with ⟨c', rfl, _, _, _⟩ | ⟨hn0, _⟩
      · obtain ⟨arr, hrun, hrel, hcell⟩ := run_cells (P := P) cx.rel hY hg hl hle
        have hlen : arr.toList.length = m * es := by
          have := hrel.1.1
          rw [← this]; simp; omega
        refine ⟨seen_heap s _, St.seen_next s _, arr.toList, ⟨⟨hk, fun _ => rfl, ?_, ?_, hlen, hrel.one'⟩, hrel⟩⟩
        · simpa [Builtin.firstCells] using hrun
        · have := run_loadCells_list (P := P) w.drew ⟨l.blk, l.base + p.off, none⟩ arr.toList (fun j v hv => by simpa using hcell j v hv)
          rw [hlen] at this
          simpa [Builtin.firstCells] using this
      · exact absurd hn0 h0
  · rename_i b
    rw [cond_some, beq_eq'] at h
    obtain ⟨h1, h⟩ := h
    have h1 := of_decide_eq_true h1
    cases h
    rw [hy.string_inv]
    subst h1
    refine ⟨rfl, rfl, byteCells b, ⟨?_, ofBytes_rel _⟩⟩
    rw [lenN_eq, show b.data.toList.length = b.size by simp]
    exact ⟨hk, fun _ => rfl, firstCells_string b w, firstCells_string b w.drew, by rw [byteCells_length, Nat.mul_one], fun u hu => by
      obtain ⟨_, _, rfl⟩ := List.mem_map.1 hu
      rfl⟩
  · cases h
theorem Ctx.of_same {ρ : Ren} {Y : Nat → Prop} {s s1 s2 : St} {w : World} (c : Ctx gl ρ Y s s2 w) (hh : s1.heap = s.heap) (hn : s1.next = s.next) : Ctx gl ρ Y s1 s2 w :=
  ⟨by rw [hn]; exact c.top, by rw [hn]; exact c.yok, by rw [hn]; exact c.foot, by rw [hn]; exact c.fresh, by rw [hn]; exact c.glob,
    fun x hx => by show s1.heap.get x = none; rw [hh]; exact c.dead x (by rw [← hn]; exact hx), c.rel.of_same hh, c.wlow, c.groom⟩
theorem SOk.of_same {s s1 : St} (h : SOk s) (hh : s1.heap = s.heap) (hn : s1.next = s.next) : SOk s1 :=
  ⟨by rw [hn]; exact h.top, fun x hx => by show s1.heap.get x = none; rw [hh]; exact h.dead x (by rw [← hn]; exact hx)⟩
/-- how append's second argument is told: what it reads to, in Go -/
structure Apx (P : Program) (t tx e : TypeId) (i : TypeInfo) (z : Value) (x : Value) (n : Nat) (news : List Value) (w : World) : Prop where
  len : news.length = n * i.size
  one : ∀ u ∈ news, u.oneCell' = true
  room : ∀ (ty : TypeId) (base : Option Addr) (sl sc : Nat) (w' : World), sl + n ≤ sc →
    (match base with | some a => (storeCells (a.add (sl * i.size)) news).run P w = .ok () w' | none => w' = w) → (Builtin.append_ #[t, tx] ty #[.slice base sl sc, x]).run P w = .ok (.slice base (sl + n) sc) w'
  grow : ∀ (ty : TypeId) (base : Option Addr) (sl sc : Nat) (olds : List Value), (Builtin.firstCells i.size sl (.slice base sl sc)).run P w.drew = .ok olds.toArray w.drew → 0 < n → sc < sl + n → sl + n ≤ 9223372036854775807 → (sl + n) * i.bytes ≤ 140737488355328 →
    (Builtin.append_ #[t, tx] ty #[.slice base sl sc, x]).run P w = .ok (.slice (some ⟨w.heap.size, 0, none⟩) (sl + n) (grownCap w (sl + n) sc e))
        (w.drew.alloc (.cells ((olds ++ news).toArray ++ Builtin.zeroCells z.cells (grownCap w (sl + n) sc e - (sl + n))) e))
theorem Apx.of_src {t tx e : TypeId} {i : TypeInfo} {z x : Value} {n : Nat} {news : List Value} {w : World} (ht : P.underlying t = some (.slice e)) (hi : P.info? e = some i) (hz : i.zero = some z) (h : Src P i.size tx x n news w) : Apx P t tx e i z x n news w where
  len := h.newsLen
  one := h.one
  room := fun ty base sl sc w' hr hst => by
    cases base with
    | none =>
      have hw : w' = w := hst
      subst hw
      rcases h.kind with ⟨e', hk⟩ | hk <;> simp [Builtin.append_, run_underlying ht, run_underlying hk, sizeOf, typeInfo, hi, h.len, hr, h.cells]
    | some a =>
      simp only at hst
      rcases h.kind with ⟨e', hk⟩ | hk <;> simp [Builtin.append_, run_underlying ht, run_underlying hk, sizeOf, typeInfo, hi, h.len, hr, h.cells, hst]
  grow := fun ty base sl sc olds hold _ hg h63 hb => by
    exact run_append_grow_src w t tx ty e i z ht hi hz base sl sc olds hold x n news h hg (by omega) (growslice_fits hg hb)
theorem zeroCells_size (z : Array Value) (n : Nat) : (Builtin.zeroCells z n).size = n * z.size := by simp [Builtin.zeroCells]

theorem newSlice_ok {ρ : Ren} {Y : Nat → Prop} {s s' : St} {w w' : World} {v : Value} {es n cap : Nat} {cells : List Value} {arr : Array Value} {e : TypeId} (cx : Ctx gl ρ Y s s' w) (h : newSlice s es n cells = some (v, s')) (he : es ≠ 0)
    (hw : w' = w.drew.alloc (.cells arr e)) (hsz : arr.size = cap * es) (hn : n ≤ cap) (hm : cap ≤ maxLen) (hl : cells.length = n * es) (hr : CR ρ cells (arr.toList.take cells.length)) :
    ∃ ρ', VRel ρ' v (.slice (some ⟨w.heap.size, 0, none⟩) n cap) ∧ Good ρ ρ' Y s s' w w' := by
  obtain ⟨b, s1, ha, h⟩ := opt2_k h
  cases h
  obtain ⟨hb, _, hnx, _⟩ := St.alloc_some ha
  subst hb
  subst hw
  refine ⟨ρ.upd s.next ⟨w.heap.size, 0, arr.size⟩, slice_grown (by omega) hn hm hsz.symm, ?_⟩
  refine Good.alloc (elem := e) (fr := (0, 0)) cx.yok (cx.new (by omega)) cx.rel ha (fun k hk => by simp [World.alloc, World.drew, -World.alloc_eq, -World.drew_eq, Array.getElem?_push, Nat.ne_of_lt hk]) (by simp [World.alloc, World.drew, -World.alloc_eq, -World.drew_eq]) (by simp) (fun i _ => by simp) ?_ hr rfl rfl rfl
  rw [hl, hsz]
  exact Nat.mul_le_mul_right _ hn

theorem appendTo_step {s s' : St} {es bytes sl sc n : Nat} {base : Option Addr} {new : List Value} {v : Value} (hso : SOk s) (h : appendTo s es bytes base sl sc n new = some (v, s')) : AStep s s' := by
  have hnew : ∀ {s s' : St} {v : Value} {k : Nat} {c : List Value}, newSlice s es k c = some (v, s') → AStep s s' := by
    intro s s' v k c h
    obtain ⟨b, s1, ha, h⟩ := opt2_k h
    cases h
    exact AStep.alloc ha
  unfold appendTo at h
  by_cases h1 : n = 0
  · rw [beq_eq'] at h; simp only [h1, decide_true, cond_true] at h; cases h; exact AStep.refl _
  · rw [beq_eq'] at h
    simp only [h1, decide_false, cond_false] at h
    rw [cond_none, cond_none] at h
    obtain ⟨_, _, h⟩ := h
    cases base with
    | none =>
      simp only at h
      rw [cond_some] at h
      exact hnew h.2
    | some a =>
      simp only at h
      by_cases h2 : Nat.blt sc UNK = true
      · rw [h2] at h
        simp only [cond_true] at h
        by_cases h3 : Nat.ble (sl + n) sc = true
        · rw [h3] at h
          simp only [cond_true] at h
          obtain ⟨s1, hw, h⟩ := opt_k h
          cases h
          exact AStep.write hw hso
        · rw [Bool.not_eq_true] at h3
          rw [h3] at h
          simp only [cond_false] at h
          by_cases h4 : Nat.beq sl 0 = true
          · rw [h4] at h; exact hnew h
          · rw [Bool.not_eq_true] at h4
            rw [h4] at h
            simp only [cond_false] at h
            obtain ⟨c, s1, hr, h⟩ := opt2_k h
            exact (AStep.read hr).trans (hnew h)
      · rw [Bool.not_eq_true] at h2
        rw [h2] at h
        simp only [cond_false] at h
        rw [cond_none] at h
        obtain ⟨_, h⟩ := h
        obtain ⟨c, hc, h⟩ := opt_k h
        by_cases h3 : Nat.ble (a.off + sl * es + lenN new) (lenN c) = true
        · rw [h3] at h
          simp only [cond_true] at h
          obtain ⟨s1, hw, h⟩ := opt_k h
          cases h
          exact AStep.write hw hso
        · rw [Bool.not_eq_true] at h3
          rw [h3] at h
          simp only [cond_false] at h
          rw [cond_some] at h
          obtain ⟨_, h⟩ := h
          exact (AStep.set s a.block none (hso.lt40 (St.getC_get hc)) (by rw [St.getC_get hc]; rfl)).trans (hnew h)

set_option maxHeartbeats 1000000 in
theorem appendTo_ok {ρ : Ren} {Y : Nat → Prop} {s s' : St} {w : World} {t tx e ty : TypeId} {i : TypeInfo} {z : Value} {bytes sl sc n : Nat} {base : Option Addr} {new news : List Value} {v x' y' : Value}
    (cx : Ctx gl ρ Y s s' w) (h : appendTo s i.size bytes base sl sc n new = some (v, s')) (hb : i.bytes = bytes) (hzs : z.cells.size = i.size) (hx : VRel ρ (.slice base sl sc) x') (hap : Apx P t tx e i z y' n news w) (hrel : CR ρ new news) :
    ∃ ρ' v' w', (Builtin.append_ #[t, tx] ty #[x', y']).run P w = .ok v' w' ∧ VRel ρ' v v' ∧ Good ρ ρ' Y s s' w w' := by
  have hnl : new.length = n * i.size := by rw [hrel.1.1]; exact hap.len
  unfold appendTo at h
  by_cases h1 : n = 0
  · -- nothing
    subst h1
    cases h
    have hn0 : news = [] := List.eq_nil_of_length_eq_zero (by rw [hap.len]; simp)
    obtain ⟨b', c', rfl, hb'⟩ := hx.slice_inv
    have hle : sl + 0 ≤ c' := by cases hx <;> omega
    refine ⟨ρ, _, w, hap.room ty b' sl c' w hle ?_, by simpa using hx, Good.refl cx.rel⟩
    subst hn0
    cases b' <;> rfl
  · rw [beq_eq'] at h
    simp only [h1, decide_false, cond_false] at h
    rw [cond_none, cond_none, beq_eq'] at h
    obtain ⟨hes, hfit, h⟩ := h
    have hes : i.size ≠ 0 := of_decide_eq_false hes
    simp only [fits, Bool.not_eq_false', Bool.and_eq_true, ble_eq', decide_eq_true_eq] at hfit
    obtain ⟨hfb, hf63⟩ := hfit
    -- a new row
    have fresh : ∀ (b' : Option Addr) (c' : Nat) (olds : List Value) (cells : List Value) (s1 : St) (v : Value) (s2 : St), x' = .slice b' sl c' → c' < sl + n → (Builtin.firstCells i.size sl (.slice b' sl c')).run P w.drew = .ok olds.toArray w.drew →
        Ctx gl ρ Y s1 s2 w → newSlice s1 i.size (sl + n) (cells ++ new) = some (v, s2) → CR ρ cells olds → cells.length = sl * i.size →
        ∃ ρ' v' w', (Builtin.append_ #[t, tx] ty #[x', y']).run P w = .ok v' w' ∧ VRel ρ' v v' ∧ Good ρ ρ' Y s1 s2 w w' := by
      intro b' c' olds cells s1 v s2 hx' hc' hold cx1 hs hco hcl
      obtain ⟨g1, g2⟩ := grown_le w (sl + n) c' e hf63
      have hall : CR ρ (cells ++ new) (olds ++ news) := hco.append hrel
      have hal : (cells ++ new).length = (sl + n) * i.size := by simp [hcl, hnl, Nat.add_mul]
      obtain ⟨ρ', hv, hg⟩ := newSlice_ok (e := e) (cap := grownCap w (sl + n) c' e) (arr := (olds ++ news).toArray ++ Builtin.zeroCells z.cells (grownCap w (sl + n) c' e - (sl + n))) cx1 hs hes rfl
        (by
          have : (olds ++ news).length = (sl + n) * i.size := by rw [← hall.1.1, hal]
          simp only [Array.size_append, List.size_toArray, this, zeroCells_size, hzs, ← Nat.add_mul]
          congr 1; omega) g1 g2 hal
        (by
          have e1 : (((olds ++ news).toArray ++ Builtin.zeroCells z.cells (grownCap w (sl + n) c' e - (sl + n))).toList.take (cells ++ new).length) = olds ++ news := by
            rw [hall.1.1, Array.toList_append]; exact List.take_left
          rw [e1]; exact hall)
      subst hx'
      exact ⟨ρ', _, _, hap.grow ty b' sl c' olds hold (by omega) hc' hf63 (by rw [hb]; exact hfb), hv, hg⟩
    cases base with
    | none =>
      simp only at h
      rw [cond_some, beq_eq', beq_eq'] at h
      obtain ⟨hz, h⟩ := h
      simp only [Bool.and_eq_true, decide_eq_true_eq] at hz
      obtain ⟨rfl, rfl⟩ := hz
      exact fresh none 0 [] [] s v s' hx.sliceNil_inv (by omega) (by simp [Builtin.firstCells]) cx (by simpa using h) (CR.nil ρ) (by simp)
    | some a =>
      simp only at h
      obtain ⟨hsp, l, hl, hxc⟩ := hx.slice_cases
      obtain ⟨ab, ao, as⟩ := a
      simp only at hsp hl hxc
      subst hsp
      rw [blt_eq'] at h
      by_cases hsc : sc < UNK
      · simp only [hsc, decide_true, cond_true] at h
        -- the capacity is known
        have hxe : ∃ o', x' = .slice (some ⟨l.blk, o', none⟩) sl sc ∧ (sl = 0 ∧ sc = 0 ∨ o' = l.base + ao) := by
          rcases hxc with ⟨c', rfl, _, _, hc⟩ | ⟨h0, o', rfl, hc⟩
          · rcases hc with rfl | ⟨_, _, h2, _⟩
            · exact ⟨_, rfl, .inr rfl⟩
            · omega
          · rcases hc with rfl | ⟨_, _, h2, _⟩
            · subst h0; exact ⟨_, rfl, .inl ⟨rfl, rfl⟩⟩
            · omega
        obtain ⟨o', hx', ho'⟩ := hxe
        rw [ble_eq'] at h
        by_cases hroom : sl + n ≤ sc
        · simp only [hroom, decide_true, cond_true] at h
          obtain ⟨s1, hw, h⟩ := opt_k h
          cases h
          have ho2 : o' = l.base + ao := by clear hxc; rcases ho' with ⟨_, h0⟩ | h0; omega; exact h0
          subst ho2
          obtain ⟨blk, hg, _, heq⟩ := St.write_some hw
          have hY : Y ab := cx.seen (St.getC_get hg) (.inr (by rw [heq]; exact set_bit _ _ _))
          obtain ⟨w', hrun, good⟩ := run_put (P := P) cx.top cx.yok cx.rel (cx.high (by rw [heq]; exact set_bit _ _ _)) hw hY hl hrel
          refine ⟨ρ, .slice (some ⟨l.blk, l.base + ao, none⟩) (sl + n) sc, w', ?_, ?_, good⟩
          · rw [hx']
            refine hap.room ty (some ⟨l.blk, l.base + ao, none⟩) sl sc w' hroom ?_
            simp only [addr_add]
            rw [Nat.add_assoc]
            exact hrun
          · rcases hxc with ⟨c', hx2, hn, hm, hc⟩ | ⟨h0, o', hx2, hc⟩
            · rw [hx'] at hx2; cases hx2
              exact .slice hl hroom hm hc
            · clear hc; rw [hx'] at hx2; injection hx2 with _ _ hsc0; exact absurd (show n = 0 by omega) h1
        · simp only [hroom, decide_false, cond_false] at h
          rw [beq_eq'] at h
          by_cases hsl : sl = 0
          · subst hsl
            simp only [decide_true, cond_true] at h
            exact fresh _ sc [] [] s v s' hx' (by omega) (by simp [Builtin.firstCells, loadCells, loadCellsFrom]) cx (by simpa using h) (CR.nil ρ) (by simp)
          · simp only [hsl, decide_false, cond_false] at h
            obtain ⟨old, s1, hr, h⟩ := opt2_k h
            rw [app_eq] at h
            have ho2 : o' = l.base + ao := by rcases ho' with ⟨h0, _⟩ | h0; exact absurd h0 hsl; exact h0
            subst ho2
            obtain ⟨blk, hg, hle, rfl, rfl⟩ := St.read_some hr
            have hn2 : AStep (s.seen ab) s' := by
              obtain ⟨b, s1, ha, h⟩ := opt2_k h
              cases h
              exact AStep.alloc ha
            have hY : Y ab := cx.seen (St.getC_get hg) (.inl (hn2.rd _ (seen_bit s ab)))
            obtain ⟨arr, hrun, hrl, hcell⟩ := run_cells (P := P) cx.rel hY hg hl hle
            have hlen : arr.toList.length = sl * i.size := by
              have := hrl.1.1
              rw [← this]; simp; omega
            obtain ⟨ρ', v', w', k1, k2, k3⟩ := fresh _ sc arr.toList _ (s.seen ab) v s' hx' (by omega) (by
              have := run_loadCells_list (P := P) w.drew ⟨l.blk, l.base + ao, none⟩ arr.toList (fun j v hv => by simpa using hcell j v hv)
              rw [hlen] at this
              simpa [Builtin.firstCells] using this) (cx.of_same (seen_heap s ab) (St.seen_next s ab)) h hrl (by rw [hrl.1.1]; exact hlen)
            exact ⟨ρ', v', w', k1, k2, k3.of_same (seen_heap s ab) (St.seen_next s ab)⟩
      · simp only [hsc, decide_false, cond_false] at h
        rw [cond_none, beq_eq'] at h
        obtain ⟨hcu, h⟩ := h
        have hcu' : sc = UNK + i.size := by simpa using hcu
        subst hcu'
        obtain ⟨c, hc, h⟩ := opt_k h
        rw [ble_eq', lenN_eq, lenN_eq] at h
        have hbr : ∀ (hY : Y ab), CellRel (8 ≤ ab) ρ c l w := fun hY => by
          obtain ⟨m, hm, hbr⟩ := cx.rel.blk ab c hY (St.getC_get hc)
          rw [hl] at hm; cases hm; exact hbr.cells (St.getC_some hc).2
        by_cases hin : ao + sl * i.size + new.length ≤ c.length
        · simp only [hin, decide_true, cond_true] at h
          obtain ⟨s1, hw, h⟩ := opt_k h
          cases h
          obtain ⟨blk, hg, _, heq⟩ := St.write_some hw
          have hY : Y ab := cx.seen (St.getC_get hg) (.inr (by rw [heq]; exact set_bit _ _ _))
          obtain ⟨cells, el, fr, hcc, hcs, hcb, -⟩ := hbr hY
          have hpos : 0 < n * i.size := Nat.mul_pos (by omega) (by omega)
          rcases hxc with ⟨c', rfl, hn, hm, hcap⟩ | ⟨h0, o', rfl, hcap⟩
          · have hcap' : l.base + ao + c' * i.size = l.room := by
              rcases hcap with h2 | ⟨e2, _, h2, h3⟩
              · simp only [maxLen] at hm; unfold UNK at h2; omega
              · have : e2 = i.size := by omega
                subst this; exact h3
            have hroom : sl + n ≤ c' := by
              have h5 : (sl + n) * i.size ≤ c' * i.size := by rw [Nat.add_mul]; clear hcap hx h; omega
              exact Nat.le_of_mul_le_mul_right h5 (by omega)
            obtain ⟨w', hrun, good⟩ := run_put (P := P) cx.top cx.yok cx.rel (cx.high (by rw [heq]; exact set_bit _ _ _)) hw hY hl hrel
            refine ⟨ρ, _, w', hap.room ty (some ⟨l.blk, l.base + ao, none⟩) sl c' w' hroom ?_, .slice hl hroom hm (.inr ⟨i.size, by omega, rfl, hcap'⟩), good⟩
            simp only [addr_add]
            rw [Nat.add_assoc]
            exact hrun
          · exfalso
            have : l.base + ao = l.room := by
              rcases hcap with h2 | ⟨e2, _, h2, h3⟩
              · unfold UNK at h2; omega
              · exact h3
            omega
        · simp only [hin, decide_false, cond_false] at h
          rw [cond_some, ble_eq'] at h
          obtain ⟨hle, h⟩ := h
          have hle : ao + sl * i.size ≤ c.length := of_decide_eq_true hle
          rw [app_eq, takeN_eq, dropN_eq] at h
          have hset : AStep (s.set ab none) s' := by
            obtain ⟨b, s1, ha, h⟩ := opt2_k h
            cases h
            exact AStep.alloc ha
          have hY : Y ab := cx.seen (St.getC_get hc) (.inr (hset.wr _ (set_bit s ab none)))
          obtain ⟨cells, el, fr, hcc, hcs, hcb, hfr, hcr⟩ := hbr hY
          replace hfr := hfr (cx.high (hset.wr _ (set_bit s ab none)))
          obtain ⟨n', s1, ha, hv⟩ := opt2_k h
          cases hv
          obtain ⟨hn', _, hnx, _⟩ := St.alloc_some ha
          rw [St.set_next] at hnx hn'
          subst hn'
          have hnew := cx.new (show s.next < s'.next by clear hxc; omega)
          have hold : CR ρ ((c.drop ao).take (sl * i.size)) ((cells.toList.drop (l.base + ao)).take (sl * i.size)) := by
            have := (hcr.drop ao).take (sl * i.size)
            rw [List.drop_take, List.drop_drop, List.take_take] at this
            have e1 : min (sl * i.size) (c.length - ao) = sl * i.size := by omega
            rw [e1] at this; exact this
          have hlenO : ((c.drop ao).take (sl * i.size)).length = sl * i.size := by simp; omega
          have hlenN : ((c.drop ao).take (sl * i.size) ++ new).length = (sl + n) * i.size := by rw [List.length_append, hlenO, hnl, Nat.add_mul]
          -- whether there is room
          have grows : ∀ (o' c' : Nat), x' = .slice (some ⟨l.blk, o', none⟩) sl c' → c' < sl + n → (sl = 0 ∨ o' = l.base + ao) →
              ∃ ρ' v' w', (Builtin.append_ #[t, tx] ty #[x', y']).run P w = .ok v' w' ∧ VRel ρ' (.slice (some ⟨s.next, 0, none⟩) (sl + n) (UNK + i.size)) v' ∧ Good ρ ρ' Y s s' w w' := by
            intro o' c' hx' hc' hoo
            obtain ⟨g1, g2⟩ := grown_le w (sl + n) c' e hf63
            have hall : CR ρ ((c.drop ao).take (sl * i.size) ++ new) ((cells.toList.drop (l.base + ao)).take (sl * i.size) ++ news) := hold.append hrel
            have hfc : (Builtin.firstCells i.size sl (.slice (some ⟨l.blk, o', none⟩) sl c')).run P w.drew = .ok ((cells.toList.drop (l.base + ao)).take (sl * i.size)).toArray w.drew := by
              rcases hoo with rfl | rfl
              · simp [Builtin.firstCells, loadCells, loadCellsFrom]
              · have := run_loadCells_list (P := P) w.drew ⟨l.blk, l.base + ao, none⟩ ((cells.toList.drop (l.base + ao)).take (sl * i.size)) (fun j v hv => by
                  rw [addr_add, cell_of_row w.drew l.blk _ cells el fr hcc]
                  rw [List.getElem?_take] at hv
                  split at hv
                  · simpa [Nat.add_assoc] using hv
                  · cases hv)
                have hln : ((cells.toList.drop (l.base + ao)).take (sl * i.size)).length = sl * i.size := by rw [← hold.1.1]; exact hlenO
                rw [hln] at this
                simpa [Builtin.firstCells] using this
            have hsize : ((cells.toList.drop (l.base + ao)).take (sl * i.size) ++ news).length = (sl + n) * i.size := by rw [← hall.1.1, hlenN]
            refine ⟨ρ.upd s.next ⟨w.heap.size, 0, grownCap w (sl + n) c' e * i.size⟩, _, _, by rw [hx']; exact hap.grow ty _ sl c' _ hfc (by omega) hc' hf63 (by rw [hb]; exact hfb), slice_grown (Nat.pos_of_ne_zero hes) g1 g2 rfl, ?_⟩
            refine Good.move (l' := ⟨w.heap.size, 0, grownCap w (sl + n) c' e * i.size⟩) (elem := e) (fr := (0, 0)) (cells := ((cells.toList.drop (l.base + ao)).take (sl * i.size) ++ news).toArray ++ Builtin.zeroCells z.cells (grownCap w (sl + n) c' e - (sl + n)))
              cx.top cx.yok hnew cx.rel (cx.high (hset.wr _ (set_bit s ab none))) hY (St.getC_get hc) hl ha (by simp [World.alloc, World.drew, -World.alloc_eq, -World.drew_eq]) ?_ ?_ (fun i _ => by simp) ?_ (fun k hk _ => by simp [World.alloc, World.drew, -World.alloc_eq, -World.drew_eq, Array.getElem?_push, Nat.ne_of_lt hk]) (by simp) (.inr ⟨rfl, by
                have : l.blk < w.heap.size := cx.rel.lt hY (St.getC_get hc) hl
                simp [World.alloc, World.drew, -World.alloc_eq, -World.drew_eq, Array.getElem?_push, Nat.ne_of_lt this]⟩) rfl rfl rfl
            · simp only [Array.size_append, List.size_toArray, hsize, zeroCells_size, hzs, ← Nat.add_mul]
              congr 1; omega
            · rw [hlenN]; simp only [Nat.zero_add]; exact Nat.mul_le_mul_right _ g1
            · rw [hlenN]
              have e1 : ((((cells.toList.drop (l.base + ao)).take (sl * i.size) ++ news).toArray ++ Builtin.zeroCells z.cells (grownCap w (sl + n) c' e - (sl + n))).toList.drop 0).take ((sl + n) * i.size) = (cells.toList.drop (l.base + ao)).take (sl * i.size) ++ news := by
                rw [← hsize, List.drop_zero, Array.toList_append]; exact List.take_left
              rw [e1]; exact hall
          rcases hxc with ⟨c', hx', hn, hm, hcap⟩ | ⟨h0, o', hx', hcap⟩
          · have hcap' : l.base + ao + c' * i.size = l.room := by
              rcases hcap with h2 | ⟨e2, _, h2, h3⟩
              · simp only [maxLen] at hm; unfold UNK at h2; omega
              · have : e2 = i.size := by omega
                subst this; exact h3
            by_cases hroom : sl + n ≤ c'
            · -- in place
              have hfitc : l.base + (ao + sl * i.size) + news.length ≤ cells.size := by
                have h5 : (sl + n) * i.size ≤ c' * i.size := Nat.mul_le_mul_right _ hroom
                rw [Nat.add_mul] at h5
                rw [hap.len, hcs]; omega
              have hst := run_store_cells P l.blk (l.base + (ao + sl * i.size)) el fr news 0 cells w hcc (fun j hj => hfr j (by omega)) (by simpa using hfitc) hap.one
              have happ := hap.room ty (some ⟨l.blk, l.base + ao, none⟩) sl c' _ hroom (by simp only [addr_add]; rw [Nat.add_assoc]; exact hst)
              refine ⟨ρ.upd s.next ⟨l.blk, l.base + ao, l.room⟩, .slice (some ⟨l.blk, l.base + ao, none⟩) (sl + n) c', _, by rw [hx']; exact happ, ?_, ?_⟩
              · have := VRel.slice (ρ := ρ.upd s.next ⟨l.blk, l.base + ao, l.room⟩) (b := s.next) (o := 0) (n := sl + n) (c := UNK + i.size) (c' := c') (l := ⟨l.blk, l.base + ao, l.room⟩) (by simp [Ren.upd]) hroom hm (.inr ⟨i.size, by omega, rfl, by simpa using hcap'⟩)
                simpa using this
              · refine Good.move (l' := ⟨l.blk, l.base + ao, l.room⟩) (elem := el) (fr := fr) cx.top cx.yok hnew cx.rel (cx.high (hset.wr _ (set_bit s ab none))) hY (St.getC_get hc) hl ha (setRow_heap w l.blk cells _ el fr hcc) ?_ ?_ hfr ?_ (fun k _ hk => setRow_other w l.blk k _ hk) (by rw [setRow_size]; exact Nat.le_refl _) (.inl rfl) rfl rfl rfl
                · simp; omega
                · rw [hlenN]
                  have h5 : (sl + n) * i.size ≤ c' * i.size := Nat.mul_le_mul_right _ hroom
                  simp only; omega
                · rw [hlenN]
                  have e1 : (((cells.toList.take (l.base + (ao + sl * i.size) + 0) ++ news ++ cells.toList.drop (l.base + (ao + sl * i.size) + 0 + news.length)).toArray.toList.drop (l.base + ao)).take ((sl + n) * i.size)) = (cells.toList.drop (l.base + ao)).take (sl * i.size) ++ news := by
                    have hA : (cells.toList.take (l.base + (ao + sl * i.size))) = cells.toList.take (l.base + ao) ++ (cells.toList.drop (l.base + ao)).take (sl * i.size) := by
                      rw [← Nat.add_assoc, List.take_add]
                    have hB : (cells.toList.take (l.base + ao)).length = l.base + ao := by simp; omega
                    have hC : ((cells.toList.drop (l.base + ao)).take (sl * i.size) ++ news).length = (sl + n) * i.size := by
                      rw [← (hold.append hrel).1.1, hlenN]
                    simp only [Nat.add_zero, List.toList_toArray, hA]
                    rw [List.append_assoc, List.append_assoc, List.drop_append_of_le_length (by omega), List.drop_eq_nil_of_le (by omega), List.nil_append, ← List.append_assoc, List.take_append_of_le_length (by omega), List.take_of_length_le (by omega)]
                  rw [e1]; exact hold.append hrel
            · exact grows _ c' hx' (by omega) (.inr rfl)
          · exact grows o' 0 (by rw [hx', h0]) (by omega) (.inl h0)
end
end Go.Abs
