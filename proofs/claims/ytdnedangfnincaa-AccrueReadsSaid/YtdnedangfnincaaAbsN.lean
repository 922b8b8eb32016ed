import Derived.Test.YtdnedangfnincaaAbsT
namespace Go.Abs
set_option linter.unusedVariables false
set_option linter.unusedSimpArgs false
section
variable {P : Program} {gl : Nat → Bool} {ex : FuncId → Option (List Value → Option Value)} {o : Oper}

theorem bind_inv {α β : Type} {x : Option α} {f : α → Option β} {b : β} (h : (x >>= f) = some b) : ∃ a, x = some a ∧ f a = some b := Option.bind_eq_some_iff.1 h

theorem byteT {e : TypeId} (h : isByteT P e = true) : P.underlying e = some (.int .u8) := by
  unfold isByteT at h
  split at h
  · assumption
  · cases h
theorem eqO_ok {f : Value → Value → Option Bool} {op : BinOp} {t u : TypeId} {x y : Operand} {F : OpF} (ho : o.op = .binOp op t x y u) (ht : eqOk P f t) (h : eqO f op x y = some F) : OpOk P gl o F := by
  unfold eqO at h
  split at h
  · cases h; exact ok_eqv (neg := false) ho rfl ht
  · cases h; exact ok_eqv (neg := true) ho rfl ht
  · cases h
theorem cBuiltin_ok {b : Builtin} {ts : Array TypeId} {args : Array Operand} {F : OpF} (ho : o.op = .call ⟨.builtin b, args, ts⟩) (h : cBuiltin P b ts args.toList = some F) : OpOk P gl o F := by
  unfold cBuiltin at h
  split at h
  · rename_i hl
    split at h
    · rename_i t u hts
      obtain ⟨d, hd, h⟩ := bind_inv h
      split at h
      · rename_i e
        obtain ⟨z, hz, h⟩ := bind_inv h
        obtain ⟨n, hn, h⟩ := bind_inv h
        split at h
        · cases h
        · rename_i hzl
          obtain ⟨du, hdu, h⟩ := bind_inv h
          have hzl' : z.length = n := Classical.not_not.1 hzl
          split at h
          · obtain ⟨bb, hb, h⟩ := bind_inv h
            cases h
            exact ok_append ho hl hts hd (.inl ⟨_, hdu⟩) hn hb hz hzl'
          · obtain ⟨bb, hb, h⟩ := bind_inv h
            cases h
            exact ok_append ho hl hts hd (.inr hdu) hn hb hz hzl'
          · cases h
      · cases h
    · cases h
  · rename_i hl
    split at h
    · rename_i t u hts
      obtain ⟨d, hd, h⟩ := bind_inv h
      split at h
      · obtain ⟨n, hn, h⟩ := bind_inv h
        cases h
        exact ok_copy ho hl hts hd hn
      · cases h
    · cases h
  · rename_i hl
    obtain ⟨t, ht, h⟩ := bind_inv h
    obtain ⟨d, hd, h⟩ := bind_inv h
    split at h
    · cases h; exact ok_lenS ho hl ht hd
    · cases h; exact ok_lenL ho hl ht hd
    · cases h; exact ok_lenC ho hl ht hd
    · cases h; exact ok_lenM ho hl ht hd
    · cases h
  · rename_i hl
    obtain ⟨t, ht, h⟩ := bind_inv h
    obtain ⟨d, hd, h⟩ := bind_inv h
    split at h
    · cases h; exact ok_cap ho hl ht hd
    · cases h
  · rename_i hl
    cases h
    exact ok_mm (mx := false) ho hl
  · rename_i hl
    cases h
    exact ok_mm (mx := true) ho hl
  · cases h

theorem mapM_places {fs : List Field} (h : fs.all (fun f => (P.info? f.type).isSome) = true) :
    ∃ pl, fs.mapM (fun f => (P.info? f.type).map fun i => (f.offset, i.size)) = some pl ∧ ∀ i : Nat, pl[i]? = (fs[i]?).bind fun (f : Field) => (sizeT P f.type).map fun n => (f.offset, n) := by
  induction fs with
  | nil => exact ⟨[], rfl, fun i => by simp⟩
  | cons f fs ih =>
    simp only [List.all_cons, Bool.and_eq_true] at h
    obtain ⟨pl, hpl, hi⟩ := ih h.2
    obtain ⟨i, hi0⟩ := Option.isSome_iff_exists.1 h.1
    refine ⟨(f.offset, i.size) :: pl, by simp [List.mapM_cons, hi0, hpl], fun j => ?_⟩
    cases j with
    | zero => simp [sizeT, hi0]
    | succ j => simpa using hi j
theorem zero_facts {t : TypeId} {z : List Value} (hz : zeroT P t = some z) : ∃ i v, P.info? t = some i ∧ i.zero = some v ∧ CR (fun _ => none) z v.cells.toList ∧ z.all gnd1 = true ∧ v.cells.toList = z := by
  obtain ⟨i, v, hi, hiz, hzc, hg⟩ := info_of_zero hz
  exact ⟨i, v, hi, hiz, by rw [hzc]; exact gnd_CR hg, hg, hzc⟩

theorem cOp_ok (hex : ∀ f g, ex f = some g → ExtOk P f g) {F : OpF} (h : cOp P gl ex o = some F) : OpOk P gl o F := by
  unfold cOp at h
  split at h
  · cases h
  · cases hop : o.op with
    | move x => simp only [hop] at h; cases h; exact ok_mov (.inl hop)
    | assign x => simp only [hop] at h; cases h; exact ok_mov (.inr hop)
    | pick c x y => simp only [hop] at h; cases h; exact ok_pick hop
    | alloc t =>
      simp only [hop] at h
      obtain ⟨z, hz, h⟩ := bind_inv h
      cases h; exact ok_new hop hz
    | box t x => simp only [hop] at h; cases h; exact ok_box hop
    | build t parts =>
      simp only [hop] at h
      obtain ⟨z, hz, h⟩ := bind_inv h
      obtain ⟨d, hd, h⟩ := bind_inv h
      obtain ⟨i, v, hi, hiz, hc, hg, hzc⟩ := zero_facts hz
      split at h
      · rename_i fs
        obtain ⟨ps, hps, h⟩ := bind_inv h
        split at h
        · rename_i hall
          cases h
          obtain ⟨pl, hpl, hget⟩ := mapM_places hall
          refine ok_build hop hps fun pv => ⟨v.cells, hc, hg, hzc, ?_⟩
          unfold Program.built
          simp only [hi, hd, hiz, hpl]
          congr 1
          funext j
          have e1 : pl.toArray[j]? = pl[j]? := by simp
          rw [e1, hget j]
          simp only [Array.getElem?_toList]
          cases fs[j]? with
          | none => rfl
          | some f => cases hs : sizeT P f.type <;> simp [hs]
        · cases h
      · rename_i n e
        obtain ⟨k, hk, h⟩ := bind_inv h
        obtain ⟨ps, hps, h⟩ := bind_inv h
        cases h
        refine ok_build hop hps fun pv => ⟨v.cells, hc, hg, hzc, ?_⟩
        obtain ⟨ie, hie, hin⟩ := info_of_size hk
        unfold Program.built
        simp only [hi, hd, hiz, hie, hin]
      · cases h
    | buildSlice t n parts =>
      simp only [hop] at h
      obtain ⟨d, hd, h⟩ := bind_inv h
      split at h
      · obtain ⟨size, hs, h⟩ := bind_inv h
        obtain ⟨z, hz, h⟩ := bind_inv h
        split at h
        · cases h
        · rename_i hno
          obtain ⟨ps, hps, h⟩ := bind_inv h
          cases h
          have h1 : ¬ size = 0 := fun e => hno (.inl e)
          have h2 : z.length = size := Classical.not_not.1 fun e => hno (.inr (.inl e))
          have h3 : n * size ≤ 2 ^ 24 := Nat.le_of_not_lt fun e => hno (.inr (.inr e))
          exact ok_buildSlice hop hd hs hz h1 h2 h3 hps
      · cases h
    | insert t m k x => simp only [hop] at h; cases h
    | load t x =>
      simp only [hop] at h
      obtain ⟨b, hb, h⟩ := bind_inv h
      cases b with
      | true =>
        simp only [if_true] at h
        obtain ⟨n, hn, h⟩ := bind_inv h
        cases h; exact ok_loadN hop hb hn
      | false => simp only [Bool.false_eq_true, if_false] at h; cases h; exact ok_load1 hop hb
    | store t x y =>
      simp only [hop] at h
      obtain ⟨n, hn, h⟩ := bind_inv h
      split at h
      · cases h
      · rename_i h0
        obtain ⟨m, hm, h⟩ := bind_inv h
        rw [hn] at hm; cases hm
        cases h; exact ok_store hop hn h0
    | ready g => simp only [hop] at h; cases h
    | waits g => simp only [hop] at h; cases h
    | nilCheck x => simp only [hop] at h; cases h; exact ok_nilCheck hop
    | binOp op t x y u =>
      simp only [hop] at h
      split at h
      · cases h; exact ok_bin hop
      · rw [Option.map_eq_some_iff] at h
        obtain ⟨f, hf, h⟩ := h
        cases h; exact ok_binS hop hf
      · rename_i fs hfs
        split at h
        · cases h
        · rename_i hg
          obtain ⟨l, hl, h⟩ := bind_inv h
          have hg' : P.eqGuardType P.depth t = false ∧ P.stoodInHeld t = false := by simpa using hg
          split at h
          · cases h; exact ok_eqs (neg := false) hop rfl hfs hg'.1 hg'.2 hl
          · cases h; exact ok_eqs (neg := true) hop rfl hfs hg'.1 hg'.2 hl
          · cases h
      · rename_i hd; exact eqO_ok hop (.inl ⟨rfl, hd⟩) h
      · rename_i hd; exact eqO_ok hop (.inr (.inl ⟨rfl, _, hd⟩)) h
      · rename_i hd; exact eqO_ok hop (.inr (.inr (.inl ⟨rfl, _, hd⟩))) h
      · rename_i hd; exact eqO_ok hop (.inr (.inr (.inr (.inl ⟨rfl, _, _, _, hd⟩)))) h
      · rename_i hd; exact eqO_ok hop (.inr (.inr (.inr (.inr ⟨rfl, _, _, hd⟩)))) h
      · cases h
    | unOp op t x =>
      simp only [hop] at h
      cases op <;> simp only at h <;> cases h
      · exact ok_neg hop
      · exact ok_compl hop
      · exact ok_not hop
    | convert src dst x =>
      simp only [hop] at h
      obtain ⟨d1, h1, h⟩ := bind_inv h
      obtain ⟨d2, h2, h⟩ := bind_inv h
      split at h
      · cases h; exact ok_conv hop h1 h2
      · cases h; exact ok_same hop h1 h2
      · split at h
        · rename_i hb; cases h; exact ok_bytesStr hop h1 h2 (byteT hb)
        · cases h
      · cases h
    | sliceToArrayPointer t x => simp only [hop] at h; cases h
    | makeInterface t x =>
      simp only [hop] at h
      split at h
      · cases h
      · rename_i d hn hd; cases h; exact ok_iface hop hd (fun m e => hn m (by rw [← e]))
      · cases h
    | makeFunc fn p q => simp only [hop] at h; cases h; exact ok_func hop
    | makeMap t r =>
      simp only [hop] at h
      cases r with
      | none => cases h; exact ok_makeMap hop
      | some _ => cases h
    | makeChan t s => simp only [hop] at h; cases h
    | makeSlice t l c =>
      simp only [hop] at h
      obtain ⟨d, hd, h⟩ := bind_inv h
      split at h
      · obtain ⟨z, hz, h⟩ := bind_inv h
        obtain ⟨n, hn, h⟩ := bind_inv h
        split at h
        · rename_i hzn
          obtain ⟨n2, hn2, h⟩ := bind_inv h
          obtain ⟨b, hb, h⟩ := bind_inv h
          obtain ⟨z2, hz2, h⟩ := bind_inv h
          rw [hz] at hz2; cases hz2
          rw [hn] at hn2; cases hn2
          cases h; exact ok_makeSlice hop hd hn hb hz hzn
        · cases h
      · cases h
    | slice t x lo hi mx =>
      simp only [hop] at h
      obtain ⟨d, hd, h⟩ := bind_inv h
      split at h
      · split at h
        · cases h
        · rename_i hm
          cases h
          cases mx with
          | none => exact ok_sliceS hop hd
          | some _ => exact absurd rfl hm
      · split at h
        · cases h
        · rename_i hm
          obtain ⟨n, hn, h⟩ := bind_inv h
          cases h
          exact ok_sliceL hop hd hn (fun e => by cases hi with | none => exact absurd (by simp [e]) hm | some _ => rfl)
      · split at h
        · cases h
        · rename_i hm
          obtain ⟨n, hn, h⟩ := bind_inv h
          cases h
          cases mx with
          | none => exact ok_sliceA hop hd hn (by simp at hm; omega)
          | some _ => exact absurd (by simp) hm
      · cases h
    | fieldAddr t x i =>
      simp only [hop] at h
      obtain ⟨d, hd, h⟩ := bind_inv h
      split at h
      · obtain ⟨f, hf, h⟩ := bind_inv h
        obtain ⟨n, hn, h⟩ := bind_inv h
        split at h
        · cases h
        · rename_i h0; cases h; exact ok_fieldAddr hop hd hf hn h0
      · cases h
    | field t x i =>
      simp only [hop] at h
      obtain ⟨d, hd, h⟩ := bind_inv h
      split at h
      · obtain ⟨f, hf, h⟩ := bind_inv h
        obtain ⟨b, hb, h⟩ := bind_inv h
        cases b with
        | true =>
          simp only [if_true] at h
          obtain ⟨n, hn, h⟩ := bind_inv h
          cases h; exact ok_fieldN hop hd hf hb hn
        | false => simp only [Bool.false_eq_true, if_false] at h; cases h; exact ok_field1 hop hd hf hb
      · cases h
    | indexAddr t x i =>
      simp only [hop] at h
      obtain ⟨d, hd, h⟩ := bind_inv h
      split at h
      · obtain ⟨n, hn, h⟩ := bind_inv h
        cases h; exact ok_idxAddrA hop hd hn
      · obtain ⟨n, hn, h⟩ := bind_inv h
        cases h; exact ok_idxAddrL hop hd hn
      · cases h
    | index t x i =>
      simp only [hop] at h
      obtain ⟨d, hd, h⟩ := bind_inv h
      split at h
      · obtain ⟨n, hn, h⟩ := bind_inv h
        obtain ⟨b, hb, h⟩ := bind_inv h
        cases h
        cases b with
        | true => exact ok_idxAN hop hd hn hb
        | false => exact ok_idxA1 hop hd hn hb
      · cases h; exact ok_idxS hop hd
      · cases h
    | lookup t x i b =>
      simp only [hop] at h
      obtain ⟨d, hd, h⟩ := bind_inv h
      split at h
      · obtain ⟨kd, hkd, h⟩ := bind_inv h
        obtain ⟨z, hz, h⟩ := bind_inv h
        cases h; exact ok_lookup hop hd hkd hz
      · cases h
    | mapUpdate t m k x =>
      simp only [hop] at h
      obtain ⟨d, hd, h⟩ := bind_inv h
      split at h
      · obtain ⟨kd, hkd, h⟩ := bind_inv h
        cases h; exact ok_mapUpdate hop hd hkd
      · cases h
    | mapEntry t m k =>
      simp only [hop] at h
      obtain ⟨d, hd, h⟩ := bind_inv h
      split at h
      · obtain ⟨kd, hkd, h⟩ := bind_inv h
        obtain ⟨z, hz, h⟩ := bind_inv h
        cases h; exact ok_mapEntry hop hd hkd hz
      · cases h
    | entryStore t m k x => simp only [hop] at h; cases h; exact ok_entryStore hop
    | range t x => simp only [hop] at h; cases h
    | next x b => simp only [hop] at h; cases h
    | entry x => simp only [hop] at h; cases h
    | typeAssert x t u b => simp only [hop] at h; cases h
    | extract x i => simp only [hop] at h; cases h; exact ok_extract hop
    | call c =>
      obtain ⟨cal, args, ts⟩ := c
      simp only [hop] at h
      cases cal with
      | builtin b => exact cBuiltin_ok hop h
      | invoke r m => cases h
      | value x =>
        cases x with
        | func f =>
          simp only at h
          split at h
          · rename_i g hg; cases h; exact ok_ext hop (hex f g hg)
          · cases h; exact ok_call hop
        | tmp t => simp only at h; cases h; exact ok_callV hop
        | const v => simp only at h; cases h; exact ok_callV hop
        | global g => simp only at h; cases h; exact ok_callV hop
    | go c => simp only [hop] at h; cases h
    | defer c => simp only [hop] at h; cases h
    | panic x => simp only [hop] at h; cases h
    | send a b => simp only [hop] at h; cases h
    | recv t x b => simp only [hop] at h; cases h
    | select cs b => simp only [hop] at h; cases h
end
end Go.Abs
