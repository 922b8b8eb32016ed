import Derived.Test.YtdnedangfnincaaAbsR
namespace Go.Abs
set_option linter.unusedVariables false
set_option linter.unusedSimpArgs false
section
variable {P : Program} {gl : Nat → Bool} {ex : FuncId → Option (List Value → Option Value)}

theorem region_any_ok {N : Nat} {ops : Array Oper} {ord : List Nat} {al : List AOper} {rec : Rec} (hm : P.follows .mixedOrders = true) (hrec : RecOk P gl rec) (ho : OrdF ops ord)
    (hal : al.length = ord.length) (hok : ∀ k, k < ord.length → ∃ ao, al[k]? = some ao ∧ OperOk P gl N ops (ordAt ops ord k) ao)
    (hun : ∀ p ∈ unord ops ord, (ordAt ops ord p.1).apart ops (ordAt ops ord p.2) = true)
    {fs fs' : Frm} {s s' : St} {ms : List Mk} (hrun : runReg rec al fs s = some (ms, fs', s')) (hap : apartAll ms (unord ops ord) = true) (hso : SOk s) :
    AStep s s' ∧ ∀ ρ Y w a, Ctx gl ρ Y s s' w → FRel ρ N fs a → ∀ (Q : Exit → Act → World → Prop) (id : Nat), (∀ ρ' a' w', Good ρ ρ' Y s s' w w' → FRel ρ' N fs' a' → Q .normal a' w') → (Code.region id ops true).wp P Q a w := by
  have hok' : ∀ ao ∈ al, ∃ o, OperOk P gl N ops o ao := by
    intro ao hao
    obtain ⟨k, hk, e⟩ := List.getElem_of_mem hao
    obtain ⟨ao', h1, h2⟩ := hok k (by omega)
    rw [List.getElem?_eq_getElem hk, e] at h1
    cases h1
    exact ⟨_, h2⟩
  have hst := runReg_step hrec al _ _ _ _ _ hok' hso hrun
  refine ⟨hst, fun ρ Y w a cx hf Q id hQ => ?_⟩
  obtain ⟨F, S, hF0, hS0, cn, hFn, hSh, hSn, hml, hmr, hmw, hmm, hmo, hmk⟩ := canon_of rec al _ _ _ _ _ (fun ao hao x hx => by
    obtain ⟨o, hoo⟩ := hok' ao hao
    exact (hoo.ld x hx).1) hrun
  have hokA : ∀ k, k < al.length → OperOk P gl N ops (ordAt ops ord k) ((al[k]?).getD noOper) := by
    intro k hk
    obtain ⟨ao, h1, h2⟩ := hok k (by omega)
    rw [h1]; exact h2
  have h0 : SOk (S 0) := by rw [hS0]; exact ⟨hso.top, hso.dead⟩
  have af := facts_of hrec cn h0 hokA
  have hget0 : ∀ x, (S 0).get x = s.get x := fun x => by rw [hS0]; rfl
  have hn0 : (S 0).next = s.next := by rw [hS0]
  have hgetn : ∀ x, (S al.length).get x = s'.get x := fun x => by unfold St.get; rw [hSh]
  have hs : ∀ k, k < al.length → ∀ t, t < 4000 → (ordAt ops ord k).dst ≠ some t → (F (k + 1)).get (path t) = (F k).get (path t) := by
    intro k hk t ht hne
    have hd := (hokA k hk).dst
    have key : ∀ v, (putT (F k) ((al[k]?).getD noOper).dst v).get (path t) = (F k).get (path t) := by
      intro v
      rw [hd]
      cases hdd : (ordAt ops ord k).dst with
      | none => rfl
      | some d =>
        have hd4 := (slot_lt ((hokA k hk).slot d hdd)).2
        exact PT.get_put_ne _ _ _ _ (fun e => hne (by rw [hdd, path_inj ht hd4 e]))
    rcases cn.step k hk with ⟨_, v, s1, _, h2, _⟩ | ⟨_, h2, _⟩ | ⟨_, _, _, _, v, _, _, _, _, h2, _⟩
    · rw [h2]; exact key v
    · rw [h2]; exact key undef
    · rw [h2]; exact key v
  have he : Edges al.length ops (ordAt ops ord) (mkM ms) (bitsAt ops ord) := by
    refine ⟨fun i j hij hj => ?_⟩
    cases hb : (bitsAt ops ord j).testBit i with
    | true => exact .inl rfl
    | false =>
      right
      have hmem : (i, j) ∈ unord ops ord := by
        unfold unord
        refine List.mem_flatMap.2 ⟨j, List.mem_range.2 (by omega), List.mem_filterMap.2 ⟨i, List.mem_range.2 hij, ?_⟩⟩
        unfold bitsAt at hb
        simp [nth_eq, hb]
      exact ⟨hun _ hmem, (apartP_spec (apartAll_spec hap _ hmem)).1⟩
  have hlf : LdFree al.length S (mkM ms) (mkL ms) (bitsAt ops ord) := by
    intro i hi x o hL j hj hne hw
    have pairs : ∀ i j, i < j → j < al.length → (bitsAt ops ord j).testBit i = false → (i, j) ∈ unord ops ord := by
      intro i j hij hj hb
      unfold unord
      refine List.mem_flatMap.2 ⟨j, List.mem_range.2 (by omega), List.mem_filterMap.2 ⟨i, List.mem_range.2 hij, ?_⟩⟩
      unfold bitsAt at hb
      simp [nth_eq, hb]
    obtain ⟨mi, hmi, hmia, _⟩ := hmk i hi
    obtain ⟨mj, hmj, hmja, hmjb⟩ := hmk j hj
    have hLi : mi.ld = some (x, o) := by unfold mkL at hL; rw [hmi] at hL; exact hL
    have hwj : mj.m.2.testBit x = true := by unfold mkM at hw; rw [hmj] at hw; exact hw
    have fin : ldFree mi mj = true → cellH ((S j).get x) o = cellH ((S i).get x) o ∧ cellH ((S (j + 1)).get x) o = cellH ((S i).get x) o ∧ (cellH ((S j).get x) o).isSome = true := by
      intro hfree
      have := ldFree_spec hfree hLi hwj
      rw [hmja, hmjb, hmia] at this
      exact this
    rcases Nat.lt_or_gt_of_ne hne with h | h
    · cases hb : (bitsAt ops ord i).testBit j with
      | true => exact .inl ⟨h, rfl⟩
      | false =>
        right; right
        obtain ⟨a, b, ha, hb2, h1, h2⟩ := (apartP_spec (apartAll_spec hap _ (pairs j i h hi hb))).2
        rw [hmj] at ha; cases ha
        rw [hmi] at hb2; cases hb2
        exact fin h2
    · cases hb : (bitsAt ops ord j).testBit i with
      | true => exact .inr (.inl ⟨h, rfl⟩)
      | false =>
        right; right
        obtain ⟨a, b, ha, hb2, h1, h2⟩ := (apartP_spec (apartAll_spec hap _ (pairs i j h hj hb))).2
        rw [hmi] at ha; cases ha
        rw [hmj] at hb2; cases hb2
        exact fin h1
  refine wp_region_any hm ?_
  refine wpAny_run (s' := s') (ρ0 := ρ) (Y := Y) (w0 := w) (n := al.length) ho hal hrec cn hlf (fun k hk x o h => hmo k hk x o h) af hokA he hs (fun k hk x => hmm k hk x) (by rw [hn0]; exact cx.yok) (by rw [hn0]; exact cx.foot) cx.wlow cx.groom
    (by rw [hn0]; exact cx.glob) (fun done ρ' w' a' hall iv => ?_) ops.size _ (List.range al.length) ρ _ a (by simp) (by rw [List.length_range, hal, ho.len]; exact Nat.le_refl _) (fun k hk _ => List.mem_range.2 hk) ?_ ?_
  · -- all is done
    have hhv : ∀ x, hv S (mkM ms) done x al.length = s'.get x := fun x => by
      rw [hv_prefix af x _ (Nat.le_refl _) (fun k hk _ => hall k hk)]; exact hgetn x
    have yd : ∀ x, (Y x ∨ (s.next ≤ x ∧ x < s'.next)) → YD Y al.length S done x := by
      intro x hx
      rcases hx with hx | hx
      · exact .inl hx
      · obtain ⟨k, hk, h1, h2⟩ := af.find (Nat.le_refl _) x (by rw [hn0]; exact hx.1) (by rw [hSn]; exact hx.2)
        exact .inr ⟨k, hk, hall k hk, h1, h2⟩
    have fnd : ∀ x, s.next ≤ x → x < s'.next → ∃ k, k < al.length ∧ (S k).next ≤ x ∧ x < (S (k + 1)).next := fun x h1 h2 =>
      af.find (Nat.le_refl _) x (by rw [hn0]; exact h1) (by rw [hSn]; exact h2)
    refine hQ ρ' a' w' ⟨fun x hx => iv.oth x (by rw [hn0, hSn]; exact hx), fun x h1 h2 => ?_, ⟨fun x b hx hb => iv.blk x b (yd x hx) (by rw [hhv]; exact hb), fun x y l m hx hy h1 h2 => iv.inj x y l m (yd x hx) (yd y hy) (by rw [hhv]; exact h1) (by rw [hhv]; exact h2)⟩,
      iv.size, fun k hk hno => iv.old k hk (fun x l hx hl hb hw hls => hno x l hx hl hb hw (by rw [← hget0]; exact hls)), fun x l h1 h2 hl => ?_, fun x l h1 h2 hl => ?_, iv.os, iv.tape, iv.output⟩ ⟨iv.fsize, fun t ht => ?_, iv.fdef⟩
    · obtain ⟨k, hk, h3, h4⟩ := fnd x h1 h2
      exact iv.dom k hk (hall k hk) x h3 h4
    · obtain ⟨k, hk, h3, h4⟩ := fnd x h1 h2
      rcases iv.fresh k hk (hall k hk) x l h3 h4 hl with h | ⟨y, m, hy, hyw, hys, hym, hme⟩
      · exact .inl h
      · exact .inr ⟨y, m, hy, hyw, by rw [← hget0]; exact hys, hym, hme⟩
    · obtain ⟨k, hk, h3, h4⟩ := fnd x h1 h2
      exact iv.bound k hk (hall k hk) x l h3 h4 hl
    · have := iv.frel t ht
      rw [fv_prefix hs t ht _ (Nat.le_refl _) (fun k hk _ => hall k hk), hFn] at this
      exact this
  · intro k hk hd
    exfalso
    unfold doneOf at hd
    have : (Array.replicate ops.size false).getD ((ord[k]?).getD ops.size) false = false := by
      simp only [Array.getD_eq_getD_getElem?, Array.getElem?_replicate]
      split <;> rfl
    rw [this] at hd; cases hd
  · have hdn : doneOf ord ops.size (Array.replicate ops.size false) = fun _ => false := by
      funext k
      unfold doneOf
      simp only [Array.getD_eq_getD_getElem?, Array.getElem?_replicate]
      split <;> rfl
    rw [hdn]
    have hhv : ∀ x j, hv S (mkM ms) (fun _ => false) x j = s.get x := by
      intro x j
      induction j with
      | zero => exact hget0 x
      | succ j ih => unfold hv; simpa using ih
    have hfv : ∀ t j, fv F (ordAt ops ord) (fun _ => false) t j = fs.get (path t) := by
      intro t j
      induction j with
      | zero => show (F 0).get (path t) = _; rw [hF0]
      | succ j ih => unfold fv; simpa using ih
    have yd : ∀ x, YD Y al.length S (fun _ => false) x → Y x := by
      intro x hx
      rcases hx with hx | ⟨k, _, hd, _⟩
      · exact hx
      · cases hd
    refine ⟨fun x _ => rfl, fun k hk _ x h1 h2 => cx.fresh x ?_ ?_, fun k hk hd => (by cases hd), fun x b hx hb => ?_, fun x y l m hx hy h1 h2 => ?_, hf.size, fun t ht => ?_, hf.defers, Nat.le_refl _, fun k hk _ => rfl, fun k hk hd => (by cases hd), fun k hk hd => (by cases hd), rfl, rfl, rfl⟩
    · have := af.mono (Nat.zero_le k) (Nat.le_of_lt hk); omega
    · have := af.mono (show k + 1 ≤ al.length by omega) (Nat.le_refl _); omega
    · rw [hhv] at hb; exact cx.rel.blk x b (yd x hx) hb
    · rw [hhv] at h1 h2; exact cx.rel.inj x y l m (yd x hx) (yd y hy) h1 h2
    · rw [hfv]; exact hf.rel t ht

/-! code -/
def exOf : AExit → Exit
  | .norm => .normal
  | .exit i => .exit i
  | .ret => .ret
/-- a piece of code, by its rule -/
def SemOk (P : Program) (gl : Nat → Bool) (N : Nat) (W : (Exit → Act → World → Prop) → Act → World → Prop) (G : Frm → St → OutX) : Prop :=
  ∀ fs s e fs' s', G fs s = some (e, fs', s') → SOk s → AStep s s' ∧ ∀ ρ Y w a, Ctx gl ρ Y s s' w → FRel ρ N fs a →
    ∀ Q : Exit → Act → World → Prop, (∀ ρ' a' w', Good ρ ρ' Y s s' w w' → FRel ρ' N fs' a' → Q (exOf e) a' w') → W Q a w
variable {N : Nat}
theorem SemOk.seq {Wa Wb : (Exit → Act → World → Prop) → Act → World → Prop} {Ga Gb : Frm → St → OutX} (ha : SemOk P gl N Wa Ga) (hb : SemOk P gl N Wb Gb) :
    SemOk P gl N (fun Q => Wa (Exit.then (Wb Q) Q)) (seqF Ga Gb) := by
  intro fs s e fs' s' h hso
  unfold seqF at h
  obtain ⟨e1, ⟨fs1, s1⟩, h1, h⟩ := opt2_k h
  obtain ⟨st1, k1⟩ := ha _ _ _ _ _ h1 hso
  cases e1 with
  | norm =>
    obtain ⟨st2, k2⟩ := hb _ _ _ _ _ h (hso.step st1)
    refine ⟨st1.trans st2, fun ρ Y w a cx hf Q hQ => k1 ρ Y w a (cx.first st2) hf _ fun ρ1 a1 w1 g1 hf1 => ?_⟩
    exact k2 ρ1 _ w1 a1 (cx.then st1 g1) hf1 Q fun ρ2 a2 w2 g2 hf2 => hQ ρ2 a2 w2 (Good.trans cx st1 st2 g1 g2) hf2
  | exit i =>
    cases h
    exact ⟨st1, fun ρ Y w a cx hf Q hQ => k1 ρ Y w a cx hf _ fun ρ1 a1 w1 g1 hf1 => hQ ρ1 a1 w1 g1 hf1⟩
  | ret =>
    cases h
    exact ⟨st1, fun ρ Y w a cx hf Q hQ => k1 ρ Y w a cx hf _ fun ρ1 a1 w1 g1 hf1 => hQ ρ1 a1 w1 g1 hf1⟩
theorem SemOk.mono {W W' : (Exit → Act → World → Prop) → Act → World → Prop} {G : Frm → St → OutX} (h : SemOk P gl N W G) (hw : ∀ Q a w, W Q a w → W' Q a w) : SemOk P gl N W' G :=
  fun fs s e fs' s' hg hso => let ⟨st, k⟩ := h fs s e fs' s' hg hso; ⟨st, fun ρ Y w a cx hf Q hQ => hw _ _ _ (k ρ Y w a cx hf Q hQ)⟩

/-- a loop that has begun a round -/
def Round (P : Program) (c : Code) (Q : Exit → Act → World → Prop) (a : Act) (w : World) : Prop :=
  ∀ (b : Frame) (k : List Item) (cs : List Frame), ∃ e a' w', Q e a' w' ∧ Arrives P (lone (b.at a (.code c :: .inLoop c :: k)) cs w) b k cs e a' w'
theorem Round.loop {c : Code} {Q : Exit → Act → World → Prop} {a : Act} {w : World} (h : Round P c Q a w) : (Code.loop c).wp P Q a w := by
  intro b k cs
  obtain ⟨e, a', w', hq, harr⟩ := h b k cs
  exact ⟨e, a', w', hq, .of_steps (.one step_loop) harr⟩
theorem Round.next {c : Code} {Q : Exit → Act → World → Prop} {a : Act} {w : World} (h : c.wp P (Exit.then (Round P c Q) Q) a w) : Round P c Q a w := by
  intro b k cs
  obtain ⟨e, a₁, w₁, hq, harr⟩ := h b (.inLoop c :: k) cs
  cases e with
  | normal =>
    obtain ⟨e₂, a₂, w₂, hq₂, harr₂⟩ := hq b k cs
    exact ⟨e₂, a₂, w₂, hq₂, .of_steps (Steps.trans harr (.one step_inLoop)) harr₂⟩
  | exit id => exact ⟨_, a₁, w₁, hq, .pass (x := .inLoop c) rfl (fun _ _ => .inl (by simp)) harr⟩
  | goto l => exact ⟨_, a₁, w₁, hq, .pass (x := .inLoop c) rfl (fun _ _ => .inl (by simp)) harr⟩
  | ret => exact ⟨_, a₁, w₁, hq, .pass (x := .inLoop c) rfl (fun _ _ => .inl (by simp)) harr⟩
  | panic ch => exact ⟨_, a₁, w₁, hq, .pass (x := .inLoop c) rfl (fun _ _ => .inl (by simp)) harr⟩
  | outgrown => exact ⟨_, a₁, w₁, hq, .pass (x := .inLoop c) rfl (fun _ _ => .inl (by simp)) harr⟩

theorem ops_ok {rec : Rec} (hrec : RecOk P gl rec) {ops : Array Oper} {al : List AOper} (hl : ops.size = al.length) (hg : ∀ (k : Nat) (o : Oper), ops[k]? = some o → ∃ ao, al[k]? = some ao ∧ OperOk P gl N ops o ao) (id n : Nat) :
    SemOk P gl N (fun Q => (Code.region id ops false).wp P Q) (xOps al rec n) := by
  intro fs s e fs' s' h hso
  unfold xOps at h
  obtain ⟨fs1, s1, h1, h⟩ := opt2_k h
  cases h
  have hgl : ∀ (k : Nat) (o : Oper), ops.toList[k]? = some o → ∃ ao, al[k]? = some ao ∧ OperOk P gl N ops o ao := fun k o hk => hg k o (by simpa using hk)
  refine ⟨runOps_step hrec ops.toList al _ _ _ _ hgl (by simpa using hl) hso h1, fun ρ Y w a cx hf Q hQ => wp_region ?_⟩
  refine runOps_ok hrec (List.range ops.size) al _ _ _ _ ρ Y w a (fun k i hk => ?_) (by simpa using hl) h1 cx hf fun ρ' a' w' g hf' => hQ ρ' a' w' g hf'
  have hlt : k < ops.size := by
    rcases Nat.lt_or_ge k ops.size with h | h
    · exact h
    · rw [List.getElem?_eq_none (by simpa using h)] at hk; cases hk
  have hik : i = k := by simpa [List.getElem?_range hlt] using hk.symm
  subst hik
  obtain ⟨ao, h1, h2⟩ := hg i _ (Array.getElem?_eq_getElem hlt)
  exact ⟨ops[i], ao, Array.getElem?_eq_getElem hlt, h1, h2⟩
theorem SemOk.bad {W : (Exit → Act → World → Prop) → Act → World → Prop} {rec : Rec} {n : Nat} : SemOk P gl N W (xBad rec n) := fun _ _ _ _ _ h => by cases h

theorem cCode_ok (hm : P.follows .mixedOrders = true) (hex : ∀ f g, ex f = some g → ExtOk P f g) {rec : Rec} (hrec : RecOk P gl rec) (n : Nat) : ∀ c : Code, SemOk P gl N (fun Q => c.wp P Q) (cCode P gl ex N c rec n) := by
  intro c
  induction c with
  | skip => exact fun fs s e fs' s' h hso => by cases h; exact ⟨AStep.refl _, fun ρ Y w a cx hf Q hQ => wp_skip (hQ ρ a w (Good.refl cx.rel) hf)⟩
  | region id ops draw =>
    unfold cCode
    cases draw with
    | false =>
      simp only [Bool.false_eq_true, if_false]
      cases hmm : ops.toList.mapM (cOper P gl ex N ops) with
      | none => exact SemOk.bad
      | some al =>
        obtain ⟨h1, h2⟩ := mapM_get hmm
        refine ops_ok hrec (by simpa using h1) (fun k o hk => ?_) id n
        obtain ⟨ao, h3, h4⟩ := h2 k o (by simpa using hk)
        exact ⟨ao, h4, cOper_ok hex h3⟩
    | true =>
      show SemOk P gl N _ (cReg P gl ex N ops rec n)
      unfold cReg
      split
      · rename_i hc
        rw [Bool.and_eq_true] at hc
        have hord := ordOk_spec hc.1
        cases hal : (canon ops).mapM (fun i => (ops[i]?).bind (cOper P gl ex N ops)) with
        | some al =>
          obtain ⟨h1, h2⟩ := mapM_get hal
          intro fs s e fs' s' h hso
          unfold xReg at h
          obtain ⟨ms, ⟨fs1, s1⟩, h3, h⟩ := opt2_k h
          cases hap : apartAll ms (unord ops (canon ops)) with
          | false => rw [hap] at h; cases h
          | true =>
            rw [hap] at h
            cases h
            have := region_any_ok (N := N) hm hrec hord h1.symm (fun k hk => by
              obtain ⟨i, o, h4, h5, h6⟩ := hord.get hk
              obtain ⟨ao, h7, h8⟩ := h2 k i h4
              rw [h5, Option.bind_some] at h7
              exact ⟨ao, h8, by rw [h6]; exact cOper_ok hex h7⟩) (fun p hp => by
              have := List.all_eq_true.1 hc.2 p hp
              unfold pairOk at this
              rw [nth_eq, nth_eq] at this
              unfold ordAt
              split at this
              · rename_i x y hx hy
                rw [hx, hy]; exact this
              · cases this) h3 hap hso
            exact ⟨this.1, fun ρ Y w a cx hf Q hQ => this.2 ρ Y w a cx hf Q id hQ⟩
        | none => exact SemOk.bad
      · exact SemOk.bad
  | seq a b iha ihb => exact (iha.seq ihb).mono fun Q a w h => wp_seq h
  | cond c a b iha ihb =>
    unfold cCode
    split
    · rename_i hc
      intro fs s e fs' s' h hso
      unfold xCond at h
      split at h
      · rename_i t hv
        have key : ∀ ρ Y w act, Ctx gl ρ Y s s' w → FRel ρ N fs act → act.eval c = .bool t := fun ρ Y w act cx hf => by
          have := ev_rel hf cx.gl' hc
          rw [hv] at this
          exact this.bool_inv
        cases t with
        | false =>
          obtain ⟨st, k⟩ := ihb _ _ _ _ _ h hso
          exact ⟨st, fun ρ Y w act cx hf Q hQ => wp_cond (key ρ Y w act cx hf) (by simpa using k ρ Y w act cx hf Q hQ)⟩
        | true =>
          obtain ⟨st, k⟩ := iha _ _ _ _ _ h hso
          exact ⟨st, fun ρ Y w act cx hf Q hQ => wp_cond (key ρ Y w act cx hf) (by simpa using k ρ Y w act cx hf Q hQ)⟩
      · cases h
    · exact SemOk.bad
  | block id b ih =>
    intro fs s e fs' s' h hso
    change xBlock id (cCode P gl ex N b) rec n fs s = _ at h
    unfold xBlock at h
    obtain ⟨e1, ⟨fs1, s1⟩, h1, h⟩ := opt2_k h
    obtain ⟨st, k⟩ := ih _ _ _ _ _ h1 hso
    cases e1 with
    | norm =>
      cases h
      exact ⟨st, fun ρ Y w a cx hf Q hQ => wp_block (k ρ Y w a cx hf _ fun ρ' a' w' g hf' => hQ ρ' a' w' g hf')⟩
    | ret =>
      cases h
      exact ⟨st, fun ρ Y w a cx hf Q hQ => wp_block (k ρ Y w a cx hf _ fun ρ' a' w' g hf' => hQ ρ' a' w' g hf')⟩
    | exit i =>
      have h : (Bool.rec (some (.exit i, fs1, s1)) (some (.norm, fs1, s1)) (Nat.beq i id) : OutX) = some (e, fs', s') := h
      rw [brec_eq, beq_eq'] at h
      by_cases hi : i = id
      · simp only [hi, decide_true, cond_true] at h
        cases h
        refine ⟨st, fun ρ Y w a cx hf Q hQ => wp_block (k ρ Y w a cx hf _ fun ρ' a' w' g hf' => ?_)⟩
        show Exit.inBlock id Q (.exit i) a' w'
        simp only [Exit.inBlock, hi, if_true]
        exact hQ ρ' a' w' g hf'
      · simp only [hi, decide_false, cond_false] at h
        cases h
        refine ⟨st, fun ρ Y w a cx hf Q hQ => wp_block (k ρ Y w a cx hf _ fun ρ' a' w' g hf' => ?_)⟩
        show Exit.inBlock id Q (.exit i) a' w'
        simp only [Exit.inBlock, hi, if_false]
        exact hQ ρ' a' w' g hf'
  | loop b ih =>
    have key : ∀ m, SemOk P gl N (fun Q => Round P b Q) (loopF (cCode P gl ex N b rec n) m) := by
      intro m
      induction m with
      | zero => exact fun _ _ _ _ _ h => by cases h
      | succ m ihm => exact (ih.seq ihm).mono fun Q a w h => Round.next h
    exact (key n).mono fun Q a w h => h.loop
  | scope b ih =>
    intro fs s e fs' s' h hso
    obtain ⟨st, k⟩ := ih _ _ _ _ _ h hso
    refine ⟨st, fun ρ Y w a cx hf Q hQ => wp_scope_straight (k ρ Y w a cx hf _ fun ρ' a' w' g hf' => ?_)⟩
    have := hQ ρ' a' w' g hf'
    cases e <;> exact this
  | exit id => exact fun fs s e fs' s' h hso => by cases h; exact ⟨AStep.refl _, fun ρ Y w a cx hf Q hQ => wp_exit (hQ ρ a w (Good.refl cx.rel) hf)⟩
  | label id => exact fun fs s e fs' s' h hso => by cases h; exact ⟨AStep.refl _, fun ρ Y w a cx hf Q hQ => wp_label (hQ ρ a w (Good.refl cx.rel) hf)⟩
  | ret => exact fun fs s e fs' s' h hso => by cases h; exact ⟨AStep.refl _, fun ρ Y w a cx hf Q hQ => wp_ret (hQ ρ a w (Good.refl cx.rel) hf)⟩
  | _ => exact SemOk.bad
end
end Go.Abs
