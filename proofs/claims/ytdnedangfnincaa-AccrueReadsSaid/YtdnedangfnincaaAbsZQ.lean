import Derived.Test.YtdnedangfnincaaAbsZP
namespace Go.Abs
set_option linter.unusedVariables false
set_option linter.unusedSimpArgs false
/-! slices of numbers without a sign that are made by append: what append does, with the state behind it -/
theorem fits_8 (n : Nat) (h : n ≤ 1000000) : fits n 8 = true := by
  unfold fits
  rw [ble_eq', ble_eq', decide_eq_true (by omega), decide_eq_true (by omega)]; rfl
theorem srcU_1 (s : St) (x m xc : Nat) (d : List Value) (hx : s.getC x = some d) (hd : d.length = m) (hm : 0 < m) : srcCells s 1 (.slice (some ⟨x, 0, none⟩) m xc) = some (m, d, s.seen x) := by
  have z1 : Nat.beq m 0 = false := by rw [beq_eq']; exact decide_eq_false (by omega)
  show (bif Nat.beq m 0 then some (0, [], s) else opt2 (s.read x 0 (m * 1)) fun c s => some (m, c, s)) = _
  rw [z1, cond_false, read_u s x 0 (m * 1) d hx (by omega), op2_s, List.drop_zero, List.take_of_length_le (by omega)]
theorem appU_nil (s : St) (x m xc : Nat) (d : List Value) (rec : Rec) (fs : Frm) (hx : s.getC x = some d) (hd : d.length = m) (hm : 0 < m) (hb : m ≤ 1000000) (hl : s.next ≤ lim) :
    oAppend 1 8 (.v (.slice none 0 0)) (.v (.slice (some ⟨x, 0, none⟩) m xc)) rec fs s = some (.slice (some ⟨s.next, 0, none⟩) m (UNK + 1), an (s.seen x) d) := by
  have z1 : Nat.beq m 0 = false := by rw [beq_eq']; exact decide_eq_false (by omega)
  show opt (srcCells s 1 (.slice (some ⟨x, 0, none⟩) m xc)) (fun r => appendTo r.2.2 1 8 none 0 0 r.1 r.2.1) = _
  rw [srcU_1 s x m xc d hx hd hm, op_s]
  unfold appendTo
  rw [z1, Nat.zero_add, fits_8 m hb]
  show newSlice (s.seen x) 1 m d = _
  unfold newSlice
  rw [an_e _ _ (by rw [St.seen_next]; exact hl), op2_s, St.seen_next]
theorem appU_emp (s : St) (b x m xc : Nat) (d : List Value) (rec : Rec) (fs : Frm) (hx : s.getC x = some d) (hd : d.length = m) (hm : 0 < m) (hb : m ≤ 1000000) (hl : s.next ≤ lim) :
    oAppend 1 8 (.v (.slice (some ⟨b, 0, none⟩) 0 0)) (.v (.slice (some ⟨x, 0, none⟩) m xc)) rec fs s = some (.slice (some ⟨s.next, 0, none⟩) m (UNK + 1), an (s.seen x) d) := by
  have z1 : Nat.beq m 0 = false := by rw [beq_eq']; exact decide_eq_false (by omega)
  show opt (srcCells s 1 (.slice (some ⟨x, 0, none⟩) m xc)) (fun r => appendTo r.2.2 1 8 (some ⟨b, 0, none⟩) 0 0 r.1 r.2.1) = _
  rw [srcU_1 s x m xc d hx hd hm, op_s]
  unfold appendTo
  rw [z1, Nat.zero_add, fits_8 m hb]
  have u1 : Nat.blt 0 UNK = true := rfl
  have u2 : Nat.ble m 0 = false := by rw [ble_eq']; exact decide_eq_false (by omega)
  have u3 : Nat.beq 1 0 = false := rfl
  have u4 : Nat.beq 0 0 = true := rfl
  simp only [u1, u2, u3, u4, cond_false, cond_true, Bool.not_true]
  unfold newSlice
  rw [an_e _ _ (by rw [St.seen_next]; exact hl), op2_s, St.seen_next]
theorem appU_on (s : St) (b n x m xc : Nat) (c d : List Value) (rec : Rec) (fs : Frm) (hc : s.getC b = some c) (hn : c.length = n) (hx : s.getC x = some d) (hd : d.length = m) (hm : 0 < m) (hb : n + m ≤ 1000000) (hl : s.next ≤ lim) :
    oAppend 1 8 (.v (.slice (some ⟨b, 0, none⟩) n (UNK + 1))) (.v (.slice (some ⟨x, 0, none⟩) m xc)) rec fs s = some (.slice (some ⟨s.next, 0, none⟩) (n + m) (UNK + 1), an ((s.seen x).set b none) (c ++ d)) := by
  have z1 : Nat.beq m 0 = false := by rw [beq_eq']; exact decide_eq_false (by omega)
  have z2 : Nat.beq 1 0 = false := rfl
  show opt (srcCells s 1 (.slice (some ⟨x, 0, none⟩) m xc)) (fun r => appendTo r.2.2 1 8 (some ⟨b, 0, none⟩) n (UNK + 1) r.1 r.2.1) = _
  rw [srcU_1 s x m xc d hx hd hm, op_s]
  unfold appendTo
  rw [z1, z2, fits_8 (n + m) hb]
  have u1 : Nat.blt (UNK + 1) UNK = false := rfl
  have u2 : Nat.beq (UNK + 1) (UNK + 1) = true := rfl
  have u3 : Nat.ble (0 + n * 1 + lenN d) (lenN c) = false := by rw [ble_eq', lenN_eq, lenN_eq]; exact decide_eq_false (by omega)
  have u4 : Nat.ble (0 + n * 1) (lenN c) = true := by rw [ble_eq', lenN_eq]; exact decide_eq_true (by omega)
  show (bif Nat.blt (UNK + 1) UNK then _ else bif !Nat.beq (UNK + 1) (UNK + 1) then none else opt ((s.seen x).getC b) fun c => bif Nat.ble (0 + n * 1 + lenN d) (lenN c) then _ else bif Nat.ble (0 + n * 1) (lenN c) then newSlice ((s.seen x).set b none) 1 (n + m) (app (takeN (n * 1) (dropN 0 c)) d) else none) = _
  rw [u1, u2, seen_getC, hc]
  show (bif Nat.ble (0 + n * 1 + lenN d) (lenN c) then _ else bif Nat.ble (0 + n * 1) (lenN c) then newSlice ((s.seen x).set b none) 1 (n + m) (app (takeN (n * 1) (dropN 0 c)) d) else none) = _
  rw [u3, u4, app_eq, takeN_eq, dropN_eq, List.drop_zero, List.take_of_length_le (by omega)]
  show newSlice _ 1 (n + m) (c ++ d) = _
  unfold newSlice
  rw [an_e _ _ (by rw [set_next, St.seen_next]; exact hl), op2_s, set_next, St.seen_next]
/-- bytes as cells -/
def cU (L : List Int) : List Value := L.map fun (x : Int) => .int .u64 x
theorem cU_len (L : List Int) : (cU L).length = L.length := by unfold cU; rw [List.length_map]
theorem cU_app (L M : List Int) : cU (L ++ M) = cU L ++ cU M := by unfold cU; rw [List.map_append]
theorem cU_map (L : List Int) : isMapB (cU L) = false := by cases L <;> rfl
/-- a slice of bytes, as append makes it -/
def Us (s : St) (v : Value) (L : List Int) : Prop :=
  (L = [] ∧ v = .slice none 0 0) ∨ ∃ b, v = .slice (some ⟨b, 0, none⟩) L.length (UNK + 1) ∧ s.getC b = some (cU L) ∧ b < s.next ∧ L ≠ []
/-- its block is fresh -/
def NwU (n : Nat) (v : Value) : Prop := ∀ b c k, v = .slice (some b) c k → n ≤ b.block
theorem Us.keep {s u : St} {v : Value} {L : List Int} (h : Us s v L) (hn : s.next ≤ u.next) (hk : ∀ b c k, v = .slice (some ⟨b, 0, none⟩) c k → u.getC b = s.getC b) : Us u v L := by
  rcases h with h | ⟨b, rfl, h1, h2, h3⟩
  · exact .inl h
  · exact .inr ⟨b, rfl, (hk b _ _ rfl).trans h1, by omega, h3⟩
theorem Us.grew {k : Nat} {s u : St} {v : Value} {L : List Int} (h : Us s v L) (g : Grew k s u) : Us u v L := by
  rcases h with h | ⟨b, rfl, h1, h2, h3⟩
  · exact .inl h
  · exact .inr ⟨b, rfl, (g.2.2 b h2).trans h1, by have := g.1; omega, h3⟩
theorem us1 (z : Int) (rec : Rec) (s : St) (h : s.next ≤ lim) : oBuildSlice 1 [.int .u64 0] [(0, 1, .v (.int .u64 z))] rec PT.nil s = some (.slice (some ⟨s.next, 0, none⟩) 1 1, an s [.int .u64 z]) := by
  rw [bs_a _ _ _ _ _ h]; rfl
/-- one byte more -/
theorem appU1 (s0 s : St) (v : Value) (L : List Int) (z : Int) (k : Nat) (rec : Rec) (hb : Us s v L) (hw : NwU s0.next v) (h8 : 8 ≤ s0.next) (g : Grew k s0 s) (o : Own s0 s) (hn : s.next + 2 ≤ lim) (hL : L.length ≤ 1000) :
    ∃ v' s', oAppend 1 8 (.v v) (.v (.slice (some ⟨s.next, 0, none⟩) 1 1)) rec PT.nil (an s [.int .u64 (z : Int)]) = some (v', s') ∧ Us s' v' (L ++ [z]) ∧ NwU s0.next v' ∧ Grew (k + 2) s0 s' ∧ Own s0 s' := by
  have hlim : lim = 1000000000 := rfl
  have g1 := g.1
  have ga : Grew (k + 1) s0 (an s [.int .u64 (z : Int)]) := g.an _ (by omega)
  have oa : Own s0 (an s [.int .u64 (z : Int)]) := o.an _ (by omega)
  have hx : (an s [.int .u64 (z : Int)]).getC s.next = some [.int .u64 (z : Int)] := an_ati s _ _ _ _ (by omega) rfl
  have nx : (an s [.int .u64 (z : Int)]).next = s.next + 1 := rfl
  rcases hb with ⟨rfl, rfl⟩ | ⟨b, rfl, h1, h2, h3⟩
  · refine ⟨_, _, appU_nil _ _ 1 1 _ rec PT.nil hx rfl (by omega) (by omega) (by rw [nx]; omega), .inr ⟨_, rfl, ?_, ?_, by simp⟩, fun b c k h => by cases h; show s0.next ≤ s.next + 1; omega, (ga.seen _).an _ (by rw [St.seen_next, nx]; omega), (oa.seen _ (by rw [nx]; omega)).an _ (by rw [St.seen_next, nx]; omega)⟩
    · rw [an_at _ _ _ (by rw [St.seen_next, nx]; omega) rfl (by rw [St.seen_next])]; rfl
    · simp only [an_next, set_next, St.seen_next]; omega
  · have hb' := hw _ _ _ rfl
    have hb' : s0.next ≤ b := hb'
    have hc : (an s [.int .u64 (z : Int)]).getC b = some (cU L) := (an_ne s _ b (by omega) (by omega)).trans h1
    refine ⟨_, _, appU_on _ b L.length _ 1 1 _ _ rec PT.nil hc (cU_len L) hx rfl (by omega) (by omega) (by rw [nx]; omega), .inr ⟨_, by rw [List.length_append]; rfl, ?_, ?_, by simp⟩, fun b c k h => by cases h; show s0.next ≤ s.next + 1; omega, ((ga.seen _).set b none (by omega) hb').an _ (by rw [set_next, St.seen_next, nx]; omega), ((oa.seen _ (by rw [nx]; omega)).set b none hb' (by rw [St.seen_next, nx]; omega)).an _ (by rw [set_next, St.seen_next, nx]; omega)⟩
    · rw [an_at _ _ _ (by rw [set_next, St.seen_next, nx]; omega) (by rw [show cU L ++ [Value.int .u64 (z : Int)] = cU (L ++ [z]) by rw [cU_app]; rfl]; exact cU_map _) (by rw [set_next, St.seen_next]), cU_app]
      rfl
    · simp only [an_next, set_next, St.seen_next]; omega
end Go.Abs
