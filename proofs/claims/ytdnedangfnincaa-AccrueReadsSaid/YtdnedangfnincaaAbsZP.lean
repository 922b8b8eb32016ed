import Derived.Test.YtdnedangfnincaaAbsZO
namespace Go.Abs
set_option linter.unusedVariables false
set_option linter.unusedSimpArgs false
/-! slices of bytes that are made by append: what append does, with the state behind it -/
theorem fits_1 (n : Nat) (h : n ≤ 140737488355328) : fits n 1 = true := by
  unfold fits
  rw [ble_eq', ble_eq', decide_eq_true (by omega), decide_eq_true (by omega)]; rfl
theorem src_1 (s : St) (x m xc : Nat) (d : List Value) (hx : s.getC x = some d) (hd : d.length = m) (hm : 0 < m) : srcCells s 1 (.slice (some ⟨x, 0, none⟩) m xc) = some (m, d, s.seen x) := by
  have z1 : Nat.beq m 0 = false := by rw [beq_eq']; exact decide_eq_false (by omega)
  show (bif Nat.beq m 0 then some (0, [], s) else opt2 (s.read x 0 (m * 1)) fun c s => some (m, c, s)) = _
  rw [z1, cond_false, read_u s x 0 (m * 1) d hx (by omega), op2_s, List.drop_zero, List.take_of_length_le (by omega)]
theorem app_nil (s : St) (x m xc : Nat) (d : List Value) (rec : Rec) (fs : Frm) (hx : s.getC x = some d) (hd : d.length = m) (hm : 0 < m) (hb : m ≤ 140737488355328) (hl : s.next ≤ lim) :
    oAppend 1 1 (.v (.slice none 0 0)) (.v (.slice (some ⟨x, 0, none⟩) m xc)) rec fs s = some (.slice (some ⟨s.next, 0, none⟩) m (UNK + 1), an (s.seen x) d) := by
  have z1 : Nat.beq m 0 = false := by rw [beq_eq']; exact decide_eq_false (by omega)
  show opt (srcCells s 1 (.slice (some ⟨x, 0, none⟩) m xc)) (fun r => appendTo r.2.2 1 1 none 0 0 r.1 r.2.1) = _
  rw [src_1 s x m xc d hx hd hm, op_s]
  unfold appendTo
  rw [z1, Nat.zero_add, fits_1 m hb]
  show newSlice (s.seen x) 1 m d = _
  unfold newSlice
  rw [an_e _ _ (by rw [St.seen_next]; exact hl), op2_s, St.seen_next]
theorem app_emp (s : St) (b x m xc : Nat) (d : List Value) (rec : Rec) (fs : Frm) (hx : s.getC x = some d) (hd : d.length = m) (hm : 0 < m) (hb : m ≤ 140737488355328) (hl : s.next ≤ lim) :
    oAppend 1 1 (.v (.slice (some ⟨b, 0, none⟩) 0 0)) (.v (.slice (some ⟨x, 0, none⟩) m xc)) rec fs s = some (.slice (some ⟨s.next, 0, none⟩) m (UNK + 1), an (s.seen x) d) := by
  have z1 : Nat.beq m 0 = false := by rw [beq_eq']; exact decide_eq_false (by omega)
  show opt (srcCells s 1 (.slice (some ⟨x, 0, none⟩) m xc)) (fun r => appendTo r.2.2 1 1 (some ⟨b, 0, none⟩) 0 0 r.1 r.2.1) = _
  rw [src_1 s x m xc d hx hd hm, op_s]
  unfold appendTo
  rw [z1, Nat.zero_add, fits_1 m hb]
  have u1 : Nat.blt 0 UNK = true := rfl
  have u2 : Nat.ble m 0 = false := by rw [ble_eq']; exact decide_eq_false (by omega)
  have u3 : Nat.beq 1 0 = false := rfl
  have u4 : Nat.beq 0 0 = true := rfl
  simp only [u1, u2, u3, u4, cond_false, cond_true, Bool.not_true]
  unfold newSlice
  rw [an_e _ _ (by rw [St.seen_next]; exact hl), op2_s, St.seen_next]
theorem app_on (s : St) (b n x m xc : Nat) (c d : List Value) (rec : Rec) (fs : Frm) (hc : s.getC b = some c) (hn : c.length = n) (hx : s.getC x = some d) (hd : d.length = m) (hm : 0 < m) (hb : n + m ≤ 140737488355328) (hl : s.next ≤ lim) :
    oAppend 1 1 (.v (.slice (some ⟨b, 0, none⟩) n (UNK + 1))) (.v (.slice (some ⟨x, 0, none⟩) m xc)) rec fs s = some (.slice (some ⟨s.next, 0, none⟩) (n + m) (UNK + 1), an ((s.seen x).set b none) (c ++ d)) := by
  have z1 : Nat.beq m 0 = false := by rw [beq_eq']; exact decide_eq_false (by omega)
  have z2 : Nat.beq 1 0 = false := rfl
  show opt (srcCells s 1 (.slice (some ⟨x, 0, none⟩) m xc)) (fun r => appendTo r.2.2 1 1 (some ⟨b, 0, none⟩) n (UNK + 1) r.1 r.2.1) = _
  rw [src_1 s x m xc d hx hd hm, op_s]
  unfold appendTo
  rw [z1, z2, fits_1 (n + m) hb]
  have u1 : Nat.blt (UNK + 1) UNK = false := rfl
  have u2 : Nat.beq (UNK + 1) (UNK + 1) = true := rfl
  have u3 : Nat.ble (0 + n * 1 + lenN d) (lenN c) = false := by rw [ble_eq', lenN_eq, lenN_eq]; exact decide_eq_false (by omega)
  have u4 : Nat.ble (0 + n * 1) (lenN c) = true := by rw [ble_eq', lenN_eq]; exact decide_eq_true (by omega)
  show (bif Nat.blt (UNK + 1) UNK then _ else bif !Nat.beq (UNK + 1) (UNK + 1) then none else opt ((s.seen x).getC b) fun c => bif Nat.ble (0 + n * 1 + lenN d) (lenN c) then _ else bif Nat.ble (0 + n * 1) (lenN c) then newSlice ((s.seen x).set b none) 1 (n + m) (app (takeN (n * 1) (dropN 0 c)) d) else none) = _
  rw [u1, u2, seen_getC, hc]
  show (bif Nat.ble (0 + n * 1 + lenN d) (lenN c) then _ else bif Nat.ble (0 + n * 1) (lenN c) then newSlice ((s.seen x).set b none) 1 (n + m) (app (takeN (n * 1) (dropN 0 c)) d) else none) = _
  rw [u3, u4, app_eq, takeN_eq, dropN_eq, List.drop_zero, List.take_of_length_le (by omega)]
  show newSlice _ 1 (n + m) (c ++ d) = _
  unfold newSlice
  rw [an_e _ _ (by rw [set_next, St.seen_next]; exact hl), op2_s, set_next, St.seen_next]
/-- bytes as cells -/
def cB (L : List Nat) : List Value := L.map fun (x : Nat) => .int .u8 (Int.ofNat x)
theorem cB_len (L : List Nat) : (cB L).length = L.length := by unfold cB; rw [List.length_map]
theorem cB_app (L M : List Nat) : cB (L ++ M) = cB L ++ cB M := by unfold cB; rw [List.map_append]
theorem cB_map (L : List Nat) : isMapB (cB L) = false := by cases L <;> rfl
theorem nth_cB {L r : List Nat} {k x : Nat} (h : L.drop k = x :: r) : nth (cB L) k = some (.int .u8 (x : Int)) := by
  have hk : k < L.length := by
    have := congrArg List.length h
    rw [List.length_drop, List.length_cons] at this
    omega
  have hx : L[k] = x := by
    have := List.drop_eq_getElem_cons hk
    rw [h] at this
    exact (List.cons.inj this).1.symm
  unfold cB
  rw [nth_eq, List.getElem?_map, List.getElem?_eq_getElem hk, hx]
  rfl
theorem sl_u (b o n j : Nat) (rec : Rec) (s : St) (h : j ≤ n) : oSliceL 1 (.v (.slice (some ⟨b, o, none⟩) n (UNK + 1))) (some (.v (.int .i64 (j : Int)))) none none rec PT.nil s = some (.slice (some ⟨b, o + j, none⟩) (n - j) (UNK + 1), s) := by
  have u0 : Nat.beq 1 0 = false := rfl
  have u1 : Nat.blt (UNK + 1) UNK = false := rfl
  have u2 : Nat.beq (UNK + 1) (UNK + 1) = true := rfl
  show (bif Nat.beq 1 0 then none else bif Nat.blt (UNK + 1) UNK then _ else bif !Nat.beq (UNK + 1) (UNK + 1) then none else
    opt (boundD PT.nil none n n) fun h => opt (boundD PT.nil (some (.v (.int .i64 (j : Int)))) h 0) fun l => force (h - l) fun hl => some (Value.slice (some (addA ⟨b, o, none⟩ (l * 1))) hl (UNK + 1), s)) = _
  rw [u0, u1, u2, bound_n, op_s, bound_u _ _ _ h, op_s, force_eq, Nat.mul_one]
  unfold addA
  rw [force_eq]
  rfl
theorem and127_8 (n : Nat) (h : n < 256) : int2 andO (.int .u8 (n : Int)) (.int .u8 127) = some (.int .u8 ((n % 128 : Nat) : Int)) := by
  show setI .u8 (bitAnd .u8 (Int.ofNat n) (Int.ofNat 127)) = _
  have e : bitAnd .u8 (Int.ofNat n) (Int.ofNat 127) = Int.ofNat (Nat.land n 127) := by
    show (bif Nat.blt n (topOf .u8) && Nat.blt 127 (topOf .u8) then Int.ofNat (Nat.land n 127) else _) = _
    rw [blt_eq', blt_eq', decide_eq_true (show n < topOf .u8 from h), decide_eq_true (show 127 < topOf .u8 by decide)]
    rfl
  rw [setI_eq, e]
  have e2 : Nat.land n 127 = n % 128 := by
    have := Nat.and_two_pow_sub_one_eq_mod n 7
    exact this
  rw [e2]
  rfl
theorem put_20 (s : St) (b : Nat) (x y u : Value) : putF s b 0 [u] [x, y] = some (UV, s.set b (some [u, y])) := nrfl rfl
theorem put_21 (s : St) (b : Nat) (x y u : Value) : putF s b 1 [u] [x, y] = some (UV, s.set b (some [x, u])) := nrfl rfl
/-- a slice of bytes, as append makes it -/
def Bs (s : St) (v : Value) (L : List Nat) : Prop :=
  (L = [] ∧ v = .slice none 0 0) ∨ ∃ b, v = .slice (some ⟨b, 0, none⟩) L.length (UNK + 1) ∧ s.getC b = some (cB L) ∧ b < s.next ∧ L ≠ []
/-- its block is fresh -/
def Nw (n : Nat) (v : Value) : Prop := ∀ b c k, v = .slice (some b) c k → n ≤ b.block
theorem Bs.keep {s u : St} {v : Value} {L : List Nat} (h : Bs s v L) (hn : s.next ≤ u.next) (hk : ∀ b c k, v = .slice (some ⟨b, 0, none⟩) c k → u.getC b = s.getC b) : Bs u v L := by
  rcases h with h | ⟨b, rfl, h1, h2, h3⟩
  · exact .inl h
  · exact .inr ⟨b, rfl, (hk b _ _ rfl).trans h1, by omega, h3⟩
theorem Bs.grew {k : Nat} {s u : St} {v : Value} {L : List Nat} (h : Bs s v L) (g : Grew k s u) : Bs u v L := by
  rcases h with h | ⟨b, rfl, h1, h2, h3⟩
  · exact .inl h
  · exact .inr ⟨b, rfl, (g.2.2 b h2).trans h1, by have := g.1; omega, h3⟩
theorem bs1 (z : Int) (rec : Rec) (s : St) (h : s.next ≤ lim) : oBuildSlice 1 [.int .u8 0] [(0, 1, .v (.int .u8 z))] rec PT.nil s = some (.slice (some ⟨s.next, 0, none⟩) 1 1, an s [.int .u8 z]) := by
  rw [bs_a _ _ _ _ _ h]; rfl
/-- one byte more -/
theorem app1 (s0 s : St) (v : Value) (L : List Nat) (z k : Nat) (rec : Rec) (hb : Bs s v L) (hw : Nw s0.next v) (h8 : 8 ≤ s0.next) (g : Grew k s0 s) (o : Own s0 s) (hn : s.next + 2 ≤ lim) (hL : L.length ≤ 1000) :
    ∃ v' s', oAppend 1 1 (.v v) (.v (.slice (some ⟨s.next, 0, none⟩) 1 1)) rec PT.nil (an s [.int .u8 (z : Int)]) = some (v', s') ∧ Bs s' v' (L ++ [z]) ∧ Nw s0.next v' ∧ Grew (k + 2) s0 s' ∧ Own s0 s' := by
  have hlim : lim = 1000000000 := rfl
  have g1 := g.1
  have ga : Grew (k + 1) s0 (an s [.int .u8 (z : Int)]) := g.an _ (by omega)
  have oa : Own s0 (an s [.int .u8 (z : Int)]) := o.an _ (by omega)
  have hx : (an s [.int .u8 (z : Int)]).getC s.next = some [.int .u8 (z : Int)] := an_ati s _ _ _ _ (by omega) rfl
  have nx : (an s [.int .u8 (z : Int)]).next = s.next + 1 := rfl
  rcases hb with ⟨rfl, rfl⟩ | ⟨b, rfl, h1, h2, h3⟩
  · refine ⟨_, _, app_nil _ _ 1 1 _ rec PT.nil hx rfl (by omega) (by omega) (by rw [nx]; omega), .inr ⟨_, rfl, ?_, ?_, by simp⟩, fun b c k h => by cases h; show s0.next ≤ s.next + 1; omega, (ga.seen _).an _ (by rw [St.seen_next, nx]; omega), (oa.seen _ (by rw [nx]; omega)).an _ (by rw [St.seen_next, nx]; omega)⟩
    · rw [an_at _ _ _ (by rw [St.seen_next, nx]; omega) rfl (by rw [St.seen_next])]; rfl
    · simp only [an_next, set_next, St.seen_next]; omega
  · have hb' := hw _ _ _ rfl
    have hb' : s0.next ≤ b := hb'
    have hc : (an s [.int .u8 (z : Int)]).getC b = some (cB L) := (an_ne s _ b (by omega) (by omega)).trans h1
    refine ⟨_, _, app_on _ b L.length _ 1 1 _ _ rec PT.nil hc (cB_len L) hx rfl (by omega) (by omega) (by rw [nx]; omega), .inr ⟨_, by rw [List.length_append]; rfl, ?_, ?_, by simp⟩, fun b c k h => by cases h; show s0.next ≤ s.next + 1; omega, ((ga.seen _).set b none (by omega) hb').an _ (by rw [set_next, St.seen_next, nx]; omega), ((oa.seen _ (by rw [nx]; omega)).set b none hb' (by rw [St.seen_next, nx]; omega)).an _ (by rw [set_next, St.seen_next, nx]; omega)⟩
    · rw [an_at _ _ _ (by rw [set_next, St.seen_next, nx]; omega) (by rw [show cB L ++ [Value.int .u8 (z : Int)] = cB (L ++ [z]) by rw [cB_app]; rfl]; exact cB_map _) (by rw [set_next, St.seen_next]), cB_app]
      rfl
    · simp only [an_next, set_next, St.seen_next]; omega
end Go.Abs
