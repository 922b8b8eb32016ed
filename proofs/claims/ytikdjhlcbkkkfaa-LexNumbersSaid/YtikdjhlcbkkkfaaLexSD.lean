import Derived.Test.YtikdjhlcbkkkfaaLexSC
namespace Go.Proofs.Ytikdjhlcbkkkfaa.AbsLexO
open Go Go.Abs Go.Proofs
set_option maxRecDepth 100000
set_option linter.unusedVariables false
set_option linter.unusedSimpArgs false

attribute [local congr] h_opt2 h_opt h_condV h_cond
/-! what is written is cut back -/
theorem skF_dg {b : UInt8} (t : List UInt8) (h : isB b = false) (h2 : decide ((b.toNat : Int) = 35) = false) : skF false (b :: t) = 0 := by rw [skF_f, h, h2]; rfl
theorem cut_one {W t : List UInt8} {b : UInt8} {k v : Int} (hW : W = b :: t) (hs : skF false W = 0) (hw : wordF rdF W = (k, W.length, v)) (hk : k ≠ 0) : cutT rdF W = ([(k, W, v, 0)], none) := by
  unfold cutT
  rw [hs, List.drop_zero]
  have h0 : (wordF rdF (b :: t)).1 ≠ 0 := by rw [← hW, hw]; exact hk
  have := cutF_yes (n := W.length) (at_ := 0) h0
  rw [← hW] at this
  rw [this, hw]
  show ((k, W.take W.length, v, 0) :: (cutF rdF W.length (0 + W.length + skF false (W.drop W.length)) ((W.drop W.length).drop (skF false (W.drop W.length)))).1, (cutF rdF W.length (0 + W.length + skF false (W.drop W.length)) ((W.drop W.length).drop (skF false (W.drop W.length)))).2) = _
  rw [List.drop_length, List.drop_nil, List.take_length]
  obtain ⟨n, hn⟩ : ∃ n, W.length = n + 1 := ⟨t.length, by rw [hW]; rfl⟩
  rw [hn, cutF_nil]
theorem isD_in2 {b : UInt8} (h : isD b = true) : 48 ≤ (b.toNat : Int) ∧ (b.toNat : Int) ≤ 57 := by
  unfold isD at h
  rw [Bool.and_eq_true, decide_eq_true_eq, decide_eq_true_eq] at h
  exact h
theorem skF_D {b : UInt8} (t : List UInt8) (h : isD b = true) : skF false (b :: t) = 0 := by
  have h' := isD_in2 h
  refine skF_dg t ?_ (decide_eq_false (by omega))
  unfold isB
  rw [decide_eq_false (by omega), decide_eq_false (by omega), decide_eq_false (by omega), decide_eq_false (by omega)]; rfl
theorem wordF_D {b : UInt8} {t : List UInt8} (hD : isD b = true) : wordF rdF (b :: t) = digW rdF (b :: t) := by
  have h' := isD_in2 hD
  have hL : isL b = false := by unfold isL; rw [decide_eq_false (by omega)]; rfl
  have e1 : decide ((b.toNat : Int) = 36) = false := decide_eq_false (by omega)
  show (bif isL b then _ else bif decide ((b.toNat : Int) = 36) then _ else bif isD b then digW rdF (b :: t) else _) = _
  rw [hL, e1, hD]; rfl
theorem mk_1' {kk : Int} {p : Nat × Int} (h : ¬ p.2 < 0) (h0 : p.1 ≠ 0) : mkW kk p = (kk, p.1, p.2) := by
  unfold mkW; rw [decide_eq_false h, decide_eq_false h0]; rfl
theorem rd_no (l : List UInt8) (h : ∀ x ∈ l, (x.toNat : Int) ≠ 45) : (rdF l).2 = false := by
  unfold rdF
  split
  · rename_i b0 b1 b2 b3 b4 b5 b6 b7 b8 b9
    rw [decide_eq_false (h b4 (by simp))]; rfl
  · rfl
theorem dayF_nn (l : List UInt8) (h : ∀ x ∈ l, (x.toNat : Int) ≠ 45) : (dayF rdF l).1 = 0 := by
  have h2 := rd_no (l.take 10) (fun x hx => h x (List.mem_of_mem_take hx))
  unfold dayF
  rw [h2]
  cases decide (l.length < 10) || nextD l <;> rfl
theorem digW_r {l : List UInt8} (h : (dayF rdF l).1 = 0) : digW rdF l = bif decide (0 < (rateF l).1) then mkW 5 (rateF l) else mkW 3 (cntN l) := by
  unfold digW; rw [h]; rfl
theorem D_no45 {l : List UInt8} (h : l.all isD = true) : ∀ x ∈ l, (x.toNat : Int) ≠ 45 := fun x hx => by
  have := isD_in2 (List.all_eq_true.1 h x hx)
  omega
theorem dec_c (k n : Nat) : ∃ b t, decF (k + 1) n = b :: t ∧ isD b = true := by
  have hp := decF_pos k n
  have ha := decF_all (k + 1) n
  cases h : decF (k + 1) n with
  | nil => rw [h] at hp; exact absurd hp (Nat.lt_irrefl 0)
  | cons b t =>
    rw [h, List.all_cons, Bool.and_eq_true] at ha
    exact ⟨b, t, rfl, ha.1⟩
theorem cnt_all {l : List UInt8} (h : l.all isD = true) : cntF isD l = l.length := by
  have := cntF_run isD l [] h rfl
  rwa [List.append_nil] at this
theorem cut_2 (n : Nat) (hn : n ≤ 4503599627370496) : cutT rdF (decF 16 n) = ([(3, decF 16 n, (n : Int), 0)], none) := by
  obtain ⟨b, t, hW, hb⟩ := dec_c 15 n
  have ha := decF_all 16 n
  have hnum := decF_num 4503599627370496 15 n (by rw [p16]; omega) (by omega)
  have hc := cnt_all ha
  have hlen := decF_pos 15 n
  refine cut_one hW (by rw [hW]; exact skF_D t hb) ?_ (by decide)
  have hw : wordF rdF (decF 16 n) = digW rdF (decF 16 n) := by rw [hW]; exact wordF_D hb
  have hr : rateF (decF 16 n) = (0, 0) := by
    have hd : (decF 16 n).drop (cntF isD (decF 16 n)) = [] := by rw [hc, List.drop_length]
    unfold rateF rtE
    rw [hd]
    show (bif decide (cntF isD (decF 16 n) = 0) then (0, 0) else bif decide (((decF 16 n).drop (cntF isD (decF 16 n))).head? = some 37) then _ else (0, 0)) = _
    rw [hd]
    cases decide (cntF isD (decF 16 n) = 0) <;> rfl
  rw [hw, digW_r (dayF_nn _ (D_no45 ha)), hr]
  show mkW 3 (cntN (decF 16 n)) = _
  have hcn : cntN (decF 16 n) = ((decF 16 n).length, (n : Int)) := by unfold cntN; rw [hc, List.take_length, hnum]
  rw [hcn]
  exact mk_1' (by show ¬ (n : Int) < 0; omega) (Nat.ne_of_gt hlen)
theorem cut_3 (n : Nat) (hn : n ≤ 4503599627370496) : cutT rdF (36 :: (decF 16 (n / 100) ++ 46 :: padF 2 (n % 100))) = ([(4, 36 :: (decF 16 (n / 100) ++ 46 :: padF 2 (n % 100)), (n : Int), 0)], none) := by
  have ha := decF_all 16 (n / 100)
  have hp := padF_all 2 (n % 100)
  have hpl := padF_len 2 (n % 100)
  have hnum := decF_num 4503599627370496 15 (n / 100) (by rw [p16]; omega) (by omega)
  have hpn := padF_num 100 1 (n % 100) (Nat.mod_lt _ (by decide)) (by omega)
  have hlen := decF_pos 15 (n / 100)
  have hpn : numF 100 0 (padF 2 (n % 100)) = ((n % 100 : Nat) : Int) := hpn
  generalize decF 16 (n / 100) = A at *
  generalize padF 2 (n % 100) = P at *
  refine cut_one rfl (skF_dg _ rfl rfl) ?_ (by decide)
  have hL : isL 36 = false := rfl
  have hw : wordF rdF (36 :: (A ++ 46 :: P)) = mkW 4 (moneyF (A ++ 46 :: P)) := by
    unfold wordF
    simp only [hL, cond_false]
    rfl
  have hc : cntF isD (A ++ 46 :: P) = A.length := cntF_run isD A (46 :: P) ha rfl
  have hd : (A ++ 46 :: P).drop A.length = 46 :: P := by rw [List.drop_append_of_le_length (Nat.le_refl _), List.drop_length]; rfl
  have hd1 : (A ++ 46 :: P).drop (A.length + 1) = P := by rw [← List.drop_drop, hd]; rfl
  have ht : (A ++ 46 :: P).take A.length = A := by rw [List.take_append_of_le_length (Nat.le_refl _), List.take_length]
  have hpc : plF 2 (46 :: P) = 2 := by
    rw [plF_c, cnt_all hp, hpl]; rfl
  have hP2 : P.take 2 = P := by rw [← hpl, List.take_length]
  have hm : moneyF (A ++ 46 :: P) = (1 + A.length + 3, (n : Int)) := by
    unfold moneyF
    rw [hc, hd, hpc, hd1, ht, hnum, hP2, hpn, decide_eq_false (by omega), cond_false, decide_eq_true rfl, cond_true, decide_eq_true (show (0 : Int) ≤ ((n / 100 : Nat) : Int) by omega), cond_true]
    congr 1
    unfold capF
    rw [decide_eq_false (by omega), cond_false]
    omega
  rw [hw, hm, mk_1' (by show ¬ (n : Int) < 0; omega) (by show 1 + A.length + 3 ≠ 0; omega)]
  have hl : (36 :: (A ++ 46 :: P)).length = 1 + A.length + 3 := by rw [List.length_cons, List.length_append, List.length_cons, hpl]; omega
  rw [hl]
theorem cut_4 (n : Nat) (hn : n ≤ 1000000000000) : cutT rdF (decF 16 (n / 10000) ++ 46 :: (padF 4 (n % 10000) ++ [37])) = ([(5, decF 16 (n / 10000) ++ 46 :: (padF 4 (n % 10000) ++ [37]), (n : Int), 0)], none) := by
  have ha := decF_all 16 (n / 10000)
  have hp := padF_all 4 (n % 10000)
  have hpl := padF_len 4 (n % 10000)
  have hnum := decF_num 1000000000000 15 (n / 10000) (by rw [p16]; omega) (by omega)
  have hpn := padF_num 10000 3 (n % 10000) (Nat.mod_lt _ (by decide)) (by omega)
  have hlen := decF_pos 15 (n / 10000)
  have hpn : numF 10000 0 (padF 4 (n % 10000)) = ((n % 10000 : Nat) : Int) := hpn
  obtain ⟨b, t, hbt, hb⟩ := dec_c 15 (n / 10000)
  generalize decF 16 (n / 10000) = A at *
  generalize padF 4 (n % 10000) = P at *
  have hW : A ++ 46 :: (P ++ [37]) = b :: (t ++ 46 :: (P ++ [37])) := by rw [hbt]; rfl
  refine cut_one hW (by rw [hW]; exact skF_D _ hb) ?_ (by decide)
  have hw : wordF rdF (A ++ 46 :: (P ++ [37])) = digW rdF (A ++ 46 :: (P ++ [37])) := by rw [hW]; exact wordF_D hb
  have h45 : ∀ x ∈ A ++ 46 :: (P ++ [37]), (x.toNat : Int) ≠ 45 := by
    intro x hx
    rcases List.mem_append.1 hx with hx | hx
    · exact D_no45 ha x hx
    · rcases List.mem_cons.1 hx with rfl | hx
      · decide
      · rcases List.mem_append.1 hx with hx | hx
        · exact D_no45 hp x hx
        · rw [List.mem_singleton] at hx; subst hx; decide
  have hc : cntF isD (A ++ 46 :: (P ++ [37])) = A.length := cntF_run isD A _ ha rfl
  have hd : (A ++ 46 :: (P ++ [37])).drop A.length = 46 :: (P ++ [37]) := by rw [List.drop_append_of_le_length (Nat.le_refl _), List.drop_length]; rfl
  have hd1 : (A ++ 46 :: (P ++ [37])).drop (A.length + 1) = P ++ [37] := by rw [← List.drop_drop, hd]; rfl
  have ht : (A ++ 46 :: (P ++ [37])).take A.length = A := by rw [List.take_append_of_le_length (Nat.le_refl _), List.take_length]
  have hpc : plF 4 (46 :: (P ++ [37])) = 4 := by
    rw [plF_c, cntF_run isD P [37] hp rfl, hpl]; rfl
  have hE : rtE (A ++ 46 :: (P ++ [37])) = A.length + 5 := by
    unfold rtE; rw [hc, hd, hpc]; rfl
  have hdE : (A ++ 46 :: (P ++ [37])).drop (A.length + 5) = [37] := by
    rw [← List.drop_drop, hd]
    show (P ++ [37]).drop 4 = _
    rw [← hpl, List.drop_append_of_le_length (Nat.le_refl _), List.drop_length]; rfl
  have hP4 : (P ++ [37]).take 4 = P := by rw [← hpl, List.take_append_of_le_length (Nat.le_refl _), List.take_length]
  have hV : rtV (A ++ 46 :: (P ++ [37])) = (n : Int) := by
    unfold rtV
    rw [hc, hd, hpc, hd1, ht, hnum, hP4, decide_eq_true (show (0 : Int) ≤ ((n / 10000 : Nat) : Int) by omega), cond_true, decide_eq_true (show ((n / 10000 : Nat) : Int) * 10000 ≤ 1000000000000 by omega)]
    show ((n / 10000 : Nat) : Int) * 10000 + numF 10000 0 (P ++ []) = _
    rw [List.append_nil, hpn]
    omega
  have hr : rateF (A ++ 46 :: (P ++ [37])) = (A.length + 6, (n : Int)) := by
    unfold rateF
    rw [hc, hE, hdE, hV, decide_eq_false (by omega), cond_false]
    show (A.length + 5 + 1, capF 1000000000000 (n : Int)) = _
    congr 1
    unfold capF
    rw [decide_eq_false (by omega)]; rfl
  rw [hw, digW_r (dayF_nn _ h45), hr, decide_eq_true (by show 0 < A.length + 6; omega), cond_true, mk_1' (by show ¬ (n : Int) < 0; omega) (by show A.length + 6 ≠ 0; omega)]
  have hl : (A ++ 46 :: (P ++ [37])).length = A.length + 6 := by rw [List.length_append, List.length_cons, List.length_append, hpl]; rfl
  rw [hl]
theorem numL_d (k : Nat) (hk : k < 10) (l : List UInt8) (a : Int) : numL a (dgC k :: l) = numL (a * 10 + (k : Int)) l := by
  rw [numL_c, dgC_isD k hk, cond_true, dgC_nat k hk]
  congr 1
  omega
theorem cut_5 (y m d : Nat) (v : Int) (h : ofR (y : Int) (m : Int) (d : Int) = (v, true)) (h0 : 0 ≤ v) (h1 : 1900 ≤ y) (h2 : y ≤ 2199) (h3 : 1 ≤ m) (h4 : m ≤ 12) (h5 : 1 ≤ d) (h6 : d ≤ 31) : cutT rdF (dayT y m d) = ([(6, dayT y m d, v, 0)], none) := by
  have hb : isD (dgC (y / 100 / 10 % 10)) = true := dgC_isD _ (Nat.mod_lt _ (by decide))
  refine cut_one (t := (dayT y m d).tail) rfl (skF_D _ hb) ?_ (by decide)
  have hw : wordF rdF (dayT y m d) = digW rdF (dayT y m d) := wordF_D hb
  have hrd : rdF (dayT y m d) = (v, true) := by
    show (bif decide (((45 : UInt8).toNat : Int) = 45) && decide (((45 : UInt8).toNat : Int) = 45) then ofR (numL 0 [dgC (y / 100 / 10 % 10), dgC (y / 100 % 10), dgC (y / 10 % 10), dgC (y % 10)]) (numL 0 [dgC (m / 10 % 10), dgC (m % 10)]) (numL 0 [dgC (d / 10 % 10), dgC (d % 10)]) else (0, false)) = _
    rw [numL_d _ (Nat.mod_lt _ (by decide)), numL_d _ (Nat.mod_lt _ (by decide)), numL_d _ (Nat.mod_lt _ (by decide)), numL_d _ (Nat.mod_lt _ (by decide)), numL_d _ (Nat.mod_lt _ (by decide)), numL_d _ (Nat.mod_lt _ (by decide)), numL_d _ (Nat.mod_lt _ (by decide)), numL_d _ (Nat.mod_lt _ (by decide))]
    show ofR ((((0 * 10 + ((y / 100 / 10 % 10 : Nat) : Int)) * 10 + ((y / 100 % 10 : Nat) : Int)) * 10 + ((y / 10 % 10 : Nat) : Int)) * 10 + ((y % 10 : Nat) : Int)) ((0 * 10 + ((m / 10 % 10 : Nat) : Int)) * 10 + ((m % 10 : Nat) : Int)) ((0 * 10 + ((d / 10 % 10 : Nat) : Int)) * 10 + ((d % 10 : Nat) : Int)) = _
    rw [show (((0 * 10 + ((y / 100 / 10 % 10 : Nat) : Int)) * 10 + ((y / 100 % 10 : Nat) : Int)) * 10 + ((y / 10 % 10 : Nat) : Int)) * 10 + ((y % 10 : Nat) : Int) = (y : Int) by omega, show (0 * 10 + ((m / 10 % 10 : Nat) : Int)) * 10 + ((m % 10 : Nat) : Int) = (m : Int) by omega, show (0 * 10 + ((d / 10 % 10 : Nat) : Int)) * 10 + ((d % 10 : Nat) : Int) = (d : Int) by omega]
    exact h
  have hday : dayF rdF (dayT y m d) = (10, v) := by
    show (bif (rdF (dayT y m d)).2 then (10, (rdF (dayT y m d)).1) else (0, 0)) = _
    rw [hrd]; rfl
  rw [hw]
  unfold digW
  rw [hday, decide_eq_true (by show 0 < 10; omega), cond_true]
  exact mk_1' (by show ¬ v < 0; omega) (by show 10 ≠ 0; omega)
end Go.Proofs.Ytikdjhlcbkkkfaa.AbsLexO
namespace Go.Proofs.Ytikdjhlcbkkkfaa.AbsLexO
open Go Go.Abs Go.Proofs
set_option maxRecDepth 100000
set_option linter.unusedVariables false
set_option linter.unusedSimpArgs false

attribute [local congr] h_opt2 h_opt h_condV h_cond
/-! LexNumbers -/
theorem eqs_same (a v p : Int) (l : List UInt8) (rec : Rec) (s : St) : oEqs false [(0, eqN), (1, eqT), (2, eqN), (3, eqN)] (.v (aggOf [.int .i64 a, .string ⟨⟨l⟩⟩, .int .i64 v, .int .i64 p])) (.v (aggOf [.int .i64 a, .string ⟨⟨l⟩⟩, .int .i64 v, .int .i64 p])) rec PT.nil s = some (.bool true, s) := by
  have e1 : ∀ a : Int, eqN (.int .i64 a) (.int .i64 a) = some true := fun a => by
    show (bif eqK .i64 .i64 then some (eqI a a) else none) = _
    rw [eqI_eq, decide_eq_true rfl]; rfl
  have e2 : eqT (.string ⟨⟨l⟩⟩) (.string ⟨⟨l⟩⟩) = some true := by
    show some (eqBytes l l) = _
    rw [eqBytes_eq, decide_eq_true rfl]
  show opt (opt (eqN (.int .i64 a) (.int .i64 a)) fun b => opt (opt (eqT (.string ⟨⟨l⟩⟩) (.string ⟨⟨l⟩⟩)) fun b => opt (opt (eqN (.int .i64 v) (.int .i64 v)) fun b => opt (opt (eqN (.int .i64 p) (.int .i64 p)) fun b => opt (some true) fun c => some (b && c)) fun c => some (b && c)) fun c => some (b && c)) fun c => some (b && c)) (fun r => some (Value.bool (bif false then !r else r), s)) = _
  rw [e1, e2, e1, e1]
  rfl
theorem accn_some {s : St} {v : Value} {n : Nat} {c : List Value} (h : Acc 4 s v (n + 1) c) : ∃ b, v = .slice (some ⟨b, 0, none⟩) (n + 1) (UNK + 4) ∧ s.getC b = some c ∧ b < s.next := by
  rcases h with ⟨_, h, _⟩ | ⟨_, _, h, _⟩ | ⟨b, h1, h2, h3, h4⟩
  · cases h
  · cases h
  · exact ⟨b, h1, h2, h4⟩
theorem j5 (M : Nat) (hM : 10050 ≤ M) (a c : Int) (ha : 0 ≤ a) (ha2 : a ≤ 10) (W : List UInt8) (hW : W.length ≤ 1000) (hcut : cutT rdF W = ([(a + 1, W, c, 0)], none)) (s s2 : St) (q11 : callN E (M + 1) 11 [.int .i64 a, .int .i64 c] s = some (.string ⟨⟨W⟩⟩, s2)) (hs : s2.next + 300000 ≤ lim) :
    ∃ s', J5_j1 (callN E (M + 1)) (M + 1) ((.int .i64 a), (.int .i64 c)) s = some (.bool true, s') := by
  obtain ⟨s3, h, g⟩ := r9 rd_ok M (by omega) W (by omega) s2 hs
  rcases h with ⟨p, hp, _⟩ | ⟨_, v, q, hacc, _⟩
  · rw [hcut] at hp; cases hp
  rw [hcut] at hacc
  obtain ⟨b, rfl, hb, hbn⟩ := accn_some hacc
  have q : callN E (M + 1) 9 [.string ⟨⟨W⟩⟩] s2 = some (tupOf [.slice (some ⟨b, 0, none⟩) 2 (UNK + 4), .int .i64 0, .int .i64 0], s3) := q
  have e0 : decide ((0 : Int) = 0) = true := rfl
  have e2 : decide (((2 : Nat) : Int) = 2) = true := rfl
  have ll : ∀ s, oLenL (.v (.slice (some ⟨b, 0, none⟩) 2 (UNK + 4))) (callN E (M + 1)) PT.nil s = some (.int .i64 ((2 : Nat) : Int), s) := fun s => lenL_e _ _ _ _ _ s
  have ix : ∀ s, oIdxAddrL 4 (.v (.slice (some ⟨b, 0, none⟩) 2 (UNK + 4))) (.v (.int .i64 0)) (callN E (M + 1)) PT.nil s = some (.pointer (some ⟨b, 0, none⟩), s) := fun s => idxL0_u 4 b 2 _ 0 _ PT.nil s (by omega)
  have ld : oLoadN 4 (.v (.pointer (some ⟨b, 0, none⟩))) (callN E (M + 1)) PT.nil s3 = some (aggOf [.int .i64 (a + 1), .string ⟨⟨W⟩⟩, .int .i64 c, .int .i64 ((0 : Nat) : Int)], s3.seen b) := loadn_u 4 b 0 _ _ _ s3 hb (by show 0 + 4 ≤ 8; omega)
  have ad : int2 addO (.int .i64 a) (.int .i64 1) = some (.int .i64 (a + 1)) := add_e _ _ (by omega) (by omega)
  have esm := eqs_same (a + 1) c 0 W (callN E (M + 1)) (s3.seen b)
  refine ⟨s3.seen b, ?_⟩
  unfold J5_j1
  simp only [es, cond_true, cond_false, eq_self, q11, q, e0, ll, e2, ix, ld, ad, Q5_q2, build3]
  rw [show ((0 : Nat) : Int) = 0 from rfl, esm, op2_s]
theorem r5 (M : Nat) (hM : 10060 ≤ M) (a c : Int) (s s1 : St) (haw : callN E M 8 [] s = some (.bool true, s1)) (hs : s1.next + 1000000 ≤ lim) : ∃ s', callN E (M + 1) 5 [.int .i64 a, .int .i64 c] s = some (.bool true, s') := by
  have hlim : lim = 1000000000 := rfl
  obtain ⟨M, rfl⟩ : ∃ m, M = m + 1 := ⟨M - 1, by omega⟩
  rw [x5]; unfold F5
  by_cases h1 : a < 2
  · have e1 := decide_eq_true h1
    simp only [es, cond_true, cond_false, eq_self, haw, e1, Q5_q1, Q5_q0, J5_j0]
    exact ⟨_, rfl⟩
  have e1 := decide_eq_false h1
  by_cases h2 : 5 < a
  · have e2 := decide_eq_true h2
    simp only [es, cond_true, cond_false, eq_self, haw, e1, e2, Q5_q1, Q5_q0, J5_j0]
    exact ⟨_, rfl⟩
  have e2 := decide_eq_false h2
  by_cases h3 : c < 0
  · have e3 := decide_eq_true h3
    simp only [es, cond_true, cond_false, eq_self, haw, e1, e2, e3, Q5_q1, Q5_q0, J5_j0]
    exact ⟨_, rfl⟩
  have e3 := decide_eq_false h3
  obtain ⟨n, rfl⟩ : ∃ n : Nat, c = (n : Int) := ⟨c.toNat, by omega⟩
  have ha : a = 2 ∨ a = 3 ∨ a = 4 ∨ a = 5 := by omega
  rcases ha with rfl | rfl | rfl | rfl
  · have k4 : decide ((2 : Int) < 4) = true := rfl
    have k5 : decide ((2 : Int) = 4) = false := rfl
    have k6 : decide ((2 : Int) = 5) = false := rfl
    by_cases h4 : 4503599627370496 < (n : Int)
    · have e4 := decide_eq_true h4
      simp only [es, cond_true, cond_false, eq_self, haw, e1, e2, e3, k4, e4, Q5_q1, Q5_q0, J5_j0]
      exact ⟨_, rfl⟩
    have e4 := decide_eq_false h4
    obtain ⟨s2, q, g⟩ := r11_2 M (by omega) n (by omega) s1 (by omega)
    obtain ⟨s', hj⟩ := j5 M (by omega) 2 n (by omega) (by omega) _ (by have := decF_len 16 n; omega) (cut_2 n (by omega)) s1 s2 q (by have := g.2.1; omega)
    simp only [es, cond_true, cond_false, eq_self, haw, e1, e2, e3, k4, e4, k5, k6, Q5_q1, Q5_q0, J5_j0]
    exact ⟨s', hj⟩
  · have k4 : decide ((3 : Int) < 4) = true := rfl
    have k5 : decide ((3 : Int) = 4) = false := rfl
    have k6 : decide ((3 : Int) = 5) = false := rfl
    by_cases h4 : 4503599627370496 < (n : Int)
    · have e4 := decide_eq_true h4
      simp only [es, cond_true, cond_false, eq_self, haw, e1, e2, e3, k4, e4, Q5_q1, Q5_q0, J5_j0]
      exact ⟨_, rfl⟩
    have e4 := decide_eq_false h4
    obtain ⟨s2, q, g⟩ := r11_3 M (by omega) n (by omega) s1 (by omega)
    obtain ⟨s', hj⟩ := j5 M (by omega) 3 n (by omega) (by omega) _ (by
      have := decF_len 16 (n / 100)
      have := padF_len 2 (n % 100)
      rw [List.length_cons, List.length_append, List.length_cons]; omega) (cut_3 n (by omega)) s1 s2 q (by have := g.2.1; omega)
    simp only [es, cond_true, cond_false, eq_self, haw, e1, e2, e3, k4, e4, k5, k6, Q5_q1, Q5_q0, J5_j0]
    exact ⟨s', hj⟩
  · have k4 : decide ((4 : Int) < 4) = false := rfl
    have k5 : decide ((4 : Int) = 4) = true := rfl
    have k6 : decide ((4 : Int) = 5) = false := rfl
    by_cases h4 : 1000000000000 < (n : Int)
    · have e4 := decide_eq_true h4
      simp only [es, cond_true, cond_false, eq_self, haw, e1, e2, e3, k4, k5, e4, Q5_q1, Q5_q0, J5_j0]
      exact ⟨_, rfl⟩
    have e4 := decide_eq_false h4
    obtain ⟨s2, q, g⟩ := r11_4 M (by omega) n (by omega) s1 (by omega)
    obtain ⟨s', hj⟩ := j5 M (by omega) 4 n (by omega) (by omega) _ (by
      have := decF_len 16 (n / 10000)
      have := padF_len 4 (n % 10000)
      rw [List.length_append, List.length_cons, List.length_append]; show _ + (_ + 1 + 1) ≤ _; omega) (cut_4 n (by omega)) s1 s2 q (by have := g.2.1; omega)
    simp only [es, cond_true, cond_false, eq_self, haw, e1, e2, e3, k4, k5, e4, k6, Q5_q1, Q5_q0, J5_j0]
    exact ⟨s', hj⟩
  · have k4 : decide ((5 : Int) < 4) = false := rfl
    have k5 : decide ((5 : Int) = 4) = false := rfl
    have k6 : decide ((5 : Int) = 5) = true := rfl
    by_cases h4 : 109572 < (n : Int)
    · have e4 := decide_eq_true h4
      simp only [es, cond_true, cond_false, eq_self, haw, e1, e2, e3, k4, k5, k6, e4, Q5_q1, Q5_q0, J5_j0]
      exact ⟨_, rfl⟩
    have e4 := decide_eq_false h4
    obtain ⟨y, m, d, s2, q, g, ho, d1, d2, d3, d4, d5, d6⟩ := r11_5 M (by omega) n (by omega) (by omega) s1 (by omega)
    obtain ⟨s', hj⟩ := j5 M (by omega) 5 n (by omega) (by omega) _ (by show 10 ≤ 1000; omega) (cut_5 y m d n ho (by omega) d1 d2 d3 d4 d5 d6) s1 s2 q (by have := g.2.1; omega)
    simp only [es, cond_true, cond_false, eq_self, haw, e1, e2, e3, k4, k5, k6, e4, Q5_q1, Q5_q0, J5_j0]
    exact ⟨s', hj⟩
noncomputable def stOfN (o : Option (Value × St)) : St := Option.rec st0 (fun p => p.2) o
theorem of_partsN {o : Option (Value × St)} (h : isTrue o = true) : o = some (.bool true, stOfN o) := by
  obtain ⟨s', hs⟩ := isTrue_spec h
  rw [hs]
  rfl
theorem awN1 : isTrue (callN E 20001 8 [] st0) = true := by kernel_rfl
theorem awN2 : Nat.ble (stOfN (callN E 20001 8 [] st0)).next 1000 = true := by kernel_rfl
theorem awakeN : ∃ s1, callN E 20001 8 [] st0 = some (.bool true, s1) ∧ s1.next ≤ 1000 := by
  have a := awN2
  rw [ble_eq', decide_eq_true_eq] at a
  exact ⟨_, of_partsN awN1, a⟩
theorem lawLexNumbers (a c : Int) (w : World) : Calls Try.prog 5 #[.int .i64 a, .int .i64 c] w fun e w' => e = .returned (.bool true) ∧ RowKit.Below w.heap.size w w' := by
  obtain ⟨s1, h1, h2⟩ := awakeN
  have hlim : lim = 1000000000 := rfl
  obtain ⟨s3, r1⟩ := r5 20001 (by omega) a c st0 s1 h1 (by omega)
  exact args_true (E := E) (n := 20001 + 1) (args := [.int .i64 a, .int .i64 c]) mixed exOk ⟨fnsOk, known⟩ rfl (by
    have r1 : callN E (20001 + 1) 5 [.int .i64 a, .int .i64 c] st0 = some (.bool true, s3) := r1
    rw [r1]; rfl) w
end Go.Proofs.Ytikdjhlcbkkkfaa.AbsLexO
