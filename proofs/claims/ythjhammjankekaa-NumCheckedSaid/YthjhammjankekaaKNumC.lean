import Derived.Test.YthjhammjankekaaKNumB
namespace Go.Proofs.Ythjhammjankekaa.PNum
open Go.RowKit Go.Proofs.YthjhammjankekaaW.PrintWords Go.Proofs.YthjhammjankekaaW.PrintLast Go.Proofs.YthjhammjankekaaW.PrintMore
set_option linter.unusedVariables false
set_option linter.unusedSimpArgs false
structure Seek (y1 y0 U u q r : Int) : Prop where
  y1a : 2147483648 ≤ y1
  y1b : y1 < 4294967296
  y0a : 0 ≤ y0
  y0b : y0 < 4294967296
  Ua : 0 ≤ U
  Ub : U < y1 * 4294967296 + y0
  ua : 0 ≤ u
  ub : u < 4294967296
  ra : 0 ≤ r
  rb : r < 4294967296
  qa : 0 ≤ q
  qb : q ≤ 4294967297
  qr : q * y1 + r = U
  qQ : (U * 4294967296 + u) / (y1 * 4294967296 + y0) ≤ q
section
variable {y1 y0 U u q r : Int}
theorem quo_lt (hy : 0 < y1 * 4294967296 + y0) (Ub : U < y1 * 4294967296 + y0) (ub : u < 4294967296) : (U * 4294967296 + u) / (y1 * 4294967296 + y0) < 4294967296 := by
  apply Int.ediv_lt_of_lt_mul hy
  omega
theorem Seek.dec (h : Seek y1 y0 U u q r) (t : q ≥ 4294967296 ∨ q * y0 > 4294967296 * r + u) : (U * 4294967296 + u) / (y1 * 4294967296 + y0) ≤ q - 1 := by
  obtain ⟨a1, a2, a3, a4, a5, a6, a7, a8, a9, a10, a11, a12, a13, a14⟩ := h
  have hy : 0 < y1 * 4294967296 + y0 := by omega
  have hQ := quo_lt (u := u) hy a6 a8
  rcases t with t | t
  · omega
  · have e : q * (y1 * 4294967296 + y0) = q * y1 * 4294967296 + q * y0 := by rw [Int.mul_add, Int.mul_assoc]
    have : (U * 4294967296 + u) / (y1 * 4294967296 + y0) < q := by
      apply Int.ediv_lt_of_lt_mul hy
      rw [e]
      generalize q * y1 = P at *
      generalize q * y0 = P0 at *
      omega
    omega
theorem Seek.broke (h : Seek y1 y0 U u q r) (t : q ≥ 4294967296 ∨ q * y0 > 4294967296 * r + u) (hb : 4294967296 ≤ r + y1) : q - 1 = (U * 4294967296 + u) / (y1 * 4294967296 + y0) := by
  have hd := h.dec t
  obtain ⟨a1, a2, a3, a4, a5, a6, a7, a8, a9, a10, a11, a12, a13, a14⟩ := h
  have hy : 0 < y1 * 4294967296 + y0 := by omega
  have e : (q - 1) * (y1 * 4294967296 + y0) = q * y1 * 4294967296 - y1 * 4294967296 + (q - 1) * y0 := by
    rw [Int.mul_add, ← Int.mul_assoc, Int.sub_mul, Int.one_mul, Int.sub_mul]
  by_cases h1 : 1 ≤ q
  · have m : (q - 1) * y0 ≤ 4294967296 * 4294967295 := Int.mul_le_mul (by omega) (by omega) a3 (by omega)
    have : q - 1 ≤ (U * 4294967296 + u) / (y1 * 4294967296 + y0) := by
      apply (Int.le_ediv_iff_mul_le hy).mpr
      rw [e]
      generalize q * y1 = P at *
      generalize (q - 1) * y0 = P0 at *
      omega
    omega
  · have : 0 ≤ (U * 4294967296 + u) / (y1 * 4294967296 + y0) := Int.ediv_nonneg (by omega) (by omega)
    omega
theorem Seek.stop (h : Seek y1 y0 U u q r) (t : ¬ q * y0 > 4294967296 * r + u) : q = (U * 4294967296 + u) / (y1 * 4294967296 + y0) := by
  obtain ⟨a1, a2, a3, a4, a5, a6, a7, a8, a9, a10, a11, a12, a13, a14⟩ := h
  have hy : 0 < y1 * 4294967296 + y0 := by omega
  have e : q * (y1 * 4294967296 + y0) = q * y1 * 4294967296 + q * y0 := by rw [Int.mul_add, Int.mul_assoc]
  have : q ≤ (U * 4294967296 + u) / (y1 * 4294967296 + y0) := by
    apply (Int.le_ediv_iff_mul_le hy).mpr
    rw [e]
    generalize q * y1 = P at *
    generalize q * y0 = P0 at *
    omega
  omega
theorem Seek.next (h : Seek y1 y0 U u q r) (t : q ≥ 4294967296 ∨ q * y0 > 4294967296 * r + u) (hb : ¬ 4294967296 ≤ r + y1) : Seek y1 y0 U u (q - 1) (r + y1) := by
  have hd := h.dec t
  obtain ⟨a1, a2, a3, a4, a5, a6, a7, a8, a9, a10, a11, a12, a13, a14⟩ := h
  have : 0 ≤ (U * 4294967296 + u) / (y1 * 4294967296 + y0) := Int.ediv_nonneg (by omega) (by omega)
  refine ⟨a1, a2, a3, a4, a5, a6, a7, a8, by omega, by omega, by omega, by omega, ?_, hd⟩
  rw [Int.sub_mul]
  omega
theorem Seek.start (a1 : 2147483648 ≤ y1) (a2 : y1 < 4294967296) (a3 : 0 ≤ y0) (a4 : y0 < 4294967296) (a5 : 0 ≤ U) (a6 : U < y1 * 4294967296 + y0) (a7 : 0 ≤ u) (a8 : u < 4294967296) :
    Seek y1 y0 U u (U / y1) (U - U / y1 * y1) := by
  have hy : 0 < y1 * 4294967296 + y0 := by omega
  have e := Int.mul_ediv_add_emod U y1
  have e2 := Int.emod_nonneg U (show y1 ≠ 0 by omega)
  have e3 := Int.emod_lt_of_pos U (show 0 < y1 by omega)
  rw [Int.mul_comm] at e
  have q0 : 0 ≤ U / y1 := Int.ediv_nonneg a5 (by omega)
  refine ⟨a1, a2, a3, a4, a5, a6, a7, a8, by omega, by omega, q0, ?_, by omega, ?_⟩
  · have : U / y1 < 4294967298 := by
      apply Int.ediv_lt_of_lt_mul (by omega)
      omega
    omega
  · have hle : (U * 4294967296 + u) / (y1 * 4294967296 + y0) * (y1 * 4294967296 + y0) ≤ U * 4294967296 + u := Int.ediv_mul_le _ (by omega)
    have hn : 0 ≤ (U * 4294967296 + u) / (y1 * 4294967296 + y0) := Int.ediv_nonneg (by omega) (by omega)
    generalize (U * 4294967296 + u) / (y1 * 4294967296 + y0) = Q at *
    apply (Int.le_ediv_iff_mul_le (by omega)).mpr
    rw [Int.mul_add, ← Int.mul_assoc] at hle
    have hz : 0 ≤ Q * y0 := Int.mul_nonneg hn a3
    generalize Q * y1 = P at *
    omega
end
section
variable {y s y1 y0 U u v Q : Int} {res : Int × Int}
theorem Seek.mul_small {q r : Int} (h : Seek y1 y0 U u q r) (hq : q < 4294967296) : 0 ≤ q * y0 ∧ q * y0 < 18446744073709551616 := by
  have m : q * y0 ≤ 4294967295 * 4294967295 := Int.mul_le_mul (by have := h.qa; omega) (by have := h.y0b; omega) h.y0a (by omega)
  have := Int.mul_nonneg h.qa h.y0a
  omega
theorem l0_ev (hQ : Q = (U * 4294967296 + u) / (y1 * 4294967296 + y0)) (hj : Ev (fun k => bits_Div64.j2 k y s y1 y0 U u v Q) res) (d : Nat) : ∀ q r, Seek y1 y0 U u q r → q - Q ≤ d → Ev (fun k => bits_Div64.l0 k y s y1 y0 U u v q r) res := by
  induction d with
  | zero =>
    intro q r h hd
    have hqq := h.qQ
    have nt : ¬ (q ≥ 4294967296 ∨ q * y0 > 4294967296 * r + u) := fun t => by have := h.dec t; omega
    have hq : q < 4294967296 := by omega
    have t : ¬ q * y0 > 4294967296 * r + u := fun t => nt (.inr t)
    obtain ⟨m1, m2⟩ := h.mul_small hq
    have ra := h.ra; have rb := h.rb; have ua := h.ua; have ub := h.ub
    refine Ev.step (f := fun k => bits_Div64.j1 k y s y1 y0 U u v q r false) (fun k => ?_) ?_
    · simp only [bits_Div64.l0, u64w]
      rw [if_neg (by omega)]
      congr 1
      apply decide_eq_false
      generalize q * y0 = P at *
      omega
    · have e := h.stop t
      refine Ev.step (f := fun k => bits_Div64.j2 k y s y1 y0 U u v Q) (fun k => ?_) hj
      simp only [bits_Div64.j1]
      rw [if_neg (by decide), e, ← hQ]
  | succ d ih =>
    intro q r h hd
    have hqq := h.qQ
    have ra := h.ra; have rb := h.rb; have ua := h.ua; have ub := h.ub; have qa := h.qa; have qb := h.qb; have y1a := h.y1a; have y1b := h.y1b
    by_cases t : q ≥ 4294967296 ∨ q * y0 > 4294967296 * r + u
    · have hdec := h.dec t
      have hQ0 : 0 ≤ (U * 4294967296 + u) / (y1 * 4294967296 + y0) := Int.ediv_nonneg (by have := h.Ua; omega) (by have := h.y0a; omega)
      refine Ev.step (f := fun k => bits_Div64.j1 k y s y1 y0 U u v q r true) (fun k => ?_) ?_
      · simp only [bits_Div64.l0, u64w]
        by_cases hq : q ≥ 4294967296
        · rw [if_pos hq]
        · rw [if_neg hq]
          obtain ⟨m1, m2⟩ := h.mul_small (by omega)
          congr 1
          apply decide_eq_true
          have t2 : q * y0 > 4294967296 * r + u := by rcases t with t | t <;> omega
          generalize q * y0 = P at *
          omega
      · by_cases hb : 4294967296 ≤ r + y1
        · have e := h.broke t hb
          refine Ev.step (f := fun k => bits_Div64.j2 k y s y1 y0 U u v Q) (fun k => ?_) hj
          simp only [bits_Div64.j1, u64w]
          rw [if_pos trivial, if_pos (by omega)]
          congr 1
          omega
        · refine Ev.step (f := fun k => bits_Div64.l0 k y s y1 y0 U u v (q - 1) (r + y1)) (fun k => ?_) (ih _ _ (h.next t hb) (by omega))
          simp only [bits_Div64.j1, u64w]
          rw [if_pos trivial, if_neg (by omega)]
          congr 1 <;> omega
    · have hq : q < 4294967296 := by omega
      have t2 : ¬ q * y0 > 4294967296 * r + u := fun t2 => t (.inr t2)
      obtain ⟨m1, m2⟩ := h.mul_small hq
      refine Ev.step (f := fun k => bits_Div64.j1 k y s y1 y0 U u v q r false) (fun k => ?_) ?_
      · simp only [bits_Div64.l0, u64w]
        rw [if_neg (by omega)]
        congr 1
        apply decide_eq_false
        generalize q * y0 = P at *
        omega
      · have e := h.stop t2
        refine Ev.step (f := fun k => bits_Div64.j2 k y s y1 y0 U u v Q) (fun k => ?_) hj
        simp only [bits_Div64.j1]
        rw [if_neg (by decide), e, ← hQ]
end
section
variable {y s y1 y0 U u w Q : Int}
theorem l1_ev (hQ : Q = (U * 4294967296 + u) / (y1 * 4294967296 + y0)) (hs : 0 ≤ s) (d : Nat) : ∀ q r, Seek y1 y0 U u q r → q - Q ≤ d →
    Ev (fun k => bits_Div64.l1 k y s y1 y0 u w r U q) (IntKind.u64.wrap (IntKind.u64.wrap (w * 4294967296) + Q), shr .u64 (IntKind.u64.wrap (IntKind.u64.wrap (IntKind.u64.wrap (U * 4294967296) + u) - IntKind.u64.wrap (Q * y))) s) := by
  induction d with
  | zero =>
    intro q r h hd
    have hqq := h.qQ
    have nt : ¬ (q ≥ 4294967296 ∨ q * y0 > 4294967296 * r + u) := fun t => by have := h.dec t; omega
    have hq : q < 4294967296 := by omega
    have t : ¬ q * y0 > 4294967296 * r + u := fun t => nt (.inr t)
    obtain ⟨m1, m2⟩ := h.mul_small hq
    have ra := h.ra; have rb := h.rb; have ua := h.ua; have ub := h.ub
    refine Ev.step (f := fun k => bits_Div64.j4 k y s y1 y0 u w r U q false) (fun k => ?_) ?_
    · simp only [bits_Div64.l1, u64w]
      rw [if_neg (by omega)]
      congr 1
      apply decide_eq_false
      generalize q * y0 = P at *
      omega
    · have e := h.stop t
      refine ⟨1, fun k hk => ?_⟩
      obtain ⟨k, rfl⟩ : ∃ m, k = m + 1 := ⟨k - 1, by omega⟩
      simp only [bits_Div64.j4]
      rw [if_neg (by decide), if_pos hs, e, ← hQ]
  | succ d ih =>
    intro q r h hd
    have hqq := h.qQ
    have ra := h.ra; have rb := h.rb; have ua := h.ua; have ub := h.ub; have qa := h.qa; have qb := h.qb; have y1a := h.y1a; have y1b := h.y1b
    by_cases t : q ≥ 4294967296 ∨ q * y0 > 4294967296 * r + u
    · have hdec := h.dec t
      have hQ0 : 0 ≤ (U * 4294967296 + u) / (y1 * 4294967296 + y0) := Int.ediv_nonneg (by have := h.Ua; omega) (by have := h.y0a; omega)
      refine Ev.step (f := fun k => bits_Div64.j4 k y s y1 y0 u w r U q true) (fun k => ?_) ?_
      · simp only [bits_Div64.l1, u64w]
        by_cases hq : q ≥ 4294967296
        · rw [if_pos hq]
        · rw [if_neg hq]
          obtain ⟨m1, m2⟩ := h.mul_small (by omega)
          congr 1
          apply decide_eq_true
          have t2 : q * y0 > 4294967296 * r + u := by rcases t with t | t <;> omega
          generalize q * y0 = P at *
          omega
      · have eq1 : IntKind.u64.wrap (q - 1) = q - 1 := by rw [u64w]; omega
        have er1 : IntKind.u64.wrap (r + y1) = r + y1 := by rw [u64w]; omega
        by_cases hb : 4294967296 ≤ r + y1
        · have e := h.broke t hb
          refine ⟨1, fun k hk => ?_⟩
          obtain ⟨k, rfl⟩ : ∃ m, k = m + 1 := ⟨k - 1, by omega⟩
          simp only [bits_Div64.j4]
          rw [if_pos trivial, er1, if_pos hb, if_pos hs, eq1, e, ← hQ]
        · refine Ev.step (f := fun k => bits_Div64.l1 k y s y1 y0 u w (r + y1) U (q - 1)) (fun k => ?_) (ih _ _ (h.next t hb) (by omega))
          simp only [bits_Div64.j4]
          rw [if_pos trivial, er1, if_neg hb, eq1]
    · have hq : q < 4294967296 := by omega
      have t2 : ¬ q * y0 > 4294967296 * r + u := fun t2 => t (.inr t2)
      obtain ⟨m1, m2⟩ := h.mul_small hq
      refine Ev.step (f := fun k => bits_Div64.j4 k y s y1 y0 u w r U q false) (fun k => ?_) ?_
      · simp only [bits_Div64.l1, u64w]
        rw [if_neg (by omega)]
        congr 1
        apply decide_eq_false
        generalize q * y0 = P at *
        omega
      · have e := h.stop t2
        refine ⟨1, fun k hk => ?_⟩
        obtain ⟨k, rfl⟩ : ∃ m, k = m + 1 := ⟨k - 1, by omega⟩
        simp only [bits_Div64.j4]
        rw [if_neg (by decide), if_pos hs, e, ← hQ]
end
theorem rest_wrap (U u y : Int) (hy : 0 < y) (hyM : y < 18446744073709551616) : ((((U * 4294967296) % 18446744073709551616 + u) % 18446744073709551616) - ((U * 4294967296 + u) / y * y) % 18446744073709551616) % 18446744073709551616 = (U * 4294967296 + u) % y := by
  have e := Int.mul_ediv_add_emod (U * 4294967296 + u) y
  have e2 := Int.emod_nonneg (U * 4294967296 + u) (Int.ne_of_gt hy)
  have e3 := Int.emod_lt_of_pos (U * 4294967296 + u) hy
  rw [Int.mul_comm] at e
  generalize (U * 4294967296 + u) / y * y = T at *
  generalize (U * 4294967296 + u) % y = R at *
  omega
theorem div_norm (y s U u v : Int) (h1 : 9223372036854775808 ≤ y) (h2 : y < 18446744073709551616) (hs : 0 ≤ s) (a5 : 0 ≤ U) (a6 : U < y) (a7 : 0 ≤ u) (a8 : u < 4294967296) (b7 : 0 ≤ v) (b8 : v < 4294967296) :
    Ev (fun k => bits_Div64.l0 k y s (y / 4294967296) (y % 4294967296) U u v (U / (y / 4294967296)) (U - U / (y / 4294967296) * (y / 4294967296)))
      ((U * 18446744073709551616 + u * 4294967296 + v) / y, shr .u64 ((U * 18446744073709551616 + u * 4294967296 + v) % y) s) := by
  have hy0 : 0 < y := by omega
  have ey : y / 4294967296 * 4294967296 + y % 4294967296 = y := by omega
  have st := Seek.start (y1 := y / 4294967296) (y0 := y % 4294967296) (U := U) (u := u) (by omega) (by omega) (by omega) (by omega) a5 (by omega) a7 a8
  have Q0 : 0 ≤ (U * 4294967296 + u) / y := Int.ediv_nonneg (by omega) (by omega)
  have Q1 : (U * 4294967296 + u) / y < 4294967296 := Int.ediv_lt_of_lt_mul hy0 (by omega)
  have R0 := Int.emod_nonneg (U * 4294967296 + u) (Int.ne_of_gt hy0)
  have R1 := Int.emod_lt_of_pos (U * 4294967296 + u) hy0
  have RE := Int.mul_ediv_add_emod (U * 4294967296 + u) y
  refine l0_ev (Q := (U * 4294967296 + u) / y) (by rw [ey]) ?_ 4294967297 _ _ st (by have := st.qb; omega)
  have rw1 := rest_wrap U u y hy0 h2
  refine Ev.step (f := fun k => bits_Div64.l1 k y s (y / 4294967296) (y % 4294967296) v ((U * 4294967296 + u) / y) ((U * 4294967296 + u) % y - (U * 4294967296 + u) % y / (y / 4294967296) * (y / 4294967296)) ((U * 4294967296 + u) % y) ((U * 4294967296 + u) % y / (y / 4294967296))) (fun k => ?_) ?_
  · simp only [bits_Div64.j2]
    rw [if_neg (by omega)]
    simp only [u64w]
    rw [rw1]
    generalize hR : (U * 4294967296 + u) % y = R at *
    have st2 := Seek.start (y1 := y / 4294967296) (y0 := y % 4294967296) (U := R) (u := v) (by omega) (by omega) (by omega) (by omega) R0 (by omega) b7 b8
    have qa := st2.qa; have qb := st2.qb; have ra := st2.ra; have rb := st2.rb
    rw [Int.tdiv_eq_ediv_of_nonneg R0]
    generalize R / (y / 4294967296) = q at *
    have eqm : q % 18446744073709551616 = q := by omega
    rw [eqm]
    generalize q * (y / 4294967296) = P at *
    congr 1 <;> omega
  · generalize hR : (U * 4294967296 + u) % y = R at *
    generalize hQ : (U * 4294967296 + u) / y = Q at *
    have st2 := Seek.start (y1 := y / 4294967296) (y0 := y % 4294967296) (U := R) (u := v) (by omega) (by omega) (by omega) (by omega) R0 (by omega) b7 b8
    have ev := l1_ev (y := y) (s := s) (w := Q) (Q := (R * 4294967296 + v) / y) (by rw [ey]) hs 4294967297 _ _ st2 (by have := st2.qb; have : 0 ≤ (R * 4294967296 + v) / y := Int.ediv_nonneg (by omega) (by omega); omega)
    have rw2 := rest_wrap R v y hy0 h2
    simp only [u64w] at ev
    rw [rw2] at ev
    have T0 : 0 ≤ (R * 4294967296 + v) / y := Int.ediv_nonneg (by omega) (by omega)
    have T1 : (R * 4294967296 + v) / y < 4294967296 := Int.ediv_lt_of_lt_mul hy0 (by omega)
    have eN : U * 18446744073709551616 + u * 4294967296 + v = (R * 4294967296 + v) + (Q * 4294967296) * y := by
      have : (Q * 4294967296) * y = y * Q * 4294967296 := by rw [Int.mul_comm, ← Int.mul_assoc]
      rw [this]
      omega
    rw [eN, Int.add_mul_ediv_right _ _ (by omega), Int.add_mul_emod_self_right]
    have e5 : (Q * 4294967296 % 18446744073709551616 + (R * 4294967296 + v) / y) % 18446744073709551616 = (R * 4294967296 + v) / y + Q * 4294967296 := by omega
    rw [e5] at ev
    exact ev
end Go.Proofs.Ythjhammjankekaa.PNum
