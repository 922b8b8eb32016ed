import Derived.Test.YtdnedangfnincaaRdSB
namespace Go.Proofs.Ytdnedangfnincaa.AbsAccR
open Go Go.Abs Go.Proofs
set_option maxRecDepth 100000
set_option linter.unusedVariables false
set_option linter.unusedSimpArgs false

attribute [local congr] h_opt2 h_opt h_condV h_cond
/-! the document's numbers: Mul -/
abbrev zs20 : List Nat := [0, 0, 0, 0, 0, 0, 0, 0, 0, 0, 0, 0, 0, 0, 0, 0, 0, 0, 0, 0]
theorem mulUI (a b : Int) (ha : 0 ≤ a) (hb : 0 ≤ b) (h : a * b < 18446744073709551616) : int2 mulO (.int .u64 a) (.int .u64 b) = some (.int .u64 (a * b)) := by
  obtain ⟨a, rfl⟩ := Int.eq_ofNat_of_zero_le ha
  obtain ⟨b, rfl⟩ := Int.eq_ofNat_of_zero_le hb
  exact mulU a b (by have : ((a * b : Nat) : Int) < 18446744073709551616 := by rw [Int.natCast_mul]; exact h
                     omega)
theorem rep_cU : ∀ n : Nat, rep n [Value.int .u64 0] = cU (List.replicate n 0)
  | 0 => rfl
  | n + 1 => by rw [rep_succ, rep_cU n]; rfl
theorem ms_U (s : St) (rec : Rec) (n : Nat) (hn : n ≤ 1000) (h : s.next ≤ lim) : oMakeSlice 1 8 [(.int .u64 0)] (.v (.int .i64 (n : Int))) (.v (.int .i64 (n : Int))) rec PT.nil s = some (.slice (some ⟨s.next, 0, none⟩) n n, an s (cU (List.replicate n 0))) := by
  have u1 : Nat.ble (n * 8) 140737488355328 = true := by rw [ble_eq']; exact decide_eq_true (by omega)
  show (opt (boundD PT.nil (some (.v (.int .i64 (n : Int)))) 9223372036854775807 0) fun c => opt (boundD PT.nil (some (.v (.int .i64 (n : Int)))) c 0) fun l =>
    bif Nat.ble (c * 8) 140737488355328 && !Nat.beq 1 0 then opt2 (s.alloc (rep c [(.int .u64 0)])) fun b s => some (Value.slice (some ⟨b, 0, none⟩) l c, s) else none) = _
  rw [bound_u n _ _ (by omega), op_s, bound_u n _ _ (by omega), op_s, u1, rep_cU]
  show (opt2 (s.alloc (cU (List.replicate n 0))) fun b s => some (Value.slice (some ⟨b, 0, none⟩) n n, s)) = _
  rw [an_e _ _ h, op2_s]
theorem nth_cU : ∀ (D : List Int) (i : Nat), i < D.length → nth (cU D) i = some (.int .u64 (dgt D i))
  | [], i, h => by simp at h
  | x :: D, 0, _ => by rw [dgt_zero]; rfl
  | x :: D, i + 1, h => by rw [dgt_succ]; exact nth_cU D i (by simp at h; omega)
theorem cU_set : ∀ (D : List Int) (i : Nat) (v : Int), i < D.length → (cU D).take i ++ ([Value.int .u64 v] ++ (cU D).drop (i + 1)) = cU (D.set i v)
  | [], i, v, h => by simp at h
  | x :: D, 0, v, _ => rfl
  | x :: D, i + 1, v, h => by
    have := cU_set D i v (by simp at h; omega)
    show Value.int .u64 x :: ((cU D).take i ++ ([Value.int .u64 v] ++ (cU D).drop (i + 1))) = _
    rw [this]; rfl
theorem put_cU (s : St) (b i : Nat) (v : Int) (D : List Int) (h : i < D.length) : putF s b i [.int .u64 v] (cU D) = some (UV, s.set b (some (cU (D.set i v)))) := by
  have e : Nat.ble (i + lenN [Value.int .u64 v]) (lenN (cU D)) = true := by rw [ble_eq', lenN_eq, lenN_eq, cU_len]; exact decide_eq_true (by simp; omega)
  unfold putF
  rw [e, cond_true, app_eq, app_eq, takeN_eq, dropN_eq, lenN_eq]
  rw [show i + [Value.int .u64 v].length = i + 1 from rfl, cU_set D i v h]
structure MulU (s : St) (na nb : Bool) (wa wb : Value) (D : List Int) (u : St) : Prop where
  nx : u.next = s.next + 4
  old : ∀ y, y < s.next → u.getC y = s.getC y
  c1 : u.getC s.next = some [.bool na, wa]
  c2 : u.getC (s.next + 1) = some [.bool nb, wb]
  c3 : u.getC (s.next + 2) = some [.bool false, .slice none 0 0]
  c4 : u.getC (s.next + 3) = some (cU D)
  o : Own s u
theorem MulU.ro {s : St} {na nb : Bool} {wa wb : Value} {D : List Int} {u u' : St} (h : MulU s na nb wa wb D u) (g : RO u u') : MulU s na nb wa wb D u' :=
  ⟨g.1.1.trans h.nx, fun y hy => (g.1.2 y).trans (h.old y hy), (g.1.2 _).trans h.c1, (g.1.2 _).trans h.c2, (g.1.2 _).trans h.c3, (g.1.2 _).trans h.c4, own_ro h.o g⟩
theorem MulU.set {s : St} {na nb : Bool} {wa wb : Value} {D : List Int} {u : St} (h : MulU s na nb wa wb D u) (D' : List Int) (h8 : 8 ≤ s.next) (hl : s.next + 10 ≤ lim) : MulU s na nb wa wb D' (u.set (s.next + 3) (some (cU D'))) := by
  have hlim : lim = 1000000000 := rfl
  have nx := h.nx
  refine ⟨by rw [set_next]; exact nx, fun y hy => (set_ne _ _ _ _ (by omega) (by omega)).trans (h.old y hy), (set_ne _ _ _ _ (by omega) (by omega)).trans h.c1, (set_ne _ _ _ _ (by omega) (by omega)).trans h.c2, (set_ne _ _ _ _ (by omega) (by omega)).trans h.c3, set_at _ _ _ _ (by omega) (by omega) (cU_map D') rfl, h.o.set _ _ (by omega) (by omega)⟩
theorem MulU.dg {s : St} {na nb : Bool} {wa wb : Value} {D : List Int} {u : St} (h : MulU s na nb wa wb D u) {w : Value} {L : List Int} (hw : DgS s w L) : DgS u w L := hw.keep (by rw [h.nx]; omega) h.old
theorem loop55 (m : Nat) (hm : 100 ≤ m) (s : St) (h8 : 8 ≤ s.next) (hl : s.next + 10 ≤ lim) (na nb : Bool) (wa wb x3 : Value) (A B : List Int) (hwa : DgS s wa A) (hwb : DgS s wb B) (dA : Dg A) (dB : Dg B) (nA : A.length ≤ 40) (nB : B.length ≤ 40) (i : Nat) (hi : i < A.length) :
    ∀ (n fuel k : Nat) (u : St) (c : Int) (D : List Int), k + n = B.length + 1 → D.length = A.length + B.length + 1 → Dg D → 0 ≤ c ∧ c < 65536 → (k = B.length + 1 → c = 0) → bv D + pw (i + k) * c = bv (A.take i) * bv B + pw i * (dgt A i * bv (B.take k)) → MulU s na nb wa wb D u → n < fuel →
    ∃ z z' D' u', loopV (B55_l0 (callN E m) m (.pointer (some ⟨s.next, 0, none⟩), .pointer (some ⟨s.next + 1, 0, none⟩), x3, .slice (some ⟨s.next + 3, 0, none⟩) (A.length + B.length + 1) (A.length + B.length + 1), .int .i64 (i : Int))) fuel (.int .u64 c, .int .i64 (k : Int)) u = some (.exit 2, ((z, z'), u')) ∧ D'.length = A.length + B.length + 1 ∧ Dg D' ∧ bv D' = bv (A.take i) * bv B + pw i * (dgt A i * bv B) ∧ MulU s na nb wa wb D' u' := by
  have hlim : lim = 1000000000 := rfl
  have ln := hwb.len
  intro n
  have stop : ∀ (fuel k : Nat) (u : St) (D : List Int), B.length ≤ k → D.length = A.length + B.length + 1 → Dg D → bv D + pw (i + k) * 0 = bv (A.take i) * bv B + pw i * (dgt A i * bv (B.take k)) → MulU s na nb wa wb D u →
      ∃ z z' D' u', loopV (B55_l0 (callN E m) m (.pointer (some ⟨s.next, 0, none⟩), .pointer (some ⟨s.next + 1, 0, none⟩), x3, .slice (some ⟨s.next + 3, 0, none⟩) (A.length + B.length + 1) (A.length + B.length + 1), .int .i64 (i : Int))) (fuel + 1) (.int .u64 0, .int .i64 (k : Int)) u = some (.exit 2, ((z, z'), u')) ∧ D'.length = A.length + B.length + 1 ∧ Dg D' ∧ bv D' = bv (A.take i) * bv B + pw i * (dgt A i * bv B) ∧ MulU s na nb wa wb D' u' := by
    intro fuel k u D hk hD hd hv y
    rw [take_all hk, Int.mul_zero, Int.add_zero] at hv
    have e1 : decide ((k : Int) < (B.length : Int)) = false := decide_eq_false (by omega)
    have e3 : decide ((0 : Int) < 0) = false := rfl
    have g2 := y.c2
    rw [loopV_s, B55_l0]
    simp only [op2_s, op_s, bin_e, pick_e, not_e, ext_e, nth_z, nth_1, nth_2, nth_3, gval_e, gval_u, cmp_e, orUndef_t, orUndef_f, condV_t, condV_f, cond_true, cond_false, eqI_eq, neI_eq, ltI_eq, leI_eq, gtI_eq, geI_eq, Bool.not_true, Bool.not_false, bf_tt, bf_tf, bf_ft, bf_ff, decide_true, decide_false, oneOf_1, oneOf_2, oneOf_3, thenV_n, thenV_e, thenV_r, exV_e, exV_r, Nat.beq_refl, eq_self, new_a, boxA, an_ati, an_atp, an_ats, an_atb, an_ne, set_ati, set_atp, set_ats, set_atb, set_ne, seen_getC, loadn_o, store_2, store_i, store_b, store_s, store_p, load_u, cut_22, put_22, cut_53, cut_55, put_55, put_50, put_51, put_52, put_53, store_5, nth_z, nth_1, nth_2, nth_3, nth_4, nil_u, fa_0, an_next, set_next, St.seen_next, jn_next, z0_next, jn_getC, z0_getC, rU_z, rU_seen, rU_set, rU_an, rU_sl, g2, ln, e1, e3]
    exact ⟨_, _, D, _, rfl, hD, hd, hv, y.ro ((RO.refl u).seen _ (by rw [y.nx]; omega))⟩
  induction n with
  | zero =>
    intro fuel k u c D hk hD hd hc hcz hv y hf
    obtain ⟨fuel, rfl⟩ : ∃ k, fuel = k + 1 := ⟨fuel - 1, by omega⟩
    obtain rfl := hcz (by omega)
    exact stop fuel k u D (by omega) hD hd hv y
  | succ n ih =>
    intro fuel k u c D hk hD hd hc hcz hv y hf
    obtain ⟨fuel, rfl⟩ : ∃ k, fuel = k + 1 := ⟨fuel - 1, by omega⟩
    by_cases hs : B.length ≤ k ∧ c = 0
    · obtain ⟨h1, rfl⟩ := hs
      exact stop fuel k u D h1 hD hd hv y
    have nx := y.nx
    have g1 := y.c1; have g2 := y.c2; have g4 := y.c4
    obtain ⟨ba, ca, q1, q2, q3, q4⟩ := hwa.at (i := i) hi
    have g3 := (y.old ba q1).trans q2
    obtain ⟨S3, hS3⟩ : ∃ z, z = ((((u.seen (s.next + 1)).seen (s.next + 3)).seen s.next).seen ba).seen (s.next + 1) := ⟨_, rfl⟩
    have r3 : RO u S3 := by rw [hS3]; exact (((((RO.refl u).seen _ (by omega)).seen _ (by omega)).seen _ (by omega)).seen _ (by omega)).seen _ (by omega)
    have y3 := y.ro r3
    obtain ⟨s1, c1, ro⟩ := r72 m (by omega) (z0 S3) wb B (y3.dg hwb).z k
    obtain ⟨S4, hS4⟩ : ∃ z, z = jn S3 s1 := ⟨_, rfl⟩
    have y4 : MulU s na nb wa wb D S4 := by rw [hS4]; exact y3.ro ro.jn
    have x4 := y4.c4
    have qq := rU_c (.int .u64 (dgt B k)) PT.nil S3 s1
    rw [← hS4] at qq
    have hx := dgt_bd dA i
    have hy := dgt_bd dB k
    have hz := dgt_bd hd (i + k)
    have hlt : i + k < D.length := by
      rw [hD]
      omega
    obtain ⟨p1, p2, p3, p4, p5⟩ := mul_step (dgt D (i + k)) (dgt A i) (dgt B k) c hz hx hy hc
    have ad : int2 addO (.int .i64 (i : Int)) (.int .i64 (k : Int)) = some (.int .i64 ((i + k : Nat) : Int)) := by rw [add_e _ _ (by omega) (by omega)]; rfl
    have ad1 : int2 addO (.int .i64 (k : Int)) (.int .i64 1) = some (.int .i64 ((k + 1 : Nat) : Int)) := by rw [add_e _ _ (by omega) (by omega)]; rfl
    have a1 := mulUI (dgt A i) (dgt B k) hx.1 hy.1 (by omega)
    have a2 := addUI (dgt D (i + k)) (dgt A i * dgt B k) hz.1 p1 (by omega)
    have a3 := addUI (dgt D (i + k) + dgt A i * dgt B k) c (by omega) hc.1 (by omega)
    have a4 := mask16 (dgt D (i + k) + dgt A i * dgt B k + c) p3 (by omega)
    have a5 := shr16 (dgt D (i + k) + dgt A i * dgt B k + c) p3
    have idx : ∀ (rec : Rec) (fs : Frm) (t : St), oIdxAddrL 1 (.v (.slice (some ⟨s.next + 3, 0, none⟩) (A.length + B.length + 1) (A.length + B.length + 1))) (.v (.int .i64 ((i + k : Nat) : Int))) rec fs t = some (.pointer (some ⟨s.next + 3, i + k, none⟩), t) := fun rec fs t => by
      rw [idxL_e 1 (s.next + 3) 0 _ _ (i + k) rec fs t (by omega), Nat.zero_add, Nat.mul_one]
    have nthD := nth_cU D (i + k) hlt
    have pt := put_cU S4 (s.next + 3) (i + k) ((dgt D (i + k) + dgt A i * dgt B k + c) % 65536) D hlt
    have hc' : k + 1 = B.length + 1 → (dgt D (i + k) + dgt A i * dgt B k + c) / 65536 = 0 := by
      intro hkB
      have hkB : k = B.length := by omega
      have z0 : dgt B k = 0 := dgt_above (by omega)
      rw [take_all (by omega : B.length ≤ k)] at hv
      have sm := row_small A B dA dB i hi
      rw [← hv, ← hkB] at sm
      have := carry_none D (i + k) c hd hlt sm
      rw [z0, Int.mul_zero]
      omega
    obtain ⟨z, z', D', u', r1, r2, r3, r4, r5⟩ := ih fuel (k + 1) (S4.set (s.next + 3) (some (cU (D.set (i + k) ((dgt D (i + k) + dgt A i * dgt B k + c) % 65536))))) ((dgt D (i + k) + dgt A i * dgt B k + c) / 65536) (D.set (i + k) ((dgt D (i + k) + dgt A i * dgt B k + c) % 65536)) (by omega) (by rw [List.length_set]; exact hD) (hd.set _ ⟨by omega, by omega⟩) ⟨by omega, p4⟩ hc' (by
      rw [bv_set _ _ hlt, bv_take_succ, ← Nat.add_assoc, pw_succ]
      exact row_val (pw (i + k)) (pw i) (pw k) _ _ _ _ _ _ _ _ _ hv (pw_add i k) (by omega)) (y4.set _ h8 hl) (by omega)
    rw [loopV_s, B55_l0]
    by_cases hk' : k < B.length
    · have e1 : decide ((k : Int) < (B.length : Int)) = true := decide_eq_true (by omega)
      have e2 : True := trivial
      simp only [z0_e]
      simp (maxSteps := 4000000) only [op2_s, op_s, bin_e, pick_e, not_e, ext_e, nth_z, nth_1, nth_2, nth_3, gval_e, gval_u, cmp_e, orUndef_t, orUndef_f, condV_t, condV_f, cond_true, cond_false, eqI_eq, neI_eq, ltI_eq, leI_eq, gtI_eq, geI_eq, Bool.not_true, Bool.not_false, bf_tt, bf_tf, bf_ft, bf_ff, decide_true, decide_false, oneOf_1, oneOf_2, oneOf_3, thenV_n, thenV_e, thenV_r, exV_e, exV_r, Nat.beq_refl, eq_self, new_a, boxA, an_ati, an_atp, an_ats, an_atb, an_ne, set_ati, set_atp, set_ats, set_atb, set_ne, seen_getC, loadn_o, store_2, store_i, store_b, store_s, store_p, load_u, cut_22, put_22, cut_53, cut_55, put_55, put_50, put_51, put_52, put_53, store_5, nth_z, nth_1, nth_2, nth_3, nth_4, nil_u, fa_0, an_next, set_next, St.seen_next, jn_next, z0_next, jn_getC, z0_getC, rU_z, rU_seen, rU_set, rU_an, rU_sl, mov_v, g1, g2, g4, ln, e1, e2, ad, idx, nthD, q4, g3, q3, ← hS3, c1, qq, a1, a2, a3]
      rw [apartIs (n0 := s.next + 4) (fun _ => s.next + 4) zs20 ?hc ?h0 ?hk _ (by kernel_rfl), cond_true]
      · simp only [op2_s, op_s, bin_e, pick_e, not_e, ext_e, nth_z, nth_1, nth_2, nth_3, gval_e, gval_u, cmp_e, orUndef_t, orUndef_f, condV_t, condV_f, cond_true, cond_false, eqI_eq, neI_eq, ltI_eq, leI_eq, gtI_eq, geI_eq, Bool.not_true, Bool.not_false, bf_tt, bf_tf, bf_ft, bf_ff, decide_true, decide_false, oneOf_1, oneOf_2, oneOf_3, thenV_n, thenV_e, thenV_r, exV_e, exV_r, Nat.beq_refl, eq_self, J55_j0, J55_j1, ad, a4, idx, store_i, x4, pt, a5, ad1]
        exact ⟨z, z', D', u', r1, r2, r3, r4, r5⟩
      case hc => exact fun i j _ _ => Nat.le_refl _
      case h0 => exact fun i _ => Nat.le_refl _
      case hk =>
        repeat (first | trivial | refine ⟨kI (by first | exact KI.pure _ _ _ _ _ | exact KI.ld _ _ _ _ _ _ _ (by omega) | exact KI.ro _ _ _ _ _ ro (by rw [y3.nx]; exact Nat.le_refl _)) (by decide), ?_⟩)
    · have e1 : decide ((k : Int) < (B.length : Int)) = false := decide_eq_false (by omega)
      have e2 : decide (0 < c) = true := decide_eq_true (by omega)
      simp only [z0_e]
      simp (maxSteps := 4000000) only [op2_s, op_s, bin_e, pick_e, not_e, ext_e, nth_z, nth_1, nth_2, nth_3, gval_e, gval_u, cmp_e, orUndef_t, orUndef_f, condV_t, condV_f, cond_true, cond_false, eqI_eq, neI_eq, ltI_eq, leI_eq, gtI_eq, geI_eq, Bool.not_true, Bool.not_false, bf_tt, bf_tf, bf_ft, bf_ff, decide_true, decide_false, oneOf_1, oneOf_2, oneOf_3, thenV_n, thenV_e, thenV_r, exV_e, exV_r, Nat.beq_refl, eq_self, new_a, boxA, an_ati, an_atp, an_ats, an_atb, an_ne, set_ati, set_atp, set_ats, set_atb, set_ne, seen_getC, loadn_o, store_2, store_i, store_b, store_s, store_p, load_u, cut_22, put_22, cut_53, cut_55, put_55, put_50, put_51, put_52, put_53, store_5, nth_z, nth_1, nth_2, nth_3, nth_4, nil_u, fa_0, an_next, set_next, St.seen_next, jn_next, z0_next, jn_getC, z0_getC, rU_z, rU_seen, rU_set, rU_an, rU_sl, mov_v, g1, g2, g4, ln, e1, e2, ad, idx, nthD, q4, g3, q3, ← hS3, c1, qq, a1, a2, a3]
      rw [apartIs (n0 := s.next + 4) (fun _ => s.next + 4) zs20 ?hc ?h0 ?hk _ (by kernel_rfl), cond_true]
      · simp only [op2_s, op_s, bin_e, pick_e, not_e, ext_e, nth_z, nth_1, nth_2, nth_3, gval_e, gval_u, cmp_e, orUndef_t, orUndef_f, condV_t, condV_f, cond_true, cond_false, eqI_eq, neI_eq, ltI_eq, leI_eq, gtI_eq, geI_eq, Bool.not_true, Bool.not_false, bf_tt, bf_tf, bf_ft, bf_ff, decide_true, decide_false, oneOf_1, oneOf_2, oneOf_3, thenV_n, thenV_e, thenV_r, exV_e, exV_r, Nat.beq_refl, eq_self, J55_j0, J55_j1, ad, a4, idx, store_i, x4, pt, a5, ad1]
        exact ⟨z, z', D', u', r1, r2, r3, r4, r5⟩
      case hc => exact fun i j _ _ => Nat.le_refl _
      case h0 => exact fun i _ => Nat.le_refl _
      case hk =>
        repeat (first | trivial | refine ⟨kI (by first | exact KI.pure _ _ _ _ _ | exact KI.ld _ _ _ _ _ _ _ (by omega) | exact KI.ro _ _ _ _ _ ro (by rw [y3.nx]; exact Nat.le_refl _)) (by decide), ?_⟩)
end Go.Proofs.Ytdnedangfnincaa.AbsAccR
namespace Go.Proofs.Ytdnedangfnincaa.AbsAccR
open Go Go.Abs Go.Proofs
set_option maxRecDepth 100000
set_option linter.unusedVariables false
set_option linter.unusedSimpArgs false

attribute [local congr] h_opt2 h_opt h_condV h_cond
/-! the document's numbers: Mul, whole -/
theorem loop55o (m : Nat) (hm : 100 ≤ m) (s : St) (h8 : 8 ≤ s.next) (hl : s.next + 10 ≤ lim) (na nb : Bool) (wa wb x3 : Value) (A B : List Int) (hwa : DgS s wa A) (hwb : DgS s wb B) (dA : Dg A) (dB : Dg B) (nA : A.length ≤ 40) (nB : B.length ≤ 40) :
    ∀ (n fuel i : Nat) (u : St) (D : List Int), i + n = A.length → D.length = A.length + B.length + 1 → Dg D → bv D = bv (A.take i) * bv B → MulU s na nb wa wb D u → n < fuel →
    ∃ z D' u', loopV (B55_l1 (callN E m) m (.pointer (some ⟨s.next, 0, none⟩), .pointer (some ⟨s.next + 1, 0, none⟩), x3, .slice (some ⟨s.next + 3, 0, none⟩) (A.length + B.length + 1) (A.length + B.length + 1))) fuel (.int .i64 (i : Int)) u = some (.exit 0, z, u') ∧ D'.length = A.length + B.length + 1 ∧ Dg D' ∧ bv D' = bv A * bv B ∧ MulU s na nb wa wb D' u' := by
  have hlim : lim = 1000000000 := rfl
  have ln := hwa.len
  intro n
  induction n with
  | zero =>
    intro fuel i u D hi hD hd hv y hf
    obtain ⟨fuel, rfl⟩ : ∃ k, fuel = k + 1 := ⟨fuel - 1, by omega⟩
    have e1 : decide ((i : Int) < (A.length : Int)) = false := decide_eq_false (by omega)
    have g1 := y.c1
    rw [take_all (by omega)] at hv
    rw [loopV_s, B55_l1]
    simp only [op2_s, op_s, bin_e, pick_e, not_e, ext_e, nth_z, nth_1, nth_2, nth_3, gval_e, gval_u, cmp_e, orUndef_t, orUndef_f, condV_t, condV_f, cond_true, cond_false, eqI_eq, neI_eq, ltI_eq, leI_eq, gtI_eq, geI_eq, Bool.not_true, Bool.not_false, bf_tt, bf_tf, bf_ft, bf_ff, decide_true, decide_false, oneOf_1, oneOf_2, oneOf_3, thenV_n, thenV_e, thenV_r, exV_e, exV_r, Nat.beq_refl, eq_self, new_a, boxA, an_ati, an_atp, an_ats, an_atb, an_ne, set_ati, set_atp, set_ats, set_atb, set_ne, seen_getC, loadn_o, store_2, store_i, store_b, store_s, store_p, load_u, cut_22, put_22, cut_53, cut_55, put_55, put_50, put_51, put_52, put_53, store_5, nth_z, nth_1, nth_2, nth_3, nth_4, nil_u, fa_0, an_next, set_next, St.seen_next, jn_next, z0_next, jn_getC, z0_getC, rU_z, rU_seen, rU_set, rU_an, rU_sl, g1, ln, e1]
    exact ⟨_, D, _, rfl, hD, hd, hv, y.ro ((RO.refl u).seen _ (by rw [y.nx]; omega))⟩
  | succ n ih =>
    intro fuel i u D hi hD hd hv y hf
    obtain ⟨fuel, rfl⟩ : ∃ k, fuel = k + 1 := ⟨fuel - 1, by omega⟩
    have e1 : decide ((i : Int) < (A.length : Int)) = true := decide_eq_true (by omega)
    have g1 := y.c1
    have y1 := y.ro ((RO.refl u).seen s.next (by rw [y.nx]; omega))
    have ad1 : int2 addO (.int .i64 (i : Int)) (.int .i64 1) = some (.int .i64 ((i + 1 : Nat) : Int)) := by rw [add_e _ _ (by omega) (by omega)]; rfl
    obtain ⟨z, z', D', u', r1, r2, r3, r4, r5⟩ := loop55 m hm s h8 hl na nb wa wb x3 A B hwa hwb dA dB nA nB i (by omega) (B.length + 1) m 0 (u.seen s.next) 0 D (by omega) hD hd ⟨by omega, by omega⟩ (fun h => by omega) (by rw [hv, List.take_zero, bv_nil, Int.mul_zero, Int.mul_zero, Int.mul_zero]) y1 (by omega)
    obtain ⟨w, D'', u'', t1, t2, t3, t4, t5⟩ := ih fuel (i + 1) u' D' (by omega) r2 r3 (by rw [r4, bv_take_succ, Int.add_mul, Int.mul_assoc]) r5 (by omega)
    rw [show ((0 : Nat) : Int) = 0 from rfl] at r1
    rw [loopV_s, B55_l1]
    simp only [op2_s, op_s, bin_e, pick_e, not_e, ext_e, nth_z, nth_1, nth_2, nth_3, gval_e, gval_u, cmp_e, orUndef_t, orUndef_f, condV_t, condV_f, cond_true, cond_false, eqI_eq, neI_eq, ltI_eq, leI_eq, gtI_eq, geI_eq, Bool.not_true, Bool.not_false, bf_tt, bf_tf, bf_ft, bf_ff, decide_true, decide_false, oneOf_1, oneOf_2, oneOf_3, thenV_n, thenV_e, thenV_r, exV_e, exV_r, Nat.beq_refl, eq_self, new_a, boxA, an_ati, an_atp, an_ats, an_atb, an_ne, set_ati, set_atp, set_ats, set_atb, set_ne, seen_getC, loadn_o, store_2, store_i, store_b, store_s, store_p, load_u, cut_22, put_22, cut_53, cut_55, put_55, put_50, put_51, put_52, put_53, store_5, nth_z, nth_1, nth_2, nth_3, nth_4, nil_u, fa_0, an_next, set_next, St.seen_next, jn_next, z0_next, jn_getC, z0_getC, rU_z, rU_seen, rU_set, rU_an, rU_sl, g1, ln, e1, r1, C55_l0, J55_r0, ad1]
    exact ⟨w, D'', u'', t1, t2, t3, t4, t5⟩
theorem sg_mul (na nb : Bool) (A B D : List Int) (h : bv D = bv A * bv B) : sg (!(na == nb)) D = sg na A * sg nb B := by
  unfold sg
  rw [h]
  cases na <;> cases nb <;> simp [Int.neg_mul, Int.mul_neg]
/-- Mul -/
theorem r55 (M : Nat) (hM : 1100 ≤ M) (s : St) (x y : Value) (a b : Int) (hx : BigAt s x a) (hy : BigAt s y b) (na : (big a).2.length ≤ 40) (nb : (big b).2.length ≤ 40) (h8 : 8 ≤ s.next) (hl : s.next + 20 ≤ lim) :
    ∃ v s', callN E M 55 [x, y] s = some (v, s') ∧ BigAt s' v (a * b) ∧ Grew 8 s s' ∧ Own s s' := by
  have hlim : lim = 1000000000 := rfl
  have hunk : 1000 < UNK := by decide
  obtain ⟨m, rfl⟩ : ∃ m, M = m + 1 := ⟨M - 1, by omega⟩
  obtain ⟨wa, rfl, hwa⟩ := hx
  obtain ⟨wb, rfl, hwb⟩ := hy
  have Ia := big_is a; have Ib := big_is b
  have va := Ia.val; have vb' := Ib.val
  obtain ⟨sa, hna⟩ : ∃ z, z = (big a).1 := ⟨_, rfl⟩
  obtain ⟨sb, hnb⟩ : ∃ z, z = (big b).1 := ⟨_, rfl⟩
  obtain ⟨A, hA⟩ : ∃ z, z = (big a).2 := ⟨_, rfl⟩
  obtain ⟨B, hB⟩ : ∃ z, z = (big b).2 := ⟨_, rfl⟩
  have dA := Ia.dg; have dB := Ib.dg
  rw [← hna, ← hA] at va
  rw [← hnb, ← hB] at vb'
  rw [← hA] at hwa na dA
  rw [← hB] at hwb nb dB
  rw [← hna, ← hnb]
  have la := hwa.len; have lb := hwb.len
  obtain ⟨S0, hS0⟩ : ∃ z, z = an (an (an s [.bool sa, wa]) [.bool sb, wb]) [.bool false, .slice none 0 0] := ⟨_, rfl⟩
  have O0 : Own s S0 := by rw [hS0]; exact (((Own.refl s).an _ (by omega)).an _ (by rw [an_next]; omega)).an _ (by simp only [an_next]; omega)
  have G0 : Grew 3 s S0 := by rw [hS0]; (repeat (first | exact Grew.refl _ | assumption | refine Grew.seen ?_ _ | refine Grew.set ?_ _ _ (by (first | omega | (simp only [an_next, set_next, St.seen_next, jn_next, z0_next]; try omega; done))) (by (first | omega | (simp only [an_next, set_next, St.seen_next, jn_next, z0_next]; try omega; done))) | refine Grew.an ?_ _ (by (first | omega | (simp only [an_next, set_next, St.seen_next, jn_next, z0_next]; try omega; done)))))
  have n0 : S0.next = s.next + 3 := by rw [hS0]; simp only [an_next]
  have c1 : S0.getC s.next = some [.bool sa, wa] := by rw [hS0]; simp (disch := (first | omega | (simp only [an_next, set_next, St.seen_next, jn_next, z0_next]; try omega; done))) only [new_a, boxA, an_ati, an_atp, an_ats, an_atb, an_ne, set_ati, set_atp, set_ats, set_atb, set_ne, seen_getC, loadn_o, store_2, store_i, store_b, store_s, store_p, load_u, cut_22, put_22, cut_53, cut_55, put_55, put_50, put_51, put_52, put_53, store_5, nth_z, nth_1, nth_2, nth_3, nth_4, nil_u, fa_0, an_next, set_next, St.seen_next, jn_next, z0_next, jn_getC, z0_getC, rU_z, rU_seen, rU_set, rU_an, rU_sl]
  have c2 : S0.getC (s.next + 1) = some [.bool sb, wb] := by rw [hS0]; simp (disch := (first | omega | (simp only [an_next, set_next, St.seen_next, jn_next, z0_next]; try omega; done))) only [new_a, boxA, an_ati, an_atp, an_ats, an_atb, an_ne, set_ati, set_atp, set_ats, set_atb, set_ne, seen_getC, loadn_o, store_2, store_i, store_b, store_s, store_p, load_u, cut_22, put_22, cut_53, cut_55, put_55, put_50, put_51, put_52, put_53, store_5, nth_z, nth_1, nth_2, nth_3, nth_4, nil_u, fa_0, an_next, set_next, St.seen_next, jn_next, z0_next, jn_getC, z0_getC, rU_z, rU_seen, rU_set, rU_an, rU_sl]
  have c3 : S0.getC (s.next + 2) = some [.bool false, .slice none 0 0] := by rw [hS0]; simp (disch := (first | omega | (simp only [an_next, set_next, St.seen_next, jn_next, z0_next]; try omega; done))) only [new_a, boxA, an_ati, an_atp, an_ats, an_atb, an_ne, set_ati, set_atp, set_ats, set_atb, set_ne, seen_getC, loadn_o, store_2, store_i, store_b, store_s, store_p, load_u, cut_22, put_22, cut_53, cut_55, put_55, put_50, put_51, put_52, put_53, store_5, nth_z, nth_1, nth_2, nth_3, nth_4, nil_u, fa_0, an_next, set_next, St.seen_next, jn_next, z0_next, jn_getC, z0_getC, rU_z, rU_seen, rU_set, rU_an, rU_sl]
  obtain ⟨S1, hS1⟩ : ∃ z, z = (S0.seen s.next).seen (s.next + 1) := ⟨_, rfl⟩
  have n1 : S1.next = s.next + 3 := by rw [hS1]; simp only [St.seen_next, n0]
  have k1 : ∀ y, S1.getC y = S0.getC y := fun y => by rw [hS1, seen_getC, seen_getC]
  have ad : int2 addO (.int .i64 (A.length : Int)) (.int .i64 (B.length : Int)) = some (.int .i64 ((A.length + B.length : Nat) : Int)) := by rw [add_e _ _ (by omega) (by omega)]; rfl
  have ad' : int2 addO (.int .i64 ((A.length + B.length : Nat) : Int)) (.int .i64 1) = some (.int .i64 ((A.length + B.length + 1 : Nat) : Int)) := by rw [add_e _ _ (by omega) (by omega)]; rfl
  have ms := ms_U S1 (callN E m) (A.length + B.length + 1) (by omega) (by omega)
  rw [n1] at ms
  obtain ⟨S2, hS2⟩ : ∃ z, z = an S1 (cU (List.replicate (A.length + B.length + 1) 0)) := ⟨_, rfl⟩
  have y2 : MulU s sa sb wa wb (List.replicate (A.length + B.length + 1) 0) S2 := by
    refine ⟨by rw [hS2, an_next, n1], fun y hy => ?_, ?_, ?_, ?_, ?_, ?_⟩
    · rw [hS2, an_ne _ _ _ (by omega) (by omega), k1]; exact G0.2.2 _ hy
    · rw [hS2, an_ne _ _ _ (by omega) (by omega), k1]; exact c1
    · rw [hS2, an_ne _ _ _ (by omega) (by omega), k1]; exact c2
    · rw [hS2, an_ne _ _ _ (by omega) (by omega), k1]; exact c3
    · rw [hS2]; exact an_at _ _ _ (by omega) (cU_map _) n1.symm
    · rw [hS2, hS1]; exact ((O0.seen _ (by omega)).seen _ (by rw [St.seen_next]; omega)).an _ (by simp only [St.seen_next]; omega)
  obtain ⟨z, D, u, r1, r2, r3, r4, r5⟩ := loop55o m (by omega) s h8 (by omega) sa sb wa wb (.pointer (some ⟨s.next + 2, 0, none⟩)) A B hwa hwb dA dB na nb A.length m 0 S2 _ (by omega) List.length_replicate (Dg.zeros _) (by rw [bv_zeros, List.take_zero, bv_nil, Int.zero_mul]) y2 (by omega)
  rw [show ((0 : Nat) : Int) = 0 from rfl] at r1
  have e1 := r5.c1; have e2 := r5.c2; have nu := r5.nx
  obtain ⟨u', hu'⟩ : ∃ z, z = (u.seen s.next).seen (s.next + 1) := ⟨_, rfl⟩
  have y3 : MulU s sa sb wa wb D u' := by rw [hu']; exact r5.ro (((RO.refl u).seen _ (by omega)).seen _ (by omega))
  have n3 := y3.nx
  have dd : DgS u' (.slice (some ⟨s.next + 3, 0, none⟩) (A.length + B.length + 1) (A.length + B.length + 1)) D := .inr ⟨s.next + 3, A.length + B.length + 1, cU D, by rw [r2], .inr ⟨by omega, by omega⟩, y3.c4, List.take_of_length_le (by rw [cU_len]; exact Nat.le_refl _), by omega⟩
  obtain ⟨v, t, f1, f2, f3, f4⟩ := r71 m (by omega) u' (!(sa == sb)) _ D dd r3 (by omega) (by omega) (by omega)
  rw [sg_mul sa sb A B D r4, va, vb'] at f2
  have b1 := f3.1; have b2 := f3.2.1
  have Gu : Grew 4 s u' := ⟨by omega, by omega, y3.old⟩
  have xt : t.getC (s.next + 2) = some [.bool false, .slice none 0 0] := (f3.2.2 _ (by omega)).trans y3.c3
  obtain ⟨y', t', w1, w2, w3, w4⟩ := tail_b f2 ((Gu.trans f3).mono (by omega) : Grew 8 s t) (y3.o.trans f4) (b := s.next + 2) (by omega) (by omega) ⟨_, _, xt⟩ (by omega) (by omega) (callN E m) PT.nil
  have bb := buB (!(sa == sb)) (.slice (some ⟨s.next + 3, 0, none⟩) (A.length + B.length + 1) (A.length + B.length + 1)) rfl
  rw [x55]
  unfold F55
  simp (maxSteps := 4000000) (disch := (first | omega | (simp only [an_next, set_next, St.seen_next, jn_next, z0_next]; try omega; done))) only [op2_s, op_s, bin_e, pick_e, not_e, ext_e, nth_z, nth_1, nth_2, nth_3, gval_e, gval_u, cmp_e, orUndef_t, orUndef_f, condV_t, condV_f, cond_true, cond_false, eqI_eq, neI_eq, ltI_eq, leI_eq, gtI_eq, geI_eq, Bool.not_true, Bool.not_false, bf_tt, bf_tf, bf_ft, bf_ff, decide_true, decide_false, oneOf_1, oneOf_2, oneOf_3, thenV_n, thenV_e, thenV_r, exV_e, exV_r, Nat.beq_refl, eq_self, new_a, boxA, an_ati, an_atp, an_ats, an_atb, an_ne, set_ati, set_atp, set_ats, set_atb, set_ne, seen_getC, loadn_o, store_2, store_i, store_b, store_s, store_p, load_u, cut_22, put_22, cut_53, cut_55, put_55, put_50, put_51, put_52, put_53, store_5, nth_z, nth_1, nth_2, nth_3, nth_4, nil_u, fa_0, an_next, set_next, St.seen_next, jn_next, z0_next, jn_getC, z0_getC, rU_z, rU_seen, rU_set, rU_an, rU_sl, ← hS0, c1, c2, la, lb, ad, ad', ← hS1, ms, ← hS2, r1, C55_l1, J55_r1, e1, e2, ← hu', eqvB, bb, f1, fin_c]
  exact ⟨y', t', w1, w2, w3, w4⟩
end Go.Proofs.Ytdnedangfnincaa.AbsAccR
namespace Go.Proofs.Ytdnedangfnincaa.AbsAccR
open Go Go.Abs Go.Proofs
set_option maxRecDepth 100000
set_option linter.unusedVariables false
set_option linter.unusedSimpArgs false

attribute [local congr] h_opt2 h_opt h_condV h_cond
/-! the document's numbers: Wide, and 2^100 -/
theorem bdI {z : Int} (h : -1606938044258990275541962092341162602522202993782792835301376 < z) (h' : z < 1606938044258990275541962092341162602522202993782792835301376) : Bd z := by
  unfold Bd
  rw [pw_20]
  omega
theorem r26 (M : Nat) (hM : 1200 ≤ M) (s : St) (h8 : 8 ≤ s.next) (hl : s.next + 100 ≤ lim) :
    ∃ v s', callN E M 26 [] s = some (v, s') ∧ BigAt s' v 1267650600228229401496703205376 ∧ Grew 40 s s' ∧ Own s s' := by
  have hlim : lim = 1000000000 := rfl
  obtain ⟨m, rfl⟩ : ∃ m, M = m + 1 := ⟨M - 1, by omega⟩
  obtain ⟨S0, hS0⟩ : ∃ z, z = an s [.bool false, .slice none 0 0] := ⟨_, rfl⟩
  have G0 : Grew 1 s S0 := by rw [hS0]; (repeat (first | exact Grew.refl _ | assumption | refine Grew.seen ?_ _ | refine Grew.set ?_ _ _ (by (first | omega | (simp only [an_next, set_next, St.seen_next, jn_next, z0_next]; try omega; done))) (by (first | omega | (simp only [an_next, set_next, St.seen_next, jn_next, z0_next]; try omega; done))) | refine Grew.an ?_ _ (by (first | omega | (simp only [an_next, set_next, St.seen_next, jn_next, z0_next]; try omega; done)))))
  have O0 : Own s S0 := by rw [hS0]; exact (Own.refl s).an _ (by omega)
  have n0 : S0.next = s.next + 1 := by rw [hS0]; simp only [an_next]
  have c0 : S0.getC s.next = some [.bool false, .slice none 0 0] := by rw [hS0]; simp (disch := (first | omega | (simp only [an_next, set_next, St.seen_next, jn_next, z0_next]; try omega; done))) only [new_a, boxA, an_ati, an_atp, an_ats, an_atb, an_ne, set_ati, set_atp, set_ats, set_atb, set_ne, seen_getC, loadn_o, store_2, store_i, store_b, store_s, store_p, load_u, cut_22, put_22, cut_53, cut_55, put_55, put_50, put_51, put_52, put_53, store_5, nth_z, nth_1, nth_2, nth_3, nth_4, nil_u, fa_0, an_next, set_next, St.seen_next, jn_next, z0_next, jn_getC, z0_getC, rU_z, rU_seen, rU_set, rU_an, rU_sl]
  obtain ⟨x, s1, d1, d2, d3, d4⟩ := r37 m (by omega) S0 1125899906842624 (by omega) (by omega) (by omega) (by omega)
  have a1 := d3.1; have a1' := d3.2.1
  obtain ⟨y, s2, e1, e2, e3, e4⟩ := r37 m (by omega) s1 1125899906842624 (by omega) (by omega) (by omega) (by omega)
  have a2 := e3.1; have a2' := e3.2.1
  have bb : Bd 1125899906842624 := bdI (by omega) (by omega)
  have bl := bd_len bb
  obtain ⟨v, t, f1, f2, f3, f4⟩ := r55 m (by omega) s2 x y _ _ (d2.grew e3) e2 (by omega) (by omega) (by omega) (by omega)
  have a3 := f3.1; have a3' := f3.2.1
  rw [show (1125899906842624 : Int) * 1125899906842624 = 1267650600228229401496703205376 from rfl] at f2
  have xt : t.getC s.next = some [.bool false, .slice none 0 0] := (f3.2.2 _ (by omega)).trans ((e3.2.2 _ (by omega)).trans ((d3.2.2 _ (by omega)).trans c0))
  obtain ⟨y', t', w1, w2, w3, w4⟩ := tail_b f2 ((((G0.trans d3).trans e3).trans f3).mono (by omega) : Grew 40 s t) (((O0.trans d4).trans e4).trans f4) (b := s.next) (by omega) (by omega) ⟨_, _, xt⟩ (by omega) (by omega) (callN E m) PT.nil
  rw [x26]
  unfold F26
  simp (maxSteps := 4000000) (disch := (first | omega | (simp only [an_next, set_next, St.seen_next, jn_next, z0_next]; try omega; done))) only [op2_s, op_s, bin_e, pick_e, not_e, ext_e, nth_z, nth_1, nth_2, nth_3, gval_e, gval_u, cmp_e, orUndef_t, orUndef_f, condV_t, condV_f, cond_true, cond_false, eqI_eq, neI_eq, ltI_eq, leI_eq, gtI_eq, geI_eq, Bool.not_true, Bool.not_false, bf_tt, bf_tf, bf_ft, bf_ff, decide_true, decide_false, oneOf_1, oneOf_2, oneOf_3, thenV_n, thenV_e, thenV_r, exV_e, exV_r, Nat.beq_refl, eq_self, new_a, boxA, an_ati, an_atp, an_ats, an_atb, an_ne, set_ati, set_atp, set_ats, set_atb, set_ne, seen_getC, loadn_o, store_2, store_i, store_b, store_s, store_p, load_u, cut_22, put_22, cut_53, cut_55, put_55, put_50, put_51, put_52, put_53, store_5, nth_z, nth_1, nth_2, nth_3, nth_4, nil_u, fa_0, an_next, set_next, St.seen_next, jn_next, z0_next, jn_getC, z0_getC, rU_z, rU_seen, rU_set, rU_an, rU_sl, mov_v, ← hS0, d1, e1, f1, fin_c]
  exact ⟨y', t', w1, w2, w3, w4⟩
set_option maxHeartbeats 2000000 in
/-- Wide -/
theorem r36 (M : Nat) (hM : 1300 ≤ M) (s : St) (hi lo : Int) (h0 : -9223372036854775808 ≤ hi) (h1 : hi ≤ 9223372036854775807) (l0 : 0 ≤ lo) (l1 : lo < 18446744073709551616) (h8 : 8 ≤ s.next) (hl : s.next + 400 ≤ lim) :
    ∃ v s', callN E M 36 [.int .i64 hi, .int .u64 lo] s = some (v, s') ∧ BigAt s' v (hi * 18446744073709551616 + lo) ∧ Grew 200 s s' ∧ Own s s' := by
  have hlim : lim = 1000000000 := rfl
  obtain ⟨m, rfl⟩ : ∃ m, M = m + 1 := ⟨M - 1, by omega⟩
  obtain ⟨S0, hS0⟩ : ∃ z, z = an s [.bool false, .slice none 0 0] := ⟨_, rfl⟩
  have G0 : Grew 1 s S0 := by rw [hS0]; (repeat (first | exact Grew.refl _ | assumption | refine Grew.seen ?_ _ | refine Grew.set ?_ _ _ (by (first | omega | (simp only [an_next, set_next, St.seen_next, jn_next, z0_next]; try omega; done))) (by (first | omega | (simp only [an_next, set_next, St.seen_next, jn_next, z0_next]; try omega; done))) | refine Grew.an ?_ _ (by (first | omega | (simp only [an_next, set_next, St.seen_next, jn_next, z0_next]; try omega; done)))))
  have O0 : Own s S0 := by rw [hS0]; exact (Own.refl s).an _ (by omega)
  have n0 : S0.next = s.next + 1 := by rw [hS0]; simp only [an_next]
  have c0 : S0.getC s.next = some [.bool false, .slice none 0 0] := by rw [hS0]; simp (disch := (first | omega | (simp only [an_next, set_next, St.seen_next, jn_next, z0_next]; try omega; done))) only [new_a, boxA, an_ati, an_atp, an_ats, an_atb, an_ne, set_ati, set_atp, set_ats, set_atb, set_ne, seen_getC, loadn_o, store_2, store_i, store_b, store_s, store_p, load_u, cut_22, put_22, cut_53, cut_55, put_55, put_50, put_51, put_52, put_53, store_5, nth_z, nth_1, nth_2, nth_3, nth_4, nil_u, fa_0, an_next, set_next, St.seen_next, jn_next, z0_next, jn_getC, z0_getC, rU_z, rU_seen, rU_set, rU_an, rU_sl]
  obtain ⟨x, s1, d1, d2, d3, d4⟩ := r37 m (by omega) S0 hi (by omega) (by omega) (by omega) (by omega)
  have a1 := d3.1; have a1' := d3.2.1
  have d5 := d2
  obtain ⟨wx, rfl, d6⟩ := d5
  obtain ⟨S1, hS1⟩ : ∃ z, z = (an s1 [.bool false, .slice none 0 0]).set s1.next (some [.bool (big hi).1, wx]) := ⟨_, rfl⟩
  have g1 : Grew 1 s1 S1 := by rw [hS1]; exact ((Grew.refl s1).an _ (by omega)).set _ _ (by omega) (by omega)
  have G1 : Grew 15 s S1 := ((G0.trans d3).trans g1).mono (by omega)
  have O1 : Own s S1 := by rw [hS1]; exact ((O0.trans d4).an _ (by omega)).set _ _ (by omega) (by rw [an_next]; omega)
  have n1 : S1.next = s1.next + 1 := by rw [hS1, set_next, an_next]
  have c1 : S1.getC s1.next = some [.bool (big hi).1, wx] := by rw [hS1]; exact set_atb _ _ _ _ _ (by omega) (by omega) rfl
  -- the first region
  obtain ⟨S2, hS2⟩ : ∃ z, z = S1.seen s1.next := ⟨_, rfl⟩
  have G2 : Grew 15 s S2 := by rw [hS2]; exact G1.seen _
  have O2 : Own s S2 := by rw [hS2]; exact O1.seen _ (by omega)
  have n2 : S2.next = s1.next + 1 := by rw [hS2, St.seen_next, n1]
  have b2 : BigAt S2 (aggOf [.bool (big hi).1, wx]) hi := by rw [hS2]; exact (d2.grew g1).grew ((Grew.refl S1).seen _)
  obtain ⟨u1, t1, e1, e2, e3, e4⟩ := r58 m (by omega) (z0 S2) 4294967296 false (by omega) (by omega) (by rw [z0_next]; omega) (by rw [z0_next]; omega)
  have k1 := e3.1; have k1' := e3.2.1
  rw [z0_next] at k1 k1'
  obtain ⟨S3, hS3⟩ : ∃ z, z = jn S2 t1 := ⟨_, rfl⟩
  have j3 : Grew 12 S2 S3 := by rw [hS3]; exact e3.z0
  have G3 : Grew 27 s S3 := by rw [hS3]; exact jzG G2 e3
  have O3 : Own s S3 := by rw [hS3]; exact jzO O2 e4
  have n3 : S3.next = t1.next := by rw [hS3, jn_next]
  have b3 : BigAt S3 u1 4294967296 := by rw [hS3]; exact e2.j
  have bh : Bd hi := bdI (by omega) (by omega)
  have bt : Bd 4294967296 := bdI (by omega) (by omega)
  have bh1 : Bd (hi * 4294967296) := bdI (by omega) (by omega)
  have bh2 : Bd (hi * 4294967296 * 4294967296) := bdI (by omega) (by omega)
  have bo : Bd lo := bdI (by omega) (by omega)
  have lh := bd_len bh; have lt := bd_len bt; have lh1 := bd_len bh1
  obtain ⟨u2, t2, f1, f2, f3, f4⟩ := r55 m (by omega) (z0 S3) _ u1 hi 4294967296 (b2.grew j3).z b3.z (by omega) (by omega) (by rw [z0_next]; omega) (by rw [z0_next]; omega)
  have k2 := f3.1; have k2' := f3.2.1
  rw [z0_next] at k2 k2'
  obtain ⟨S4, hS4⟩ : ∃ z, z = jn S3 t2 := ⟨_, rfl⟩
  have G4 : Grew 35 s S4 := by rw [hS4]; exact jzG G3 f3
  have O4 : Own s S4 := by rw [hS4]; exact jzO O3 f4
  have n4 : S4.next = t2.next := by rw [hS4, jn_next]
  have b4 : BigAt S4 u2 (hi * 4294967296) := by rw [hS4]; exact f2.j
  obtain ⟨u3, t3, p1, p2, p3, p4⟩ := r58 m (by omega) (z0 S4) 4294967296 false (by omega) (by omega) (by rw [z0_next]; omega) (by rw [z0_next]; omega)
  have k3 := p3.1; have k3' := p3.2.1
  rw [z0_next] at k3 k3'
  obtain ⟨S5, hS5⟩ : ∃ z, z = jn S4 t3 := ⟨_, rfl⟩
  have j5 : Grew 12 S4 S5 := by rw [hS5]; exact p3.z0
  have G5 : Grew 47 s S5 := by rw [hS5]; exact jzG G4 p3
  have O5 : Own s S5 := by rw [hS5]; exact jzO O4 p4
  have n5 : S5.next = t3.next := by rw [hS5, jn_next]
  have b5 : BigAt S5 u3 4294967296 := by rw [hS5]; exact p2.j
  obtain ⟨u4, t4', q1, q2, q3, q4⟩ := r55 m (by omega) (z0 S5) u2 u3 (hi * 4294967296) 4294967296 (b4.grew j5).z b5.z (by omega) (by omega) (by rw [z0_next]; omega) (by rw [z0_next]; omega)
  have k4 := q3.1; have k4' := q3.2.1
  rw [z0_next] at k4 k4'
  obtain ⟨S6, hS6⟩ : ∃ z, z = jn S5 t4' := ⟨_, rfl⟩
  have G6 : Grew 55 s S6 := by rw [hS6]; exact jzG G5 q3
  have O6 : Own s S6 := by rw [hS6]; exact jzO O5 q4
  have n6 : S6.next = t4'.next := by rw [hS6, jn_next]
  have b6 : BigAt S6 u4 (hi * 4294967296 * 4294967296) := by rw [hS6]; exact q2.j
  have b6' := b6
  obtain ⟨w6, rfl, b7⟩ := b6'
  obtain ⟨S7, hS7⟩ : ∃ z, z = (an S6 [.bool false, .slice none 0 0]).set t4'.next (some [.bool (big (hi * 4294967296 * 4294967296)).1, w6]) := ⟨_, rfl⟩
  have g7 : Grew 1 S6 S7 := by rw [hS7]; exact ((Grew.refl S6).an _ (by omega)).set _ _ (by omega) (by omega)
  have G7 : Grew 56 s S7 := G6.trans g7
  have O7 : Own s S7 := by rw [hS7]; exact (O6.an _ (by omega)).set _ _ (by omega) (by rw [an_next]; omega)
  have n7 : S7.next = t4'.next + 1 := by rw [hS7, set_next, an_next, n6]
  have c7 : S7.getC t4'.next = some [.bool (big (hi * 4294967296 * 4294967296)).1, w6] := by rw [hS7]; exact set_atb _ _ _ _ _ (by omega) (by omega) rfl
  have r1 := rU_c u1 PT.nil S2 t1
  rw [← hS3] at r1
  have r2 := rU_c u2 PT.nil S3 t2
  rw [← hS4] at r2
  have r3 := rU_c u3 PT.nil S4 t3
  rw [← hS5] at r3
  have r4 := rU_c (aggOf [.bool (big (hi * 4294967296 * 4294967296)).1, w6]) PT.nil S5 t4'
  rw [← hS6] at r4
  -- the second region
  obtain ⟨S8, hS8⟩ : ∃ z, z = S7.seen t4'.next := ⟨_, rfl⟩
  have G8 : Grew 56 s S8 := by rw [hS8]; exact G7.seen _
  have O8 : Own s S8 := by rw [hS8]; exact O7.seen _ (by omega)
  have n8 : S8.next = t4'.next + 1 := by rw [hS8, St.seen_next, n7]
  have b8 : BigAt S8 (aggOf [.bool (big (hi * 4294967296 * 4294967296)).1, w6]) (hi * 4294967296 * 4294967296) := by rw [hS8]; exact (b6.grew g7).grew ((Grew.refl S7).seen _)
  obtain ⟨u5, t5', v1, v2, v3, v4⟩ := r58 m (by omega) (z0 S8) lo false (by omega) (by omega) (by rw [z0_next]; omega) (by rw [z0_next]; omega)
  have k5 := v3.1; have k5' := v3.2.1
  rw [z0_next] at k5 k5'
  obtain ⟨S9, hS9⟩ : ∃ z, z = jn S8 t5' := ⟨_, rfl⟩
  have j9 : Grew 12 S8 S9 := by rw [hS9]; exact v3.z0
  have G9 : Grew 68 s S9 := by rw [hS9]; exact jzG G8 v3
  have O9 : Own s S9 := by rw [hS9]; exact jzO O8 v4
  have n9 : S9.next = t5'.next := by rw [hS9, jn_next]
  have b9 : BigAt S9 u5 lo := by rw [hS9]; exact v2.j
  obtain ⟨u6, t6', w1, w2, w3, w4⟩ := r53 m (by omega) (z0 S9) _ u5 (hi * 4294967296 * 4294967296) lo (b8.grew j9).z b9.z bh2 bo (by rw [z0_next]; omega) (by rw [z0_next]; omega)
  have k6 := w3.1; have k6' := w3.2.1
  rw [z0_next] at k6 k6'
  obtain ⟨S10, hS10⟩ : ∃ z, z = jn S9 t6' := ⟨_, rfl⟩
  have G10 : Grew 168 s S10 := by rw [hS10]; exact jzG G9 w3
  have O10 : Own s S10 := by rw [hS10]; exact jzO O9 w4
  have n10 : S10.next = t6'.next := by rw [hS10, jn_next]
  have b10 : BigAt S10 u6 (hi * 18446744073709551616 + lo) := by
    rw [hS10, show hi * 18446744073709551616 + lo = hi * 4294967296 * 4294967296 + lo by omega]; exact w2.j
  have r5 := rU_c u5 PT.nil S8 t5'
  rw [← hS9] at r5
  have r6 := rU_c u6 PT.nil S9 t6'
  rw [← hS10] at r6
  have xt : S10.getC s.next = some [.bool false, .slice none 0 0] := by
    have z1 : S1.getC s.next = some [.bool false, .slice none 0 0] := (g1.2.2 _ (by omega)).trans ((d3.2.2 _ (by omega)).trans c0)
    have z5 : S5.getC s.next = S1.getC s.next := by
      rw [hS5, jn_getC, p3.2.2 _ (by rw [z0_next]; omega), z0_getC, hS4, jn_getC, f3.2.2 _ (by rw [z0_next]; omega), z0_getC, hS3, jn_getC, e3.2.2 _ (by rw [z0_next]; omega), z0_getC, hS2, seen_getC]
    rw [hS10, jn_getC, w3.2.2 _ (by rw [z0_next]; omega), z0_getC, hS9, jn_getC, v3.2.2 _ (by rw [z0_next]; omega), z0_getC, hS8, seen_getC, g7.2.2 _ (by omega), hS6, jn_getC, q3.2.2 _ (by rw [z0_next]; omega), z0_getC, z5, z1]
  obtain ⟨y', t', y1, y2, y3, y4⟩ := tail_b b10 (G10.mono (by omega) : Grew 200 s S10) O10 (b := s.next) (by omega) (by omega) ⟨_, _, xt⟩ (by omega) (by omega) (callN E m) PT.nil
  obtain ⟨w10, rfl, b11⟩ := b10
  rw [store_2, xt, op_s, put_22, op2_s] at y1
  rw [x36]
  unfold F36
  simp only [z0_e]
  simp (maxSteps := 4000000) (disch := (first | omega | (simp only [an_next, set_next, St.seen_next, jn_next, z0_next]; try omega; done))) only [op2_s, op_s, bin_e, pick_e, not_e, ext_e, nth_z, nth_1, nth_2, nth_3, gval_e, gval_u, cmp_e, orUndef_t, orUndef_f, condV_t, condV_f, cond_true, cond_false, eqI_eq, neI_eq, ltI_eq, leI_eq, gtI_eq, geI_eq, Bool.not_true, Bool.not_false, bf_tt, bf_tf, bf_ft, bf_ff, decide_true, decide_false, oneOf_1, oneOf_2, oneOf_3, thenV_n, thenV_e, thenV_r, exV_e, exV_r, Nat.beq_refl, eq_self, new_a, boxA, an_ati, an_atp, an_ats, an_atb, an_ne, set_ati, set_atp, set_ats, set_atb, set_ne, seen_getC, loadn_o, store_2, store_i, store_b, store_s, store_p, load_u, cut_22, put_22, cut_53, cut_55, put_55, put_50, put_51, put_52, put_53, store_5, nth_z, nth_1, nth_2, nth_3, nth_4, nil_u, fa_0, an_next, set_next, St.seen_next, jn_next, z0_next, jn_getC, z0_getC, rU_z, rU_seen, rU_set, rU_an, rU_sl, mov_v, ← hS0, d1, ← hS1, c1, ← hS2, e1, r1, f1, r2, p1, r3, q1, r4, n6, ← hS7]
  rw [apartJs (n0 := s1.next + 1) (fun k => if k ≤ 1 then s1.next + 1 else if k = 2 then t1.next else if k = 3 then t2.next else if k = 4 then t3.next else if k = 5 then t4'.next else t4'.next + 1) [(0, 0), (2, 0), (2, 1), (2, 2), (2, 3), (1, 4), (1, 4)] ?hc ?h0 ?hk _ (by kernel_rfl), cond_true]
  · simp (maxSteps := 4000000) (disch := (first | omega | (simp only [an_next, set_next, St.seen_next, jn_next, z0_next]; try omega; done))) only [op2_s, op_s, bin_e, pick_e, not_e, ext_e, nth_z, nth_1, nth_2, nth_3, gval_e, gval_u, cmp_e, orUndef_t, orUndef_f, condV_t, condV_f, cond_true, cond_false, eqI_eq, neI_eq, ltI_eq, leI_eq, gtI_eq, geI_eq, Bool.not_true, Bool.not_false, bf_tt, bf_tf, bf_ft, bf_ff, decide_true, decide_false, oneOf_1, oneOf_2, oneOf_3, thenV_n, thenV_e, thenV_r, exV_e, exV_r, Nat.beq_refl, eq_self, new_a, boxA, an_ati, an_atp, an_ats, an_atb, an_ne, set_ati, set_atp, set_ats, set_atb, set_ne, seen_getC, loadn_o, store_2, store_i, store_b, store_s, store_p, load_u, cut_22, put_22, cut_53, cut_55, put_55, put_50, put_51, put_52, put_53, store_5, nth_z, nth_1, nth_2, nth_3, nth_4, nil_u, fa_0, an_next, set_next, St.seen_next, jn_next, z0_next, jn_getC, z0_getC, rU_z, rU_seen, rU_set, rU_an, rU_sl, mov_v, c7, ← hS8, v1, r5, w1, r6, xt]
    rw [apartJs (n0 := t4'.next + 1) (fun k => if k ≤ 1 then t4'.next + 1 else if k = 2 then t5'.next else t6'.next + 1) [(0, 0), (0, 0), (2, 0), (3, 0), (3, 0)] ?hc2 ?h02 ?hk2 _ (by kernel_rfl), cond_true]
    · rw [fin_cf 2 s.next t4 _ _ (by kernel_rfl)]
      exact ⟨y', t', y1, y2, y3, y4⟩
    case hc2 =>
      intro i j h1 h2
      try dsimp only
      repeat' split
      all_goals omega
    case h02 =>
      intro i h1
      try dsimp only
      repeat' split
      all_goals omega
    case hk2 =>
      refine ⟨jR (by omega), jP (by decide), jC v4 ?_ ?_, trivial, trivial, trivial⟩
      all_goals try dsimp only
      all_goals repeat' split
      all_goals first | omega | exact absurd trivial (by assumption)
  case hc =>
    intro i j h1 h2
    try dsimp only
    repeat' split
    all_goals omega
  case h0 =>
    intro i h1
    try dsimp only
    repeat' split
    all_goals omega
  case hk =>
    refine ⟨jR (by omega), jC e4 ?_ ?_, jC f4 ?_ ?_, jC p4 ?_ ?_, jC q4 ?_ ?_, jA ?_ ?_, jS ?_ ?_, trivial⟩
    all_goals try simp only [z0_next, an_next, set_next, St.seen_next, jn_next]
    all_goals try dsimp only
    all_goals repeat' split
    all_goals first | omega | exact absurd trivial (by assumption)
end Go.Proofs.Ytdnedangfnincaa.AbsAccR
