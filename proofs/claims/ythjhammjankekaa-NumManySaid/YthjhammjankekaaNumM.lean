/- The statement NumMany: sums of products, reckoned from the front and from the back, are the same number of two limbs. No Go and no memory. -/
import Derived.Test.YthjhammjankekaaNumE
import Derived.Test.YthjhammjankekaaPNum18
namespace Go.Proofs.Ythjhammjankekaa.PNum
open Go.RowKit Go.Proofs.YthjhammjankekaaW.PrintWords Go.Proofs.YthjhammjankekaaW.PrintLast Go.Proofs.YthjhammjankekaaW.PrintMore
set_option linter.unusedVariables false
set_option linter.unusedSimpArgs false

theorem plusmul_ex (a b c d : Int) (hw : WOk a b) (c0 : -9223372036854775808 ≤ c) (c1 : c ≤ 9223372036854775807) (d0 : -9223372036854775808 ≤ d) (d1 : d ≤ 9223372036854775807) :
    ∃ x y f, num_Wide_PlusMul.f a b c d = some (x, y, f) ∧ WOk x y ∧ (f = true → wv x y = wv a b + c * d) := by
  rw [plusmul_f a b c d hw c0 c1 d0 d1]
  by_cases h : -170141183460469231731687303715884105728 ≤ wv a b + c * d ∧ wv a b + c * d < 170141183460469231731687303715884105728
  · rw [if_pos h]
    exact ⟨_, _, _, rfl, wok_split _ h.1 h.2, fun _ => wv_split _⟩
  · rw [if_neg h]
    exact ⟨_, _, _, rfl, by unfold WOk; omega, fun h => by cases h⟩
/-- The sum of the first products. -/
def psum (L M : List Int) : Nat → Int
  | 0 => 0
  | i + 1 => psum L M i + rd L i * rd M i
theorem rd_wf {L : List Int} (h : ∀ x ∈ L, (Lit.int .i64 x).wf = true) (i : Nat) (hi : i < L.length) : -9223372036854775808 ≤ rd L i ∧ rd L i ≤ 9223372036854775807 := by
  unfold rd
  rw [Int.toNat_natCast, List.getD_eq_getElem?_getD, List.getElem?_eq_getElem hi]
  exact wf64 (h _ (List.getElem_mem hi))
theorem wv_one {a b c d : Int} (hw : WOk a b) (hv : WOk c d) (h : wv a b = wv c d) : a = c ∧ b = d := by
  obtain ⟨a0, a1, b0, b1⟩ := hw
  obtain ⟨c0, c1, d0, d1⟩ := hv
  unfold wv at h
  omega
theorem many_l0 (L M : List Int) (hlen : M.length = L.length) (hn : L.length ≤ 30) (hL : ∀ x ∈ L, (Lit.int .i64 x).wf = true) (hM : ∀ x ∈ M, (Lit.int .i64 x).wf = true) (d : Nat) :
    ∀ (i : Nat) (ok : Bool) (a b c e : Int), i + d = L.length → WOk a b → WOk c e → (ok = true → wv a b = psum L M i ∧ wv c e = psum L M L.length - psum L M (L.length - i)) → Ev (fun k => publicanlaw1_NumMany.l0 k L M ok i a b c e) true := by
  induction d with
  | zero =>
    intro i ok a b c e hi hw hv h
    refine Ev.step (f := fun _ => some true) (fun k => ?_) (Ev.now _)
    simp only [publicanlaw1_NumMany.l0]
    rw [if_neg (by omega)]
    cases ok with
    | false => rfl
    | true =>
      obtain ⟨h1, h2⟩ := h rfl
      obtain rfl : i = L.length := by omega
      have e0 : L.length - L.length = 0 := by omega
      rw [e0] at h2
      have e1 : psum L M 0 = 0 := rfl
      obtain ⟨g1, g2⟩ := wv_one hw hv (by omega)
      rw [if_pos rfl, g1, g2]
      simp
  | succ d ih =>
    intro i ok a b c e hi hw hv h
    have eL : (wrap64 ((L.length : Int) - 1)) = (L.length : Int) - 1 := by rw [w64]; omega
    have eI : wrap64 (((L.length : Int) - 1) - (i : Int)) = ((L.length - 1 - i : Nat) : Int) := by rw [w64]; omega
    have eN : wrap64 ((i : Int) + 1) = ((i + 1 : Nat) : Int) := by rw [w64]; omega
    obtain ⟨l0, l1⟩ := rd_wf hL i (by omega)
    obtain ⟨m0, m1⟩ := rd_wf hM i (by omega)
    obtain ⟨r0, r1⟩ := rd_wf hL (L.length - 1 - i) (by omega)
    obtain ⟨s0, s1⟩ := rd_wf hM (L.length - 1 - i) (by omega)
    obtain ⟨x, y, f, hx, hxw, hxv⟩ := plusmul_ex a b (rd L i) (rd M i) hw l0 l1 m0 m1
    obtain ⟨z, t, g, hz, hzw, hzv⟩ := plusmul_ex c e (rd M ((L.length - 1 - i : Nat) : Int)) (rd L ((L.length - 1 - i : Nat) : Int)) hv s0 s1 r0 r1
    refine Ev.step (f := fun k => publicanlaw1_NumMany.j2 k L M ok i f g x y z t) (fun k => ?_) ?_
    · simp only [publicanlaw1_NumMany.l0]
      rw [if_pos (by omega), if_pos (by omega), if_pos (by omega), hx]
      simp only [Option.bind_some]
      rw [eL, eI, if_pos (by omega), if_pos (by omega), if_pos (by omega), hz]
      rfl
    · refine Ev.step (f := fun k => publicanlaw1_NumMany.l0 k L M (ok && f && g) ((i + 1 : Nat) : Int) x y z t) (fun k => ?_) (ih (i + 1) _ x y z t (by omega) hxw hzw ?_)
      · simp only [publicanlaw1_NumMany.j2]
        rw [eN]
        cases ok <;> cases f <;> rfl
      · intro hall
        simp only [Bool.and_eq_true] at hall
        obtain ⟨⟨ho, hf⟩, hg⟩ := hall
        obtain ⟨h1, h2⟩ := h ho
        have x1 := hxv hf
        have z1 := hzv hg
        constructor
        · rw [x1, h1]; rfl
        · rw [z1, h2]
          have e1 : L.length - i = (L.length - (i + 1)) + 1 := by omega
          have e2 : L.length - 1 - i = L.length - (i + 1) := by omega
          have e3 : psum L M (L.length - i) = psum L M (L.length - (i + 1)) + rd L ((L.length - (i + 1) : Nat) : Int) * rd M ((L.length - (i + 1) : Nat) : Int) := by rw [e1]; rfl
          rw [e3, e2, Int.mul_comm (rd M _)]
          omega
theorem NumMany_pure : publicanlaw1_NumMany.Pure := by
  intro L M _ _ hL _ _ hM
  refine Ev.rounds (g := fun k => publicanlaw1_NumMany.f k L M) (Ev.congr (f := fun k => (publicanlaw1_awake.f k).bind fun t => if t = true then (if (L.length : Int) > 30 then publicanlaw1_NumMany.j0 k L M true else publicanlaw1_NumMany.j0 k L M ((M.length : Int) != (L.length : Int))) else none) (fun k => by simp only [publicanlaw1_NumMany.f]) (Ev.bind awake_ev ?_))
  have hout : Ev (fun k => publicanlaw1_NumMany.j0 k L M true) true := Ev.step (f := fun _ => some true) (fun k => by simp only [publicanlaw1_NumMany.j0, if_true]) (Ev.now _)
  by_cases h : (L.length : Int) > 30
  · exact Ev.congr (fun k => by rw [if_pos rfl, if_pos h]) hout
  · by_cases h2 : M.length = L.length
    · have e : ((M.length : Int) != (L.length : Int)) = false := by rw [h2]; simp
      refine Ev.congr (f := fun k => publicanlaw1_NumMany.j0 k L M false) (fun k => by rw [if_pos rfl, if_neg h, e]) ?_
      have z0 : num_Of.f 0 = some (0, 0) := by decide +kernel
      refine Ev.step (f := fun k => publicanlaw1_NumMany.l0 k L M true ((0 : Nat) : Int) 0 0 0 0) (fun k => ?_) (many_l0 L M h2 (by omega) hL hM L.length 0 true 0 0 0 0 (by omega) (by unfold WOk; omega) (by unfold WOk; omega) (fun _ => ⟨rfl, by rw [Nat.sub_zero]; unfold wv; omega⟩))
      simp only [publicanlaw1_NumMany.j0]
      rw [z0]
      rfl
    · have e : ((M.length : Int) != (L.length : Int)) = true := by rw [bne_iff_ne]; omega
      exact Ev.congr (fun k => by rw [if_pos rfl, if_neg h, e]) hout
end Go.Proofs.Ythjhammjankekaa.PNum
