import Derived.Test.YthjhammjankekaaKNumE
import Derived.Test.YthjhammjankekaaKBigF
import Derived.Test.YthjhammjankekaaKPNum12
namespace Go.Proofs.Ythjhammjankekaa.PNum
open Go.RowKit Go.Proofs.YthjhammjankekaaW.PrintWords Go.Proofs.YthjhammjankekaaW.PrintLast Go.Proofs.YthjhammjankekaaW.PrintMore
set_option linter.unusedVariables false
set_option linter.unusedSimpArgs false
attribute [local irreducible] pw bv dgt
theorem floorIs_flo (a b : Int) (hb : b ≠ 0) : FloorIs (flo a b) a b := by
  unfold flo
  by_cases h : 0 < b
  · rw [if_pos h]; exact floorIs_pos a b h
  · rw [if_neg h]
    rcases floorIs_pos (-a) (-b) (by omega) with ⟨h1, h2, h3⟩ | ⟨h1, h2, h3⟩
    · refine .inr ⟨by omega, ?_, ?_⟩
      · rw [Int.mul_neg] at h2; omega
      · rw [Int.mul_neg] at h3; omega
    · omega
theorem tell_ev {α : Type} (g : Nat → Option α) (r : α) (p q : Int × Bool) (h : p = q) (J : Nat → Bool → Option α) (hJ : Ev (fun k => J k false) r) :
    Ev (fun k => if p.1 = q.1 then J k (!(p.2 == q.2)) else J k true) r := by
  subst h
  exact Ev.congr (f := fun k => J k false) (fun k => by rw [if_pos rfl]; simp) hJ
section
variable {a b c : Int}
theorem checked_j4 (a0 : -9223372036854775808 ≤ a) (a1 : a ≤ 9223372036854775807) (b0 : -9223372036854775808 ≤ b) (b1 : b ≤ 9223372036854775807) (c0 : -9223372036854775808 ≤ c) (c1 : c ≤ 9223372036854775807) :
    Ev (fun k => publicanlaw1_NumChecked.j4 k a b c false (big a).1 (big a).2 (big b).1 (big b).2) true := by
  have hm := mulfloor_ev a b c a0 a1 b0 b1 c0 c1
  refine Ev.step (f := fun k => (num_MulFloor.f k a b c).bind fun t => if c > 0 then ((publicanref1_Mul.f k (big a).1 (big a).2 (big b).1 (big b).2).bind fun m => (publicanref1_Of.f k c).bind fun o => (publicanref1_Floor.f k m.1 m.2 o.1 o.2).bind fun q => (publicanref1_Int.f k q.1 q.2).bind fun i => if t.1 = i.1 then some (t.2 == i.2) else none) else (if t.1 = 0 then some (t.2 == false) else none)) (fun k => by simp only [publicanlaw1_NumChecked.j4]; rw [if_neg (by decide)]) (Ev.bind hm ?_)
  have hp := mul_i64 a b a0 a1 b0 b1
  by_cases h : c > 0
  · rw [if_neg (by omega)]
    have h1 := Mul_big (x := a) (y := b) (few_lit (by omega) (by omega)) (few_lit (by omega) (by omega))
    have h2 := Of_big c c0 c1
    have h3 := Floor_big (x := a * b) (y := c) (half_lit (by omega) (by omega)) (half_lit (by omega) (by omega)) (by omega)
    have hl := (floorIs_flo (a * b) c (by omega)).le (by omega) 85070591730234615865843651857942052864 (by decide) hp.1 hp.2
    have h4 := Int_big (x := flo (a * b) c) (few_lit (by omega) (by omega))
    refine Ev.congr (fun k => by rw [if_pos h]) (Ev.bind h1 (Ev.bind h2 (Ev.bind h3 (Ev.bind h4 ?_))))
    have e : flo (a * b) c = a * b / c := by unfold flo; rw [if_pos h]
    refine Ev.congr (f := fun _ => some true) (fun k => ?_) (Ev.now _)
    have e2 : fit (a * b / c) = asInt (a * b / c) := rfl
    rw [e, e2, if_pos rfl]
    simp
  · rw [if_pos (by omega)]
    refine Ev.congr (f := fun _ => some true) (fun k => ?_) (Ev.now _)
    rw [if_neg h]
    rfl
theorem checked_j3 (a0 : -9223372036854775808 ≤ a) (a1 : a ≤ 9223372036854775807) (b0 : -9223372036854775808 ≤ b) (b1 : b ≤ 9223372036854775807) (c0 : -9223372036854775808 ≤ c) (c1 : c ≤ 9223372036854775807) (q : Int) (ok : Bool) :
    Ev (fun k => publicanlaw1_NumChecked.j3 k a b c q ok q ok (big a).1 (big a).2 (big b).1 (big b).2) true :=
  Ev.step (f := fun k => publicanlaw1_NumChecked.j4 k a b c false (big a).1 (big a).2 (big b).1 (big b).2) (fun k => by simp only [publicanlaw1_NumChecked.j3]; rw [if_pos trivial]; simp) (checked_j4 a0 a1 b0 b1 c0 c1)
theorem checked_j2 (a0 : -9223372036854775808 ≤ a) (a1 : a ≤ 9223372036854775807) (b0 : -9223372036854775808 ≤ b) (b1 : b ≤ 9223372036854775807) (c0 : -9223372036854775808 ≤ c) (c1 : c ≤ 9223372036854775807) :
    Ev (fun k => publicanlaw1_NumChecked.j2 k a b c false (big a).1 (big a).2 (big b).1 (big b).2) true := by
  obtain ⟨q, ok, hf, hs⟩ := floor_ev a b a0 a1 b0 b1
  refine Ev.step (f := fun k => (num_Floor.f k a b).bind fun t => if b = 0 then publicanlaw1_NumChecked.j3 k a b c t.1 t.2 0 false (big a).1 (big a).2 (big b).1 (big b).2 else (publicanref1_Floor.f k (big a).1 (big a).2 (big b).1 (big b).2).bind fun f => (publicanref1_Int.f k f.1 f.2).bind fun i => publicanlaw1_NumChecked.j3 k a b c t.1 t.2 i.1 i.2 (big a).1 (big a).2 (big b).1 (big b).2) (fun k => by simp only [publicanlaw1_NumChecked.j2]; rw [if_neg (by decide)]) (Ev.bind hf ?_)
  by_cases h : b = 0
  · rcases hs with ⟨rfl, hb, _⟩ | ⟨rfl, rfl, _⟩
    · exact absurd h hb
    · exact Ev.congr (fun k => by rw [if_pos h]) (checked_j3 a0 a1 b0 b1 c0 c1 0 false)
  · have hF := floorIs_flo a b h
    have hl := hF.le h 9223372036854775808 (by decide) (by omega) (by omega)
    have h3 := Floor_big (x := a) (y := b) (half_lit (by omega) (by omega)) (half_lit (by omega) (by omega)) h
    have h4 := Int_big (x := flo a b) (few_lit (by omega) (by omega))
    have e : (q, ok) = asInt (flo a b) := by
      unfold asInt
      rcases hs with ⟨rfl, hb, hq, q0, q1⟩ | ⟨rfl, rfl, hq⟩
      · rw [← hq.one hF, if_pos ⟨q0, q1⟩]
      · rcases hq with hq | hq
        · exact absurd hq h
        · rw [← hq.one hF, if_neg (by decide)]
    refine Ev.congr (fun k => by rw [if_neg h]) (Ev.bind h3 (Ev.bind h4 ?_))
    rw [← e]
    exact checked_j3 a0 a1 b0 b1 c0 c1 q ok
theorem checked_j1 (a0 : -9223372036854775808 ≤ a) (a1 : a ≤ 9223372036854775807) (b0 : -9223372036854775808 ≤ b) (b1 : b ≤ 9223372036854775807) (c0 : -9223372036854775808 ≤ c) (c1 : c ≤ 9223372036854775807) :
    Ev (fun k => publicanlaw1_NumChecked.j1 k a b c false (big a).1 (big a).2 (big b).1 (big b).2) true := by
  have hp := mul_i64 a b a0 a1 b0 b1
  have h1 := Mul_big (x := a) (y := b) (few_lit (by omega) (by omega)) (few_lit (by omega) (by omega))
  have h2 := Int_big (x := a * b) (few_lit (by omega) (by omega))
  have e : num_Mul.f a b = some (asInt (a * b)) := by rw [mul_f a b a0 a1 b0 b1]; unfold asInt; split <;> rfl
  refine Ev.step (f := fun k => (num_Mul.f a b).bind fun t => (publicanref1_Mul.f k (big a).1 (big a).2 (big b).1 (big b).2).bind fun m => (publicanref1_Int.f k m.1 m.2).bind fun i => if t.1 = i.1 then publicanlaw1_NumChecked.j2 k a b c (!(t.2 == i.2)) (big a).1 (big a).2 (big b).1 (big b).2 else publicanlaw1_NumChecked.j2 k a b c true (big a).1 (big a).2 (big b).1 (big b).2) (fun k => by simp only [publicanlaw1_NumChecked.j1]; rw [if_neg (by decide)]) ?_
  rw [e]
  exact Ev.bind (Ev.now _) (Ev.bind h1 (Ev.bind h2 (tell_ev (fun _ => none) _ _ _ rfl (fun k x => publicanlaw1_NumChecked.j2 k a b c x (big a).1 (big a).2 (big b).1 (big b).2) (checked_j2 a0 a1 b0 b1 c0 c1))))
theorem checked_j0 (a0 : -9223372036854775808 ≤ a) (a1 : a ≤ 9223372036854775807) (b0 : -9223372036854775808 ≤ b) (b1 : b ≤ 9223372036854775807) (c0 : -9223372036854775808 ≤ c) (c1 : c ≤ 9223372036854775807) :
    Ev (fun k => publicanlaw1_NumChecked.j0 k a b c false (big a).1 (big a).2 (big b).1 (big b).2) true := by
  have h0 := Minus_big (x := b) (few_lit (by omega) (by omega))
  have h1 := Add_big (x := a) (y := -b) (few_lit (by omega) (by omega)) (few_lit (by omega) (by omega))
  have h2 := Int_big (x := a + -b) (few_lit (by omega) (by omega))
  have e : num_Sub.f a b = some (asInt (a + -b)) := by rw [sub_f a b a0 a1 b0 b1]; unfold asInt; rw [Int.sub_eq_add_neg]; split <;> rfl
  refine Ev.step (f := fun k => (num_Sub.f a b).bind fun t => (publicanref1_Minus.f k (big b).1 (big b).2).bind fun n => (publicanref1_Add.f k (big a).1 (big a).2 n.1 n.2).bind fun m => (publicanref1_Int.f k m.1 m.2).bind fun i => if t.1 = i.1 then publicanlaw1_NumChecked.j1 k a b c (!(t.2 == i.2)) (big a).1 (big a).2 (big b).1 (big b).2 else publicanlaw1_NumChecked.j1 k a b c true (big a).1 (big a).2 (big b).1 (big b).2) (fun k => by simp only [publicanlaw1_NumChecked.j0]; rw [if_neg (by decide)]) ?_
  rw [e]
  exact Ev.bind (Ev.now _) (Ev.bind h0 (Ev.bind h1 (Ev.bind h2 (tell_ev (fun _ => none) _ _ _ rfl (fun k x => publicanlaw1_NumChecked.j1 k a b c x (big a).1 (big a).2 (big b).1 (big b).2) (checked_j1 a0 a1 b0 b1 c0 c1)))))
end
theorem NumChecked_pure : publicanlaw1_NumChecked.Pure := by
  intro a b c ha hb hc
  obtain ⟨a0, a1⟩ := wf64 ha
  obtain ⟨b0, b1⟩ := wf64 hb
  obtain ⟨c0, c1⟩ := wf64 hc
  have h1 := Of_big a a0 a1
  have h2 := Of_big b b0 b1
  have h3 := Add_big (x := a) (y := b) (few_lit (by omega) (by omega)) (few_lit (by omega) (by omega))
  have h4 := Int_big (x := a + b) (few_lit (by omega) (by omega))
  have e : num_Add.f a b = some (asInt (a + b)) := by rw [add_f a b a0 a1 b0 b1]; unfold asInt; split <;> rfl
  refine Ev.rounds (g := fun k => publicanlaw1_NumChecked.f k a b c) (Ev.congr (f := fun k => (publicanlaw1_awake.f k).bind fun t => if t = true then ((publicanref1_Of.f k a).bind fun x => (publicanref1_Of.f k b).bind fun y => (num_Add.f a b).bind fun t => (publicanref1_Add.f k x.1 x.2 y.1 y.2).bind fun m => (publicanref1_Int.f k m.1 m.2).bind fun i => if t.1 = i.1 then publicanlaw1_NumChecked.j0 k a b c (!(t.2 == i.2)) x.1 x.2 y.1 y.2 else publicanlaw1_NumChecked.j0 k a b c true x.1 x.2 y.1 y.2) else none) (fun k => by simp only [publicanlaw1_NumChecked.f]) (Ev.bind awake_ev ?_))
  refine Ev.congr (fun k => by rw [if_pos rfl]) (Ev.bind h1 (Ev.bind h2 ?_))
  rw [e]
  exact Ev.bind (Ev.now _) (Ev.bind h3 (Ev.bind h4 (tell_ev (fun _ => none) _ _ _ rfl (fun k x => publicanlaw1_NumChecked.j0 k a b c x (big a).1 (big a).2 (big b).1 (big b).2) (checked_j0 a0 a1 b0 b1 c0 c1))))
end Go.Proofs.Ythjhammjankekaa.PNum
