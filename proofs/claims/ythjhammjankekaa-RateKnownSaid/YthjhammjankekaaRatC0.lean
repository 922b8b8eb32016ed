import Derived.Test.YthjhammjankekaaDecRatK
import Derived.Test.YthjhammjankekaaInsB
import Derived.KernelRfl
namespace Go.Proofs.Ythjhammjankekaa.AbsRatK
open Go Go.Abs Go.Proofs
set_option maxRecDepth 100000
set_option linter.unusedVariables false
noncomputable section
def E : Env := ⟨fns, insertK 44 2 16 noKnown⟩
/-- so many rounds of a loop -/
def iterF (b : Frm → St → OutX) (n : Nat) : Frm → St → OutX := Nat.rec (motive := fun _ => Frm → St → OutX) (fun fs s => some (.norm, fs, s)) (fun _ ih => seqF b ih) n
theorem iter_loop (b : Frm → St → OutX) (m : Nat) : ∀ (n : Nat) (fs : Frm) (s : St) (fs' : Frm) (s' : St), iterF b n fs s = some (.norm, fs', s') → loopF b (n + m) fs s = loopF b m fs' s'
  | 0, fs, s, fs', s', h => by
    cases h
    rw [Nat.zero_add]
  | n + 1, fs, s, fs', s', h => by
    have h : seqF b (iterF b n) fs s = some (.norm, fs', s') := h
    rw [show n + 1 + m = (n + m) + 1 by omega, loop_s]
    unfold seqF at h
    obtain ⟨e, r, h1, h2⟩ := opt2_k h
    rw [h1]
    cases e with
    | norm => exact iter_loop b m n r.1 r.2 fs' s' h2
    | exit i => cases h2
    | ret => cases h2
def R : Rec := callN E 2000
end
end Go.Proofs.Ythjhammjankekaa.AbsRatK
