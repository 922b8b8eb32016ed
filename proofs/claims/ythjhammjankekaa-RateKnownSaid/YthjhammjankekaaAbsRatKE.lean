import Derived.Laws.Externs
import Derived.Shelf.Spec.BitsCarry
import Derived.Test.YthjhammjankekaaAbsRatK0
namespace Go.Proofs.Ythjhammjankekaa.AbsRatK
open Go Go.Abs Go.Proofs
set_option maxRecDepth 100000
set_option linter.unusedVariables false
noncomputable section
def fns : T AFunc := (.node none (.node none (.node (some c3) (.node none (.node (some c15) .nil .nil) .nil) (.node none (.node none (.node none (.node (some c67) .nil .nil) .nil) .nil) (.node none (.node (some c43) .nil .nil) (.node (some c59) .nil .nil)))) (.node none (.node none (.node none (.node none (.node (some c65) .nil .nil) .nil) .nil) .nil) (.node (some c13) (.node (some c21) .nil .nil) (.node none .nil (.node (some c61) .nil .nil))))) (.node none (.node none (.node none (.node (some c16) .nil .nil) .nil) (.node (some c12) .nil (.node none (.node (some c44) .nil .nil) .nil))) (.node none (.node none (.node (some c18) .nil .nil) (.node none .nil (.node (some c58) .nil .nil))) (.node (some c14) .nil (.node none (.node (some c46) .nil .nil) .nil)))))
theorem fnsL : toL fns = [(3, c3), (15, c15), (67, c67), (43, c43), (59, c59), (65, c65), (13, c13), (21, c21), (61, c61), (16, c16), (12, c12), (44, c44), (18, c18), (58, c58), (14, c14), (46, c46)] := by kernel_rfl
theorem fnsOk : ∀ f c, fns.get f = some c → ∃ fn, Try.prog.funcs[f]? = some fn ∧ cFunc Try.prog gl ex fn = some c :=
  fns_ok fnsL ⟨⟨_, Try.func3, ok3⟩, ⟨_, Try.func15, ok15⟩, ⟨_, Try.func67, ok67⟩, ⟨_, Try.func43, ok43⟩, ⟨_, Try.func59, ok59⟩, ⟨_, Try.func65, ok65⟩, ⟨_, Try.func13, ok13⟩, ⟨_, Try.func21, ok21⟩, ⟨_, Try.func61, ok61⟩, ⟨_, Try.func16, ok16⟩, ⟨_, Try.func12, ok12⟩, ⟨_, Try.func44, ok44⟩, ⟨_, Try.func18, ok18⟩, ⟨_, Try.func58, ok58⟩, ⟨_, Try.func14, ok14⟩, ⟨_, Try.func46, ok46⟩, trivial⟩
theorem add64 (x y c : Int) (hx : 0 ≤ x) (hy : 0 ≤ y) (hc0 : 0 ≤ c) (hc : c ≤ 1) (w : World) : (callFunc 51 #[.int .u64 x, .int .u64 y, .int .u64 c]).run Try.prog w =
    .ok (.value (.tuple #[.int .u64 ((x + y + c) % 18446744073709551616), .int .u64 ((x + y + c) / 18446744073709551616)])) w := by
  rw [run_callFunc_extern Try.func51 (by kernel_rfl) (by kernel_rfl) (by kernel_rfl) (e := add64Entry) (by kernel_rfl), run_add64 x y c hx hy hc0 hc]
  rfl
theorem exOk : ∀ f g, ex f = some g → ExtOk Try.prog f g := (ex_cons (add64X_ok add64) (fun f g h => by cases h))
theorem mixed : Try.prog.follows .mixedOrders = true := by kernel_rfl
end
end Go.Proofs.Ythjhammjankekaa.AbsRatK
