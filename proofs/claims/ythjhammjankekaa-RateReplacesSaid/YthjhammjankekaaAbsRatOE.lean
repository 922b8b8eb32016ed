import Derived.Test.YthjhammjankekaaAbsRatO0
import Derived.Test.YthjhammjankekaaAbsRatO1
namespace Go.Proofs.Ythjhammjankekaa.AbsRatO
open Go Go.Abs Go.Proofs
set_option maxRecDepth 100000
set_option linter.unusedVariables false
noncomputable section
def fns : T AFunc := (.node none (.node none (.node none (.node none (.node (some c15) .nil .nil) .nil) (.node none (.node (some c19) (.node none (.node (some c67) .nil .nil) .nil) .nil) (.node none (.node (some c43) .nil .nil) (.node (some c59) .nil .nil)))) (.node (some c5) (.node none (.node (some c17) (.node none (.node (some c65) .nil .nil) .nil) .nil) .nil) (.node (some c13) (.node (some c21) .nil .nil) (.node none (.node (some c45) .nil .nil) (.node (some c61) .nil .nil))))) (.node none (.node (some c4) (.node none (.node (some c16) .nil .nil) .nil) (.node (some c12) (.node (some c20) .nil .nil) (.node none (.node (some c44) .nil .nil) .nil))) (.node (some c6) (.node none (.node (some c18) .nil .nil) (.node none .nil (.node (some c58) .nil .nil))) (.node (some c14) .nil (.node none (.node (some c46) .nil .nil) .nil)))))
theorem fnsL : toL fns = [(15, c15), (19, c19), (67, c67), (43, c43), (59, c59), (5, c5), (17, c17), (65, c65), (13, c13), (21, c21), (45, c45), (61, c61), (4, c4), (16, c16), (12, c12), (20, c20), (44, c44), (6, c6), (18, c18), (58, c58), (14, c14), (46, c46)] := by kernel_rfl
theorem fnsOk : ∀ f c, fns.get f = some c → ∃ fn, Try.prog.funcs[f]? = some fn ∧ cFunc Try.prog gl ex fn = some c :=
  fns_ok fnsL ⟨⟨_, Try.func15, ok15⟩, ⟨_, Try.func19, ok19⟩, ⟨_, Try.func67, ok67⟩, ⟨_, Try.func43, ok43⟩, ⟨_, Try.func59, ok59⟩, ⟨_, Try.func5, ok5⟩, ⟨_, Try.func17, ok17⟩, ⟨_, Try.func65, ok65⟩, ⟨_, Try.func13, ok13⟩, ⟨_, Try.func21, ok21⟩, ⟨_, Try.func45, ok45⟩, ⟨_, Try.func61, ok61⟩, ⟨_, Try.func4, ok4⟩, ⟨_, Try.func16, ok16⟩, ⟨_, Try.func12, ok12⟩, ⟨_, Try.func20, ok20⟩, ⟨_, Try.func44, ok44⟩, ⟨_, Try.func6, ok6⟩, ⟨_, Try.func18, ok18⟩, ⟨_, Try.func58, ok58⟩, ⟨_, Try.func14, ok14⟩, ⟨_, Try.func46, ok46⟩, trivial⟩
theorem exOk : ∀ f g, ex f = some g → ExtOk Try.prog f g := (fun f g h => by cases h)
theorem mixed : Try.prog.follows .mixedOrders = true := by kernel_rfl
end
end Go.Proofs.Ythjhammjankekaa.AbsRatO
