import Derived.Test.YtikdjhlcbkkkfaaAbsLexN0
import Derived.Test.YtikdjhlcbkkkfaaAbsLexN1
namespace Go.Proofs.Ytikdjhlcbkkkfaa.AbsLexN
open Go Go.Abs Go.Proofs
set_option maxRecDepth 100000
set_option linter.unusedVariables false
noncomputable section
def fns : T AFunc := (.node none (.node none (.node none (.node none (.node (some c15) (.node (some c31) .nil .nil) (.node (some c47) .nil .nil)) (.node none (.node (some c39) .nil .nil) (.node (some c55) .nil .nil))) (.node none .nil (.node (some c27) (.node (some c43) .nil .nil) .nil))) (.node none (.node (some c9) (.node none (.node (some c33) (.node (some c65) .nil .nil) .nil) (.node (some c49) .nil .nil)) (.node (some c25) (.node (some c41) .nil .nil) .nil)) (.node (some c13) .nil (.node (some c29) .nil (.node (some c61) .nil .nil))))) (.node none (.node none (.node (some c8) (.node none (.node (some c32) .nil .nil) .nil) (.node none (.node (some c40) .nil .nil) (.node (some c56) .nil .nil))) (.node (some c12) .nil (.node (some c28) .nil .nil))) (.node (some c6) (.node none .nil (.node (some c26) (.node (some c42) .nil .nil) .nil)) (.node (some c14) .nil (.node (some c30) .nil (.node (some c62) .nil .nil))))))
theorem fnsL : toL fns = [(15, c15), (31, c31), (47, c47), (39, c39), (55, c55), (27, c27), (43, c43), (9, c9), (33, c33), (65, c65), (49, c49), (25, c25), (41, c41), (13, c13), (29, c29), (61, c61), (8, c8), (32, c32), (40, c40), (56, c56), (12, c12), (28, c28), (6, c6), (26, c26), (42, c42), (14, c14), (30, c30), (62, c62)] := by kernel_rfl
theorem fnsOk : ∀ f c, fns.get f = some c → ∃ fn, Try.prog.funcs[f]? = some fn ∧ cFunc Try.prog gl ex fn = some c :=
  fns_ok fnsL ⟨⟨_, Try.func15, ok15⟩, ⟨_, Try.func31, ok31⟩, ⟨_, Try.func47, ok47⟩, ⟨_, Try.func39, ok39⟩, ⟨_, Try.func55, ok55⟩, ⟨_, Try.func27, ok27⟩, ⟨_, Try.func43, ok43⟩, ⟨_, Try.func9, ok9⟩, ⟨_, Try.func33, ok33⟩, ⟨_, Try.func65, ok65⟩, ⟨_, Try.func49, ok49⟩, ⟨_, Try.func25, ok25⟩, ⟨_, Try.func41, ok41⟩, ⟨_, Try.func13, ok13⟩, ⟨_, Try.func29, ok29⟩, ⟨_, Try.func61, ok61⟩, ⟨_, Try.func8, ok8⟩, ⟨_, Try.func32, ok32⟩, ⟨_, Try.func40, ok40⟩, ⟨_, Try.func56, ok56⟩, ⟨_, Try.func12, ok12⟩, ⟨_, Try.func28, ok28⟩, ⟨_, Try.func6, ok6⟩, ⟨_, Try.func26, ok26⟩, ⟨_, Try.func42, ok42⟩, ⟨_, Try.func14, ok14⟩, ⟨_, Try.func30, ok30⟩, ⟨_, Try.func62, ok62⟩, trivial⟩
theorem exOk : ∀ f g, ex f = some g → ExtOk Try.prog f g := (fun f g h => by cases h)
theorem mixed : Try.prog.follows .mixedOrders = true := by kernel_rfl
end
end Go.Proofs.Ytikdjhlcbkkkfaa.AbsLexN
