import Derived.Test.YtdfmhjbmenfaeaaDoorAbsCalD0
import Derived.Test.YtdfmhjbmenfaeaaDoorAbsCalD1
namespace Go.Proofs.YtdfmhjbmenfaeaaDoor.AbsCalD
open Go Go.Abs Go.Proofs
set_option maxRecDepth 100000
set_option linter.unusedVariables false
noncomputable section
def fns : T AFunc := (.node none (.node none (.node none (.node none (.node (some c15) .nil .nil) (.node (some c23) .nil .nil)) (.node (some c11) (.node (some c19) .nil .nil) (.node (some c27) .nil .nil))) (.node (some c5) (.node none (.node (some c17) .nil .nil) (.node (some c25) .nil .nil)) (.node (some c13) (.node (some c21) .nil .nil) (.node (some c29) .nil .nil)))) (.node none (.node (some c4) (.node none (.node (some c16) .nil .nil) (.node (some c24) .nil .nil)) (.node (some c12) (.node (some c20) .nil .nil) (.node (some c28) .nil .nil))) (.node none (.node (some c10) (.node (some c18) .nil .nil) (.node (some c26) .nil .nil)) (.node (some c14) (.node (some c22) .nil .nil) (.node (some c30) .nil .nil)))))
theorem fnsL : toL fns = [(15, c15), (23, c23), (11, c11), (19, c19), (27, c27), (5, c5), (17, c17), (25, c25), (13, c13), (21, c21), (29, c29), (4, c4), (16, c16), (24, c24), (12, c12), (20, c20), (28, c28), (10, c10), (18, c18), (26, c26), (14, c14), (22, c22), (30, c30)] := by kernel_rfl
theorem fnsOk : ∀ f c, fns.get f = some c → ∃ fn, Tryd.prog.funcs[f]? = some fn ∧ cFunc Tryd.prog gl ex fn = some c :=
  fns_ok fnsL ⟨⟨_, Tryd.func15, ok15⟩, ⟨_, Tryd.func23, ok23⟩, ⟨_, Tryd.func11, ok11⟩, ⟨_, Tryd.func19, ok19⟩, ⟨_, Tryd.func27, ok27⟩, ⟨_, Tryd.func5, ok5⟩, ⟨_, Tryd.func17, ok17⟩, ⟨_, Tryd.func25, ok25⟩, ⟨_, Tryd.func13, ok13⟩, ⟨_, Tryd.func21, ok21⟩, ⟨_, Tryd.func29, ok29⟩, ⟨_, Tryd.func4, ok4⟩, ⟨_, Tryd.func16, ok16⟩, ⟨_, Tryd.func24, ok24⟩, ⟨_, Tryd.func12, ok12⟩, ⟨_, Tryd.func20, ok20⟩, ⟨_, Tryd.func28, ok28⟩, ⟨_, Tryd.func10, ok10⟩, ⟨_, Tryd.func18, ok18⟩, ⟨_, Tryd.func26, ok26⟩, ⟨_, Tryd.func14, ok14⟩, ⟨_, Tryd.func22, ok22⟩, ⟨_, Tryd.func30, ok30⟩, trivial⟩
theorem exOk : ∀ f g, ex f = some g → ExtOk Tryd.prog f g := (fun f g h => by cases h)
theorem mixed : Tryd.prog.follows .mixedOrders = true := by kernel_rfl
end
end Go.Proofs.YtdfmhjbmenfaeaaDoor.AbsCalD
