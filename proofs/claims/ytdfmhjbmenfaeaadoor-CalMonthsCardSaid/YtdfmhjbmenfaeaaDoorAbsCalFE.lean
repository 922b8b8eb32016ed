import Derived.Test.YtdfmhjbmenfaeaaDoorAbsCalF0
import Derived.Test.YtdfmhjbmenfaeaaDoorAbsCalF1
namespace Go.Proofs.YtdfmhjbmenfaeaaDoor.AbsCalF
open Go Go.Abs Go.Proofs
set_option maxRecDepth 100000
set_option linter.unusedVariables false
noncomputable section
def fns : T AFunc := (.node none (.node none (.node none (.node (some c7) (.node (some c15) (.node (some c31) .nil .nil) .nil) (.node none (.node (some c39) .nil .nil) .nil)) (.node (some c11) (.node none (.node (some c35) .nil .nil) .nil) (.node (some c27) (.node (some c43) .nil .nil) .nil))) (.node none (.node (some c9) (.node (some c17) (.node (some c33) .nil .nil) .nil) (.node none (.node (some c41) .nil .nil) .nil)) (.node (some c13) (.node none (.node (some c37) .nil .nil) .nil) (.node (some c29) .nil .nil)))) (.node none (.node none (.node none (.node (some c16) (.node (some c32) .nil .nil) .nil) (.node none (.node (some c40) .nil .nil) .nil)) (.node (some c12) (.node none (.node (some c36) .nil .nil) .nil) (.node (some c28) (.node (some c44) .nil .nil) .nil))) (.node none (.node (some c10) (.node none (.node (some c34) .nil .nil) .nil) (.node (some c26) (.node (some c42) .nil .nil) .nil)) (.node (some c14) (.node (some c22) (.node (some c38) .nil .nil) .nil) .nil))))
theorem fnsL : toL fns = [(7, c7), (15, c15), (31, c31), (39, c39), (11, c11), (35, c35), (27, c27), (43, c43), (9, c9), (17, c17), (33, c33), (41, c41), (13, c13), (37, c37), (29, c29), (16, c16), (32, c32), (40, c40), (12, c12), (36, c36), (28, c28), (44, c44), (10, c10), (34, c34), (26, c26), (42, c42), (14, c14), (22, c22), (38, c38)] := by kernel_rfl
theorem fnsOk : ∀ f c, fns.get f = some c → ∃ fn, Tryd.prog.funcs[f]? = some fn ∧ cFunc Tryd.prog gl ex fn = some c :=
  fns_ok fnsL ⟨⟨_, Tryd.func7, ok7⟩, ⟨_, Tryd.func15, ok15⟩, ⟨_, Tryd.func31, ok31⟩, ⟨_, Tryd.func39, ok39⟩, ⟨_, Tryd.func11, ok11⟩, ⟨_, Tryd.func35, ok35⟩, ⟨_, Tryd.func27, ok27⟩, ⟨_, Tryd.func43, ok43⟩, ⟨_, Tryd.func9, ok9⟩, ⟨_, Tryd.func17, ok17⟩, ⟨_, Tryd.func33, ok33⟩, ⟨_, Tryd.func41, ok41⟩, ⟨_, Tryd.func13, ok13⟩, ⟨_, Tryd.func37, ok37⟩, ⟨_, Tryd.func29, ok29⟩, ⟨_, Tryd.func16, ok16⟩, ⟨_, Tryd.func32, ok32⟩, ⟨_, Tryd.func40, ok40⟩, ⟨_, Tryd.func12, ok12⟩, ⟨_, Tryd.func36, ok36⟩, ⟨_, Tryd.func28, ok28⟩, ⟨_, Tryd.func44, ok44⟩, ⟨_, Tryd.func10, ok10⟩, ⟨_, Tryd.func34, ok34⟩, ⟨_, Tryd.func26, ok26⟩, ⟨_, Tryd.func42, ok42⟩, ⟨_, Tryd.func14, ok14⟩, ⟨_, Tryd.func22, ok22⟩, ⟨_, Tryd.func38, ok38⟩, trivial⟩
theorem exOk : ∀ f g, ex f = some g → ExtOk Tryd.prog f g := (fun f g h => by cases h)
theorem mixed : Tryd.prog.follows .mixedOrders = true := by kernel_rfl
end
end Go.Proofs.YtdfmhjbmenfaeaaDoor.AbsCalF
