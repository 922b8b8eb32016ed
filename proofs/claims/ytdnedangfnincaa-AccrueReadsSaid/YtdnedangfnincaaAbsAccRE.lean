import Derived.Laws.Externs
import Derived.Shelf.Spec.BitsCarry
import Derived.Test.YtdnedangfnincaaAbsAccR0
import Derived.Test.YtdnedangfnincaaAbsAccR1
import Derived.Test.YtdnedangfnincaaAbsAccR2
namespace Go.Proofs.Ytdnedangfnincaa.AbsAccR
open Go Go.Abs Go.Proofs
set_option maxRecDepth 100000
set_option linter.unusedVariables false
noncomputable section
def fns : T AFunc := (.node none (.node none (.node none (.node none (.node (some c15) (.node (some c31) (.node (some c63) .nil .nil) .nil) (.node none (.node (some c79) .nil .nil) .nil)) (.node none (.node (some c39) (.node (some c71) .nil .nil) .nil) (.node (some c55) .nil .nil))) (.node (some c11) (.node none (.node (some c35) (.node (some c67) .nil .nil) .nil) (.node (some c51) (.node (some c83) .nil .nil) .nil)) (.node (some c27) (.node (some c43) .nil .nil) (.node (some c59) .nil .nil)))) (.node none (.node (some c9) (.node none (.node (some c33) (.node (some c65) .nil .nil) .nil) (.node none (.node (some c81) .nil .nil) .nil)) (.node (some c25) (.node (some c41) (.node (some c73) .nil .nil) .nil) (.node (some c57) .nil .nil))) (.node (some c13) (.node none (.node (some c37) (.node (some c69) .nil .nil) .nil) (.node (some c53) .nil .nil)) (.node none (.node (some c45) (.node (some c77) .nil .nil) .nil) (.node (some c61) .nil .nil))))) (.node none (.node none (.node none (.node none (.node (some c32) .nil .nil) (.node (some c48) .nil .nil)) (.node (some c24) (.node (some c40) (.node (some c72) .nil .nil) .nil) (.node (some c56) .nil .nil))) (.node (some c12) (.node (some c20) (.node (some c36) (.node (some c68) .nil .nil) .nil) (.node (some c52) (.node (some c84) .nil .nil) .nil)) (.node none (.node (some c44) (.node (some c76) .nil .nil) .nil) (.node (some c60) .nil .nil)))) (.node (some c6) (.node (some c10) (.node none (.node (some c34) (.node (some c66) .nil .nil) .nil) (.node none (.node (some c82) .nil .nil) .nil)) (.node (some c26) (.node (some c42) (.node (some c74) .nil .nil) .nil) (.node (some c58) .nil .nil))) (.node (some c14) (.node (some c22) (.node (some c38) (.node (some c70) .nil .nil) .nil) (.node (some c54) .nil .nil)) (.node (some c30) (.node (some c46) .nil .nil) (.node (some c62) .nil .nil))))))
theorem fnsL : toL fns = [(15, c15), (31, c31), (63, c63), (79, c79), (39, c39), (71, c71), (55, c55), (11, c11), (35, c35), (67, c67), (51, c51), (83, c83), (27, c27), (43, c43), (59, c59), (9, c9), (33, c33), (65, c65), (81, c81), (25, c25), (41, c41), (73, c73), (57, c57), (13, c13), (37, c37), (69, c69), (53, c53), (45, c45), (77, c77), (61, c61), (32, c32), (48, c48), (24, c24), (40, c40), (72, c72), (56, c56), (12, c12), (20, c20), (36, c36), (68, c68), (52, c52), (84, c84), (44, c44), (76, c76), (60, c60), (6, c6), (10, c10), (34, c34), (66, c66), (82, c82), (26, c26), (42, c42), (74, c74), (58, c58), (14, c14), (22, c22), (38, c38), (70, c70), (54, c54), (30, c30), (46, c46), (62, c62)] := by kernel_rfl
theorem fnsOk : ∀ f c, fns.get f = some c → ∃ fn, Try.prog.funcs[f]? = some fn ∧ cFunc Try.prog gl ex fn = some c :=
  fns_ok fnsL ⟨⟨_, Try.func15, ok15⟩, ⟨_, Try.func31, ok31⟩, ⟨_, Try.func63, ok63⟩, ⟨_, Try.func79, ok79⟩, ⟨_, Try.func39, ok39⟩, ⟨_, Try.func71, ok71⟩, ⟨_, Try.func55, ok55⟩, ⟨_, Try.func11, ok11⟩, ⟨_, Try.func35, ok35⟩, ⟨_, Try.func67, ok67⟩, ⟨_, Try.func51, ok51⟩, ⟨_, Try.func83, ok83⟩, ⟨_, Try.func27, ok27⟩, ⟨_, Try.func43, ok43⟩, ⟨_, Try.func59, ok59⟩, ⟨_, Try.func9, ok9⟩, ⟨_, Try.func33, ok33⟩, ⟨_, Try.func65, ok65⟩, ⟨_, Try.func81, ok81⟩, ⟨_, Try.func25, ok25⟩, ⟨_, Try.func41, ok41⟩, ⟨_, Try.func73, ok73⟩, ⟨_, Try.func57, ok57⟩, ⟨_, Try.func13, ok13⟩, ⟨_, Try.func37, ok37⟩, ⟨_, Try.func69, ok69⟩, ⟨_, Try.func53, ok53⟩, ⟨_, Try.func45, ok45⟩, ⟨_, Try.func77, ok77⟩, ⟨_, Try.func61, ok61⟩, ⟨_, Try.func32, ok32⟩, ⟨_, Try.func48, ok48⟩, ⟨_, Try.func24, ok24⟩, ⟨_, Try.func40, ok40⟩, ⟨_, Try.func72, ok72⟩, ⟨_, Try.func56, ok56⟩, ⟨_, Try.func12, ok12⟩, ⟨_, Try.func20, ok20⟩, ⟨_, Try.func36, ok36⟩, ⟨_, Try.func68, ok68⟩, ⟨_, Try.func52, ok52⟩, ⟨_, Try.func84, ok84⟩, ⟨_, Try.func44, ok44⟩, ⟨_, Try.func76, ok76⟩, ⟨_, Try.func60, ok60⟩, ⟨_, Try.func6, ok6⟩, ⟨_, Try.func10, ok10⟩, ⟨_, Try.func34, ok34⟩, ⟨_, Try.func66, ok66⟩, ⟨_, Try.func82, ok82⟩, ⟨_, Try.func26, ok26⟩, ⟨_, Try.func42, ok42⟩, ⟨_, Try.func74, ok74⟩, ⟨_, Try.func58, ok58⟩, ⟨_, Try.func14, ok14⟩, ⟨_, Try.func22, ok22⟩, ⟨_, Try.func38, ok38⟩, ⟨_, Try.func70, ok70⟩, ⟨_, Try.func54, ok54⟩, ⟨_, Try.func30, ok30⟩, ⟨_, Try.func46, ok46⟩, ⟨_, Try.func62, ok62⟩, trivial⟩
theorem add64 (x y c : Int) (hx : 0 ≤ x) (hy : 0 ≤ y) (hc0 : 0 ≤ c) (hc : c ≤ 1) (w : World) : (callFunc 80 #[.int .u64 x, .int .u64 y, .int .u64 c]).run Try.prog w =
    .ok (.value (.tuple #[.int .u64 ((x + y + c) % 18446744073709551616), .int .u64 ((x + y + c) / 18446744073709551616)])) w := by
  rw [run_callFunc_extern Try.func80 (by kernel_rfl) (by kernel_rfl) (by kernel_rfl) (e := add64Entry) (by kernel_rfl), run_add64 x y c hx hy hc0 hc]
  rfl
theorem sub64 (x y b : Int) (hx : 0 ≤ x) (hy : 0 ≤ y) (hy' : y < 18446744073709551616) (hb0 : 0 ≤ b) (hb : b ≤ 1) (w : World) : (callFunc 78 #[.int .u64 x, .int .u64 y, .int .u64 b]).run Try.prog w =
    .ok (.value (.tuple #[.int .u64 ((x - y - b) % 18446744073709551616), .int .u64 (if x < y + b then 1 else 0)])) w := by
  obtain ⟨x, rfl⟩ := Int.eq_ofNat_of_zero_le hx
  obtain ⟨y, rfl⟩ := Int.eq_ofNat_of_zero_le hy
  obtain ⟨b, rfl⟩ := Int.eq_ofNat_of_zero_le hb0
  rw [run_callFunc_extern Try.func78 (by kernel_rfl) (by kernel_rfl) (by kernel_rfl) (e := sub64Entry) (by kernel_rfl), run_sub64 x y b (by omega)]
  have e1 : (((x + 18446744073709551616 - y - b) % 18446744073709551616 : Nat) : Int) = ((x : Int) - y - b) % 18446744073709551616 := by omega
  have e2 : ((if x < y + b then 1 else 0 : Nat) : Int) = if (x : Int) < y + b then 1 else 0 := by split <;> split <;> omega
  rw [e1, e2]
  rfl
theorem exOk : ∀ f g, ex f = some g → ExtOk Try.prog f g := (ex_cons (add64X_ok add64) (ex_cons (sub64X_ok sub64) (fun f g h => by cases h)))
theorem mixed : Try.prog.follows .mixedOrders = true := by kernel_rfl
end
end Go.Proofs.Ytdnedangfnincaa.AbsAccR
