/-
  No cell of these rows narrows 'for every input' (looked for: loops, veiled, ifaces, maps, wideKeys, modest, calm, conditions, laid).
  DERIVED. THE GIVEN ROWS OF THIS SEAT. 5 by the template 'for every input the law returns true; each argument reads behind the call as it read before'; 0 by the template 'total and deterministic' (their statements: YtikdjhlcbkkkfaaTotals.lean).
  GIVEN WITH THE SEED: the statements are not yours to turn. If you find one false, say at which input.
  Laid BY PROGRAM, IN A SANDBOX (cutbox-rows.mjs): the forced cells as the released guide's own fill.sh prints them over the translation ee391416bc3cec4f… (all of the seat's roots in one cut). By AI agents, Wed Nov 11 2026. No macro, syntax, notation, axiom, sorry.
-/
import Derived.Test.YtikdjhlcbkkkfaaChecked
import GoSem.Claim
import GoSem.ClaimJoined
import GoSem.ClaimMapViews
import Derived.JoinedTies
import Derived.KernelRfl
namespace Go.Proofs.Ytikdjhlcbkkkfaa
/- THE CELL 'sum', in the pinned program and in every row, IS THE sha256 OF THE DUMP (.gsa) THAT YtikdjhlcbkkkfaaProg.lean LOADS. Nothing in Lean hashes anything: it is a label: what it is worth is what the hold of that sum in a sandbox is worth. -/
noncomputable def Try.pinned : Pinned := { name := "ytikdjhlcbkkkfaa", sum := "ee391416bc3cec4f697e1036edfd320e8afcb739eaf2685914ea99e3d96f84e5", checked := Try.checked }
namespace Rows
def none {H : Type} : Left H := { results := [], args := [] }

/-- 'publicanlaw9.LexKnown': WHATEVER THE INPUT: true; the input reads as it did. -/
def lexKnownSpec : ChangeSpec := { name := "lexKnown", fn := fun _ => fun
  | [] => { results := [.lit (.bool true)], args := [] }
  | _ => none }
def lexKnownRow : OpenClaim := { program := "ytikdjhlcbkkkfaa", sum := "ee391416bc3cec4f697e1036edfd320e8afcb739eaf2685914ea99e3d96f84e5", func := "publican/publicanlaw9.LexKnown", spec := "lexKnown", inPlace := ["internal/abi.NoEscape", "internal/bytealg.MakeNoZero"], unfollowed := true, recurses := true, apart := false }
def LexKnownSaid : Prop := lexKnownRow.holds Try.pinned (OpenSpec.ofChange lexKnownSpec)

/-- ITS FALSE NEIGHBOUR: 'it returns false'. Refute it at one input. -/
def lexKnownWrong : ChangeSpec := { name := "lexKnown", fn := fun _ => fun
  | [] => { results := [.lit (.bool false)], args := [] }
  | _ => none }
def LexKnownWrongFalsely : Prop := lexKnownRow.holds Try.pinned (OpenSpec.ofChange lexKnownWrong)

/-- 'publicanlaw9.LexCuts': WHATEVER THE INPUT: true; the input reads as it did. -/
def lexCutsSpec : ChangeSpec := { name := "lexCuts", fn := fun _ => fun
  | [d] => { results := [.lit (.bool true)], args := [d] }
  | _ => none }
def lexCutsRow : OpenClaim := { program := "ytikdjhlcbkkkfaa", sum := "ee391416bc3cec4f697e1036edfd320e8afcb739eaf2685914ea99e3d96f84e5", func := "publican/publicanlaw9.LexCuts", spec := "lexCuts", inPlace := ["internal/abi.NoEscape", "internal/bytealg.MakeNoZero"], unfollowed := true, recurses := true, apart := false }
def LexCutsSaid : Prop := lexCutsRow.holds Try.pinned (OpenSpec.ofChange lexCutsSpec)

/-- ITS FALSE NEIGHBOUR: 'it returns false'. Refute it at one input. -/
def lexCutsWrong : ChangeSpec := { name := "lexCuts", fn := fun _ => fun
  | [d] => { results := [.lit (.bool false)], args := [d] }
  | _ => none }
def LexCutsWrongFalsely : Prop := lexCutsRow.holds Try.pinned (OpenSpec.ofChange lexCutsWrong)

/-- 'publicanlaw9.LexNumbers': WHATEVER THE INPUT: true; the input reads as it did. -/
def lexNumbersSpec : ChangeSpec := { name := "lexNumbers", fn := fun _ => fun
  | [d1, d2] => { results := [.lit (.bool true)], args := [d1, d2] }
  | _ => none }
def lexNumbersRow : OpenClaim := { program := "ytikdjhlcbkkkfaa", sum := "ee391416bc3cec4f697e1036edfd320e8afcb739eaf2685914ea99e3d96f84e5", func := "publican/publicanlaw9.LexNumbers", spec := "lexNumbers", inPlace := ["internal/abi.NoEscape", "internal/bytealg.MakeNoZero"], unfollowed := true, recurses := true, apart := false }
def LexNumbersSaid : Prop := lexNumbersRow.holds Try.pinned (OpenSpec.ofChange lexNumbersSpec)

/-- ITS FALSE NEIGHBOUR: 'it returns false'. Refute it at one input. -/
def lexNumbersWrong : ChangeSpec := { name := "lexNumbers", fn := fun _ => fun
  | [d1, d2] => { results := [.lit (.bool false)], args := [d1, d2] }
  | _ => none }
def LexNumbersWrongFalsely : Prop := lexNumbersRow.holds Try.pinned (OpenSpec.ofChange lexNumbersWrong)

/-- 'publicanlaw9.LexNames': WHATEVER THE INPUT: true; the input reads as it did. -/
def lexNamesSpec : ChangeSpec := { name := "lexNames", fn := fun _ => fun
  | [d] => { results := [.lit (.bool true)], args := [d] }
  | _ => none }
def lexNamesRow : OpenClaim := { program := "ytikdjhlcbkkkfaa", sum := "ee391416bc3cec4f697e1036edfd320e8afcb739eaf2685914ea99e3d96f84e5", func := "publican/publicanlaw9.LexNames", spec := "lexNames", inPlace := ["internal/abi.NoEscape", "internal/bytealg.MakeNoZero"], unfollowed := true, recurses := true, apart := false }
def LexNamesSaid : Prop := lexNamesRow.holds Try.pinned (OpenSpec.ofChange lexNamesSpec)

/-- ITS FALSE NEIGHBOUR: 'it returns false'. Refute it at one input. -/
def lexNamesWrong : ChangeSpec := { name := "lexNames", fn := fun _ => fun
  | [d] => { results := [.lit (.bool false)], args := [d] }
  | _ => none }
def LexNamesWrongFalsely : Prop := lexNamesRow.holds Try.pinned (OpenSpec.ofChange lexNamesWrong)

/-- 'publicanlaw9.LexBetween': WHATEVER THE INPUT: true; the input reads as it did. -/
def lexBetweenSpec : ChangeSpec := { name := "lexBetween", fn := fun _ => fun
  | [d] => { results := [.lit (.bool true)], args := [d] }
  | _ => none }
def lexBetweenRow : OpenClaim := { program := "ytikdjhlcbkkkfaa", sum := "ee391416bc3cec4f697e1036edfd320e8afcb739eaf2685914ea99e3d96f84e5", func := "publican/publicanlaw9.LexBetween", spec := "lexBetween", inPlace := ["internal/abi.NoEscape", "internal/bytealg.MakeNoZero"], unfollowed := true, recurses := true, apart := false }
def LexBetweenSaid : Prop := lexBetweenRow.holds Try.pinned (OpenSpec.ofChange lexBetweenSpec)

/-- ITS FALSE NEIGHBOUR: 'it returns false'. Refute it at one input. -/
def lexBetweenWrong : ChangeSpec := { name := "lexBetween", fn := fun _ => fun
  | [d] => { results := [.lit (.bool false)], args := [d] }
  | _ => none }
def LexBetweenWrongFalsely : Prop := lexBetweenRow.holds Try.pinned (OpenSpec.ofChange lexBetweenWrong)

/- THE SECOND FORM. 'bulk': how many values and letters a reading holds, each counted each time it is reached (what is shared counts as often as it is met; a slice's spare places count too). A statement '..UptoSaid' is the law's where the arguments, and the package variables that the reading takes, are together of bulk at most 1048576: NARROWER than '..Said'. Prove '..Said' where nothing that the law and all that it calls make is longer than what came in: it says more and counts as full. Else prove '..UptoSaid'. A law counts once. -/
mutual
def uptoBulk {H : Type} : DataW H → Nat
  | .lit (.string bytes) => bytes.length + 1
  | .lit _ => 1
  | .nil => 1
  | .ptr d => uptoBulk d + 1
  | .slice elems spare => uptoBulkAll elems + uptoBulkAll spare + 1
  | .agg parts => uptoBulkAll parts + 1
  | .iface _ d => uptoBulk d + 1
  | .map entries => uptoBulkEntries entries + 1
  | .held _ => 1
def uptoBulkAll {H : Type} : List (DataW H) → Nat
  | [] => 0
  | d :: r => uptoBulk d + uptoBulkAll r
def uptoBulkEntries {H : Type} : List (Lit × DataW H) → Nat
  | [] => 0
  | x :: r => uptoBulkEntry x + uptoBulkEntries r
def uptoBulkEntry {H : Type} : Lit × DataW H → Nat
  | (.string bytes, d) => bytes.length + uptoBulk d + 1
  | (_, d) => uptoBulk d + 1
 end
def uptoSmall : (H : Type) → List (DataW H) → Bool := fun _ ds => decide (uptoBulkAll ds ≤ 1048576)
def OpenSpec.upto (s : _root_.Go.ChangeSpec) : _root_.Go.OpenSpec := { _root_.Go.OpenSpec.ofChange s with cond := some uptoSmall }

/-- 'publicanlaw9.LexKnown', WHERE WHAT IT READS IS OF BULK AT MOST 1048576: true; the input reads as it did. -/
def lexKnownUptoRow : OpenClaim := { program := "ytikdjhlcbkkkfaa", sum := "ee391416bc3cec4f697e1036edfd320e8afcb739eaf2685914ea99e3d96f84e5", func := "publican/publicanlaw9.LexKnown", spec := "lexKnown", inPlace := ["internal/abi.NoEscape", "internal/bytealg.MakeNoZero"], unfollowed := true, recurses := true, apart := false, narrowed := true }
def LexKnownUptoSaid : Prop := lexKnownUptoRow.holds Try.pinned (OpenSpec.upto lexKnownSpec)

/-- 'publicanlaw9.LexCuts', WHERE WHAT IT READS IS OF BULK AT MOST 1048576: true; the input reads as it did. -/
def lexCutsUptoRow : OpenClaim := { program := "ytikdjhlcbkkkfaa", sum := "ee391416bc3cec4f697e1036edfd320e8afcb739eaf2685914ea99e3d96f84e5", func := "publican/publicanlaw9.LexCuts", spec := "lexCuts", inPlace := ["internal/abi.NoEscape", "internal/bytealg.MakeNoZero"], unfollowed := true, recurses := true, apart := false, narrowed := true }
def LexCutsUptoSaid : Prop := lexCutsUptoRow.holds Try.pinned (OpenSpec.upto lexCutsSpec)

/-- 'publicanlaw9.LexNumbers', WHERE WHAT IT READS IS OF BULK AT MOST 1048576: true; the input reads as it did. -/
def lexNumbersUptoRow : OpenClaim := { program := "ytikdjhlcbkkkfaa", sum := "ee391416bc3cec4f697e1036edfd320e8afcb739eaf2685914ea99e3d96f84e5", func := "publican/publicanlaw9.LexNumbers", spec := "lexNumbers", inPlace := ["internal/abi.NoEscape", "internal/bytealg.MakeNoZero"], unfollowed := true, recurses := true, apart := false, narrowed := true }
def LexNumbersUptoSaid : Prop := lexNumbersUptoRow.holds Try.pinned (OpenSpec.upto lexNumbersSpec)

/-- 'publicanlaw9.LexNames', WHERE WHAT IT READS IS OF BULK AT MOST 1048576: true; the input reads as it did. -/
def lexNamesUptoRow : OpenClaim := { program := "ytikdjhlcbkkkfaa", sum := "ee391416bc3cec4f697e1036edfd320e8afcb739eaf2685914ea99e3d96f84e5", func := "publican/publicanlaw9.LexNames", spec := "lexNames", inPlace := ["internal/abi.NoEscape", "internal/bytealg.MakeNoZero"], unfollowed := true, recurses := true, apart := false, narrowed := true }
def LexNamesUptoSaid : Prop := lexNamesUptoRow.holds Try.pinned (OpenSpec.upto lexNamesSpec)

/-- 'publicanlaw9.LexBetween', WHERE WHAT IT READS IS OF BULK AT MOST 1048576: true; the input reads as it did. -/
def lexBetweenUptoRow : OpenClaim := { program := "ytikdjhlcbkkkfaa", sum := "ee391416bc3cec4f697e1036edfd320e8afcb739eaf2685914ea99e3d96f84e5", func := "publican/publicanlaw9.LexBetween", spec := "lexBetween", inPlace := ["internal/abi.NoEscape", "internal/bytealg.MakeNoZero"], unfollowed := true, recurses := true, apart := false, narrowed := true }
def LexBetweenUptoSaid : Prop := lexBetweenUptoRow.holds Try.pinned (OpenSpec.upto lexBetweenSpec)

end Rows
end Go.Proofs.Ytikdjhlcbkkkfaa
