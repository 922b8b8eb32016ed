/-
  No cell of these rows narrows 'for every input' (looked for: loops, veiled, ifaces, maps, wideKeys, modest, calm, conditions, laid).
  DERIVED. THE GIVEN ROWS OF THIS SEAT. 5 by the template 'for every input the law returns true; each argument reads behind the call as it read before'; 0 by the template 'total and deterministic' (their statements: YtcjamnbbedpebaaTotals.lean).
  GIVEN WITH THE SEED: the statements are not yours to turn. If you find one false, say at which input.
  Laid BY PROGRAM, IN A SANDBOX (cutbox-rows.mjs): the forced cells as the released guide's own fill.sh prints them over the translation 3aef229ba83538fa… (all of the seat's roots in one cut). By AI agents, Wed Nov 11 2026. No macro, syntax, notation, axiom, sorry.
-/
import Derived.Test.YtcjamnbbedpebaaChecked
import GoSem.Claim
import GoSem.ClaimJoined
import GoSem.ClaimMapViews
import Derived.JoinedTies
import Derived.KernelRfl
namespace Go.Proofs.Ytcjamnbbedpebaa
/- THE CELL 'sum', in the pinned program and in every row, IS THE sha256 OF THE DUMP (.gsa) THAT YtcjamnbbedpebaaProg.lean LOADS. Nothing in Lean hashes anything: it is a label: what it is worth is what the hold of that sum in a sandbox is worth. -/
noncomputable def Try.pinned : Pinned := { name := "ytcjamnbbedpebaa", sum := "3aef229ba83538fadf5d5517c9531408b14dcb23cde0823cc5109d112611d0b9", checked := Try.checked }
namespace Rows
def none {H : Type} : Left H := { results := [], args := [] }

/-- 'publicanlaw11.TypKnown': WHATEVER THE INPUT: true; the input reads as it did. -/
def typKnownSpec : ChangeSpec := { name := "typKnown", fn := fun _ => fun
  | [] => { results := [.lit (.bool true)], args := [] }
  | _ => none }
def typKnownRow : OpenClaim := { program := "ytcjamnbbedpebaa", sum := "3aef229ba83538fadf5d5517c9531408b14dcb23cde0823cc5109d112611d0b9", func := "publican/publicanlaw11.TypKnown", spec := "typKnown", unfollowed := true, recurses := true, apart := false }
def TypKnownSaid : Prop := typKnownRow.holds Try.pinned (OpenSpec.ofChange typKnownSpec)

/-- ITS FALSE NEIGHBOUR: 'it returns false'. Refute it at one input. -/
def typKnownWrong : ChangeSpec := { name := "typKnown", fn := fun _ => fun
  | [] => { results := [.lit (.bool false)], args := [] }
  | _ => none }
def TypKnownWrongFalsely : Prop := typKnownRow.holds Try.pinned (OpenSpec.ofChange typKnownWrong)

/-- 'publicanlaw11.TypSays': WHATEVER THE INPUT: true; the input reads as it did. -/
def typSaysSpec : ChangeSpec := { name := "typSays", fn := fun _ => fun
  | [d] => { results := [.lit (.bool true)], args := [d] }
  | _ => none }
def typSaysRow : OpenClaim := { program := "ytcjamnbbedpebaa", sum := "3aef229ba83538fadf5d5517c9531408b14dcb23cde0823cc5109d112611d0b9", func := "publican/publicanlaw11.TypSays", spec := "typSays", unfollowed := true, recurses := true, apart := false }
def TypSaysSaid : Prop := typSaysRow.holds Try.pinned (OpenSpec.ofChange typSaysSpec)

/-- ITS FALSE NEIGHBOUR: 'it returns false'. Refute it at one input. -/
def typSaysWrong : ChangeSpec := { name := "typSays", fn := fun _ => fun
  | [d] => { results := [.lit (.bool false)], args := [d] }
  | _ => none }
def TypSaysWrongFalsely : Prop := typSaysRow.holds Try.pinned (OpenSpec.ofChange typSaysWrong)

/-- 'publicanlaw11.TypOps': WHATEVER THE INPUT: true; the input reads as it did. -/
def typOpsSpec : ChangeSpec := { name := "typOps", fn := fun _ => fun
  | [d1, d2, d3] => { results := [.lit (.bool true)], args := [d1, d2, d3] }
  | _ => none }
def typOpsRow : OpenClaim := { program := "ytcjamnbbedpebaa", sum := "3aef229ba83538fadf5d5517c9531408b14dcb23cde0823cc5109d112611d0b9", func := "publican/publicanlaw11.TypOps", spec := "typOps", unfollowed := true, recurses := true, apart := false }
def TypOpsSaid : Prop := typOpsRow.holds Try.pinned (OpenSpec.ofChange typOpsSpec)

/-- ITS FALSE NEIGHBOUR: 'it returns false'. Refute it at one input. -/
def typOpsWrong : ChangeSpec := { name := "typOps", fn := fun _ => fun
  | [d1, d2, d3] => { results := [.lit (.bool false)], args := [d1, d2, d3] }
  | _ => none }
def TypOpsWrongFalsely : Prop := typOpsRow.holds Try.pinned (OpenSpec.ofChange typOpsWrong)

/-- 'publicanlaw11.TypNames': WHATEVER THE INPUT: true; the input reads as it did. -/
def typNamesSpec : ChangeSpec := { name := "typNames", fn := fun _ => fun
  | [d] => { results := [.lit (.bool true)], args := [d] }
  | _ => none }
def typNamesRow : OpenClaim := { program := "ytcjamnbbedpebaa", sum := "3aef229ba83538fadf5d5517c9531408b14dcb23cde0823cc5109d112611d0b9", func := "publican/publicanlaw11.TypNames", spec := "typNames", unfollowed := true, recurses := true, apart := false }
def TypNamesSaid : Prop := typNamesRow.holds Try.pinned (OpenSpec.ofChange typNamesSpec)

/-- ITS FALSE NEIGHBOUR: 'it returns false'. Refute it at one input. -/
def typNamesWrong : ChangeSpec := { name := "typNames", fn := fun _ => fun
  | [d] => { results := [.lit (.bool false)], args := [d] }
  | _ => none }
def TypNamesWrongFalsely : Prop := typNamesRow.holds Try.pinned (OpenSpec.ofChange typNamesWrong)

/-- 'publicanlaw11.TypMany': WHATEVER THE INPUT: true; the input reads as it did. -/
def typManySpec : ChangeSpec := { name := "typMany", fn := fun _ => fun
  | [d1, d2] => { results := [.lit (.bool true)], args := [d1, d2] }
  | _ => none }
def typManyRow : OpenClaim := { program := "ytcjamnbbedpebaa", sum := "3aef229ba83538fadf5d5517c9531408b14dcb23cde0823cc5109d112611d0b9", func := "publican/publicanlaw11.TypMany", spec := "typMany", unfollowed := true, recurses := true, apart := false }
def TypManySaid : Prop := typManyRow.holds Try.pinned (OpenSpec.ofChange typManySpec)

/-- ITS FALSE NEIGHBOUR: 'it returns false'. Refute it at one input. -/
def typManyWrong : ChangeSpec := { name := "typMany", fn := fun _ => fun
  | [d1, d2] => { results := [.lit (.bool false)], args := [d1, d2] }
  | _ => none }
def TypManyWrongFalsely : Prop := typManyRow.holds Try.pinned (OpenSpec.ofChange typManyWrong)

/- THE SECOND FORM. 'bulk': how many values and letters a reading holds, each counted each time it is reached (what is shared counts as often as it is met; a slice's spare places count too). A statement '..UptoSaid' is the law's where the arguments, and the package variables that the reading takes, are together of bulk at most 1048576: NARROWER than '..Said'. Prove '..Said' where nothing that the law and all that it calls make is longer than what came in: it says more and counts as full. Else prove '..UptoSaid'. A law counts once. -/
mutual
def uptoBulk {H : Type} : DataW H → Nat
  | .lit (.string bytes) => bytes.length + 1
  | .lit _ => 1
  | .nil => 1
  | .ptr d => uptoBulk d + 1
  | .slice elems spare => uptoBulkAll elems + uptoBulkAll spare + 1
  | .agg parts => uptoBulkAll parts + 1
  | .iface _ d => uptoBulk d + 1
  | .map entries => uptoBulkEntries entries + 1
  | .held _ => 1
def uptoBulkAll {H : Type} : List (DataW H) → Nat
  | [] => 0
  | d :: r => uptoBulk d + uptoBulkAll r
def uptoBulkEntries {H : Type} : List (Lit × DataW H) → Nat
  | [] => 0
  | x :: r => uptoBulkEntry x + uptoBulkEntries r
def uptoBulkEntry {H : Type} : Lit × DataW H → Nat
  | (.string bytes, d) => bytes.length + uptoBulk d + 1
  | (_, d) => uptoBulk d + 1
 end
def uptoSmall : (H : Type) → List (DataW H) → Bool := fun _ ds => decide (uptoBulkAll ds ≤ 1048576)
def OpenSpec.upto (s : _root_.Go.ChangeSpec) : _root_.Go.OpenSpec := { _root_.Go.OpenSpec.ofChange s with cond := some uptoSmall }

/-- 'publicanlaw11.TypKnown', WHERE WHAT IT READS IS OF BULK AT MOST 1048576: true; the input reads as it did. -/
def typKnownUptoRow : OpenClaim := { program := "ytcjamnbbedpebaa", sum := "3aef229ba83538fadf5d5517c9531408b14dcb23cde0823cc5109d112611d0b9", func := "publican/publicanlaw11.TypKnown", spec := "typKnown", unfollowed := true, recurses := true, apart := false, narrowed := true }
def TypKnownUptoSaid : Prop := typKnownUptoRow.holds Try.pinned (OpenSpec.upto typKnownSpec)

/-- 'publicanlaw11.TypSays', WHERE WHAT IT READS IS OF BULK AT MOST 1048576: true; the input reads as it did. -/
def typSaysUptoRow : OpenClaim := { program := "ytcjamnbbedpebaa", sum := "3aef229ba83538fadf5d5517c9531408b14dcb23cde0823cc5109d112611d0b9", func := "publican/publicanlaw11.TypSays", spec := "typSays", unfollowed := true, recurses := true, apart := false, narrowed := true }
def TypSaysUptoSaid : Prop := typSaysUptoRow.holds Try.pinned (OpenSpec.upto typSaysSpec)

/-- 'publicanlaw11.TypOps', WHERE WHAT IT READS IS OF BULK AT MOST 1048576: true; the input reads as it did. -/
def typOpsUptoRow : OpenClaim := { program := "ytcjamnbbedpebaa", sum := "3aef229ba83538fadf5d5517c9531408b14dcb23cde0823cc5109d112611d0b9", func := "publican/publicanlaw11.TypOps", spec := "typOps", unfollowed := true, recurses := true, apart := false, narrowed := true }
def TypOpsUptoSaid : Prop := typOpsUptoRow.holds Try.pinned (OpenSpec.upto typOpsSpec)

/-- 'publicanlaw11.TypNames', WHERE WHAT IT READS IS OF BULK AT MOST 1048576: true; the input reads as it did. -/
def typNamesUptoRow : OpenClaim := { program := "ytcjamnbbedpebaa", sum := "3aef229ba83538fadf5d5517c9531408b14dcb23cde0823cc5109d112611d0b9", func := "publican/publicanlaw11.TypNames", spec := "typNames", unfollowed := true, recurses := true, apart := false, narrowed := true }
def TypNamesUptoSaid : Prop := typNamesUptoRow.holds Try.pinned (OpenSpec.upto typNamesSpec)

/-- 'publicanlaw11.TypMany', WHERE WHAT IT READS IS OF BULK AT MOST 1048576: true; the input reads as it did. -/
def typManyUptoRow : OpenClaim := { program := "ytcjamnbbedpebaa", sum := "3aef229ba83538fadf5d5517c9531408b14dcb23cde0823cc5109d112611d0b9", func := "publican/publicanlaw11.TypMany", spec := "typMany", unfollowed := true, recurses := true, apart := false, narrowed := true }
def TypManyUptoSaid : Prop := typManyUptoRow.holds Try.pinned (OpenSpec.upto typManySpec)

end Rows
end Go.Proofs.Ytcjamnbbedpebaa
