/-
  No cell of these rows narrows 'for every input' (looked for: loops, veiled, ifaces, maps, wideKeys, modest, calm, conditions, laid).
  DERIVED. THE GIVEN ROWS OF THIS SEAT. 3 by the template 'for every input the law returns true; each argument reads behind the call as it read before'; 0 by the template 'total and deterministic' (their statements: YtoabiapkdnibkaaGreatTotals.lean).
  GIVEN WITH THE SEED: the statements are not yours to turn. If you find one false, say at which input.
  Laid BY PROGRAM, IN A SANDBOX (cutbox-rows.mjs): the forced cells as the released guide's own fill.sh prints them over the translation 796385dc968c524a… (all of the seat's roots in one cut). By AI agents, Wed Nov 11 2026. No macro, syntax, notation, axiom, sorry.
-/
import Derived.Test.YtoabiapkdnibkaaGreatChecked
import GoSem.Claim
import GoSem.ClaimJoined
import GoSem.ClaimMapViews
import Derived.JoinedTies
import Derived.KernelRfl
namespace Go.Proofs.YtoabiapkdnibkaaGreat
/- THE CELL 'sum', in the pinned program and in every row, IS THE sha256 OF THE DUMP (.gsa) THAT YtoabiapkdnibkaaGreatProg.lean LOADS. Nothing in Lean hashes anything: it is a label: what it is worth is what the hold of that sum in a sandbox is worth. -/
noncomputable def Tryz.pinned : Pinned := { name := "ytoabiapkdnibkaagreat", sum := "796385dc968c524a97c2e80d05b6b790a3bda1e952ed4e7eb701ed37f99f0369", checked := Tryz.checked }
namespace Rows
def none {H : Type} : Left H := { results := [], args := [] }

/-- 'publicanlaw18.MachKnown': WHATEVER THE INPUT: true; the input reads as it did. -/
def machKnownSpec : ChangeSpec := { name := "machKnown", fn := fun _ => fun
  | [] => { results := [.lit (.bool true)], args := [] }
  | _ => none }
def machKnownRow : OpenClaim := { program := "ytoabiapkdnibkaagreat", sum := "796385dc968c524a97c2e80d05b6b790a3bda1e952ed4e7eb701ed37f99f0369", func := "publican/publicanlaw18.MachKnown", spec := "machKnown", inPlace := ["math/bits.Sub64", "math/bits.Add64"], unfollowed := true, recurses := true, named := ["math/bits.divideError", "math/bits.overflowError"], apart := false }
def MachKnownSaid : Prop := machKnownRow.holds Tryz.pinned (OpenSpec.ofChange machKnownSpec)

/-- ITS FALSE NEIGHBOUR: 'it returns false'. Refute it at one input. -/
def machKnownWrong : ChangeSpec := { name := "machKnown", fn := fun _ => fun
  | [] => { results := [.lit (.bool false)], args := [] }
  | _ => none }
def MachKnownWrongFalsely : Prop := machKnownRow.holds Tryz.pinned (OpenSpec.ofChange machKnownWrong)

/-- 'publicanlaw18.MachRuns': WHATEVER THE INPUT: true; the input reads as it did. -/
def machRunsSpec : ChangeSpec := { name := "machRuns", fn := fun _ => fun
  | [d1, d2] => { results := [.lit (.bool true)], args := [d1, d2] }
  | _ => none }
def machRunsRow : OpenClaim := { program := "ytoabiapkdnibkaagreat", sum := "796385dc968c524a97c2e80d05b6b790a3bda1e952ed4e7eb701ed37f99f0369", func := "publican/publicanlaw18.MachRuns", spec := "machRuns", inPlace := ["math/bits.Sub64", "math/bits.Add64"], unfollowed := true, recurses := true, named := ["math/bits.divideError", "math/bits.overflowError"], apart := false }
def MachRunsSaid : Prop := machRunsRow.holds Tryz.pinned (OpenSpec.ofChange machRunsSpec)

/-- ITS FALSE NEIGHBOUR: 'it returns false'. Refute it at one input. -/
def machRunsWrong : ChangeSpec := { name := "machRuns", fn := fun _ => fun
  | [d1, d2] => { results := [.lit (.bool false)], args := [d1, d2] }
  | _ => none }
def MachRunsWrongFalsely : Prop := machRunsRow.holds Tryz.pinned (OpenSpec.ofChange machRunsWrong)

/-- 'publicanlaw18.MachSpoilt': WHATEVER THE INPUT: true; the input reads as it did. -/
def machSpoiltSpec : ChangeSpec := { name := "machSpoilt", fn := fun _ => fun
  | [d1, d2, d3, d4] => { results := [.lit (.bool true)], args := [d1, d2, d3, d4] }
  | _ => none }
def machSpoiltRow : OpenClaim := { program := "ytoabiapkdnibkaagreat", sum := "796385dc968c524a97c2e80d05b6b790a3bda1e952ed4e7eb701ed37f99f0369", func := "publican/publicanlaw18.MachSpoilt", spec := "machSpoilt", inPlace := ["math/bits.Sub64", "math/bits.Add64"], unfollowed := true, recurses := true, named := ["math/bits.divideError", "math/bits.overflowError"], apart := false }
def MachSpoiltSaid : Prop := machSpoiltRow.holds Tryz.pinned (OpenSpec.ofChange machSpoiltSpec)

/-- ITS FALSE NEIGHBOUR: 'it returns false'. Refute it at one input. -/
def machSpoiltWrong : ChangeSpec := { name := "machSpoilt", fn := fun _ => fun
  | [d1, d2, d3, d4] => { results := [.lit (.bool false)], args := [d1, d2, d3, d4] }
  | _ => none }
def MachSpoiltWrongFalsely : Prop := machSpoiltRow.holds Tryz.pinned (OpenSpec.ofChange machSpoiltWrong)

/- THE SECOND FORM. 'bulk': how many values and letters a reading holds, each counted each time it is reached (what is shared counts as often as it is met; a slice's spare places count too). A statement '..UptoSaid' is the law's where the arguments, and the package variables that the reading takes, are together of bulk at most 1048576: NARROWER than '..Said'. Prove '..Said' where nothing that the law and all that it calls make is longer than what came in: it says more and counts as full. Else prove '..UptoSaid'. A law counts once. -/
mutual
def uptoBulk {H : Type} : DataW H → Nat
  | .lit (.string bytes) => bytes.length + 1
  | .lit _ => 1
  | .nil => 1
  | .ptr d => uptoBulk d + 1
  | .slice elems spare => uptoBulkAll elems + uptoBulkAll spare + 1
  | .agg parts => uptoBulkAll parts + 1
  | .iface _ d => uptoBulk d + 1
  | .map entries => uptoBulkEntries entries + 1
  | .held _ => 1
def uptoBulkAll {H : Type} : List (DataW H) → Nat
  | [] => 0
  | d :: r => uptoBulk d + uptoBulkAll r
def uptoBulkEntries {H : Type} : List (Lit × DataW H) → Nat
  | [] => 0
  | x :: r => uptoBulkEntry x + uptoBulkEntries r
def uptoBulkEntry {H : Type} : Lit × DataW H → Nat
  | (.string bytes, d) => bytes.length + uptoBulk d + 1
  | (_, d) => uptoBulk d + 1
 end
def uptoSmall : (H : Type) → List (DataW H) → Bool := fun _ ds => decide (uptoBulkAll ds ≤ 1048576)
def OpenSpec.upto (s : _root_.Go.ChangeSpec) : _root_.Go.OpenSpec := { _root_.Go.OpenSpec.ofChange s with cond := some uptoSmall }

/-- 'publicanlaw18.MachKnown', WHERE WHAT IT READS IS OF BULK AT MOST 1048576: true; the input reads as it did. -/
def machKnownUptoRow : OpenClaim := { program := "ytoabiapkdnibkaagreat", sum := "796385dc968c524a97c2e80d05b6b790a3bda1e952ed4e7eb701ed37f99f0369", func := "publican/publicanlaw18.MachKnown", spec := "machKnown", inPlace := ["math/bits.Sub64", "math/bits.Add64"], unfollowed := true, recurses := true, named := ["math/bits.divideError", "math/bits.overflowError"], apart := false, narrowed := true }
def MachKnownUptoSaid : Prop := machKnownUptoRow.holds Tryz.pinned (OpenSpec.upto machKnownSpec)

/-- 'publicanlaw18.MachRuns', WHERE WHAT IT READS IS OF BULK AT MOST 1048576: true; the input reads as it did. -/
def machRunsUptoRow : OpenClaim := { program := "ytoabiapkdnibkaagreat", sum := "796385dc968c524a97c2e80d05b6b790a3bda1e952ed4e7eb701ed37f99f0369", func := "publican/publicanlaw18.MachRuns", spec := "machRuns", inPlace := ["math/bits.Sub64", "math/bits.Add64"], unfollowed := true, recurses := true, named := ["math/bits.divideError", "math/bits.overflowError"], apart := false, narrowed := true }
def MachRunsUptoSaid : Prop := machRunsUptoRow.holds Tryz.pinned (OpenSpec.upto machRunsSpec)

/-- 'publicanlaw18.MachSpoilt', WHERE WHAT IT READS IS OF BULK AT MOST 1048576: true; the input reads as it did. -/
def machSpoiltUptoRow : OpenClaim := { program := "ytoabiapkdnibkaagreat", sum := "796385dc968c524a97c2e80d05b6b790a3bda1e952ed4e7eb701ed37f99f0369", func := "publican/publicanlaw18.MachSpoilt", spec := "machSpoilt", inPlace := ["math/bits.Sub64", "math/bits.Add64"], unfollowed := true, recurses := true, named := ["math/bits.divideError", "math/bits.overflowError"], apart := false, narrowed := true }
def MachSpoiltUptoSaid : Prop := machSpoiltUptoRow.holds Tryz.pinned (OpenSpec.upto machSpoiltSpec)

end Rows
end Go.Proofs.YtoabiapkdnibkaaGreat
