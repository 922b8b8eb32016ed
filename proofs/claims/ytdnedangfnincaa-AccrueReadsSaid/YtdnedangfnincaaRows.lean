/-
  No cell of these rows narrows 'for every input' (looked for: loops, veiled, ifaces, maps, wideKeys, modest, calm, conditions, laid).
  DERIVED. THE GIVEN ROWS OF THIS SEAT. 6 by the template 'for every input the law returns true; each argument reads behind the call as it read before'; 0 by the template 'total and deterministic' (their statements: YtdnedangfnincaaTotals.lean).
  GIVEN WITH THE SEED: the statements are not yours to turn. If you find one false, say at which input.
  Laid BY PROGRAM, IN A SANDBOX (cutbox-rows.mjs): the forced cells as the released guide's own fill.sh prints them over the translation 22afd908ef85d5b6… (all of the seat's roots in one cut). By AI agents, Wed Nov 11 2026. No macro, syntax, notation, axiom, sorry.
-/
import Derived.Test.YtdnedangfnincaaChecked
import GoSem.Claim
import GoSem.ClaimJoined
import GoSem.ClaimMapViews
import Derived.JoinedTies
import Derived.KernelRfl
namespace Go.Proofs.Ytdnedangfnincaa
/- THE CELL 'sum', in the pinned program and in every row, IS THE sha256 OF THE DUMP (.gsa) THAT YtdnedangfnincaaProg.lean LOADS. Nothing in Lean hashes anything: it is a label: what it is worth is what the hold of that sum in a sandbox is worth. -/
noncomputable def Try.pinned : Pinned := { name := "ytdnedangfnincaa", sum := "22afd908ef85d5b634ce282f2b15120b6b2d3d532a1a2c1668d00c1e5e569687", checked := Try.checked }
namespace Rows
def none {H : Type} : Left H := { results := [], args := [] }

/-- 'publicanlaw20.AccrueKnown': WHATEVER THE INPUT: true; the input reads as it did. -/
def accrueKnownSpec : ChangeSpec := { name := "accrueKnown", fn := fun _ => fun
  | [] => { results := [.lit (.bool true)], args := [] }
  | _ => none }
def accrueKnownRow : OpenClaim := { program := "ytdnedangfnincaa", sum := "22afd908ef85d5b634ce282f2b15120b6b2d3d532a1a2c1668d00c1e5e569687", func := "publican/publicanlaw20.AccrueKnown", spec := "accrueKnown", inPlace := ["slices.overlaps[publican/rate.Step]", "math/bits.Add64", "math/bits.Sub64"], unfollowed := true, recurses := true, named := ["math/bits.divideError", "math/bits.overflowError"], apart := false }
def AccrueKnownSaid : Prop := accrueKnownRow.holds Try.pinned (OpenSpec.ofChange accrueKnownSpec)

/-- ITS FALSE NEIGHBOUR: 'it returns false'. Refute it at one input. -/
def accrueKnownWrong : ChangeSpec := { name := "accrueKnown", fn := fun _ => fun
  | [] => { results := [.lit (.bool false)], args := [] }
  | _ => none }
def AccrueKnownWrongFalsely : Prop := accrueKnownRow.holds Try.pinned (OpenSpec.ofChange accrueKnownWrong)

/-- 'publicanlaw20.AccruePlays': WHATEVER THE INPUT: true; the input reads as it did. -/
def accruePlaysSpec : ChangeSpec := { name := "accruePlays", fn := fun _ => fun
  | [d1, d2, d3] => { results := [.lit (.bool true)], args := [d1, d2, d3] }
  | _ => none }
def accruePlaysRow : OpenClaim := { program := "ytdnedangfnincaa", sum := "22afd908ef85d5b634ce282f2b15120b6b2d3d532a1a2c1668d00c1e5e569687", func := "publican/publicanlaw20.AccruePlays", spec := "accruePlays", inPlace := ["slices.overlaps[publican/rate.Step]", "math/bits.Add64", "math/bits.Sub64"], unfollowed := true, recurses := true, named := ["math/bits.divideError", "math/bits.overflowError"], apart := false }
def AccruePlaysSaid : Prop := accruePlaysRow.holds Try.pinned (OpenSpec.ofChange accruePlaysSpec)

/-- ITS FALSE NEIGHBOUR: 'it returns false'. Refute it at one input. -/
def accruePlaysWrong : ChangeSpec := { name := "accruePlays", fn := fun _ => fun
  | [d1, d2, d3] => { results := [.lit (.bool false)], args := [d1, d2, d3] }
  | _ => none }
def AccruePlaysWrongFalsely : Prop := accruePlaysRow.holds Try.pinned (OpenSpec.ofChange accruePlaysWrong)

/-- 'publicanlaw20.AccrueOften': WHATEVER THE INPUT: true; the input reads as it did. -/
def accrueOftenSpec : ChangeSpec := { name := "accrueOften", fn := fun _ => fun
  | [d1, d2, d3, d4] => { results := [.lit (.bool true)], args := [d1, d2, d3, d4] }
  | _ => none }
def accrueOftenRow : OpenClaim := { program := "ytdnedangfnincaa", sum := "22afd908ef85d5b634ce282f2b15120b6b2d3d532a1a2c1668d00c1e5e569687", func := "publican/publicanlaw20.AccrueOften", spec := "accrueOften", inPlace := ["slices.overlaps[publican/rate.Step]", "math/bits.Add64", "math/bits.Sub64"], unfollowed := true, recurses := true, named := ["math/bits.divideError", "math/bits.overflowError"], apart := false }
def AccrueOftenSaid : Prop := accrueOftenRow.holds Try.pinned (OpenSpec.ofChange accrueOftenSpec)

/-- ITS FALSE NEIGHBOUR: 'it returns false'. Refute it at one input. -/
def accrueOftenWrong : ChangeSpec := { name := "accrueOften", fn := fun _ => fun
  | [d1, d2, d3, d4] => { results := [.lit (.bool false)], args := [d1, d2, d3, d4] }
  | _ => none }
def AccrueOftenWrongFalsely : Prop := accrueOftenRow.holds Try.pinned (OpenSpec.ofChange accrueOftenWrong)

/-- 'publicanlaw20.AccrueReads': WHATEVER THE INPUT: true; the input reads as it did. -/
def accrueReadsSpec : ChangeSpec := { name := "accrueReads", fn := fun _ => fun
  | [d] => { results := [.lit (.bool true)], args := [d] }
  | _ => none }
def accrueReadsRow : OpenClaim := { program := "ytdnedangfnincaa", sum := "22afd908ef85d5b634ce282f2b15120b6b2d3d532a1a2c1668d00c1e5e569687", func := "publican/publicanlaw20.AccrueReads", spec := "accrueReads", inPlace := ["slices.overlaps[publican/rate.Step]", "math/bits.Add64", "math/bits.Sub64"], unfollowed := true, recurses := true, named := ["math/bits.divideError", "math/bits.overflowError"], apart := false }
def AccrueReadsSaid : Prop := accrueReadsRow.holds Try.pinned (OpenSpec.ofChange accrueReadsSpec)

/-- ITS FALSE NEIGHBOUR: 'it returns false'. Refute it at one input. -/
def accrueReadsWrong : ChangeSpec := { name := "accrueReads", fn := fun _ => fun
  | [d] => { results := [.lit (.bool false)], args := [d] }
  | _ => none }
def AccrueReadsWrongFalsely : Prop := accrueReadsRow.holds Try.pinned (OpenSpec.ofChange accrueReadsWrong)

/-- 'publicanlaw20.AccrueParts': WHATEVER THE INPUT: true; the input reads as it did. -/
def accruePartsSpec : ChangeSpec := { name := "accrueParts", fn := fun _ => fun
  | [d1, d2, d3, d4] => { results := [.lit (.bool true)], args := [d1, d2, d3, d4] }
  | _ => none }
def accruePartsRow : OpenClaim := { program := "ytdnedangfnincaa", sum := "22afd908ef85d5b634ce282f2b15120b6b2d3d532a1a2c1668d00c1e5e569687", func := "publican/publicanlaw20.AccrueParts", spec := "accrueParts", inPlace := ["slices.overlaps[publican/rate.Step]", "math/bits.Add64", "math/bits.Sub64"], unfollowed := true, recurses := true, named := ["math/bits.divideError", "math/bits.overflowError"], apart := false }
def AccruePartsSaid : Prop := accruePartsRow.holds Try.pinned (OpenSpec.ofChange accruePartsSpec)

/-- ITS FALSE NEIGHBOUR: 'it returns false'. Refute it at one input. -/
def accruePartsWrong : ChangeSpec := { name := "accrueParts", fn := fun _ => fun
  | [d1, d2, d3, d4] => { results := [.lit (.bool false)], args := [d1, d2, d3, d4] }
  | _ => none }
def AccruePartsWrongFalsely : Prop := accruePartsRow.holds Try.pinned (OpenSpec.ofChange accruePartsWrong)

/-- 'publicanlaw20.AccrueCopies': WHATEVER THE INPUT: true; the input reads as it did. -/
def accrueCopiesSpec : ChangeSpec := { name := "accrueCopies", fn := fun _ => fun
  | [d1, d2, d3] => { results := [.lit (.bool true)], args := [d1, d2, d3] }
  | _ => none }
def accrueCopiesRow : OpenClaim := { program := "ytdnedangfnincaa", sum := "22afd908ef85d5b634ce282f2b15120b6b2d3d532a1a2c1668d00c1e5e569687", func := "publican/publicanlaw20.AccrueCopies", spec := "accrueCopies", inPlace := ["slices.overlaps[publican/rate.Step]", "math/bits.Add64", "math/bits.Sub64"], unfollowed := true, recurses := true, named := ["math/bits.divideError", "math/bits.overflowError"], apart := false }
def AccrueCopiesSaid : Prop := accrueCopiesRow.holds Try.pinned (OpenSpec.ofChange accrueCopiesSpec)

/-- ITS FALSE NEIGHBOUR: 'it returns false'. Refute it at one input. -/
def accrueCopiesWrong : ChangeSpec := { name := "accrueCopies", fn := fun _ => fun
  | [d1, d2, d3] => { results := [.lit (.bool false)], args := [d1, d2, d3] }
  | _ => none }
def AccrueCopiesWrongFalsely : Prop := accrueCopiesRow.holds Try.pinned (OpenSpec.ofChange accrueCopiesWrong)

/- THE SECOND FORM. 'bulk': how many values and letters a reading holds, each counted each time it is reached (what is shared counts as often as it is met; a slice's spare places count too). A statement '..UptoSaid' is the law's where the arguments, and the package variables that the reading takes, are together of bulk at most 1048576: NARROWER than '..Said'. Prove '..Said' where nothing that the law and all that it calls make is longer than what came in: it says more and counts as full. Else prove '..UptoSaid'. A law counts once. -/
mutual
def uptoBulk {H : Type} : DataW H → Nat
  | .lit (.string bytes) => bytes.length + 1
  | .lit _ => 1
  | .nil => 1
  | .ptr d => uptoBulk d + 1
  | .slice elems spare => uptoBulkAll elems + uptoBulkAll spare + 1
  | .agg parts => uptoBulkAll parts + 1
  | .iface _ d => uptoBulk d + 1
  | .map entries => uptoBulkEntries entries + 1
  | .held _ => 1
def uptoBulkAll {H : Type} : List (DataW H) → Nat
  | [] => 0
  | d :: r => uptoBulk d + uptoBulkAll r
def uptoBulkEntries {H : Type} : List (Lit × DataW H) → Nat
  | [] => 0
  | x :: r => uptoBulkEntry x + uptoBulkEntries r
def uptoBulkEntry {H : Type} : Lit × DataW H → Nat
  | (.string bytes, d) => bytes.length + uptoBulk d + 1
  | (_, d) => uptoBulk d + 1
 end
def uptoSmall : (H : Type) → List (DataW H) → Bool := fun _ ds => decide (uptoBulkAll ds ≤ 1048576)
def OpenSpec.upto (s : _root_.Go.ChangeSpec) : _root_.Go.OpenSpec := { _root_.Go.OpenSpec.ofChange s with cond := some uptoSmall }

/-- 'publicanlaw20.AccrueKnown', WHERE WHAT IT READS IS OF BULK AT MOST 1048576: true; the input reads as it did. -/
def accrueKnownUptoRow : OpenClaim := { program := "ytdnedangfnincaa", sum := "22afd908ef85d5b634ce282f2b15120b6b2d3d532a1a2c1668d00c1e5e569687", func := "publican/publicanlaw20.AccrueKnown", spec := "accrueKnown", inPlace := ["slices.overlaps[publican/rate.Step]", "math/bits.Add64", "math/bits.Sub64"], unfollowed := true, recurses := true, named := ["math/bits.divideError", "math/bits.overflowError"], apart := false, narrowed := true }
def AccrueKnownUptoSaid : Prop := accrueKnownUptoRow.holds Try.pinned (OpenSpec.upto accrueKnownSpec)

/-- 'publicanlaw20.AccruePlays', WHERE WHAT IT READS IS OF BULK AT MOST 1048576: true; the input reads as it did. -/
def accruePlaysUptoRow : OpenClaim := { program := "ytdnedangfnincaa", sum := "22afd908ef85d5b634ce282f2b15120b6b2d3d532a1a2c1668d00c1e5e569687", func := "publican/publicanlaw20.AccruePlays", spec := "accruePlays", inPlace := ["slices.overlaps[publican/rate.Step]", "math/bits.Add64", "math/bits.Sub64"], unfollowed := true, recurses := true, named := ["math/bits.divideError", "math/bits.overflowError"], apart := false, narrowed := true }
def AccruePlaysUptoSaid : Prop := accruePlaysUptoRow.holds Try.pinned (OpenSpec.upto accruePlaysSpec)

/-- 'publicanlaw20.AccrueOften', WHERE WHAT IT READS IS OF BULK AT MOST 1048576: true; the input reads as it did. -/
def accrueOftenUptoRow : OpenClaim := { program := "ytdnedangfnincaa", sum := "22afd908ef85d5b634ce282f2b15120b6b2d3d532a1a2c1668d00c1e5e569687", func := "publican/publicanlaw20.AccrueOften", spec := "accrueOften", inPlace := ["slices.overlaps[publican/rate.Step]", "math/bits.Add64", "math/bits.Sub64"], unfollowed := true, recurses := true, named := ["math/bits.divideError", "math/bits.overflowError"], apart := false, narrowed := true }
def AccrueOftenUptoSaid : Prop := accrueOftenUptoRow.holds Try.pinned (OpenSpec.upto accrueOftenSpec)

/-- 'publicanlaw20.AccrueReads', WHERE WHAT IT READS IS OF BULK AT MOST 1048576: true; the input reads as it did. -/
def accrueReadsUptoRow : OpenClaim := { program := "ytdnedangfnincaa", sum := "22afd908ef85d5b634ce282f2b15120b6b2d3d532a1a2c1668d00c1e5e569687", func := "publican/publicanlaw20.AccrueReads", spec := "accrueReads", inPlace := ["slices.overlaps[publican/rate.Step]", "math/bits.Add64", "math/bits.Sub64"], unfollowed := true, recurses := true, named := ["math/bits.divideError", "math/bits.overflowError"], apart := false, narrowed := true }
def AccrueReadsUptoSaid : Prop := accrueReadsUptoRow.holds Try.pinned (OpenSpec.upto accrueReadsSpec)

/-- 'publicanlaw20.AccrueParts', WHERE WHAT IT READS IS OF BULK AT MOST 1048576: true; the input reads as it did. -/
def accruePartsUptoRow : OpenClaim := { program := "ytdnedangfnincaa", sum := "22afd908ef85d5b634ce282f2b15120b6b2d3d532a1a2c1668d00c1e5e569687", func := "publican/publicanlaw20.AccrueParts", spec := "accrueParts", inPlace := ["slices.overlaps[publican/rate.Step]", "math/bits.Add64", "math/bits.Sub64"], unfollowed := true, recurses := true, named := ["math/bits.divideError", "math/bits.overflowError"], apart := false, narrowed := true }
def AccruePartsUptoSaid : Prop := accruePartsUptoRow.holds Try.pinned (OpenSpec.upto accruePartsSpec)

/-- 'publicanlaw20.AccrueCopies', WHERE WHAT IT READS IS OF BULK AT MOST 1048576: true; the input reads as it did. -/
def accrueCopiesUptoRow : OpenClaim := { program := "ytdnedangfnincaa", sum := "22afd908ef85d5b634ce282f2b15120b6b2d3d532a1a2c1668d00c1e5e569687", func := "publican/publicanlaw20.AccrueCopies", spec := "accrueCopies", inPlace := ["slices.overlaps[publican/rate.Step]", "math/bits.Add64", "math/bits.Sub64"], unfollowed := true, recurses := true, named := ["math/bits.divideError", "math/bits.overflowError"], apart := false, narrowed := true }
def AccrueCopiesUptoSaid : Prop := accrueCopiesUptoRow.holds Try.pinned (OpenSpec.upto accrueCopiesSpec)

end Rows
end Go.Proofs.Ytdnedangfnincaa
