/-
  No cell of these rows narrows 'for every input' (looked for: loops, veiled, ifaces, maps, wideKeys, modest, calm, conditions, laid).
  DERIVED. THE GIVEN ROWS OF THIS SEAT. 9 by the template 'for every input the law returns true; each argument reads behind the call as it read before'; 0 by the template 'total and deterministic' (their statements: YthjhammjankekaaTotals.lean).
  GIVEN WITH THE SEED: the statements are not yours to turn. If you find one false, say at which input.
  Laid BY PROGRAM, IN A SANDBOX (cutbox-rows.mjs): the forced cells as the released guide's own fill.sh prints them over the translation 026308ac4d0738ef… (all of the seat's roots in one cut). By AI agents, Wed Nov 11 2026. No macro, syntax, notation, axiom, sorry.
-/
import Derived.Test.YthjhammjankekaaChecked
import GoSem.Claim
import GoSem.ClaimJoined
import GoSem.ClaimMapViews
import Derived.JoinedTies
import Derived.KernelRfl
namespace Go.Proofs.Ythjhammjankekaa
/- THE CELL 'sum', in the pinned program and in every row, IS THE sha256 OF THE DUMP (.gsa) THAT YthjhammjankekaaProg.lean LOADS. Nothing in Lean hashes anything: it is a label: what it is worth is what the hold of that sum in a sandbox is worth. -/
noncomputable def Try.pinned : Pinned := { name := "ythjhammjankekaa", sum := "026308ac4d0738ef894454fb128d7ad3c95318de8e8bdf330037d7a9092a7965", checked := Try.checked }
namespace Rows
def none {H : Type} : Left H := { results := [], args := [] }

/-- 'publicanlaw19.RateKnown': WHATEVER THE INPUT: true; the input reads as it did. -/
def rateKnownSpec : ChangeSpec := { name := "rateKnown", fn := fun _ => fun
  | [] => { results := [.lit (.bool true)], args := [] }
  | _ => none }
def rateKnownRow : OpenClaim := { program := "ythjhammjankekaa", sum := "026308ac4d0738ef894454fb128d7ad3c95318de8e8bdf330037d7a9092a7965", func := "publican/publicanlaw19.RateKnown", spec := "rateKnown", inPlace := ["slices.overlaps[publican/rate.Step]"], unfollowed := true, recurses := true, apart := false }
def RateKnownSaid : Prop := rateKnownRow.holds Try.pinned (OpenSpec.ofChange rateKnownSpec)

/-- ITS FALSE NEIGHBOUR: 'it returns false'. Refute it at one input. -/
def rateKnownWrong : ChangeSpec := { name := "rateKnown", fn := fun _ => fun
  | [] => { results := [.lit (.bool false)], args := [] }
  | _ => none }
def RateKnownWrongFalsely : Prop := rateKnownRow.holds Try.pinned (OpenSpec.ofChange rateKnownWrong)

/-- 'publicanlaw19.RateSays': WHATEVER THE INPUT: true; the input reads as it did. -/
def rateSaysSpec : ChangeSpec := { name := "rateSays", fn := fun _ => fun
  | [d1, d2, d3, d4] => { results := [.lit (.bool true)], args := [d1, d2, d3, d4] }
  | _ => none }
def rateSaysRow : OpenClaim := { program := "ythjhammjankekaa", sum := "026308ac4d0738ef894454fb128d7ad3c95318de8e8bdf330037d7a9092a7965", func := "publican/publicanlaw19.RateSays", spec := "rateSays", inPlace := ["slices.overlaps[publican/rate.Step]"], unfollowed := true, recurses := true, apart := false }
def RateSaysSaid : Prop := rateSaysRow.holds Try.pinned (OpenSpec.ofChange rateSaysSpec)

/-- ITS FALSE NEIGHBOUR: 'it returns false'. Refute it at one input. -/
def rateSaysWrong : ChangeSpec := { name := "rateSays", fn := fun _ => fun
  | [d1, d2, d3, d4] => { results := [.lit (.bool false)], args := [d1, d2, d3, d4] }
  | _ => none }
def RateSaysWrongFalsely : Prop := rateSaysRow.holds Try.pinned (OpenSpec.ofChange rateSaysWrong)

/-- 'publicanlaw19.RateDays': WHATEVER THE INPUT: true; the input reads as it did. -/
def rateDaysSpec : ChangeSpec := { name := "rateDays", fn := fun _ => fun
  | [d1, d2, d3, d4] => { results := [.lit (.bool true)], args := [d1, d2, d3, d4] }
  | _ => none }
def rateDaysRow : OpenClaim := { program := "ythjhammjankekaa", sum := "026308ac4d0738ef894454fb128d7ad3c95318de8e8bdf330037d7a9092a7965", func := "publican/publicanlaw19.RateDays", spec := "rateDays", inPlace := ["slices.overlaps[publican/rate.Step]"], unfollowed := true, recurses := true, apart := false }
def RateDaysSaid : Prop := rateDaysRow.holds Try.pinned (OpenSpec.ofChange rateDaysSpec)

/-- ITS FALSE NEIGHBOUR: 'it returns false'. Refute it at one input. -/
def rateDaysWrong : ChangeSpec := { name := "rateDays", fn := fun _ => fun
  | [d1, d2, d3, d4] => { results := [.lit (.bool false)], args := [d1, d2, d3, d4] }
  | _ => none }
def RateDaysWrongFalsely : Prop := rateDaysRow.holds Try.pinned (OpenSpec.ofChange rateDaysWrong)

/-- 'publicanlaw19.RateReplaces': WHATEVER THE INPUT: true; the input reads as it did. -/
def rateReplacesSpec : ChangeSpec := { name := "rateReplaces", fn := fun _ => fun
  | [d1, d2, d3] => { results := [.lit (.bool true)], args := [d1, d2, d3] }
  | _ => none }
def rateReplacesRow : OpenClaim := { program := "ythjhammjankekaa", sum := "026308ac4d0738ef894454fb128d7ad3c95318de8e8bdf330037d7a9092a7965", func := "publican/publicanlaw19.RateReplaces", spec := "rateReplaces", inPlace := ["slices.overlaps[publican/rate.Step]"], unfollowed := true, recurses := true, apart := false }
def RateReplacesSaid : Prop := rateReplacesRow.holds Try.pinned (OpenSpec.ofChange rateReplacesSpec)

/-- ITS FALSE NEIGHBOUR: 'it returns false'. Refute it at one input. -/
def rateReplacesWrong : ChangeSpec := { name := "rateReplaces", fn := fun _ => fun
  | [d1, d2, d3] => { results := [.lit (.bool false)], args := [d1, d2, d3] }
  | _ => none }
def RateReplacesWrongFalsely : Prop := rateReplacesRow.holds Try.pinned (OpenSpec.ofChange rateReplacesWrong)

/-- 'publicanlaw1.NumKnown': WHATEVER THE INPUT: true; the input reads as it did. -/
def numKnownSpec : ChangeSpec := { name := "numKnown", fn := fun _ => fun
  | [] => { results := [.lit (.bool true)], args := [] }
  | _ => none }
def numKnownRow : OpenClaim := { program := "ythjhammjankekaa", sum := "026308ac4d0738ef894454fb128d7ad3c95318de8e8bdf330037d7a9092a7965", func := "publican/publicanlaw1.NumKnown", spec := "numKnown", inPlace := ["math/bits.Sub64", "math/bits.Add64"], named := ["math/bits.divideError", "math/bits.overflowError"], apart := false }
def NumKnownSaid : Prop := numKnownRow.holds Try.pinned (OpenSpec.ofChange numKnownSpec)

/-- ITS FALSE NEIGHBOUR: 'it returns false'. Refute it at one input. -/
def numKnownWrong : ChangeSpec := { name := "numKnown", fn := fun _ => fun
  | [] => { results := [.lit (.bool false)], args := [] }
  | _ => none }
def NumKnownWrongFalsely : Prop := numKnownRow.holds Try.pinned (OpenSpec.ofChange numKnownWrong)

/-- 'publicanlaw1.NumChecked': WHATEVER THE INPUT: true; the input reads as it did. -/
def numCheckedSpec : ChangeSpec := { name := "numChecked", fn := fun _ => fun
  | [d1, d2, d3] => { results := [.lit (.bool true)], args := [d1, d2, d3] }
  | _ => none }
def numCheckedRow : OpenClaim := { program := "ythjhammjankekaa", sum := "026308ac4d0738ef894454fb128d7ad3c95318de8e8bdf330037d7a9092a7965", func := "publican/publicanlaw1.NumChecked", spec := "numChecked", inPlace := ["math/bits.Sub64", "math/bits.Add64"], named := ["math/bits.divideError", "math/bits.overflowError"], apart := false }
def NumCheckedSaid : Prop := numCheckedRow.holds Try.pinned (OpenSpec.ofChange numCheckedSpec)

/-- ITS FALSE NEIGHBOUR: 'it returns false'. Refute it at one input. -/
def numCheckedWrong : ChangeSpec := { name := "numChecked", fn := fun _ => fun
  | [d1, d2, d3] => { results := [.lit (.bool false)], args := [d1, d2, d3] }
  | _ => none }
def NumCheckedWrongFalsely : Prop := numCheckedRow.holds Try.pinned (OpenSpec.ofChange numCheckedWrong)

/-- 'publicanlaw1.NumWide': WHATEVER THE INPUT: true; the input reads as it did. -/
def numWideSpec : ChangeSpec := { name := "numWide", fn := fun _ => fun
  | [d1, d2, d3, d4] => { results := [.lit (.bool true)], args := [d1, d2, d3, d4] }
  | _ => none }
def numWideRow : OpenClaim := { program := "ythjhammjankekaa", sum := "026308ac4d0738ef894454fb128d7ad3c95318de8e8bdf330037d7a9092a7965", func := "publican/publicanlaw1.NumWide", spec := "numWide", inPlace := ["math/bits.Sub64", "math/bits.Add64"], named := ["math/bits.divideError", "math/bits.overflowError"], apart := false }
def NumWideSaid : Prop := numWideRow.holds Try.pinned (OpenSpec.ofChange numWideSpec)

/-- ITS FALSE NEIGHBOUR: 'it returns false'. Refute it at one input. -/
def numWideWrong : ChangeSpec := { name := "numWide", fn := fun _ => fun
  | [d1, d2, d3, d4] => { results := [.lit (.bool false)], args := [d1, d2, d3, d4] }
  | _ => none }
def NumWideWrongFalsely : Prop := numWideRow.holds Try.pinned (OpenSpec.ofChange numWideWrong)

/-- 'publicanlaw1.NumBack': WHATEVER THE INPUT: true; the input reads as it did. -/
def numBackSpec : ChangeSpec := { name := "numBack", fn := fun _ => fun
  | [d1, d2] => { results := [.lit (.bool true)], args := [d1, d2] }
  | _ => none }
def numBackRow : OpenClaim := { program := "ythjhammjankekaa", sum := "026308ac4d0738ef894454fb128d7ad3c95318de8e8bdf330037d7a9092a7965", func := "publican/publicanlaw1.NumBack", spec := "numBack", inPlace := ["math/bits.Sub64", "math/bits.Add64"], named := ["math/bits.divideError", "math/bits.overflowError"], apart := false }
def NumBackSaid : Prop := numBackRow.holds Try.pinned (OpenSpec.ofChange numBackSpec)

/-- ITS FALSE NEIGHBOUR: 'it returns false'. Refute it at one input. -/
def numBackWrong : ChangeSpec := { name := "numBack", fn := fun _ => fun
  | [d1, d2] => { results := [.lit (.bool false)], args := [d1, d2] }
  | _ => none }
def NumBackWrongFalsely : Prop := numBackRow.holds Try.pinned (OpenSpec.ofChange numBackWrong)

/-- 'publicanlaw1.NumMany': WHATEVER THE INPUT: true; the input reads as it did. -/
def numManySpec : ChangeSpec := { name := "numMany", fn := fun _ => fun
  | [d1, d2] => { results := [.lit (.bool true)], args := [d1, d2] }
  | _ => none }
def numManyRow : OpenClaim := { program := "ythjhammjankekaa", sum := "026308ac4d0738ef894454fb128d7ad3c95318de8e8bdf330037d7a9092a7965", func := "publican/publicanlaw1.NumMany", spec := "numMany", inPlace := ["math/bits.Sub64", "math/bits.Add64"], named := ["math/bits.divideError", "math/bits.overflowError"], apart := false }
def NumManySaid : Prop := numManyRow.holds Try.pinned (OpenSpec.ofChange numManySpec)

/-- ITS FALSE NEIGHBOUR: 'it returns false'. Refute it at one input. -/
def numManyWrong : ChangeSpec := { name := "numMany", fn := fun _ => fun
  | [d1, d2] => { results := [.lit (.bool false)], args := [d1, d2] }
  | _ => none }
def NumManyWrongFalsely : Prop := numManyRow.holds Try.pinned (OpenSpec.ofChange numManyWrong)

/- THE SECOND FORM. 'bulk': how many values and letters a reading holds, each counted each time it is reached (what is shared counts as often as it is met; a slice's spare places count too). A statement '..UptoSaid' is the law's where the arguments, and the package variables that the reading takes, are together of bulk at most 1048576: NARROWER than '..Said'. Prove '..Said' where nothing that the law and all that it calls make is longer than what came in: it says more and counts as full. Else prove '..UptoSaid'. A law counts once. -/
mutual
def uptoBulk {H : Type} : DataW H → Nat
  | .lit (.string bytes) => bytes.length + 1
  | .lit _ => 1
  | .nil => 1
  | .ptr d => uptoBulk d + 1
  | .slice elems spare => uptoBulkAll elems + uptoBulkAll spare + 1
  | .agg parts => uptoBulkAll parts + 1
  | .iface _ d => uptoBulk d + 1
  | .map entries => uptoBulkEntries entries + 1
  | .held _ => 1
def uptoBulkAll {H : Type} : List (DataW H) → Nat
  | [] => 0
  | d :: r => uptoBulk d + uptoBulkAll r
def uptoBulkEntries {H : Type} : List (Lit × DataW H) → Nat
  | [] => 0
  | x :: r => uptoBulkEntry x + uptoBulkEntries r
def uptoBulkEntry {H : Type} : Lit × DataW H → Nat
  | (.string bytes, d) => bytes.length + uptoBulk d + 1
  | (_, d) => uptoBulk d + 1
 end
def uptoSmall : (H : Type) → List (DataW H) → Bool := fun _ ds => decide (uptoBulkAll ds ≤ 1048576)
def OpenSpec.upto (s : _root_.Go.ChangeSpec) : _root_.Go.OpenSpec := { _root_.Go.OpenSpec.ofChange s with cond := some uptoSmall }

/-- 'publicanlaw19.RateKnown', WHERE WHAT IT READS IS OF BULK AT MOST 1048576: true; the input reads as it did. -/
def rateKnownUptoRow : OpenClaim := { program := "ythjhammjankekaa", sum := "026308ac4d0738ef894454fb128d7ad3c95318de8e8bdf330037d7a9092a7965", func := "publican/publicanlaw19.RateKnown", spec := "rateKnown", inPlace := ["slices.overlaps[publican/rate.Step]"], unfollowed := true, recurses := true, apart := false, narrowed := true }
def RateKnownUptoSaid : Prop := rateKnownUptoRow.holds Try.pinned (OpenSpec.upto rateKnownSpec)

/-- 'publicanlaw19.RateSays', WHERE WHAT IT READS IS OF BULK AT MOST 1048576: true; the input reads as it did. -/
def rateSaysUptoRow : OpenClaim := { program := "ythjhammjankekaa", sum := "026308ac4d0738ef894454fb128d7ad3c95318de8e8bdf330037d7a9092a7965", func := "publican/publicanlaw19.RateSays", spec := "rateSays", inPlace := ["slices.overlaps[publican/rate.Step]"], unfollowed := true, recurses := true, apart := false, narrowed := true }
def RateSaysUptoSaid : Prop := rateSaysUptoRow.holds Try.pinned (OpenSpec.upto rateSaysSpec)

/-- 'publicanlaw19.RateDays', WHERE WHAT IT READS IS OF BULK AT MOST 1048576: true; the input reads as it did. -/
def rateDaysUptoRow : OpenClaim := { program := "ythjhammjankekaa", sum := "026308ac4d0738ef894454fb128d7ad3c95318de8e8bdf330037d7a9092a7965", func := "publican/publicanlaw19.RateDays", spec := "rateDays", inPlace := ["slices.overlaps[publican/rate.Step]"], unfollowed := true, recurses := true, apart := false, narrowed := true }
def RateDaysUptoSaid : Prop := rateDaysUptoRow.holds Try.pinned (OpenSpec.upto rateDaysSpec)

/-- 'publicanlaw19.RateReplaces', WHERE WHAT IT READS IS OF BULK AT MOST 1048576: true; the input reads as it did. -/
def rateReplacesUptoRow : OpenClaim := { program := "ythjhammjankekaa", sum := "026308ac4d0738ef894454fb128d7ad3c95318de8e8bdf330037d7a9092a7965", func := "publican/publicanlaw19.RateReplaces", spec := "rateReplaces", inPlace := ["slices.overlaps[publican/rate.Step]"], unfollowed := true, recurses := true, apart := false, narrowed := true }
def RateReplacesUptoSaid : Prop := rateReplacesUptoRow.holds Try.pinned (OpenSpec.upto rateReplacesSpec)

/-- 'publicanlaw1.NumKnown', WHERE WHAT IT READS IS OF BULK AT MOST 1048576: true; the input reads as it did. -/
def numKnownUptoRow : OpenClaim := { program := "ythjhammjankekaa", sum := "026308ac4d0738ef894454fb128d7ad3c95318de8e8bdf330037d7a9092a7965", func := "publican/publicanlaw1.NumKnown", spec := "numKnown", inPlace := ["math/bits.Sub64", "math/bits.Add64"], named := ["math/bits.divideError", "math/bits.overflowError"], apart := false, narrowed := true }
def NumKnownUptoSaid : Prop := numKnownUptoRow.holds Try.pinned (OpenSpec.upto numKnownSpec)

/-- 'publicanlaw1.NumChecked', WHERE WHAT IT READS IS OF BULK AT MOST 1048576: true; the input reads as it did. -/
def numCheckedUptoRow : OpenClaim := { program := "ythjhammjankekaa", sum := "026308ac4d0738ef894454fb128d7ad3c95318de8e8bdf330037d7a9092a7965", func := "publican/publicanlaw1.NumChecked", spec := "numChecked", inPlace := ["math/bits.Sub64", "math/bits.Add64"], named := ["math/bits.divideError", "math/bits.overflowError"], apart := false, narrowed := true }
def NumCheckedUptoSaid : Prop := numCheckedUptoRow.holds Try.pinned (OpenSpec.upto numCheckedSpec)

/-- 'publicanlaw1.NumWide', WHERE WHAT IT READS IS OF BULK AT MOST 1048576: true; the input reads as it did. -/
def numWideUptoRow : OpenClaim := { program := "ythjhammjankekaa", sum := "026308ac4d0738ef894454fb128d7ad3c95318de8e8bdf330037d7a9092a7965", func := "publican/publicanlaw1.NumWide", spec := "numWide", inPlace := ["math/bits.Sub64", "math/bits.Add64"], named := ["math/bits.divideError", "math/bits.overflowError"], apart := false, narrowed := true }
def NumWideUptoSaid : Prop := numWideUptoRow.holds Try.pinned (OpenSpec.upto numWideSpec)

/-- 'publicanlaw1.NumBack', WHERE WHAT IT READS IS OF BULK AT MOST 1048576: true; the input reads as it did. -/
def numBackUptoRow : OpenClaim := { program := "ythjhammjankekaa", sum := "026308ac4d0738ef894454fb128d7ad3c95318de8e8bdf330037d7a9092a7965", func := "publican/publicanlaw1.NumBack", spec := "numBack", inPlace := ["math/bits.Sub64", "math/bits.Add64"], named := ["math/bits.divideError", "math/bits.overflowError"], apart := false, narrowed := true }
def NumBackUptoSaid : Prop := numBackUptoRow.holds Try.pinned (OpenSpec.upto numBackSpec)

/-- 'publicanlaw1.NumMany', WHERE WHAT IT READS IS OF BULK AT MOST 1048576: true; the input reads as it did. -/
def numManyUptoRow : OpenClaim := { program := "ythjhammjankekaa", sum := "026308ac4d0738ef894454fb128d7ad3c95318de8e8bdf330037d7a9092a7965", func := "publican/publicanlaw1.NumMany", spec := "numMany", inPlace := ["math/bits.Sub64", "math/bits.Add64"], named := ["math/bits.divideError", "math/bits.overflowError"], apart := false, narrowed := true }
def NumManyUptoSaid : Prop := numManyUptoRow.holds Try.pinned (OpenSpec.upto numManySpec)

end Rows
end Go.Proofs.Ythjhammjankekaa
