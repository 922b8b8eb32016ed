import Derived.Test.YtgbmkpbackdknaaDoorProg
import Derived.Test.YtgbmkpbackdknaaDoorAbsY
import Derived.Shelf.SlMaps.Clone
namespace Go.Proofs.YtgbmkpbackdknaaDoor.AbsDueK
open Go Go.Abs Go.Proofs
set_option linter.unusedVariables false
/-! maps.Clone's contract (of the shelf) at this dump -/
def cloneRen : Go.Shelf.Ren := ⟨fun | 5 => 56 | 7 => 65 | n => n, fun | 20 => 20 | 23 => 76 | 25 => 9 | 3 => 2 | 4 => 4 | n => n, fun | n => n⟩
theorem cloneLays : Go.Proofs.SlLaysW.n5 Tryd.prog cloneRen := {
  mixed := by kernel_rfl
  f5 := ⟨"maps.Clone[map[string]int64,string,int64]", by decide, Tryd.func56.trans (congrArg some (by kernel_rfl))⟩
  f7 := Tryd.func65.trans (congrArg some (by kernel_rfl))
  t4 := Tryd.underlying4
  a4 := Tryd.isAgg4
  z4 := Tryd.sizeOf4
  v4 := Tryd.zeroValue4
  t20 := Tryd.underlying20
  a20 := Tryd.isAgg20
  z20 := Tryd.sizeOf20
  v20 := Tryd.zeroValue20
  t23 := Tryd.underlying76
  a23 := Tryd.isAgg76
  z23 := Tryd.sizeOf76
  v23 := Tryd.zeroValue76 }
theorem cloneOk : RecOk Tryd.prog (gl1 2) (cloneK 56 noKnown) :=
  cloneK_ok ⟨_, Tryd.func56, by kernel_rfl, by kernel_rfl⟩ noKnown_ok (fun b es clock w h => AnyW.maps_Clone cloneLays b es clock w h) (fun w => AnyW.maps_Clone_nil cloneLays w)
end Go.Proofs.YtgbmkpbackdknaaDoor.AbsDueK
