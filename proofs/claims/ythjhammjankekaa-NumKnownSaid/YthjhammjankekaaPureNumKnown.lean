/- The examples of chapter 1 and its refusals, reckoned by the kernel: the printed function answers true. No condition. -/
import Derived.Test.YthjhammjankekaaPNum6
namespace Go.Proofs.Ythjhammjankekaa.Pure
open Go.RowKit Go.Proofs.Ythjhammjankekaa.PNum Go.Proofs.YthjhammjankekaaW.PrintWords Go.Proofs.YthjhammjankekaaW.PrintLast

theorem NumKnown : publicanlaw1_NumKnown.Pure := ⟨8, by decide +kernel⟩

end Go.Proofs.Ythjhammjankekaa.Pure
