import Derived.Test.YthjhammjankekaaKNumK
namespace Go.Proofs.Ythjhammjankekaa.Pure
open Go.Proofs.Ythjhammjankekaa.PNum
theorem NumChecked : publicanlaw1_NumChecked.Pure := NumChecked_pure
end Go.Proofs.Ythjhammjankekaa.Pure
