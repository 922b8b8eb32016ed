/- Sums of products, added from the front and from the back, are the same number of two limbs (or a sum was refused): for all lists of at most 30, others answer true at once. No condition. -/
import Derived.Test.YthjhammjankekaaNumM
namespace Go.Proofs.Ythjhammjankekaa.Pure
open Go.Proofs.Ythjhammjankekaa.PNum
theorem NumMany : publicanlaw1_NumMany.Pure := NumMany_pure
end Go.Proofs.Ythjhammjankekaa.Pure
