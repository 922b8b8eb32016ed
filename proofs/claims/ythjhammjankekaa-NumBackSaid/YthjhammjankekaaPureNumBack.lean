/- A sum less one of its parts is the other; a quotient times the divisor is at most the number and one more is above it: for all integers of 64 bits. No condition. -/
import Derived.Test.YthjhammjankekaaNumE
namespace Go.Proofs.Ythjhammjankekaa.Pure
open Go.Proofs.Ythjhammjankekaa.PNum
theorem NumBack : publicanlaw1_NumBack.Pure := NumBack_pure
end Go.Proofs.Ythjhammjankekaa.Pure
