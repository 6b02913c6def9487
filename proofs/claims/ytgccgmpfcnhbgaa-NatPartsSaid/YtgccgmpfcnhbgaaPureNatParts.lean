/- The plain law of NatParts, in the form in which the row asks for it: for all inputs. -/
import Derived.Test.YtgccgmpfcnhbgaaN12
import Derived.Test.YtgccgmpfcnhbgaaPx12
import Derived.Test.YtgccgmpfcnhbgaaPx0
namespace Go.Proofs.Ytgccgmpfcnhbgaa.Pure
open Go.Proofs.Ytgccgmpfcnhbgaa.P
theorem NatParts : slipsticklaw01_NatParts.Pure := N.NatParts
end Go.Proofs.Ytgccgmpfcnhbgaa.Pure
