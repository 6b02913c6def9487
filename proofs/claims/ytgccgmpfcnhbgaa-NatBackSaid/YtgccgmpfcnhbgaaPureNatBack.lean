/- The plain law of NatBack, in the form in which the row asks for it: for all inputs. -/
import Derived.Test.YtgccgmpfcnhbgaaN11
import Derived.Test.YtgccgmpfcnhbgaaPx11
import Derived.Test.YtgccgmpfcnhbgaaPx0
namespace Go.Proofs.Ytgccgmpfcnhbgaa.Pure
open Go.Proofs.Ytgccgmpfcnhbgaa.P
theorem NatBack : slipsticklaw01_NatBack.Pure := N.NatBack
end Go.Proofs.Ytgccgmpfcnhbgaa.Pure
