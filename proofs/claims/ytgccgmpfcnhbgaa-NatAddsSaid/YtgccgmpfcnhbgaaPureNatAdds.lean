/- The plain law of NatAdds, in the form in which the row asks for it: for all inputs. -/
import Derived.Test.YtgccgmpfcnhbgaaN9
import Derived.Test.YtgccgmpfcnhbgaaPx8
import Derived.Test.YtgccgmpfcnhbgaaPx0
namespace Go.Proofs.Ytgccgmpfcnhbgaa.Pure
open Go.Proofs.Ytgccgmpfcnhbgaa.P
theorem NatAdds : slipsticklaw01_NatAdds.Pure := N.NatAdds
end Go.Proofs.Ytgccgmpfcnhbgaa.Pure
