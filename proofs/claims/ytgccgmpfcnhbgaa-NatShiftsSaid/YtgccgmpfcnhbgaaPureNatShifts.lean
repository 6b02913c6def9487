/- The plain law of NatShifts, in the form in which the row asks for it: for all inputs. -/
import Derived.Test.YtgccgmpfcnhbgaaN10
import Derived.Test.YtgccgmpfcnhbgaaPx10
import Derived.Test.YtgccgmpfcnhbgaaPx0
namespace Go.Proofs.Ytgccgmpfcnhbgaa.Pure
open Go.Proofs.Ytgccgmpfcnhbgaa.P
theorem NatShifts : slipsticklaw01_NatShifts.Pure := N.NatShifts
end Go.Proofs.Ytgccgmpfcnhbgaa.Pure
