/- The plain law of NatTurned, in the form in which the row asks for it: for all inputs. -/
import Derived.Test.YtgccgmpfcnhbgaaN11
import Derived.Test.YtgccgmpfcnhbgaaPx11
import Derived.Test.YtgccgmpfcnhbgaaPx0
namespace Go.Proofs.Ytgccgmpfcnhbgaa.Pure
open Go.Proofs.Ytgccgmpfcnhbgaa.P
theorem NatTurned : slipsticklaw01_NatTurned.Pure := N.NatTurned
end Go.Proofs.Ytgccgmpfcnhbgaa.Pure
