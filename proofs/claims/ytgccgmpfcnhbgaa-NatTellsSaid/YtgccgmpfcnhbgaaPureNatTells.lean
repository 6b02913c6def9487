/- The plain law of NatTells, in the form in which the row asks for it: for all inputs. -/
import Derived.Test.YtgccgmpfcnhbgaaN10
import Derived.Test.YtgccgmpfcnhbgaaPx9
import Derived.Test.YtgccgmpfcnhbgaaPx0
namespace Go.Proofs.Ytgccgmpfcnhbgaa.Pure
open Go.Proofs.Ytgccgmpfcnhbgaa.P
theorem NatTells : slipsticklaw01_NatTells.Pure := N.NatTells
end Go.Proofs.Ytgccgmpfcnhbgaa.Pure
