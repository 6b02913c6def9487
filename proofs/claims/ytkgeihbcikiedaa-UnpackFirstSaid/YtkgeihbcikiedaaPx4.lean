/- The types that the contracts name, and what is shown of them, at all inputs where their Lean functions tell a result; cut out of what a changed copy of the kit's print wrote. -/
import Derived.Test.YtkgeihbcikiedaaPx0
import Derived.Test.YtkgeihbcikiedaaPx3
namespace Go.Proofs.Ytkgeihbcikiedaa.P
open Go.RowKit Go.Proofs.YtkgeihbcikiedaaW.PrintWords Go.Proofs.YtkgeihbcikiedaaW.PrintLast Go.Proofs.YtkgeihbcikiedaaW.PrintMore
attribute [local go_sem] dM dN eu eB dx dz dO dP
set_option linter.unusedVariables false
set_option linter.unusedSimpArgs false
mutual
def cu.l0 : Nat → Int → List (S92) → List (S94) → List (S94) → Option (Bool)
 | 0, _, _, _, _ => none
 | k + 1, x3, jr, mI, mJ => if x3 < (jr.length : Int) then (if 0 ≤ x3 then ((bu.f k ((aM jr x3).f0) ((aM jr x3).f1) ((aM jr x3).f2) ((aM jr x3).f3) (jr.length : Int)).bind fun ajl => (if ajl = true then (cu.l0 k (wrap64 (x3 + 1)) jr mI mJ) else (some false))) else (none)) else ((some (([] : List (S94)) : List (S94))).bind fun adJ => (if adJ.length + mI.length < 3518437208883 then ((some (adJ ++ mI : List (S94))).bind fun y159 => (if y159.length + mJ.length < 3518437208883 then (cu.l1 k (y159 ++ mJ) 0 jr mI mJ) else (none))) else (none)))
def cu.l1 : Nat → List (S94) → Int → List (S92) → List (S94) → List (S94) → Option (Bool)
 | 0, _, _, _, _, _ => none
 | k + 1, x4, x5, jr, mI, mJ => if x5 < (x4.length : Int) then (if 0 ≤ x5 then (if (((bE x4 x5).f1).length : Int) = 0 then (some false) else (cu.l2 k x4 x5 0 jr mI mJ)) else (none)) else (some true)
def cu.l2 : Nat → List (S94) → Int → Int → List (S92) → List (S94) → List (S94) → Option (Bool)
 | 0, _, _, _, _, _, _ => none
 | k + 1, x4, x5, x6, jr, mI, mJ => if 0 ≤ x5 then (if x5 < (x4.length : Int) then (if x6 < (((bE x4 x5).f1).length : Int) then (if 0 ≤ x6 then (if (rd ((bE x4 x5).f1) x6) < 0 then (some false) else (if (rd ((bE x4 x5).f1) x6) ≥ (jr.length : Int) then (some false) else (cu.l2 k x4 x5 (wrap64 (x6 + 1)) jr mI mJ))) else (none)) else (cu.l1 k x4 (wrap64 (x5 + 1)) jr mI mJ)) else (none)) else (none)
end
end Go.Proofs.Ytkgeihbcikiedaa.P
