/- Words on memory, rows and regions that the contracts name, for every program; cut out of a text that the kit's print wrote. -/
import Derived.Test.YtkgeihbcikiedaaWTab
namespace Go.Proofs.YtkgeihbcikiedaaW.PrintLast
section
variable {P : Program} {ops : Array Oper} {Q : Exit → Act → World → Prop} {md : Region.Mode} {T : Bool × List (List Nat × List Nat)} {B : List Nat} {O : List Nat} {b : Nat → Bool} {i j n : Nat}
def Closed (T : List (List Nat × List Nat)) (O : List Nat) (b : Nat → Bool) : Prop := ∀ d r, T[d]? = some r → O.contains d = true → b d = true → ∀ n ∈ r.1, O.contains n = true → b n = true
end
end Go.Proofs.YtkgeihbcikiedaaW.PrintLast
