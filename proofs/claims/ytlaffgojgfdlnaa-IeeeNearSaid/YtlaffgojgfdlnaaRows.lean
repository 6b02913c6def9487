/-
  No cell of these rows narrows 'for every input' (looked for: loops, veiled, ifaces, maps, wideKeys, modest, calm, conditions, laid).
  DERIVED. THE GIVEN ROWS OF THIS SEAT. 8 by the template 'for every input the law returns true; each argument reads behind the call as it read before'; 0 by the template 'total and deterministic' (their statements: YtlaffgojgfdlnaaTotals.lean).
  GIVEN WITH THE SEED: the statements are not yours to turn. If you find one false, say at which input.
  Laid BY PROGRAM, IN A SANDBOX (cutbox-rows.mjs): the forced cells as the released guide's own fill.sh prints them over the translation 23902e040b1feddd… (all of the seat's roots in one cut). By AI agents, Wed Nov 11 2026. No macro, syntax, notation, axiom, sorry.
-/
import Derived.Test.YtlaffgojgfdlnaaChecked
import GoSem.Claim
import GoSem.ClaimJoined
import GoSem.ClaimMapViews
import Derived.JoinedTies
import Derived.KernelRfl
namespace Go.Proofs.Ytlaffgojgfdlnaa
/- THE CELL 'sum', in the pinned program and in every row, IS THE sha256 OF THE DUMP (.gsa) THAT YtlaffgojgfdlnaaProg.lean LOADS. Nothing in Lean hashes anything: it is a label: what it is worth is what the hold of that sum in a sandbox is worth. -/
noncomputable def Try.pinned : Pinned := { name := "ytlaffgojgfdlnaa", sum := "23902e040b1fedddf1092abe3a7904aa3f67e68979add88e30f9f2cf5ab10a9f", checked := Try.checked }
namespace Rows
def none {H : Type} : Left H := { results := [], args := [] }

/-- 'slipsticklaw05.IeeeNear': WHATEVER THE INPUT: true; the input reads as it did. -/
def ieeeNearSpec : ChangeSpec := { name := "ieeeNear", fn := fun _ => fun
  | [d1, d2, d3, d4] => { results := [.lit (.bool true)], args := [d1, d2, d3, d4] }
  | _ => none }
def ieeeNearRow : OpenClaim := { program := "ytlaffgojgfdlnaa", sum := "23902e040b1fedddf1092abe3a7904aa3f67e68979add88e30f9f2cf5ab10a9f", func := "slipstick/slipsticklaw05.IeeeNear", spec := "ieeeNear", unfollowed := true, recurses := true, apart := false }
def IeeeNearSaid : Prop := ieeeNearRow.holds Try.pinned (OpenSpec.ofChange ieeeNearSpec)

/-- ITS FALSE NEIGHBOUR: 'it returns false'. Refute it at one input. -/
def ieeeNearWrong : ChangeSpec := { name := "ieeeNear", fn := fun _ => fun
  | [d1, d2, d3, d4] => { results := [.lit (.bool false)], args := [d1, d2, d3, d4] }
  | _ => none }
def IeeeNearWrongFalsely : Prop := ieeeNearRow.holds Try.pinned (OpenSpec.ofChange ieeeNearWrong)

/-- 'slipsticklaw05.IeeeExact': WHATEVER THE INPUT: true; the input reads as it did. -/
def ieeeExactSpec : ChangeSpec := { name := "ieeeExact", fn := fun _ => fun
  | [d1, d2, d3, d4] => { results := [.lit (.bool true)], args := [d1, d2, d3, d4] }
  | _ => none }
def ieeeExactRow : OpenClaim := { program := "ytlaffgojgfdlnaa", sum := "23902e040b1fedddf1092abe3a7904aa3f67e68979add88e30f9f2cf5ab10a9f", func := "slipstick/slipsticklaw05.IeeeExact", spec := "ieeeExact", unfollowed := true, recurses := true, apart := false }
def IeeeExactSaid : Prop := ieeeExactRow.holds Try.pinned (OpenSpec.ofChange ieeeExactSpec)

/-- ITS FALSE NEIGHBOUR: 'it returns false'. Refute it at one input. -/
def ieeeExactWrong : ChangeSpec := { name := "ieeeExact", fn := fun _ => fun
  | [d1, d2, d3, d4] => { results := [.lit (.bool false)], args := [d1, d2, d3, d4] }
  | _ => none }
def IeeeExactWrongFalsely : Prop := ieeeExactRow.holds Try.pinned (OpenSpec.ofChange ieeeExactWrong)

/-- 'slipsticklaw05.IeeeTurned': WHATEVER THE INPUT: true; the input reads as it did. -/
def ieeeTurnedSpec : ChangeSpec := { name := "ieeeTurned", fn := fun _ => fun
  | [d1, d2, d3, d4] => { results := [.lit (.bool true)], args := [d1, d2, d3, d4] }
  | _ => none }
def ieeeTurnedRow : OpenClaim := { program := "ytlaffgojgfdlnaa", sum := "23902e040b1fedddf1092abe3a7904aa3f67e68979add88e30f9f2cf5ab10a9f", func := "slipstick/slipsticklaw05.IeeeTurned", spec := "ieeeTurned", unfollowed := true, recurses := true, apart := false }
def IeeeTurnedSaid : Prop := ieeeTurnedRow.holds Try.pinned (OpenSpec.ofChange ieeeTurnedSpec)

/-- ITS FALSE NEIGHBOUR: 'it returns false'. Refute it at one input. -/
def ieeeTurnedWrong : ChangeSpec := { name := "ieeeTurned", fn := fun _ => fun
  | [d1, d2, d3, d4] => { results := [.lit (.bool false)], args := [d1, d2, d3, d4] }
  | _ => none }
def IeeeTurnedWrongFalsely : Prop := ieeeTurnedRow.holds Try.pinned (OpenSpec.ofChange ieeeTurnedWrong)

/-- 'slipsticklaw05.IeeeAgain': WHATEVER THE INPUT: true; the input reads as it did. -/
def ieeeAgainSpec : ChangeSpec := { name := "ieeeAgain", fn := fun _ => fun
  | [d1, d2, d3, d4, d5] => { results := [.lit (.bool true)], args := [d1, d2, d3, d4, d5] }
  | _ => none }
def ieeeAgainRow : OpenClaim := { program := "ytlaffgojgfdlnaa", sum := "23902e040b1fedddf1092abe3a7904aa3f67e68979add88e30f9f2cf5ab10a9f", func := "slipstick/slipsticklaw05.IeeeAgain", spec := "ieeeAgain", unfollowed := true, recurses := true, apart := false }
def IeeeAgainSaid : Prop := ieeeAgainRow.holds Try.pinned (OpenSpec.ofChange ieeeAgainSpec)

/-- ITS FALSE NEIGHBOUR: 'it returns false'. Refute it at one input. -/
def ieeeAgainWrong : ChangeSpec := { name := "ieeeAgain", fn := fun _ => fun
  | [d1, d2, d3, d4, d5] => { results := [.lit (.bool false)], args := [d1, d2, d3, d4, d5] }
  | _ => none }
def IeeeAgainWrongFalsely : Prop := ieeeAgainRow.holds Try.pinned (OpenSpec.ofChange ieeeAgainWrong)

/-- 'slipsticklaw05.IeeeRest': WHATEVER THE INPUT: true; the input reads as it did. -/
def ieeeRestSpec : ChangeSpec := { name := "ieeeRest", fn := fun _ => fun
  | [d1, d2, d3, d4] => { results := [.lit (.bool true)], args := [d1, d2, d3, d4] }
  | _ => none }
def ieeeRestRow : OpenClaim := { program := "ytlaffgojgfdlnaa", sum := "23902e040b1fedddf1092abe3a7904aa3f67e68979add88e30f9f2cf5ab10a9f", func := "slipstick/slipsticklaw05.IeeeRest", spec := "ieeeRest", unfollowed := true, recurses := true, apart := false }
def IeeeRestSaid : Prop := ieeeRestRow.holds Try.pinned (OpenSpec.ofChange ieeeRestSpec)

/-- ITS FALSE NEIGHBOUR: 'it returns false'. Refute it at one input. -/
def ieeeRestWrong : ChangeSpec := { name := "ieeeRest", fn := fun _ => fun
  | [d1, d2, d3, d4] => { results := [.lit (.bool false)], args := [d1, d2, d3, d4] }
  | _ => none }
def IeeeRestWrongFalsely : Prop := ieeeRestRow.holds Try.pinned (OpenSpec.ofChange ieeeRestWrong)

/-- 'slipsticklaw05.IeeeOne': WHATEVER THE INPUT: true; the input reads as it did. -/
def ieeeOneSpec : ChangeSpec := { name := "ieeeOne", fn := fun _ => fun
  | [d1, d2, d3, d4] => { results := [.lit (.bool true)], args := [d1, d2, d3, d4] }
  | _ => none }
def ieeeOneRow : OpenClaim := { program := "ytlaffgojgfdlnaa", sum := "23902e040b1fedddf1092abe3a7904aa3f67e68979add88e30f9f2cf5ab10a9f", func := "slipstick/slipsticklaw05.IeeeOne", spec := "ieeeOne", unfollowed := true, recurses := true, apart := false }
def IeeeOneSaid : Prop := ieeeOneRow.holds Try.pinned (OpenSpec.ofChange ieeeOneSpec)

/-- ITS FALSE NEIGHBOUR: 'it returns false'. Refute it at one input. -/
def ieeeOneWrong : ChangeSpec := { name := "ieeeOne", fn := fun _ => fun
  | [d1, d2, d3, d4] => { results := [.lit (.bool false)], args := [d1, d2, d3, d4] }
  | _ => none }
def IeeeOneWrongFalsely : Prop := ieeeOneRow.holds Try.pinned (OpenSpec.ofChange ieeeOneWrong)

/-- 'slipsticklaw05.IeeeUnit': WHATEVER THE INPUT: true; the input reads as it did. -/
def ieeeUnitSpec : ChangeSpec := { name := "ieeeUnit", fn := fun _ => fun
  | [d1, d2, d3] => { results := [.lit (.bool true)], args := [d1, d2, d3] }
  | _ => none }
def ieeeUnitRow : OpenClaim := { program := "ytlaffgojgfdlnaa", sum := "23902e040b1fedddf1092abe3a7904aa3f67e68979add88e30f9f2cf5ab10a9f", func := "slipstick/slipsticklaw05.IeeeUnit", spec := "ieeeUnit", unfollowed := true, recurses := true, apart := false }
def IeeeUnitSaid : Prop := ieeeUnitRow.holds Try.pinned (OpenSpec.ofChange ieeeUnitSpec)

/-- ITS FALSE NEIGHBOUR: 'it returns false'. Refute it at one input. -/
def ieeeUnitWrong : ChangeSpec := { name := "ieeeUnit", fn := fun _ => fun
  | [d1, d2, d3] => { results := [.lit (.bool false)], args := [d1, d2, d3] }
  | _ => none }
def IeeeUnitWrongFalsely : Prop := ieeeUnitRow.holds Try.pinned (OpenSpec.ofChange ieeeUnitWrong)

/-- 'slipsticklaw05.IeeeRises': WHATEVER THE INPUT: true; the input reads as it did. -/
def ieeeRisesSpec : ChangeSpec := { name := "ieeeRises", fn := fun _ => fun
  | [d1, d2, d3, d4, d5] => { results := [.lit (.bool true)], args := [d1, d2, d3, d4, d5] }
  | _ => none }
def ieeeRisesRow : OpenClaim := { program := "ytlaffgojgfdlnaa", sum := "23902e040b1fedddf1092abe3a7904aa3f67e68979add88e30f9f2cf5ab10a9f", func := "slipstick/slipsticklaw05.IeeeRises", spec := "ieeeRises", unfollowed := true, recurses := true, apart := false }
def IeeeRisesSaid : Prop := ieeeRisesRow.holds Try.pinned (OpenSpec.ofChange ieeeRisesSpec)

/-- ITS FALSE NEIGHBOUR: 'it returns false'. Refute it at one input. -/
def ieeeRisesWrong : ChangeSpec := { name := "ieeeRises", fn := fun _ => fun
  | [d1, d2, d3, d4, d5] => { results := [.lit (.bool false)], args := [d1, d2, d3, d4, d5] }
  | _ => none }
def IeeeRisesWrongFalsely : Prop := ieeeRisesRow.holds Try.pinned (OpenSpec.ofChange ieeeRisesWrong)

/- THE SECOND FORM. 'bulk': how many values and letters a reading holds, each counted each time it is reached (what is shared counts as often as it is met; a slice's spare places count too). A statement '..UptoSaid' is the law's where the arguments, and the package variables that the reading takes, are together of bulk at most 1048576: NARROWER than '..Said'. Prove '..Said' where nothing that the law and all that it calls make is longer than what came in: it says more and counts as full. Else prove '..UptoSaid'. A law counts once. -/
mutual
def uptoBulk {H : Type} : DataW H → Nat
  | .lit (.string bytes) => bytes.length + 1
  | .lit _ => 1
  | .nil => 1
  | .ptr d => uptoBulk d + 1
  | .slice elems spare => uptoBulkAll elems + uptoBulkAll spare + 1
  | .agg parts => uptoBulkAll parts + 1
  | .iface _ d => uptoBulk d + 1
  | .map entries => uptoBulkEntries entries + 1
  | .held _ => 1
def uptoBulkAll {H : Type} : List (DataW H) → Nat
  | [] => 0
  | d :: r => uptoBulk d + uptoBulkAll r
def uptoBulkEntries {H : Type} : List (Lit × DataW H) → Nat
  | [] => 0
  | x :: r => uptoBulkEntry x + uptoBulkEntries r
def uptoBulkEntry {H : Type} : Lit × DataW H → Nat
  | (.string bytes, d) => bytes.length + uptoBulk d + 1
  | (_, d) => uptoBulk d + 1
 end
def uptoSmall : (H : Type) → List (DataW H) → Bool := fun _ ds => decide (uptoBulkAll ds ≤ 1048576)
def OpenSpec.upto (s : _root_.Go.ChangeSpec) : _root_.Go.OpenSpec := { _root_.Go.OpenSpec.ofChange s with cond := some uptoSmall }

/-- 'slipsticklaw05.IeeeNear', WHERE WHAT IT READS IS OF BULK AT MOST 1048576: true; the input reads as it did. -/
def ieeeNearUptoRow : OpenClaim := { program := "ytlaffgojgfdlnaa", sum := "23902e040b1fedddf1092abe3a7904aa3f67e68979add88e30f9f2cf5ab10a9f", func := "slipstick/slipsticklaw05.IeeeNear", spec := "ieeeNear", unfollowed := true, recurses := true, apart := false, narrowed := true }
def IeeeNearUptoSaid : Prop := ieeeNearUptoRow.holds Try.pinned (OpenSpec.upto ieeeNearSpec)

/-- 'slipsticklaw05.IeeeExact', WHERE WHAT IT READS IS OF BULK AT MOST 1048576: true; the input reads as it did. -/
def ieeeExactUptoRow : OpenClaim := { program := "ytlaffgojgfdlnaa", sum := "23902e040b1fedddf1092abe3a7904aa3f67e68979add88e30f9f2cf5ab10a9f", func := "slipstick/slipsticklaw05.IeeeExact", spec := "ieeeExact", unfollowed := true, recurses := true, apart := false, narrowed := true }
def IeeeExactUptoSaid : Prop := ieeeExactUptoRow.holds Try.pinned (OpenSpec.upto ieeeExactSpec)

/-- 'slipsticklaw05.IeeeTurned', WHERE WHAT IT READS IS OF BULK AT MOST 1048576: true; the input reads as it did. -/
def ieeeTurnedUptoRow : OpenClaim := { program := "ytlaffgojgfdlnaa", sum := "23902e040b1fedddf1092abe3a7904aa3f67e68979add88e30f9f2cf5ab10a9f", func := "slipstick/slipsticklaw05.IeeeTurned", spec := "ieeeTurned", unfollowed := true, recurses := true, apart := false, narrowed := true }
def IeeeTurnedUptoSaid : Prop := ieeeTurnedUptoRow.holds Try.pinned (OpenSpec.upto ieeeTurnedSpec)

/-- 'slipsticklaw05.IeeeAgain', WHERE WHAT IT READS IS OF BULK AT MOST 1048576: true; the input reads as it did. -/
def ieeeAgainUptoRow : OpenClaim := { program := "ytlaffgojgfdlnaa", sum := "23902e040b1fedddf1092abe3a7904aa3f67e68979add88e30f9f2cf5ab10a9f", func := "slipstick/slipsticklaw05.IeeeAgain", spec := "ieeeAgain", unfollowed := true, recurses := true, apart := false, narrowed := true }
def IeeeAgainUptoSaid : Prop := ieeeAgainUptoRow.holds Try.pinned (OpenSpec.upto ieeeAgainSpec)

/-- 'slipsticklaw05.IeeeRest', WHERE WHAT IT READS IS OF BULK AT MOST 1048576: true; the input reads as it did. -/
def ieeeRestUptoRow : OpenClaim := { program := "ytlaffgojgfdlnaa", sum := "23902e040b1fedddf1092abe3a7904aa3f67e68979add88e30f9f2cf5ab10a9f", func := "slipstick/slipsticklaw05.IeeeRest", spec := "ieeeRest", unfollowed := true, recurses := true, apart := false, narrowed := true }
def IeeeRestUptoSaid : Prop := ieeeRestUptoRow.holds Try.pinned (OpenSpec.upto ieeeRestSpec)

/-- 'slipsticklaw05.IeeeOne', WHERE WHAT IT READS IS OF BULK AT MOST 1048576: true; the input reads as it did. -/
def ieeeOneUptoRow : OpenClaim := { program := "ytlaffgojgfdlnaa", sum := "23902e040b1fedddf1092abe3a7904aa3f67e68979add88e30f9f2cf5ab10a9f", func := "slipstick/slipsticklaw05.IeeeOne", spec := "ieeeOne", unfollowed := true, recurses := true, apart := false, narrowed := true }
def IeeeOneUptoSaid : Prop := ieeeOneUptoRow.holds Try.pinned (OpenSpec.upto ieeeOneSpec)

/-- 'slipsticklaw05.IeeeUnit', WHERE WHAT IT READS IS OF BULK AT MOST 1048576: true; the input reads as it did. -/
def ieeeUnitUptoRow : OpenClaim := { program := "ytlaffgojgfdlnaa", sum := "23902e040b1fedddf1092abe3a7904aa3f67e68979add88e30f9f2cf5ab10a9f", func := "slipstick/slipsticklaw05.IeeeUnit", spec := "ieeeUnit", unfollowed := true, recurses := true, apart := false, narrowed := true }
def IeeeUnitUptoSaid : Prop := ieeeUnitUptoRow.holds Try.pinned (OpenSpec.upto ieeeUnitSpec)

/-- 'slipsticklaw05.IeeeRises', WHERE WHAT IT READS IS OF BULK AT MOST 1048576: true; the input reads as it did. -/
def ieeeRisesUptoRow : OpenClaim := { program := "ytlaffgojgfdlnaa", sum := "23902e040b1fedddf1092abe3a7904aa3f67e68979add88e30f9f2cf5ab10a9f", func := "slipstick/slipsticklaw05.IeeeRises", spec := "ieeeRises", unfollowed := true, recurses := true, apart := false, narrowed := true }
def IeeeRisesUptoSaid : Prop := ieeeRisesUptoRow.holds Try.pinned (OpenSpec.upto ieeeRisesSpec)

end Rows
end Go.Proofs.Ytlaffgojgfdlnaa
