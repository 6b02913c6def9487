/-
  No cell of these rows narrows 'for every input' (looked for: loops, veiled, ifaces, maps, wideKeys, modest, calm, conditions, laid).
  DERIVED. THE GIVEN ROWS OF THIS SEAT. 5 by the template 'for every input the law returns true; each argument reads behind the call as it read before'; 0 by the template 'total and deterministic' (their statements: YtolcejcdehfdcaaTotals.lean).
  GIVEN WITH THE SEED: the statements are not yours to turn. If you find one false, say at which input.
  Laid BY PROGRAM, IN A SANDBOX (cutbox-rows.mjs): the forced cells as the released guide's own fill.sh prints them over the translation 2bae48d073c55ce0… (all of the seat's roots in one cut). By AI agents, Wed Nov 11 2026. No macro, syntax, notation, axiom, sorry.
-/
import Derived.Test.YtolcejcdehfdcaaChecked
import GoSem.Claim
import GoSem.ClaimJoined
import GoSem.ClaimMapViews
import Derived.JoinedTies
import Derived.KernelRfl
namespace Go.Proofs.Ytolcejcdehfdcaa
/- THE CELL 'sum', in the pinned program and in every row, IS THE sha256 OF THE DUMP (.gsa) THAT YtolcejcdehfdcaaProg.lean LOADS. Nothing in Lean hashes anything: it is a label: what it is worth is what the hold of that sum in a sandbox is worth. -/
noncomputable def Try.pinned : Pinned := { name := "ytolcejcdehfdcaa", sum := "2bae48d073c55ce047d4b01efce620b1888d1eaaca96235ba3c9d08bc56a20e9", checked := Try.checked }
namespace Rows
def none {H : Type} : Left H := { results := [], args := [] }

/-- 'slipsticklaw02.DyadSums': WHATEVER THE INPUT: true; the input reads as it did. -/
def dyadSumsSpec : ChangeSpec := { name := "dyadSums", fn := fun _ => fun
  | [d1, d2] => { results := [.lit (.bool true)], args := [d1, d2] }
  | _ => none }
def dyadSumsRow : OpenClaim := { program := "ytolcejcdehfdcaa", sum := "2bae48d073c55ce047d4b01efce620b1888d1eaaca96235ba3c9d08bc56a20e9", func := "slipstick/slipsticklaw02.DyadSums", spec := "dyadSums", unfollowed := true, recurses := true, apart := false }
def DyadSumsSaid : Prop := dyadSumsRow.holds Try.pinned (OpenSpec.ofChange dyadSumsSpec)

/-- ITS FALSE NEIGHBOUR: 'it returns false'. Refute it at one input. -/
def dyadSumsWrong : ChangeSpec := { name := "dyadSums", fn := fun _ => fun
  | [d1, d2] => { results := [.lit (.bool false)], args := [d1, d2] }
  | _ => none }
def DyadSumsWrongFalsely : Prop := dyadSumsRow.holds Try.pinned (OpenSpec.ofChange dyadSumsWrong)

/-- 'slipsticklaw02.DyadTells': WHATEVER THE INPUT: true; the input reads as it did. -/
def dyadTellsSpec : ChangeSpec := { name := "dyadTells", fn := fun _ => fun
  | [d1, d2, d3, d4] => { results := [.lit (.bool true)], args := [d1, d2, d3, d4] }
  | _ => none }
def dyadTellsRow : OpenClaim := { program := "ytolcejcdehfdcaa", sum := "2bae48d073c55ce047d4b01efce620b1888d1eaaca96235ba3c9d08bc56a20e9", func := "slipstick/slipsticklaw02.DyadTells", spec := "dyadTells", unfollowed := true, recurses := true, apart := false }
def DyadTellsSaid : Prop := dyadTellsRow.holds Try.pinned (OpenSpec.ofChange dyadTellsSpec)

/-- ITS FALSE NEIGHBOUR: 'it returns false'. Refute it at one input. -/
def dyadTellsWrong : ChangeSpec := { name := "dyadTells", fn := fun _ => fun
  | [d1, d2, d3, d4] => { results := [.lit (.bool false)], args := [d1, d2, d3, d4] }
  | _ => none }
def DyadTellsWrongFalsely : Prop := dyadTellsRow.holds Try.pinned (OpenSpec.ofChange dyadTellsWrong)

/-- 'slipsticklaw02.DyadTurns': WHATEVER THE INPUT: true; the input reads as it did. -/
def dyadTurnsSpec : ChangeSpec := { name := "dyadTurns", fn := fun _ => fun
  | [d1, d2, d3] => { results := [.lit (.bool true)], args := [d1, d2, d3] }
  | _ => none }
def dyadTurnsRow : OpenClaim := { program := "ytolcejcdehfdcaa", sum := "2bae48d073c55ce047d4b01efce620b1888d1eaaca96235ba3c9d08bc56a20e9", func := "slipstick/slipsticklaw02.DyadTurns", spec := "dyadTurns", unfollowed := true, recurses := true, apart := false }
def DyadTurnsSaid : Prop := dyadTurnsRow.holds Try.pinned (OpenSpec.ofChange dyadTurnsSpec)

/-- ITS FALSE NEIGHBOUR: 'it returns false'. Refute it at one input. -/
def dyadTurnsWrong : ChangeSpec := { name := "dyadTurns", fn := fun _ => fun
  | [d1, d2, d3] => { results := [.lit (.bool false)], args := [d1, d2, d3] }
  | _ => none }
def DyadTurnsWrongFalsely : Prop := dyadTurnsRow.holds Try.pinned (OpenSpec.ofChange dyadTurnsWrong)

/-- 'slipsticklaw02.DyadOrder': WHATEVER THE INPUT: true; the input reads as it did. -/
def dyadOrderSpec : ChangeSpec := { name := "dyadOrder", fn := fun _ => fun
  | [d1, d2, d3] => { results := [.lit (.bool true)], args := [d1, d2, d3] }
  | _ => none }
def dyadOrderRow : OpenClaim := { program := "ytolcejcdehfdcaa", sum := "2bae48d073c55ce047d4b01efce620b1888d1eaaca96235ba3c9d08bc56a20e9", func := "slipstick/slipsticklaw02.DyadOrder", spec := "dyadOrder", unfollowed := true, recurses := true, apart := false }
def DyadOrderSaid : Prop := dyadOrderRow.holds Try.pinned (OpenSpec.ofChange dyadOrderSpec)

/-- ITS FALSE NEIGHBOUR: 'it returns false'. Refute it at one input. -/
def dyadOrderWrong : ChangeSpec := { name := "dyadOrder", fn := fun _ => fun
  | [d1, d2, d3] => { results := [.lit (.bool false)], args := [d1, d2, d3] }
  | _ => none }
def DyadOrderWrongFalsely : Prop := dyadOrderRow.holds Try.pinned (OpenSpec.ofChange dyadOrderWrong)

/-- 'slipsticklaw02.DyadFloors': WHATEVER THE INPUT: true; the input reads as it did. -/
def dyadFloorsSpec : ChangeSpec := { name := "dyadFloors", fn := fun _ => fun
  | [d1, d2] => { results := [.lit (.bool true)], args := [d1, d2] }
  | _ => none }
def dyadFloorsRow : OpenClaim := { program := "ytolcejcdehfdcaa", sum := "2bae48d073c55ce047d4b01efce620b1888d1eaaca96235ba3c9d08bc56a20e9", func := "slipstick/slipsticklaw02.DyadFloors", spec := "dyadFloors", unfollowed := true, recurses := true, apart := false }
def DyadFloorsSaid : Prop := dyadFloorsRow.holds Try.pinned (OpenSpec.ofChange dyadFloorsSpec)

/-- ITS FALSE NEIGHBOUR: 'it returns false'. Refute it at one input. -/
def dyadFloorsWrong : ChangeSpec := { name := "dyadFloors", fn := fun _ => fun
  | [d1, d2] => { results := [.lit (.bool false)], args := [d1, d2] }
  | _ => none }
def DyadFloorsWrongFalsely : Prop := dyadFloorsRow.holds Try.pinned (OpenSpec.ofChange dyadFloorsWrong)

/- THE SECOND FORM. 'bulk': how many values and letters a reading holds, each counted each time it is reached (what is shared counts as often as it is met; a slice's spare places count too). A statement '..UptoSaid' is the law's where the arguments, and the package variables that the reading takes, are together of bulk at most 1048576: NARROWER than '..Said'. Prove '..Said' where nothing that the law and all that it calls make is longer than what came in: it says more and counts as full. Else prove '..UptoSaid'. A law counts once. -/
mutual
def uptoBulk {H : Type} : DataW H → Nat
  | .lit (.string bytes) => bytes.length + 1
  | .lit _ => 1
  | .nil => 1
  | .ptr d => uptoBulk d + 1
  | .slice elems spare => uptoBulkAll elems + uptoBulkAll spare + 1
  | .agg parts => uptoBulkAll parts + 1
  | .iface _ d => uptoBulk d + 1
  | .map entries => uptoBulkEntries entries + 1
  | .held _ => 1
def uptoBulkAll {H : Type} : List (DataW H) → Nat
  | [] => 0
  | d :: r => uptoBulk d + uptoBulkAll r
def uptoBulkEntries {H : Type} : List (Lit × DataW H) → Nat
  | [] => 0
  | x :: r => uptoBulkEntry x + uptoBulkEntries r
def uptoBulkEntry {H : Type} : Lit × DataW H → Nat
  | (.string bytes, d) => bytes.length + uptoBulk d + 1
  | (_, d) => uptoBulk d + 1
 end
def uptoSmall : (H : Type) → List (DataW H) → Bool := fun _ ds => decide (uptoBulkAll ds ≤ 1048576)
def OpenSpec.upto (s : _root_.Go.ChangeSpec) : _root_.Go.OpenSpec := { _root_.Go.OpenSpec.ofChange s with cond := some uptoSmall }

/-- 'slipsticklaw02.DyadSums', WHERE WHAT IT READS IS OF BULK AT MOST 1048576: true; the input reads as it did. -/
def dyadSumsUptoRow : OpenClaim := { program := "ytolcejcdehfdcaa", sum := "2bae48d073c55ce047d4b01efce620b1888d1eaaca96235ba3c9d08bc56a20e9", func := "slipstick/slipsticklaw02.DyadSums", spec := "dyadSums", unfollowed := true, recurses := true, apart := false, narrowed := true }
def DyadSumsUptoSaid : Prop := dyadSumsUptoRow.holds Try.pinned (OpenSpec.upto dyadSumsSpec)

/-- 'slipsticklaw02.DyadTells', WHERE WHAT IT READS IS OF BULK AT MOST 1048576: true; the input reads as it did. -/
def dyadTellsUptoRow : OpenClaim := { program := "ytolcejcdehfdcaa", sum := "2bae48d073c55ce047d4b01efce620b1888d1eaaca96235ba3c9d08bc56a20e9", func := "slipstick/slipsticklaw02.DyadTells", spec := "dyadTells", unfollowed := true, recurses := true, apart := false, narrowed := true }
def DyadTellsUptoSaid : Prop := dyadTellsUptoRow.holds Try.pinned (OpenSpec.upto dyadTellsSpec)

/-- 'slipsticklaw02.DyadTurns', WHERE WHAT IT READS IS OF BULK AT MOST 1048576: true; the input reads as it did. -/
def dyadTurnsUptoRow : OpenClaim := { program := "ytolcejcdehfdcaa", sum := "2bae48d073c55ce047d4b01efce620b1888d1eaaca96235ba3c9d08bc56a20e9", func := "slipstick/slipsticklaw02.DyadTurns", spec := "dyadTurns", unfollowed := true, recurses := true, apart := false, narrowed := true }
def DyadTurnsUptoSaid : Prop := dyadTurnsUptoRow.holds Try.pinned (OpenSpec.upto dyadTurnsSpec)

/-- 'slipsticklaw02.DyadOrder', WHERE WHAT IT READS IS OF BULK AT MOST 1048576: true; the input reads as it did. -/
def dyadOrderUptoRow : OpenClaim := { program := "ytolcejcdehfdcaa", sum := "2bae48d073c55ce047d4b01efce620b1888d1eaaca96235ba3c9d08bc56a20e9", func := "slipstick/slipsticklaw02.DyadOrder", spec := "dyadOrder", unfollowed := true, recurses := true, apart := false, narrowed := true }
def DyadOrderUptoSaid : Prop := dyadOrderUptoRow.holds Try.pinned (OpenSpec.upto dyadOrderSpec)

/-- 'slipsticklaw02.DyadFloors', WHERE WHAT IT READS IS OF BULK AT MOST 1048576: true; the input reads as it did. -/
def dyadFloorsUptoRow : OpenClaim := { program := "ytolcejcdehfdcaa", sum := "2bae48d073c55ce047d4b01efce620b1888d1eaaca96235ba3c9d08bc56a20e9", func := "slipstick/slipsticklaw02.DyadFloors", spec := "dyadFloors", unfollowed := true, recurses := true, apart := false, narrowed := true }
def DyadFloorsUptoSaid : Prop := dyadFloorsUptoRow.holds Try.pinned (OpenSpec.upto dyadFloorsSpec)

end Rows
end Go.Proofs.Ytolcejcdehfdcaa
