/-
  No cell of these rows narrows 'for every input' (looked for: loops, veiled, ifaces, maps, wideKeys, modest, calm, conditions, laid).
  DERIVED. THE GIVEN ROWS OF THIS SEAT. 6 by the template 'for every input the law returns true; each argument reads behind the call as it read before'; 0 by the template 'total and deterministic' (their statements: YtlapfomfnmccgaaTotals.lean).
  GIVEN WITH THE SEED: the statements are not yours to turn. If you find one false, say at which input.
  Laid BY PROGRAM, IN A SANDBOX (cutbox-rows.mjs): the forced cells as the released guide's own fill.sh prints them over the translation e6b0b852256ebece… (all of the seat's roots in one cut). By AI agents, Wed Nov 11 2026. No macro, syntax, notation, axiom, sorry.
-/
import Derived.Test.YtlapfomfnmccgaaChecked
import GoSem.Claim
import GoSem.ClaimJoined
import GoSem.ClaimMapViews
import Derived.JoinedTies
import Derived.KernelRfl
namespace Go.Proofs.Ytlapfomfnmccgaa
/- THE CELL 'sum', in the pinned program and in every row, IS THE sha256 OF THE DUMP (.gsa) THAT YtlapfomfnmccgaaProg.lean LOADS. Nothing in Lean hashes anything: it is a label: what it is worth is what the hold of that sum in a sandbox is worth. -/
noncomputable def Try.pinned : Pinned := { name := "ytlapfomfnmccgaa", sum := "e6b0b852256ebece4eb3f32bedf5d8edb42e455b96a340e07fbe806005886e66", checked := Try.checked }
namespace Rows
def none {H : Type} : Left H := { results := [], args := [] }

/-- 'slipsticklaw04.RoundNears': WHATEVER THE INPUT: true; the input reads as it did. -/
def roundNearsSpec : ChangeSpec := { name := "roundNears", fn := fun _ => fun
  | [d1, d2] => { results := [.lit (.bool true)], args := [d1, d2] }
  | _ => none }
def roundNearsRow : OpenClaim := { program := "ytlapfomfnmccgaa", sum := "e6b0b852256ebece4eb3f32bedf5d8edb42e455b96a340e07fbe806005886e66", func := "slipstick/slipsticklaw04.RoundNears", spec := "roundNears", unfollowed := true, recurses := true, apart := false }
def RoundNearsSaid : Prop := roundNearsRow.holds Try.pinned (OpenSpec.ofChange roundNearsSpec)

/-- ITS FALSE NEIGHBOUR: 'it returns false'. Refute it at one input. -/
def roundNearsWrong : ChangeSpec := { name := "roundNears", fn := fun _ => fun
  | [d1, d2] => { results := [.lit (.bool false)], args := [d1, d2] }
  | _ => none }
def RoundNearsWrongFalsely : Prop := roundNearsRow.holds Try.pinned (OpenSpec.ofChange roundNearsWrong)

/-- 'slipsticklaw04.RoundTurns': WHATEVER THE INPUT: true; the input reads as it did. -/
def roundTurnsSpec : ChangeSpec := { name := "roundTurns", fn := fun _ => fun
  | [d1, d2, d3] => { results := [.lit (.bool true)], args := [d1, d2, d3] }
  | _ => none }
def roundTurnsRow : OpenClaim := { program := "ytlapfomfnmccgaa", sum := "e6b0b852256ebece4eb3f32bedf5d8edb42e455b96a340e07fbe806005886e66", func := "slipstick/slipsticklaw04.RoundTurns", spec := "roundTurns", unfollowed := true, recurses := true, apart := false }
def RoundTurnsSaid : Prop := roundTurnsRow.holds Try.pinned (OpenSpec.ofChange roundTurnsSpec)

/-- ITS FALSE NEIGHBOUR: 'it returns false'. Refute it at one input. -/
def roundTurnsWrong : ChangeSpec := { name := "roundTurns", fn := fun _ => fun
  | [d1, d2, d3] => { results := [.lit (.bool false)], args := [d1, d2, d3] }
  | _ => none }
def RoundTurnsWrongFalsely : Prop := roundTurnsRow.holds Try.pinned (OpenSpec.ofChange roundTurnsWrong)

/-- 'slipsticklaw04.RoundKeeps': WHATEVER THE INPUT: true; the input reads as it did. -/
def roundKeepsSpec : ChangeSpec := { name := "roundKeeps", fn := fun _ => fun
  | [d1, d2] => { results := [.lit (.bool true)], args := [d1, d2] }
  | _ => none }
def roundKeepsRow : OpenClaim := { program := "ytlapfomfnmccgaa", sum := "e6b0b852256ebece4eb3f32bedf5d8edb42e455b96a340e07fbe806005886e66", func := "slipstick/slipsticklaw04.RoundKeeps", spec := "roundKeeps", unfollowed := true, recurses := true, apart := false }
def RoundKeepsSaid : Prop := roundKeepsRow.holds Try.pinned (OpenSpec.ofChange roundKeepsSpec)

/-- ITS FALSE NEIGHBOUR: 'it returns false'. Refute it at one input. -/
def roundKeepsWrong : ChangeSpec := { name := "roundKeeps", fn := fun _ => fun
  | [d1, d2] => { results := [.lit (.bool false)], args := [d1, d2] }
  | _ => none }
def RoundKeepsWrongFalsely : Prop := roundKeepsRow.holds Try.pinned (OpenSpec.ofChange roundKeepsWrong)

/-- 'slipsticklaw04.RoundRises': WHATEVER THE INPUT: true; the input reads as it did. -/
def roundRisesSpec : ChangeSpec := { name := "roundRises", fn := fun _ => fun
  | [d1, d2, d3, d4] => { results := [.lit (.bool true)], args := [d1, d2, d3, d4] }
  | _ => none }
def roundRisesRow : OpenClaim := { program := "ytlapfomfnmccgaa", sum := "e6b0b852256ebece4eb3f32bedf5d8edb42e455b96a340e07fbe806005886e66", func := "slipstick/slipsticklaw04.RoundRises", spec := "roundRises", unfollowed := true, recurses := true, apart := false }
def RoundRisesSaid : Prop := roundRisesRow.holds Try.pinned (OpenSpec.ofChange roundRisesSpec)

/-- ITS FALSE NEIGHBOUR: 'it returns false'. Refute it at one input. -/
def roundRisesWrong : ChangeSpec := { name := "roundRises", fn := fun _ => fun
  | [d1, d2, d3, d4] => { results := [.lit (.bool false)], args := [d1, d2, d3, d4] }
  | _ => none }
def RoundRisesWrongFalsely : Prop := roundRisesRow.holds Try.pinned (OpenSpec.ofChange roundRisesWrong)

/-- 'slipsticklaw04.RoundNested': WHATEVER THE INPUT: true; the input reads as it did. -/
def roundNestedSpec : ChangeSpec := { name := "roundNested", fn := fun _ => fun
  | [d1, d2] => { results := [.lit (.bool true)], args := [d1, d2] }
  | _ => none }
def roundNestedRow : OpenClaim := { program := "ytlapfomfnmccgaa", sum := "e6b0b852256ebece4eb3f32bedf5d8edb42e455b96a340e07fbe806005886e66", func := "slipstick/slipsticklaw04.RoundNested", spec := "roundNested", unfollowed := true, recurses := true, apart := false }
def RoundNestedSaid : Prop := roundNestedRow.holds Try.pinned (OpenSpec.ofChange roundNestedSpec)

/-- ITS FALSE NEIGHBOUR: 'it returns false'. Refute it at one input. -/
def roundNestedWrong : ChangeSpec := { name := "roundNested", fn := fun _ => fun
  | [d1, d2] => { results := [.lit (.bool false)], args := [d1, d2] }
  | _ => none }
def RoundNestedWrongFalsely : Prop := roundNestedRow.holds Try.pinned (OpenSpec.ofChange roundNestedWrong)

/-- 'slipsticklaw04.RoundHalf': WHATEVER THE INPUT: true; the input reads as it did. -/
def roundHalfSpec : ChangeSpec := { name := "roundHalf", fn := fun _ => fun
  | [d1, d2, d3] => { results := [.lit (.bool true)], args := [d1, d2, d3] }
  | _ => none }
def roundHalfRow : OpenClaim := { program := "ytlapfomfnmccgaa", sum := "e6b0b852256ebece4eb3f32bedf5d8edb42e455b96a340e07fbe806005886e66", func := "slipstick/slipsticklaw04.RoundHalf", spec := "roundHalf", unfollowed := true, recurses := true, apart := false }
def RoundHalfSaid : Prop := roundHalfRow.holds Try.pinned (OpenSpec.ofChange roundHalfSpec)

/-- ITS FALSE NEIGHBOUR: 'it returns false'. Refute it at one input. -/
def roundHalfWrong : ChangeSpec := { name := "roundHalf", fn := fun _ => fun
  | [d1, d2, d3] => { results := [.lit (.bool false)], args := [d1, d2, d3] }
  | _ => none }
def RoundHalfWrongFalsely : Prop := roundHalfRow.holds Try.pinned (OpenSpec.ofChange roundHalfWrong)

/- THE SECOND FORM. 'bulk': how many values and letters a reading holds, each counted each time it is reached (what is shared counts as often as it is met; a slice's spare places count too). A statement '..UptoSaid' is the law's where the arguments, and the package variables that the reading takes, are together of bulk at most 1048576: NARROWER than '..Said'. Prove '..Said' where nothing that the law and all that it calls make is longer than what came in: it says more and counts as full. Else prove '..UptoSaid'. A law counts once. -/
mutual
def uptoBulk {H : Type} : DataW H → Nat
  | .lit (.string bytes) => bytes.length + 1
  | .lit _ => 1
  | .nil => 1
  | .ptr d => uptoBulk d + 1
  | .slice elems spare => uptoBulkAll elems + uptoBulkAll spare + 1
  | .agg parts => uptoBulkAll parts + 1
  | .iface _ d => uptoBulk d + 1
  | .map entries => uptoBulkEntries entries + 1
  | .held _ => 1
def uptoBulkAll {H : Type} : List (DataW H) → Nat
  | [] => 0
  | d :: r => uptoBulk d + uptoBulkAll r
def uptoBulkEntries {H : Type} : List (Lit × DataW H) → Nat
  | [] => 0
  | x :: r => uptoBulkEntry x + uptoBulkEntries r
def uptoBulkEntry {H : Type} : Lit × DataW H → Nat
  | (.string bytes, d) => bytes.length + uptoBulk d + 1
  | (_, d) => uptoBulk d + 1
 end
def uptoSmall : (H : Type) → List (DataW H) → Bool := fun _ ds => decide (uptoBulkAll ds ≤ 1048576)
def OpenSpec.upto (s : _root_.Go.ChangeSpec) : _root_.Go.OpenSpec := { _root_.Go.OpenSpec.ofChange s with cond := some uptoSmall }

/-- 'slipsticklaw04.RoundNears', WHERE WHAT IT READS IS OF BULK AT MOST 1048576: true; the input reads as it did. -/
def roundNearsUptoRow : OpenClaim := { program := "ytlapfomfnmccgaa", sum := "e6b0b852256ebece4eb3f32bedf5d8edb42e455b96a340e07fbe806005886e66", func := "slipstick/slipsticklaw04.RoundNears", spec := "roundNears", unfollowed := true, recurses := true, apart := false, narrowed := true }
def RoundNearsUptoSaid : Prop := roundNearsUptoRow.holds Try.pinned (OpenSpec.upto roundNearsSpec)

/-- 'slipsticklaw04.RoundTurns', WHERE WHAT IT READS IS OF BULK AT MOST 1048576: true; the input reads as it did. -/
def roundTurnsUptoRow : OpenClaim := { program := "ytlapfomfnmccgaa", sum := "e6b0b852256ebece4eb3f32bedf5d8edb42e455b96a340e07fbe806005886e66", func := "slipstick/slipsticklaw04.RoundTurns", spec := "roundTurns", unfollowed := true, recurses := true, apart := false, narrowed := true }
def RoundTurnsUptoSaid : Prop := roundTurnsUptoRow.holds Try.pinned (OpenSpec.upto roundTurnsSpec)

/-- 'slipsticklaw04.RoundKeeps', WHERE WHAT IT READS IS OF BULK AT MOST 1048576: true; the input reads as it did. -/
def roundKeepsUptoRow : OpenClaim := { program := "ytlapfomfnmccgaa", sum := "e6b0b852256ebece4eb3f32bedf5d8edb42e455b96a340e07fbe806005886e66", func := "slipstick/slipsticklaw04.RoundKeeps", spec := "roundKeeps", unfollowed := true, recurses := true, apart := false, narrowed := true }
def RoundKeepsUptoSaid : Prop := roundKeepsUptoRow.holds Try.pinned (OpenSpec.upto roundKeepsSpec)

/-- 'slipsticklaw04.RoundRises', WHERE WHAT IT READS IS OF BULK AT MOST 1048576: true; the input reads as it did. -/
def roundRisesUptoRow : OpenClaim := { program := "ytlapfomfnmccgaa", sum := "e6b0b852256ebece4eb3f32bedf5d8edb42e455b96a340e07fbe806005886e66", func := "slipstick/slipsticklaw04.RoundRises", spec := "roundRises", unfollowed := true, recurses := true, apart := false, narrowed := true }
def RoundRisesUptoSaid : Prop := roundRisesUptoRow.holds Try.pinned (OpenSpec.upto roundRisesSpec)

/-- 'slipsticklaw04.RoundNested', WHERE WHAT IT READS IS OF BULK AT MOST 1048576: true; the input reads as it did. -/
def roundNestedUptoRow : OpenClaim := { program := "ytlapfomfnmccgaa", sum := "e6b0b852256ebece4eb3f32bedf5d8edb42e455b96a340e07fbe806005886e66", func := "slipstick/slipsticklaw04.RoundNested", spec := "roundNested", unfollowed := true, recurses := true, apart := false, narrowed := true }
def RoundNestedUptoSaid : Prop := roundNestedUptoRow.holds Try.pinned (OpenSpec.upto roundNestedSpec)

/-- 'slipsticklaw04.RoundHalf', WHERE WHAT IT READS IS OF BULK AT MOST 1048576: true; the input reads as it did. -/
def roundHalfUptoRow : OpenClaim := { program := "ytlapfomfnmccgaa", sum := "e6b0b852256ebece4eb3f32bedf5d8edb42e455b96a340e07fbe806005886e66", func := "slipstick/slipsticklaw04.RoundHalf", spec := "roundHalf", unfollowed := true, recurses := true, apart := false, narrowed := true }
def RoundHalfUptoSaid : Prop := roundHalfUptoRow.holds Try.pinned (OpenSpec.upto roundHalfSpec)

end Rows
end Go.Proofs.Ytlapfomfnmccgaa
