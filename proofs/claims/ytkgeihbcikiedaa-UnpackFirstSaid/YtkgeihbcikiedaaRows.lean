/-
  No cell of these rows narrows 'for every input' (looked for: loops, veiled, ifaces, maps, wideKeys, modest, calm, conditions, laid).
  DERIVED. THE GIVEN ROWS OF THIS SEAT. 3 by the template 'for every input the law returns true; each argument reads behind the call as it read before'; 0 by the template 'total and deterministic' (their statements: YtkgeihbcikiedaaTotals.lean).
  GIVEN WITH THE SEED: the statements are not yours to turn. If you find one false, say at which input.
  Laid BY PROGRAM, IN A SANDBOX (cutbox-rows.mjs): the forced cells as the released guide's own fill.sh prints them over the translation 31d0eb98c441285d… (all of the seat's roots in one cut). By AI agents, Wed Nov 11 2026. No macro, syntax, notation, axiom, sorry.
-/
import Derived.Test.YtkgeihbcikiedaaChecked
import GoSem.Claim
import GoSem.ClaimJoined
import GoSem.ClaimMapViews
import Derived.JoinedTies
import Derived.KernelRfl
namespace Go.Proofs.Ytkgeihbcikiedaa
/- THE CELL 'sum', in the pinned program and in every row, IS THE sha256 OF THE DUMP (.gsa) THAT YtkgeihbcikiedaaProg.lean LOADS. Nothing in Lean hashes anything: it is a label: what it is worth is what the hold of that sum in a sandbox is worth. -/
noncomputable def Try.pinned : Pinned := { name := "ytkgeihbcikiedaa", sum := "31d0eb98c441285d8f09d80e1bc11649429484aca88a6fbb35aa96b7b44c338f", checked := Try.checked }
namespace Rows
def none {H : Type} : Left H := { results := [], args := [] }

/-- 'slipsticklaw18.UnpackTells': WHATEVER THE INPUT: true; the input reads as it did. -/
def unpackTellsSpec : ChangeSpec := { name := "unpackTells", fn := fun _ => fun
  | [d1, d2] => { results := [.lit (.bool true)], args := [d1, d2] }
  | _ => none }
def unpackTellsRow : OpenClaim := { program := "ytkgeihbcikiedaa", sum := "31d0eb98c441285d8f09d80e1bc11649429484aca88a6fbb35aa96b7b44c338f", func := "slipstick/slipsticklaw18.UnpackTells", spec := "unpackTells", unfollowed := true, recurses := true, apart := false }
def UnpackTellsSaid : Prop := unpackTellsRow.holds Try.pinned (OpenSpec.ofChange unpackTellsSpec)

/-- ITS FALSE NEIGHBOUR: 'it returns false'. Refute it at one input. -/
def unpackTellsWrong : ChangeSpec := { name := "unpackTells", fn := fun _ => fun
  | [d1, d2] => { results := [.lit (.bool false)], args := [d1, d2] }
  | _ => none }
def UnpackTellsWrongFalsely : Prop := unpackTellsRow.holds Try.pinned (OpenSpec.ofChange unpackTellsWrong)

/-- 'slipsticklaw18.UnpackFirst': WHATEVER THE INPUT: true; the input reads as it did. -/
def unpackFirstSpec : ChangeSpec := { name := "unpackFirst", fn := fun _ => fun
  | [d1, d2, d3, d4, d5] => { results := [.lit (.bool true)], args := [d1, d2, d3, d4, d5] }
  | _ => none }
def unpackFirstRow : OpenClaim := { program := "ytkgeihbcikiedaa", sum := "31d0eb98c441285d8f09d80e1bc11649429484aca88a6fbb35aa96b7b44c338f", func := "slipstick/slipsticklaw18.UnpackFirst", spec := "unpackFirst", unfollowed := true, recurses := true, apart := false }
def UnpackFirstSaid : Prop := unpackFirstRow.holds Try.pinned (OpenSpec.ofChange unpackFirstSpec)

/-- ITS FALSE NEIGHBOUR: 'it returns false'. Refute it at one input. -/
def unpackFirstWrong : ChangeSpec := { name := "unpackFirst", fn := fun _ => fun
  | [d1, d2, d3, d4, d5] => { results := [.lit (.bool false)], args := [d1, d2, d3, d4, d5] }
  | _ => none }
def UnpackFirstWrongFalsely : Prop := unpackFirstRow.holds Try.pinned (OpenSpec.ofChange unpackFirstWrong)

/-- 'slipsticklaw18.UnpackValue': WHATEVER THE INPUT: true; the input reads as it did. -/
def unpackValueSpec : ChangeSpec := { name := "unpackValue", fn := fun _ => fun
  | [d1, d2] => { results := [.lit (.bool true)], args := [d1, d2] }
  | _ => none }
def unpackValueRow : OpenClaim := { program := "ytkgeihbcikiedaa", sum := "31d0eb98c441285d8f09d80e1bc11649429484aca88a6fbb35aa96b7b44c338f", func := "slipstick/slipsticklaw18.UnpackValue", spec := "unpackValue", unfollowed := true, recurses := true, apart := false }
def UnpackValueSaid : Prop := unpackValueRow.holds Try.pinned (OpenSpec.ofChange unpackValueSpec)

/-- ITS FALSE NEIGHBOUR: 'it returns false'. Refute it at one input. -/
def unpackValueWrong : ChangeSpec := { name := "unpackValue", fn := fun _ => fun
  | [d1, d2] => { results := [.lit (.bool false)], args := [d1, d2] }
  | _ => none }
def UnpackValueWrongFalsely : Prop := unpackValueRow.holds Try.pinned (OpenSpec.ofChange unpackValueWrong)

/- THE SECOND FORM. 'bulk': how many values and letters a reading holds, each counted each time it is reached (what is shared counts as often as it is met; a slice's spare places count too). A statement '..UptoSaid' is the law's where the arguments, and the package variables that the reading takes, are together of bulk at most 1048576: NARROWER than '..Said'. Prove '..Said' where nothing that the law and all that it calls make is longer than what came in: it says more and counts as full. Else prove '..UptoSaid'. A law counts once. -/
mutual
def uptoBulk {H : Type} : DataW H → Nat
  | .lit (.string bytes) => bytes.length + 1
  | .lit _ => 1
  | .nil => 1
  | .ptr d => uptoBulk d + 1
  | .slice elems spare => uptoBulkAll elems + uptoBulkAll spare + 1
  | .agg parts => uptoBulkAll parts + 1
  | .iface _ d => uptoBulk d + 1
  | .map entries => uptoBulkEntries entries + 1
  | .held _ => 1
def uptoBulkAll {H : Type} : List (DataW H) → Nat
  | [] => 0
  | d :: r => uptoBulk d + uptoBulkAll r
def uptoBulkEntries {H : Type} : List (Lit × DataW H) → Nat
  | [] => 0
  | x :: r => uptoBulkEntry x + uptoBulkEntries r
def uptoBulkEntry {H : Type} : Lit × DataW H → Nat
  | (.string bytes, d) => bytes.length + uptoBulk d + 1
  | (_, d) => uptoBulk d + 1
 end
def uptoSmall : (H : Type) → List (DataW H) → Bool := fun _ ds => decide (uptoBulkAll ds ≤ 1048576)
def OpenSpec.upto (s : _root_.Go.ChangeSpec) : _root_.Go.OpenSpec := { _root_.Go.OpenSpec.ofChange s with cond := some uptoSmall }

/-- 'slipsticklaw18.UnpackTells', WHERE WHAT IT READS IS OF BULK AT MOST 1048576: true; the input reads as it did. -/
def unpackTellsUptoRow : OpenClaim := { program := "ytkgeihbcikiedaa", sum := "31d0eb98c441285d8f09d80e1bc11649429484aca88a6fbb35aa96b7b44c338f", func := "slipstick/slipsticklaw18.UnpackTells", spec := "unpackTells", unfollowed := true, recurses := true, apart := false, narrowed := true }
def UnpackTellsUptoSaid : Prop := unpackTellsUptoRow.holds Try.pinned (OpenSpec.upto unpackTellsSpec)

/-- 'slipsticklaw18.UnpackFirst', WHERE WHAT IT READS IS OF BULK AT MOST 1048576: true; the input reads as it did. -/
def unpackFirstUptoRow : OpenClaim := { program := "ytkgeihbcikiedaa", sum := "31d0eb98c441285d8f09d80e1bc11649429484aca88a6fbb35aa96b7b44c338f", func := "slipstick/slipsticklaw18.UnpackFirst", spec := "unpackFirst", unfollowed := true, recurses := true, apart := false, narrowed := true }
def UnpackFirstUptoSaid : Prop := unpackFirstUptoRow.holds Try.pinned (OpenSpec.upto unpackFirstSpec)

/-- 'slipsticklaw18.UnpackValue', WHERE WHAT IT READS IS OF BULK AT MOST 1048576: true; the input reads as it did. -/
def unpackValueUptoRow : OpenClaim := { program := "ytkgeihbcikiedaa", sum := "31d0eb98c441285d8f09d80e1bc11649429484aca88a6fbb35aa96b7b44c338f", func := "slipstick/slipsticklaw18.UnpackValue", spec := "unpackValue", unfollowed := true, recurses := true, apart := false, narrowed := true }
def UnpackValueUptoSaid : Prop := unpackValueUptoRow.holds Try.pinned (OpenSpec.upto unpackValueSpec)

end Rows
end Go.Proofs.Ytkgeihbcikiedaa
