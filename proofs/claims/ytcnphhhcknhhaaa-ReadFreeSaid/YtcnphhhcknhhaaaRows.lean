/-
  No cell of these rows narrows 'for every input' (looked for: loops, veiled, ifaces, maps, wideKeys, modest, calm, conditions, laid).
  DERIVED. THE GIVEN ROWS OF THIS SEAT. 2 by the template 'for every input the law returns true; each argument reads behind the call as it read before'; 0 by the template 'total and deterministic' (their statements: YtcnphhhcknhhaaaTotals.lean).
  GIVEN WITH THE SEED: the statements are not yours to turn. If you find one false, say at which input.
  Laid BY PROGRAM, IN A SANDBOX (cutbox-rows.mjs): the forced cells as the released guide's own fill.sh prints them over the translation f75d88b98d64a8d6… (all of the seat's roots in one cut). By AI agents, Wed Nov 11 2026. No macro, syntax, notation, axiom, sorry.
-/
import Derived.Test.YtcnphhhcknhhaaaChecked
import GoSem.Claim
import GoSem.ClaimJoined
import GoSem.ClaimMapViews
import Derived.JoinedTies
import Derived.KernelRfl
namespace Go.Proofs.Ytcnphhhcknhhaaa
/- THE CELL 'sum', in the pinned program and in every row, IS THE sha256 OF THE DUMP (.gsa) THAT YtcnphhhcknhhaaaProg.lean LOADS. Nothing in Lean hashes anything: it is a label: what it is worth is what the hold of that sum in a sandbox is worth. -/
noncomputable def Try.pinned : Pinned := { name := "ytcnphhhcknhhaaa", sum := "f75d88b98d64a8d6ed7d532c693fa63de14e2d215b8dac80ca1234da17f07b53", checked := Try.checked }
namespace Rows
def none {H : Type} : Left H := { results := [], args := [] }

/-- 'doormanlaw16.ReadBounded': WHATEVER THE INPUT: true; the input reads as it did. -/
def readBoundedSpec : ChangeSpec := { name := "readBounded", fn := fun _ => fun
  | [d1, d2] => { results := [.lit (.bool true)], args := [d1, d2] }
  | _ => none }
def readBoundedRow : OpenClaim := { program := "ytcnphhhcknhhaaa", sum := "f75d88b98d64a8d6ed7d532c693fa63de14e2d215b8dac80ca1234da17f07b53", func := "doorman/doormanlaw16.ReadBounded", spec := "readBounded", unfollowed := true, recurses := true, apart := false }
def ReadBoundedSaid : Prop := readBoundedRow.holds Try.pinned (OpenSpec.ofChange readBoundedSpec)

/-- ITS FALSE NEIGHBOUR: 'it returns false'. Refute it at one input. -/
def readBoundedWrong : ChangeSpec := { name := "readBounded", fn := fun _ => fun
  | [d1, d2] => { results := [.lit (.bool false)], args := [d1, d2] }
  | _ => none }
def ReadBoundedWrongFalsely : Prop := readBoundedRow.holds Try.pinned (OpenSpec.ofChange readBoundedWrong)

/-- 'doormanlaw16.ReadFree': WHATEVER THE INPUT: true; the input reads as it did. -/
def readFreeSpec : ChangeSpec := { name := "readFree", fn := fun _ => fun
  | [d1, d2, d3] => { results := [.lit (.bool true)], args := [d1, d2, d3] }
  | _ => none }
def readFreeRow : OpenClaim := { program := "ytcnphhhcknhhaaa", sum := "f75d88b98d64a8d6ed7d532c693fa63de14e2d215b8dac80ca1234da17f07b53", func := "doorman/doormanlaw16.ReadFree", spec := "readFree", unfollowed := true, recurses := true, apart := false }
def ReadFreeSaid : Prop := readFreeRow.holds Try.pinned (OpenSpec.ofChange readFreeSpec)

/-- ITS FALSE NEIGHBOUR: 'it returns false'. Refute it at one input. -/
def readFreeWrong : ChangeSpec := { name := "readFree", fn := fun _ => fun
  | [d1, d2, d3] => { results := [.lit (.bool false)], args := [d1, d2, d3] }
  | _ => none }
def ReadFreeWrongFalsely : Prop := readFreeRow.holds Try.pinned (OpenSpec.ofChange readFreeWrong)

/- THE SECOND FORM. 'bulk': how many values and letters a reading holds, each counted each time it is reached (what is shared counts as often as it is met; a slice's spare places count too). A statement '..UptoSaid' is the law's where the arguments, and the package variables that the reading takes, are together of bulk at most 1048576: NARROWER than '..Said'. Prove '..Said' where nothing that the law and all that it calls make is longer than what came in: it says more and counts as full. Else prove '..UptoSaid'. A law counts once. -/
mutual
def uptoBulk {H : Type} : DataW H → Nat
  | .lit (.string bytes) => bytes.length + 1
  | .lit _ => 1
  | .nil => 1
  | .ptr d => uptoBulk d + 1
  | .slice elems spare => uptoBulkAll elems + uptoBulkAll spare + 1
  | .agg parts => uptoBulkAll parts + 1
  | .iface _ d => uptoBulk d + 1
  | .map entries => uptoBulkEntries entries + 1
  | .held _ => 1
def uptoBulkAll {H : Type} : List (DataW H) → Nat
  | [] => 0
  | d :: r => uptoBulk d + uptoBulkAll r
def uptoBulkEntries {H : Type} : List (Lit × DataW H) → Nat
  | [] => 0
  | x :: r => uptoBulkEntry x + uptoBulkEntries r
def uptoBulkEntry {H : Type} : Lit × DataW H → Nat
  | (.string bytes, d) => bytes.length + uptoBulk d + 1
  | (_, d) => uptoBulk d + 1
 end
def uptoSmall : (H : Type) → List (DataW H) → Bool := fun _ ds => decide (uptoBulkAll ds ≤ 1048576)
def OpenSpec.upto (s : _root_.Go.ChangeSpec) : _root_.Go.OpenSpec := { _root_.Go.OpenSpec.ofChange s with cond := some uptoSmall }

/-- 'doormanlaw16.ReadBounded', WHERE WHAT IT READS IS OF BULK AT MOST 1048576: true; the input reads as it did. -/
def readBoundedUptoRow : OpenClaim := { program := "ytcnphhhcknhhaaa", sum := "f75d88b98d64a8d6ed7d532c693fa63de14e2d215b8dac80ca1234da17f07b53", func := "doorman/doormanlaw16.ReadBounded", spec := "readBounded", unfollowed := true, recurses := true, apart := false, narrowed := true }
def ReadBoundedUptoSaid : Prop := readBoundedUptoRow.holds Try.pinned (OpenSpec.upto readBoundedSpec)

/-- 'doormanlaw16.ReadFree', WHERE WHAT IT READS IS OF BULK AT MOST 1048576: true; the input reads as it did. -/
def readFreeUptoRow : OpenClaim := { program := "ytcnphhhcknhhaaa", sum := "f75d88b98d64a8d6ed7d532c693fa63de14e2d215b8dac80ca1234da17f07b53", func := "doorman/doormanlaw16.ReadFree", spec := "readFree", unfollowed := true, recurses := true, apart := false, narrowed := true }
def ReadFreeUptoSaid : Prop := readFreeUptoRow.holds Try.pinned (OpenSpec.upto readFreeSpec)

end Rows
end Go.Proofs.Ytcnphhhcknhhaaa
