/-
  No cell of these rows narrows 'for every input' (looked for: loops, veiled, ifaces, maps, wideKeys, modest, calm, conditions, laid).
  DERIVED. THE GIVEN ROWS OF THIS SEAT. 5 by the template 'for every input the law returns true; each argument reads behind the call as it read before'; 0 by the template 'total and deterministic' (their statements: YtihdfnhnholooaaTotals.lean).
  GIVEN WITH THE SEED: the statements are not yours to turn. If you find one false, say at which input.
  Laid BY PROGRAM, IN A SANDBOX (cutbox-rows.mjs): the forced cells as the released guide's own fill.sh prints them over the translation 68009d1b2c972f43… (all of the seat's roots in one cut). By AI agents, Wed Nov 11 2026. No macro, syntax, notation, axiom, sorry.
-/
import Derived.Test.YtihdfnhnholooaaChecked
import GoSem.Claim
import GoSem.ClaimJoined
import GoSem.ClaimMapViews
import Derived.JoinedTies
import Derived.KernelRfl
namespace Go.Proofs.Ytihdfnhnholooaa
/- THE CELL 'sum', in the pinned program and in every row, IS THE sha256 OF THE DUMP (.gsa) THAT YtihdfnhnholooaaProg.lean LOADS. Nothing in Lean hashes anything: it is a label: what it is worth is what the hold of that sum in a sandbox is worth. -/
noncomputable def Try.pinned : Pinned := { name := "ytihdfnhnholooaa", sum := "68009d1b2c972f43221bd1c3dd099d44ab8004ea20073b45b7240daa6b4e9da7", checked := Try.checked }
namespace Rows
def none {H : Type} : Left H := { results := [], args := [] }

/-- 'doormanlaw23.FairTells': WHATEVER THE INPUT: true; the input reads as it did. -/
def fairTellsSpec : ChangeSpec := { name := "fairTells", fn := fun _ => fun
  | [d1, d2, d3] => { results := [.lit (.bool true)], args := [d1, d2, d3] }
  | _ => none }
def fairTellsRow : OpenClaim := { program := "ytihdfnhnholooaa", sum := "68009d1b2c972f43221bd1c3dd099d44ab8004ea20073b45b7240daa6b4e9da7", func := "doorman/doormanlaw23.FairTells", spec := "fairTells", apart := false }
def FairTellsSaid : Prop := fairTellsRow.holds Try.pinned (OpenSpec.ofChange fairTellsSpec)

/-- ITS FALSE NEIGHBOUR: 'it returns false'. Refute it at one input. -/
def fairTellsWrong : ChangeSpec := { name := "fairTells", fn := fun _ => fun
  | [d1, d2, d3] => { results := [.lit (.bool false)], args := [d1, d2, d3] }
  | _ => none }
def FairTellsWrongFalsely : Prop := fairTellsRow.holds Try.pinned (OpenSpec.ofChange fairTellsWrong)

/-- 'doormanlaw23.FairRows': WHATEVER THE INPUT: true; the input reads as it did. -/
def fairRowsSpec : ChangeSpec := { name := "fairRows", fn := fun _ => fun
  | [d1, d2, d3] => { results := [.lit (.bool true)], args := [d1, d2, d3] }
  | _ => none }
def fairRowsRow : OpenClaim := { program := "ytihdfnhnholooaa", sum := "68009d1b2c972f43221bd1c3dd099d44ab8004ea20073b45b7240daa6b4e9da7", func := "doorman/doormanlaw23.FairRows", spec := "fairRows", apart := false }
def FairRowsSaid : Prop := fairRowsRow.holds Try.pinned (OpenSpec.ofChange fairRowsSpec)

/-- ITS FALSE NEIGHBOUR: 'it returns false'. Refute it at one input. -/
def fairRowsWrong : ChangeSpec := { name := "fairRows", fn := fun _ => fun
  | [d1, d2, d3] => { results := [.lit (.bool false)], args := [d1, d2, d3] }
  | _ => none }
def FairRowsWrongFalsely : Prop := fairRowsRow.holds Try.pinned (OpenSpec.ofChange fairRowsWrong)

/-- 'doormanlaw23.FairMore': WHATEVER THE INPUT: true; the input reads as it did. -/
def fairMoreSpec : ChangeSpec := { name := "fairMore", fn := fun _ => fun
  | [d1, d2, d3, d4, d5] => { results := [.lit (.bool true)], args := [d1, d2, d3, d4, d5] }
  | _ => none }
def fairMoreRow : OpenClaim := { program := "ytihdfnhnholooaa", sum := "68009d1b2c972f43221bd1c3dd099d44ab8004ea20073b45b7240daa6b4e9da7", func := "doorman/doormanlaw23.FairMore", spec := "fairMore", apart := false }
def FairMoreSaid : Prop := fairMoreRow.holds Try.pinned (OpenSpec.ofChange fairMoreSpec)

/-- ITS FALSE NEIGHBOUR: 'it returns false'. Refute it at one input. -/
def fairMoreWrong : ChangeSpec := { name := "fairMore", fn := fun _ => fun
  | [d1, d2, d3, d4, d5] => { results := [.lit (.bool false)], args := [d1, d2, d3, d4, d5] }
  | _ => none }
def FairMoreWrongFalsely : Prop := fairMoreRow.holds Try.pinned (OpenSpec.ofChange fairMoreWrong)

/-- 'doormanlaw23.FairRound': WHATEVER THE INPUT: true; the input reads as it did. -/
def fairRoundSpec : ChangeSpec := { name := "fairRound", fn := fun _ => fun
  | [d1, d2, d3] => { results := [.lit (.bool true)], args := [d1, d2, d3] }
  | _ => none }
def fairRoundRow : OpenClaim := { program := "ytihdfnhnholooaa", sum := "68009d1b2c972f43221bd1c3dd099d44ab8004ea20073b45b7240daa6b4e9da7", func := "doorman/doormanlaw23.FairRound", spec := "fairRound", apart := false }
def FairRoundSaid : Prop := fairRoundRow.holds Try.pinned (OpenSpec.ofChange fairRoundSpec)

/-- ITS FALSE NEIGHBOUR: 'it returns false'. Refute it at one input. -/
def fairRoundWrong : ChangeSpec := { name := "fairRound", fn := fun _ => fun
  | [d1, d2, d3] => { results := [.lit (.bool false)], args := [d1, d2, d3] }
  | _ => none }
def FairRoundWrongFalsely : Prop := fairRoundRow.holds Try.pinned (OpenSpec.ofChange fairRoundWrong)

/-- 'doormanlaw23.FairBounds': WHATEVER THE INPUT: true; the input reads as it did. -/
def fairBoundsSpec : ChangeSpec := { name := "fairBounds", fn := fun _ => fun
  | [d1, d2, d3] => { results := [.lit (.bool true)], args := [d1, d2, d3] }
  | _ => none }
def fairBoundsRow : OpenClaim := { program := "ytihdfnhnholooaa", sum := "68009d1b2c972f43221bd1c3dd099d44ab8004ea20073b45b7240daa6b4e9da7", func := "doorman/doormanlaw23.FairBounds", spec := "fairBounds", apart := false }
def FairBoundsSaid : Prop := fairBoundsRow.holds Try.pinned (OpenSpec.ofChange fairBoundsSpec)

/-- ITS FALSE NEIGHBOUR: 'it returns false'. Refute it at one input. -/
def fairBoundsWrong : ChangeSpec := { name := "fairBounds", fn := fun _ => fun
  | [d1, d2, d3] => { results := [.lit (.bool false)], args := [d1, d2, d3] }
  | _ => none }
def FairBoundsWrongFalsely : Prop := fairBoundsRow.holds Try.pinned (OpenSpec.ofChange fairBoundsWrong)

/- THE SECOND FORM. 'bulk': how many values and letters a reading holds, each counted each time it is reached (what is shared counts as often as it is met; a slice's spare places count too). A statement '..UptoSaid' is the law's where the arguments, and the package variables that the reading takes, are together of bulk at most 1048576: NARROWER than '..Said'. Prove '..Said' where nothing that the law and all that it calls make is longer than what came in: it says more and counts as full. Else prove '..UptoSaid'. A law counts once. -/
mutual
def uptoBulk {H : Type} : DataW H → Nat
  | .lit (.string bytes) => bytes.length + 1
  | .lit _ => 1
  | .nil => 1
  | .ptr d => uptoBulk d + 1
  | .slice elems spare => uptoBulkAll elems + uptoBulkAll spare + 1
  | .agg parts => uptoBulkAll parts + 1
  | .iface _ d => uptoBulk d + 1
  | .map entries => uptoBulkEntries entries + 1
  | .held _ => 1
def uptoBulkAll {H : Type} : List (DataW H) → Nat
  | [] => 0
  | d :: r => uptoBulk d + uptoBulkAll r
def uptoBulkEntries {H : Type} : List (Lit × DataW H) → Nat
  | [] => 0
  | x :: r => uptoBulkEntry x + uptoBulkEntries r
def uptoBulkEntry {H : Type} : Lit × DataW H → Nat
  | (.string bytes, d) => bytes.length + uptoBulk d + 1
  | (_, d) => uptoBulk d + 1
 end
def uptoSmall : (H : Type) → List (DataW H) → Bool := fun _ ds => decide (uptoBulkAll ds ≤ 1048576)
def OpenSpec.upto (s : _root_.Go.ChangeSpec) : _root_.Go.OpenSpec := { _root_.Go.OpenSpec.ofChange s with cond := some uptoSmall }

/-- 'doormanlaw23.FairTells', WHERE WHAT IT READS IS OF BULK AT MOST 1048576: true; the input reads as it did. -/
def fairTellsUptoRow : OpenClaim := { program := "ytihdfnhnholooaa", sum := "68009d1b2c972f43221bd1c3dd099d44ab8004ea20073b45b7240daa6b4e9da7", func := "doorman/doormanlaw23.FairTells", spec := "fairTells", apart := false, narrowed := true }
def FairTellsUptoSaid : Prop := fairTellsUptoRow.holds Try.pinned (OpenSpec.upto fairTellsSpec)

/-- 'doormanlaw23.FairRows', WHERE WHAT IT READS IS OF BULK AT MOST 1048576: true; the input reads as it did. -/
def fairRowsUptoRow : OpenClaim := { program := "ytihdfnhnholooaa", sum := "68009d1b2c972f43221bd1c3dd099d44ab8004ea20073b45b7240daa6b4e9da7", func := "doorman/doormanlaw23.FairRows", spec := "fairRows", apart := false, narrowed := true }
def FairRowsUptoSaid : Prop := fairRowsUptoRow.holds Try.pinned (OpenSpec.upto fairRowsSpec)

/-- 'doormanlaw23.FairMore', WHERE WHAT IT READS IS OF BULK AT MOST 1048576: true; the input reads as it did. -/
def fairMoreUptoRow : OpenClaim := { program := "ytihdfnhnholooaa", sum := "68009d1b2c972f43221bd1c3dd099d44ab8004ea20073b45b7240daa6b4e9da7", func := "doorman/doormanlaw23.FairMore", spec := "fairMore", apart := false, narrowed := true }
def FairMoreUptoSaid : Prop := fairMoreUptoRow.holds Try.pinned (OpenSpec.upto fairMoreSpec)

/-- 'doormanlaw23.FairRound', WHERE WHAT IT READS IS OF BULK AT MOST 1048576: true; the input reads as it did. -/
def fairRoundUptoRow : OpenClaim := { program := "ytihdfnhnholooaa", sum := "68009d1b2c972f43221bd1c3dd099d44ab8004ea20073b45b7240daa6b4e9da7", func := "doorman/doormanlaw23.FairRound", spec := "fairRound", apart := false, narrowed := true }
def FairRoundUptoSaid : Prop := fairRoundUptoRow.holds Try.pinned (OpenSpec.upto fairRoundSpec)

/-- 'doormanlaw23.FairBounds', WHERE WHAT IT READS IS OF BULK AT MOST 1048576: true; the input reads as it did. -/
def fairBoundsUptoRow : OpenClaim := { program := "ytihdfnhnholooaa", sum := "68009d1b2c972f43221bd1c3dd099d44ab8004ea20073b45b7240daa6b4e9da7", func := "doorman/doormanlaw23.FairBounds", spec := "fairBounds", apart := false, narrowed := true }
def FairBoundsUptoSaid : Prop := fairBoundsUptoRow.holds Try.pinned (OpenSpec.upto fairBoundsSpec)

end Rows
end Go.Proofs.Ytihdfnhnholooaa
