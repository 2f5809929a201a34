/-
  No cell of these rows narrows 'for every input' (looked for: loops, veiled, ifaces, maps, wideKeys, modest, calm, conditions, laid).
  DERIVED. THE GIVEN ROWS OF THIS SEAT. 11 by the template 'for every input the law returns true; each argument reads behind the call as it read before'; 0 by the template 'total and deterministic' (their statements: YtfeglbniahebaaaTotals.lean).
  GIVEN WITH THE SEED: the statements are not yours to turn. If you find one false, say at which input.
  Laid BY PROGRAM, IN A SANDBOX (cutbox-rows.mjs): the forced cells as the released guide's own fill.sh prints them over the translation a005a75315de14f9… (all of the seat's roots in one cut). By AI agents, Wed Nov 11 2026. No macro, syntax, notation, axiom, sorry.
-/
import Derived.Test.YtfeglbniahebaaaChecked
import GoSem.Claim
import GoSem.ClaimJoined
import GoSem.ClaimMapViews
import Derived.JoinedTies
import Derived.KernelRfl
namespace Go.Proofs.Ytfeglbniahebaaa
/- THE CELL 'sum', in the pinned program and in every row, IS THE sha256 OF THE DUMP (.gsa) THAT YtfeglbniahebaaaProg.lean LOADS. Nothing in Lean hashes anything: it is a label: what it is worth is what the hold of that sum in a sandbox is worth. -/
noncomputable def Try.pinned : Pinned := { name := "ytfeglbniahebaaa", sum := "a005a75315de14f9d59c21fd26ae69bd3ddf8d63c5822e51e0bcdabc6e28e699", checked := Try.checked }
namespace Rows
def none {H : Type} : Left H := { results := [], args := [] }

/-- 'doormanlaw22.RaceFront': WHATEVER THE INPUT: true; the input reads as it did. -/
def raceFrontSpec : ChangeSpec := { name := "raceFront", fn := fun _ => fun
  | [d1, d2] => { results := [.lit (.bool true)], args := [d1, d2] }
  | _ => none }
def raceFrontRow : OpenClaim := { program := "ytfeglbniahebaaa", sum := "a005a75315de14f9d59c21fd26ae69bd3ddf8d63c5822e51e0bcdabc6e28e699", func := "doorman/doormanlaw22.RaceFront", spec := "raceFront", apart := false }
def RaceFrontSaid : Prop := raceFrontRow.holds Try.pinned (OpenSpec.ofChange raceFrontSpec)

/-- ITS FALSE NEIGHBOUR: 'it returns false'. Refute it at one input. -/
def raceFrontWrong : ChangeSpec := { name := "raceFront", fn := fun _ => fun
  | [d1, d2] => { results := [.lit (.bool false)], args := [d1, d2] }
  | _ => none }
def RaceFrontWrongFalsely : Prop := raceFrontRow.holds Try.pinned (OpenSpec.ofChange raceFrontWrong)

/-- 'doormanlaw22.RaceLocked': WHATEVER THE INPUT: true; the input reads as it did. -/
def raceLockedSpec : ChangeSpec := { name := "raceLocked", fn := fun _ => fun
  | [d] => { results := [.lit (.bool true)], args := [d] }
  | _ => none }
def raceLockedRow : OpenClaim := { program := "ytfeglbniahebaaa", sum := "a005a75315de14f9d59c21fd26ae69bd3ddf8d63c5822e51e0bcdabc6e28e699", func := "doorman/doormanlaw22.RaceLocked", spec := "raceLocked", apart := false }
def RaceLockedSaid : Prop := raceLockedRow.holds Try.pinned (OpenSpec.ofChange raceLockedSpec)

/-- ITS FALSE NEIGHBOUR: 'it returns false'. Refute it at one input. -/
def raceLockedWrong : ChangeSpec := { name := "raceLocked", fn := fun _ => fun
  | [d] => { results := [.lit (.bool false)], args := [d] }
  | _ => none }
def RaceLockedWrongFalsely : Prop := raceLockedRow.holds Try.pinned (OpenSpec.ofChange raceLockedWrong)

/-- 'doormanlaw22.RaceAlone': WHATEVER THE INPUT: true; the input reads as it did. -/
def raceAloneSpec : ChangeSpec := { name := "raceAlone", fn := fun _ => fun
  | [d1, d2] => { results := [.lit (.bool true)], args := [d1, d2] }
  | _ => none }
def raceAloneRow : OpenClaim := { program := "ytfeglbniahebaaa", sum := "a005a75315de14f9d59c21fd26ae69bd3ddf8d63c5822e51e0bcdabc6e28e699", func := "doorman/doormanlaw22.RaceAlone", spec := "raceAlone", apart := false }
def RaceAloneSaid : Prop := raceAloneRow.holds Try.pinned (OpenSpec.ofChange raceAloneSpec)

/-- ITS FALSE NEIGHBOUR: 'it returns false'. Refute it at one input. -/
def raceAloneWrong : ChangeSpec := { name := "raceAlone", fn := fun _ => fun
  | [d1, d2] => { results := [.lit (.bool false)], args := [d1, d2] }
  | _ => none }
def RaceAloneWrongFalsely : Prop := raceAloneRow.holds Try.pinned (OpenSpec.ofChange raceAloneWrong)

/-- 'doormanlaw22.RaceFinds': WHATEVER THE INPUT: true; the input reads as it did. -/
def raceFindsSpec : ChangeSpec := { name := "raceFinds", fn := fun _ => fun
  | [d] => { results := [.lit (.bool true)], args := [d] }
  | _ => none }
def raceFindsRow : OpenClaim := { program := "ytfeglbniahebaaa", sum := "a005a75315de14f9d59c21fd26ae69bd3ddf8d63c5822e51e0bcdabc6e28e699", func := "doorman/doormanlaw22.RaceFinds", spec := "raceFinds", apart := false }
def RaceFindsSaid : Prop := raceFindsRow.holds Try.pinned (OpenSpec.ofChange raceFindsSpec)

/-- ITS FALSE NEIGHBOUR: 'it returns false'. Refute it at one input. -/
def raceFindsWrong : ChangeSpec := { name := "raceFinds", fn := fun _ => fun
  | [d] => { results := [.lit (.bool false)], args := [d] }
  | _ => none }
def RaceFindsWrongFalsely : Prop := raceFindsRow.holds Try.pinned (OpenSpec.ofChange raceFindsWrong)

/-- 'doormanlaw22.RaceKnows': WHATEVER THE INPUT: true; the input reads as it did. -/
def raceKnowsSpec : ChangeSpec := { name := "raceKnows", fn := fun _ => fun
  | [d] => { results := [.lit (.bool true)], args := [d] }
  | _ => none }
def raceKnowsRow : OpenClaim := { program := "ytfeglbniahebaaa", sum := "a005a75315de14f9d59c21fd26ae69bd3ddf8d63c5822e51e0bcdabc6e28e699", func := "doorman/doormanlaw22.RaceKnows", spec := "raceKnows", apart := false }
def RaceKnowsSaid : Prop := raceKnowsRow.holds Try.pinned (OpenSpec.ofChange raceKnowsSpec)

/-- ITS FALSE NEIGHBOUR: 'it returns false'. Refute it at one input. -/
def raceKnowsWrong : ChangeSpec := { name := "raceKnows", fn := fun _ => fun
  | [d] => { results := [.lit (.bool false)], args := [d] }
  | _ => none }
def RaceKnowsWrongFalsely : Prop := raceKnowsRow.holds Try.pinned (OpenSpec.ofChange raceKnowsWrong)

/-- 'doormanlaw20.HistSorted': WHATEVER THE INPUT: true; the input reads as it did. -/
def histSortedSpec : ChangeSpec := { name := "histSorted", fn := fun _ => fun
  | [d] => { results := [.lit (.bool true)], args := [d] }
  | _ => none }
def histSortedRow : OpenClaim := { program := "ytfeglbniahebaaa", sum := "a005a75315de14f9d59c21fd26ae69bd3ddf8d63c5822e51e0bcdabc6e28e699", func := "doorman/doormanlaw20.HistSorted", spec := "histSorted", unfollowed := true, recurses := true, apart := false }
def HistSortedSaid : Prop := histSortedRow.holds Try.pinned (OpenSpec.ofChange histSortedSpec)

/-- ITS FALSE NEIGHBOUR: 'it returns false'. Refute it at one input. -/
def histSortedWrong : ChangeSpec := { name := "histSorted", fn := fun _ => fun
  | [d] => { results := [.lit (.bool false)], args := [d] }
  | _ => none }
def HistSortedWrongFalsely : Prop := histSortedRow.holds Try.pinned (OpenSpec.ofChange histSortedWrong)

/-- 'doormanlaw20.HistChain': WHATEVER THE INPUT: true; the input reads as it did. -/
def histChainSpec : ChangeSpec := { name := "histChain", fn := fun _ => fun
  | [d1, d2, d3] => { results := [.lit (.bool true)], args := [d1, d2, d3] }
  | _ => none }
def histChainRow : OpenClaim := { program := "ytfeglbniahebaaa", sum := "a005a75315de14f9d59c21fd26ae69bd3ddf8d63c5822e51e0bcdabc6e28e699", func := "doorman/doormanlaw20.HistChain", spec := "histChain", unfollowed := true, recurses := true, apart := false }
def HistChainSaid : Prop := histChainRow.holds Try.pinned (OpenSpec.ofChange histChainSpec)

/-- ITS FALSE NEIGHBOUR: 'it returns false'. Refute it at one input. -/
def histChainWrong : ChangeSpec := { name := "histChain", fn := fun _ => fun
  | [d1, d2, d3] => { results := [.lit (.bool false)], args := [d1, d2, d3] }
  | _ => none }
def HistChainWrongFalsely : Prop := histChainRow.holds Try.pinned (OpenSpec.ofChange histChainWrong)

/-- 'doormanlaw20.HistFront': WHATEVER THE INPUT: true; the input reads as it did. -/
def histFrontSpec : ChangeSpec := { name := "histFront", fn := fun _ => fun
  | [d1, d2] => { results := [.lit (.bool true)], args := [d1, d2] }
  | _ => none }
def histFrontRow : OpenClaim := { program := "ytfeglbniahebaaa", sum := "a005a75315de14f9d59c21fd26ae69bd3ddf8d63c5822e51e0bcdabc6e28e699", func := "doorman/doormanlaw20.HistFront", spec := "histFront", unfollowed := true, recurses := true, apart := false }
def HistFrontSaid : Prop := histFrontRow.holds Try.pinned (OpenSpec.ofChange histFrontSpec)

/-- ITS FALSE NEIGHBOUR: 'it returns false'. Refute it at one input. -/
def histFrontWrong : ChangeSpec := { name := "histFront", fn := fun _ => fun
  | [d1, d2] => { results := [.lit (.bool false)], args := [d1, d2] }
  | _ => none }
def HistFrontWrongFalsely : Prop := histFrontRow.holds Try.pinned (OpenSpec.ofChange histFrontWrong)

/-- 'doormanlaw20.HistTurned': WHATEVER THE INPUT: true; the input reads as it did. -/
def histTurnedSpec : ChangeSpec := { name := "histTurned", fn := fun _ => fun
  | [d1, d2] => { results := [.lit (.bool true)], args := [d1, d2] }
  | _ => none }
def histTurnedRow : OpenClaim := { program := "ytfeglbniahebaaa", sum := "a005a75315de14f9d59c21fd26ae69bd3ddf8d63c5822e51e0bcdabc6e28e699", func := "doorman/doormanlaw20.HistTurned", spec := "histTurned", unfollowed := true, recurses := true, apart := false }
def HistTurnedSaid : Prop := histTurnedRow.holds Try.pinned (OpenSpec.ofChange histTurnedSpec)

/-- ITS FALSE NEIGHBOUR: 'it returns false'. Refute it at one input. -/
def histTurnedWrong : ChangeSpec := { name := "histTurned", fn := fun _ => fun
  | [d1, d2] => { results := [.lit (.bool false)], args := [d1, d2] }
  | _ => none }
def HistTurnedWrongFalsely : Prop := histTurnedRow.holds Try.pinned (OpenSpec.ofChange histTurnedWrong)

/-- 'doormanlaw20.HistTells': WHATEVER THE INPUT: true; the input reads as it did. -/
def histTellsSpec : ChangeSpec := { name := "histTells", fn := fun _ => fun
  | [d1, d2] => { results := [.lit (.bool true)], args := [d1, d2] }
  | _ => none }
def histTellsRow : OpenClaim := { program := "ytfeglbniahebaaa", sum := "a005a75315de14f9d59c21fd26ae69bd3ddf8d63c5822e51e0bcdabc6e28e699", func := "doorman/doormanlaw20.HistTells", spec := "histTells", unfollowed := true, recurses := true, apart := false }
def HistTellsSaid : Prop := histTellsRow.holds Try.pinned (OpenSpec.ofChange histTellsSpec)

/-- ITS FALSE NEIGHBOUR: 'it returns false'. Refute it at one input. -/
def histTellsWrong : ChangeSpec := { name := "histTells", fn := fun _ => fun
  | [d1, d2] => { results := [.lit (.bool false)], args := [d1, d2] }
  | _ => none }
def HistTellsWrongFalsely : Prop := histTellsRow.holds Try.pinned (OpenSpec.ofChange histTellsWrong)

/-- 'doormanlaw20.HistAny': WHATEVER THE INPUT: true; the input reads as it did. -/
def histAnySpec : ChangeSpec := { name := "histAny", fn := fun _ => fun
  | [d] => { results := [.lit (.bool true)], args := [d] }
  | _ => none }
def histAnyRow : OpenClaim := { program := "ytfeglbniahebaaa", sum := "a005a75315de14f9d59c21fd26ae69bd3ddf8d63c5822e51e0bcdabc6e28e699", func := "doorman/doormanlaw20.HistAny", spec := "histAny", unfollowed := true, recurses := true, apart := false }
def HistAnySaid : Prop := histAnyRow.holds Try.pinned (OpenSpec.ofChange histAnySpec)

/-- ITS FALSE NEIGHBOUR: 'it returns false'. Refute it at one input. -/
def histAnyWrong : ChangeSpec := { name := "histAny", fn := fun _ => fun
  | [d] => { results := [.lit (.bool false)], args := [d] }
  | _ => none }
def HistAnyWrongFalsely : Prop := histAnyRow.holds Try.pinned (OpenSpec.ofChange histAnyWrong)

/- THE SECOND FORM. 'bulk': how many values and letters a reading holds, each counted each time it is reached (what is shared counts as often as it is met; a slice's spare places count too). A statement '..UptoSaid' is the law's where the arguments, and the package variables that the reading takes, are together of bulk at most 1048576: NARROWER than '..Said'. Prove '..Said' where nothing that the law and all that it calls make is longer than what came in: it says more and counts as full. Else prove '..UptoSaid'. A law counts once. -/
mutual
def uptoBulk {H : Type} : DataW H → Nat
  | .lit (.string bytes) => bytes.length + 1
  | .lit _ => 1
  | .nil => 1
  | .ptr d => uptoBulk d + 1
  | .slice elems spare => uptoBulkAll elems + uptoBulkAll spare + 1
  | .agg parts => uptoBulkAll parts + 1
  | .iface _ d => uptoBulk d + 1
  | .map entries => uptoBulkEntries entries + 1
  | .held _ => 1
def uptoBulkAll {H : Type} : List (DataW H) → Nat
  | [] => 0
  | d :: r => uptoBulk d + uptoBulkAll r
def uptoBulkEntries {H : Type} : List (Lit × DataW H) → Nat
  | [] => 0
  | x :: r => uptoBulkEntry x + uptoBulkEntries r
def uptoBulkEntry {H : Type} : Lit × DataW H → Nat
  | (.string bytes, d) => bytes.length + uptoBulk d + 1
  | (_, d) => uptoBulk d + 1
 end
def uptoSmall : (H : Type) → List (DataW H) → Bool := fun _ ds => decide (uptoBulkAll ds ≤ 1048576)
def OpenSpec.upto (s : _root_.Go.ChangeSpec) : _root_.Go.OpenSpec := { _root_.Go.OpenSpec.ofChange s with cond := some uptoSmall }

/-- 'doormanlaw22.RaceFront', WHERE WHAT IT READS IS OF BULK AT MOST 1048576: true; the input reads as it did. -/
def raceFrontUptoRow : OpenClaim := { program := "ytfeglbniahebaaa", sum := "a005a75315de14f9d59c21fd26ae69bd3ddf8d63c5822e51e0bcdabc6e28e699", func := "doorman/doormanlaw22.RaceFront", spec := "raceFront", apart := false, narrowed := true }
def RaceFrontUptoSaid : Prop := raceFrontUptoRow.holds Try.pinned (OpenSpec.upto raceFrontSpec)

/-- 'doormanlaw22.RaceLocked', WHERE WHAT IT READS IS OF BULK AT MOST 1048576: true; the input reads as it did. -/
def raceLockedUptoRow : OpenClaim := { program := "ytfeglbniahebaaa", sum := "a005a75315de14f9d59c21fd26ae69bd3ddf8d63c5822e51e0bcdabc6e28e699", func := "doorman/doormanlaw22.RaceLocked", spec := "raceLocked", apart := false, narrowed := true }
def RaceLockedUptoSaid : Prop := raceLockedUptoRow.holds Try.pinned (OpenSpec.upto raceLockedSpec)

/-- 'doormanlaw22.RaceAlone', WHERE WHAT IT READS IS OF BULK AT MOST 1048576: true; the input reads as it did. -/
def raceAloneUptoRow : OpenClaim := { program := "ytfeglbniahebaaa", sum := "a005a75315de14f9d59c21fd26ae69bd3ddf8d63c5822e51e0bcdabc6e28e699", func := "doorman/doormanlaw22.RaceAlone", spec := "raceAlone", apart := false, narrowed := true }
def RaceAloneUptoSaid : Prop := raceAloneUptoRow.holds Try.pinned (OpenSpec.upto raceAloneSpec)

/-- 'doormanlaw22.RaceFinds', WHERE WHAT IT READS IS OF BULK AT MOST 1048576: true; the input reads as it did. -/
def raceFindsUptoRow : OpenClaim := { program := "ytfeglbniahebaaa", sum := "a005a75315de14f9d59c21fd26ae69bd3ddf8d63c5822e51e0bcdabc6e28e699", func := "doorman/doormanlaw22.RaceFinds", spec := "raceFinds", apart := false, narrowed := true }
def RaceFindsUptoSaid : Prop := raceFindsUptoRow.holds Try.pinned (OpenSpec.upto raceFindsSpec)

/-- 'doormanlaw22.RaceKnows', WHERE WHAT IT READS IS OF BULK AT MOST 1048576: true; the input reads as it did. -/
def raceKnowsUptoRow : OpenClaim := { program := "ytfeglbniahebaaa", sum := "a005a75315de14f9d59c21fd26ae69bd3ddf8d63c5822e51e0bcdabc6e28e699", func := "doorman/doormanlaw22.RaceKnows", spec := "raceKnows", apart := false, narrowed := true }
def RaceKnowsUptoSaid : Prop := raceKnowsUptoRow.holds Try.pinned (OpenSpec.upto raceKnowsSpec)

/-- 'doormanlaw20.HistSorted', WHERE WHAT IT READS IS OF BULK AT MOST 1048576: true; the input reads as it did. -/
def histSortedUptoRow : OpenClaim := { program := "ytfeglbniahebaaa", sum := "a005a75315de14f9d59c21fd26ae69bd3ddf8d63c5822e51e0bcdabc6e28e699", func := "doorman/doormanlaw20.HistSorted", spec := "histSorted", unfollowed := true, recurses := true, apart := false, narrowed := true }
def HistSortedUptoSaid : Prop := histSortedUptoRow.holds Try.pinned (OpenSpec.upto histSortedSpec)

/-- 'doormanlaw20.HistChain', WHERE WHAT IT READS IS OF BULK AT MOST 1048576: true; the input reads as it did. -/
def histChainUptoRow : OpenClaim := { program := "ytfeglbniahebaaa", sum := "a005a75315de14f9d59c21fd26ae69bd3ddf8d63c5822e51e0bcdabc6e28e699", func := "doorman/doormanlaw20.HistChain", spec := "histChain", unfollowed := true, recurses := true, apart := false, narrowed := true }
def HistChainUptoSaid : Prop := histChainUptoRow.holds Try.pinned (OpenSpec.upto histChainSpec)

/-- 'doormanlaw20.HistFront', WHERE WHAT IT READS IS OF BULK AT MOST 1048576: true; the input reads as it did. -/
def histFrontUptoRow : OpenClaim := { program := "ytfeglbniahebaaa", sum := "a005a75315de14f9d59c21fd26ae69bd3ddf8d63c5822e51e0bcdabc6e28e699", func := "doorman/doormanlaw20.HistFront", spec := "histFront", unfollowed := true, recurses := true, apart := false, narrowed := true }
def HistFrontUptoSaid : Prop := histFrontUptoRow.holds Try.pinned (OpenSpec.upto histFrontSpec)

/-- 'doormanlaw20.HistTurned', WHERE WHAT IT READS IS OF BULK AT MOST 1048576: true; the input reads as it did. -/
def histTurnedUptoRow : OpenClaim := { program := "ytfeglbniahebaaa", sum := "a005a75315de14f9d59c21fd26ae69bd3ddf8d63c5822e51e0bcdabc6e28e699", func := "doorman/doormanlaw20.HistTurned", spec := "histTurned", unfollowed := true, recurses := true, apart := false, narrowed := true }
def HistTurnedUptoSaid : Prop := histTurnedUptoRow.holds Try.pinned (OpenSpec.upto histTurnedSpec)

/-- 'doormanlaw20.HistTells', WHERE WHAT IT READS IS OF BULK AT MOST 1048576: true; the input reads as it did. -/
def histTellsUptoRow : OpenClaim := { program := "ytfeglbniahebaaa", sum := "a005a75315de14f9d59c21fd26ae69bd3ddf8d63c5822e51e0bcdabc6e28e699", func := "doorman/doormanlaw20.HistTells", spec := "histTells", unfollowed := true, recurses := true, apart := false, narrowed := true }
def HistTellsUptoSaid : Prop := histTellsUptoRow.holds Try.pinned (OpenSpec.upto histTellsSpec)

/-- 'doormanlaw20.HistAny', WHERE WHAT IT READS IS OF BULK AT MOST 1048576: true; the input reads as it did. -/
def histAnyUptoRow : OpenClaim := { program := "ytfeglbniahebaaa", sum := "a005a75315de14f9d59c21fd26ae69bd3ddf8d63c5822e51e0bcdabc6e28e699", func := "doorman/doormanlaw20.HistAny", spec := "histAny", unfollowed := true, recurses := true, apart := false, narrowed := true }
def HistAnyUptoSaid : Prop := histAnyUptoRow.holds Try.pinned (OpenSpec.upto histAnySpec)

end Rows
end Go.Proofs.Ytfeglbniahebaaa
