/-
  No cell of these rows narrows 'for every input' (looked for: loops, veiled, ifaces, maps, wideKeys, modest, calm, conditions, laid).
  DERIVED. THE GIVEN ROWS OF THIS SEAT. 8 by the template 'for every input the law returns true; each argument reads behind the call as it read before'; 0 by the template 'total and deterministic' (their statements: YtmbningljbcpkaaGreatTotals.lean).
  GIVEN WITH THE SEED: the statements are not yours to turn. If you find one false, say at which input.
  Laid BY PROGRAM, IN A SANDBOX (cutbox-rows.mjs): the forced cells as the released guide's own fill.sh prints them over the translation 262e7cdf1c644714… (all of the seat's roots in one cut). By AI agents, Wed Nov 11 2026. No macro, syntax, notation, axiom, sorry.
-/
import Derived.Test.YtmbningljbcpkaaGreatChecked
import GoSem.Claim
import GoSem.ClaimJoined
import GoSem.ClaimMapViews
import Derived.JoinedTies
import Derived.KernelRfl
namespace Go.Proofs.YtmbningljbcpkaaGreat
/- THE CELL 'sum', in the pinned program and in every row, IS THE sha256 OF THE DUMP (.gsa) THAT YtmbningljbcpkaaGreatProg.lean LOADS. Nothing in Lean hashes anything: it is a label: what it is worth is what the hold of that sum in a sandbox is worth. -/
noncomputable def Tryz.pinned : Pinned := { name := "ytmbningljbcpkaagreat", sum := "262e7cdf1c644714a74d7a8b571d5949616766075219132f04ea49f03c7bf244", checked := Tryz.checked }
namespace Rows
def none {H : Type} : Left H := { results := [], args := [] }

/-- 'doormanlaw14.HallPublish': WHATEVER THE INPUT: true; the input reads as it did. -/
def hallPublishSpec : ChangeSpec := { name := "hallPublish", fn := fun _ => fun
  | [d] => { results := [.lit (.bool true)], args := [d] }
  | _ => none }
def hallPublishRow : OpenClaim := { program := "ytmbningljbcpkaagreat", sum := "262e7cdf1c644714a74d7a8b571d5949616766075219132f04ea49f03c7bf244", func := "doorman/doormanlaw14.HallPublish", spec := "hallPublish", inPlace := ["slices.overlaps[doorman/api.Session]", "slices.overlaps[string]", "slices.overlaps[doorman/book.Entry]", "slices.overlaps[uint32]"], unfollowed := true, recurses := true, apart := false }
def HallPublishSaid : Prop := hallPublishRow.holds Tryz.pinned (OpenSpec.ofChange hallPublishSpec)

/-- ITS FALSE NEIGHBOUR: 'it returns false'. Refute it at one input. -/
def hallPublishWrong : ChangeSpec := { name := "hallPublish", fn := fun _ => fun
  | [d] => { results := [.lit (.bool false)], args := [d] }
  | _ => none }
def HallPublishWrongFalsely : Prop := hallPublishRow.holds Tryz.pinned (OpenSpec.ofChange hallPublishWrong)

/-- 'doormanlaw14.HallActs': WHATEVER THE INPUT: true; the input reads as it did. -/
def hallActsSpec : ChangeSpec := { name := "hallActs", fn := fun _ => fun
  | [d] => { results := [.lit (.bool true)], args := [d] }
  | _ => none }
def hallActsRow : OpenClaim := { program := "ytmbningljbcpkaagreat", sum := "262e7cdf1c644714a74d7a8b571d5949616766075219132f04ea49f03c7bf244", func := "doorman/doormanlaw14.HallActs", spec := "hallActs", inPlace := ["slices.overlaps[doorman/api.Session]", "slices.overlaps[string]", "slices.overlaps[doorman/book.Entry]", "slices.overlaps[uint32]"], unfollowed := true, recurses := true, apart := false }
def HallActsSaid : Prop := hallActsRow.holds Tryz.pinned (OpenSpec.ofChange hallActsSpec)

/-- ITS FALSE NEIGHBOUR: 'it returns false'. Refute it at one input. -/
def hallActsWrong : ChangeSpec := { name := "hallActs", fn := fun _ => fun
  | [d] => { results := [.lit (.bool false)], args := [d] }
  | _ => none }
def HallActsWrongFalsely : Prop := hallActsRow.holds Tryz.pinned (OpenSpec.ofChange hallActsWrong)

/-- 'doormanlaw14.HallApart': WHATEVER THE INPUT: true; the input reads as it did. -/
def hallApartSpec : ChangeSpec := { name := "hallApart", fn := fun _ => fun
  | [d] => { results := [.lit (.bool true)], args := [d] }
  | _ => none }
def hallApartRow : OpenClaim := { program := "ytmbningljbcpkaagreat", sum := "262e7cdf1c644714a74d7a8b571d5949616766075219132f04ea49f03c7bf244", func := "doorman/doormanlaw14.HallApart", spec := "hallApart", inPlace := ["slices.overlaps[doorman/api.Session]", "slices.overlaps[string]", "slices.overlaps[doorman/book.Entry]", "slices.overlaps[uint32]"], unfollowed := true, recurses := true, apart := false }
def HallApartSaid : Prop := hallApartRow.holds Tryz.pinned (OpenSpec.ofChange hallApartSpec)

/-- ITS FALSE NEIGHBOUR: 'it returns false'. Refute it at one input. -/
def hallApartWrong : ChangeSpec := { name := "hallApart", fn := fun _ => fun
  | [d] => { results := [.lit (.bool false)], args := [d] }
  | _ => none }
def HallApartWrongFalsely : Prop := hallApartRow.holds Tryz.pinned (OpenSpec.ofChange hallApartWrong)

/-- 'doormanlaw14.HallPlays': WHATEVER THE INPUT: true; the input reads as it did. -/
def hallPlaysSpec : ChangeSpec := { name := "hallPlays", fn := fun _ => fun
  | [d1, d2, d3] => { results := [.lit (.bool true)], args := [d1, d2, d3] }
  | _ => none }
def hallPlaysRow : OpenClaim := { program := "ytmbningljbcpkaagreat", sum := "262e7cdf1c644714a74d7a8b571d5949616766075219132f04ea49f03c7bf244", func := "doorman/doormanlaw14.HallPlays", spec := "hallPlays", inPlace := ["slices.overlaps[doorman/api.Session]", "slices.overlaps[string]", "slices.overlaps[doorman/book.Entry]", "slices.overlaps[uint32]"], unfollowed := true, recurses := true, apart := false }
def HallPlaysSaid : Prop := hallPlaysRow.holds Tryz.pinned (OpenSpec.ofChange hallPlaysSpec)

/-- ITS FALSE NEIGHBOUR: 'it returns false'. Refute it at one input. -/
def hallPlaysWrong : ChangeSpec := { name := "hallPlays", fn := fun _ => fun
  | [d1, d2, d3] => { results := [.lit (.bool false)], args := [d1, d2, d3] }
  | _ => none }
def HallPlaysWrongFalsely : Prop := hallPlaysRow.holds Tryz.pinned (OpenSpec.ofChange hallPlaysWrong)

/-- 'doormanlaw15.WritePlays': WHATEVER THE INPUT: true; the input reads as it did. -/
def writePlaysSpec : ChangeSpec := { name := "writePlays", fn := fun _ => fun
  | [d1, d2, d3] => { results := [.lit (.bool true)], args := [d1, d2, d3] }
  | _ => none }
def writePlaysRow : OpenClaim := { program := "ytmbningljbcpkaagreat", sum := "262e7cdf1c644714a74d7a8b571d5949616766075219132f04ea49f03c7bf244", func := "doorman/doormanlaw15.WritePlays", spec := "writePlays", inPlace := ["slices.overlaps[doorman/api.Session]", "slices.overlaps[string]", "slices.overlaps[doorman/book.Entry]"], unfollowed := true, recurses := true, apart := false }
def WritePlaysSaid : Prop := writePlaysRow.holds Tryz.pinned (OpenSpec.ofChange writePlaysSpec)

/-- ITS FALSE NEIGHBOUR: 'it returns false'. Refute it at one input. -/
def writePlaysWrong : ChangeSpec := { name := "writePlays", fn := fun _ => fun
  | [d1, d2, d3] => { results := [.lit (.bool false)], args := [d1, d2, d3] }
  | _ => none }
def WritePlaysWrongFalsely : Prop := writePlaysRow.holds Tryz.pinned (OpenSpec.ofChange writePlaysWrong)

/-- 'doormanlaw18.SweepPlays': WHATEVER THE INPUT: true; the input reads as it did. -/
def sweepPlaysSpec : ChangeSpec := { name := "sweepPlays", fn := fun _ => fun
  | [d1, d2, d3] => { results := [.lit (.bool true)], args := [d1, d2, d3] }
  | _ => none }
def sweepPlaysRow : OpenClaim := { program := "ytmbningljbcpkaagreat", sum := "262e7cdf1c644714a74d7a8b571d5949616766075219132f04ea49f03c7bf244", func := "doorman/doormanlaw18.SweepPlays", spec := "sweepPlays", inPlace := ["slices.overlaps[string]", "slices.overlaps[doorman/book.Entry]", "slices.overlaps[doorman/api.Session]"], unfollowed := true, recurses := true, apart := false }
def SweepPlaysSaid : Prop := sweepPlaysRow.holds Tryz.pinned (OpenSpec.ofChange sweepPlaysSpec)

/-- ITS FALSE NEIGHBOUR: 'it returns false'. Refute it at one input. -/
def sweepPlaysWrong : ChangeSpec := { name := "sweepPlays", fn := fun _ => fun
  | [d1, d2, d3] => { results := [.lit (.bool false)], args := [d1, d2, d3] }
  | _ => none }
def SweepPlaysWrongFalsely : Prop := sweepPlaysRow.holds Tryz.pinned (OpenSpec.ofChange sweepPlaysWrong)

/-- 'doormanlaw16.ReadPlays': WHATEVER THE INPUT: true; the input reads as it did. -/
def readPlaysSpec : ChangeSpec := { name := "readPlays", fn := fun _ => fun
  | [d] => { results := [.lit (.bool true)], args := [d] }
  | _ => none }
def readPlaysRow : OpenClaim := { program := "ytmbningljbcpkaagreat", sum := "262e7cdf1c644714a74d7a8b571d5949616766075219132f04ea49f03c7bf244", func := "doorman/doormanlaw16.ReadPlays", spec := "readPlays", inPlace := ["slices.overlaps[doorman/api.Session]", "slices.overlaps[string]", "slices.overlaps[doorman/book.Entry]"], unfollowed := true, recurses := true, apart := false }
def ReadPlaysSaid : Prop := readPlaysRow.holds Tryz.pinned (OpenSpec.ofChange readPlaysSpec)

/-- ITS FALSE NEIGHBOUR: 'it returns false'. Refute it at one input. -/
def readPlaysWrong : ChangeSpec := { name := "readPlays", fn := fun _ => fun
  | [d] => { results := [.lit (.bool false)], args := [d] }
  | _ => none }
def ReadPlaysWrongFalsely : Prop := readPlaysRow.holds Tryz.pinned (OpenSpec.ofChange readPlaysWrong)

/-- 'doormanlaw17.HeedPlays': WHATEVER THE INPUT: true; the input reads as it did. -/
def heedPlaysSpec : ChangeSpec := { name := "heedPlays", fn := fun _ => fun
  | [d1, d2] => { results := [.lit (.bool true)], args := [d1, d2] }
  | _ => none }
def heedPlaysRow : OpenClaim := { program := "ytmbningljbcpkaagreat", sum := "262e7cdf1c644714a74d7a8b571d5949616766075219132f04ea49f03c7bf244", func := "doorman/doormanlaw17.HeedPlays", spec := "heedPlays", inPlace := ["slices.overlaps[string]", "slices.overlaps[uint32]", "slices.overlaps[doorman/api.Session]", "slices.overlaps[doorman/book.Entry]"], unfollowed := true, recurses := true, apart := false }
def HeedPlaysSaid : Prop := heedPlaysRow.holds Tryz.pinned (OpenSpec.ofChange heedPlaysSpec)

/-- ITS FALSE NEIGHBOUR: 'it returns false'. Refute it at one input. -/
def heedPlaysWrong : ChangeSpec := { name := "heedPlays", fn := fun _ => fun
  | [d1, d2] => { results := [.lit (.bool false)], args := [d1, d2] }
  | _ => none }
def HeedPlaysWrongFalsely : Prop := heedPlaysRow.holds Tryz.pinned (OpenSpec.ofChange heedPlaysWrong)

/- THE SECOND FORM. 'bulk': how many values and letters a reading holds, each counted each time it is reached (what is shared counts as often as it is met; a slice's spare places count too). A statement '..UptoSaid' is the law's where the arguments, and the package variables that the reading takes, are together of bulk at most 1048576: NARROWER than '..Said'. Prove '..Said' where nothing that the law and all that it calls make is longer than what came in: it says more and counts as full. Else prove '..UptoSaid'. A law counts once. -/
mutual
def uptoBulk {H : Type} : DataW H → Nat
  | .lit (.string bytes) => bytes.length + 1
  | .lit _ => 1
  | .nil => 1
  | .ptr d => uptoBulk d + 1
  | .slice elems spare => uptoBulkAll elems + uptoBulkAll spare + 1
  | .agg parts => uptoBulkAll parts + 1
  | .iface _ d => uptoBulk d + 1
  | .map entries => uptoBulkEntries entries + 1
  | .held _ => 1
def uptoBulkAll {H : Type} : List (DataW H) → Nat
  | [] => 0
  | d :: r => uptoBulk d + uptoBulkAll r
def uptoBulkEntries {H : Type} : List (Lit × DataW H) → Nat
  | [] => 0
  | x :: r => uptoBulkEntry x + uptoBulkEntries r
def uptoBulkEntry {H : Type} : Lit × DataW H → Nat
  | (.string bytes, d) => bytes.length + uptoBulk d + 1
  | (_, d) => uptoBulk d + 1
 end
def uptoSmall : (H : Type) → List (DataW H) → Bool := fun _ ds => decide (uptoBulkAll ds ≤ 1048576)
def OpenSpec.upto (s : _root_.Go.ChangeSpec) : _root_.Go.OpenSpec := { _root_.Go.OpenSpec.ofChange s with cond := some uptoSmall }

/-- 'doormanlaw14.HallPublish', WHERE WHAT IT READS IS OF BULK AT MOST 1048576: true; the input reads as it did. -/
def hallPublishUptoRow : OpenClaim := { program := "ytmbningljbcpkaagreat", sum := "262e7cdf1c644714a74d7a8b571d5949616766075219132f04ea49f03c7bf244", func := "doorman/doormanlaw14.HallPublish", spec := "hallPublish", inPlace := ["slices.overlaps[doorman/api.Session]", "slices.overlaps[string]", "slices.overlaps[doorman/book.Entry]", "slices.overlaps[uint32]"], unfollowed := true, recurses := true, apart := false, narrowed := true }
def HallPublishUptoSaid : Prop := hallPublishUptoRow.holds Tryz.pinned (OpenSpec.upto hallPublishSpec)

/-- 'doormanlaw14.HallActs', WHERE WHAT IT READS IS OF BULK AT MOST 1048576: true; the input reads as it did. -/
def hallActsUptoRow : OpenClaim := { program := "ytmbningljbcpkaagreat", sum := "262e7cdf1c644714a74d7a8b571d5949616766075219132f04ea49f03c7bf244", func := "doorman/doormanlaw14.HallActs", spec := "hallActs", inPlace := ["slices.overlaps[doorman/api.Session]", "slices.overlaps[string]", "slices.overlaps[doorman/book.Entry]", "slices.overlaps[uint32]"], unfollowed := true, recurses := true, apart := false, narrowed := true }
def HallActsUptoSaid : Prop := hallActsUptoRow.holds Tryz.pinned (OpenSpec.upto hallActsSpec)

/-- 'doormanlaw14.HallApart', WHERE WHAT IT READS IS OF BULK AT MOST 1048576: true; the input reads as it did. -/
def hallApartUptoRow : OpenClaim := { program := "ytmbningljbcpkaagreat", sum := "262e7cdf1c644714a74d7a8b571d5949616766075219132f04ea49f03c7bf244", func := "doorman/doormanlaw14.HallApart", spec := "hallApart", inPlace := ["slices.overlaps[doorman/api.Session]", "slices.overlaps[string]", "slices.overlaps[doorman/book.Entry]", "slices.overlaps[uint32]"], unfollowed := true, recurses := true, apart := false, narrowed := true }
def HallApartUptoSaid : Prop := hallApartUptoRow.holds Tryz.pinned (OpenSpec.upto hallApartSpec)

/-- 'doormanlaw14.HallPlays', WHERE WHAT IT READS IS OF BULK AT MOST 1048576: true; the input reads as it did. -/
def hallPlaysUptoRow : OpenClaim := { program := "ytmbningljbcpkaagreat", sum := "262e7cdf1c644714a74d7a8b571d5949616766075219132f04ea49f03c7bf244", func := "doorman/doormanlaw14.HallPlays", spec := "hallPlays", inPlace := ["slices.overlaps[doorman/api.Session]", "slices.overlaps[string]", "slices.overlaps[doorman/book.Entry]", "slices.overlaps[uint32]"], unfollowed := true, recurses := true, apart := false, narrowed := true }
def HallPlaysUptoSaid : Prop := hallPlaysUptoRow.holds Tryz.pinned (OpenSpec.upto hallPlaysSpec)

/-- 'doormanlaw15.WritePlays', WHERE WHAT IT READS IS OF BULK AT MOST 1048576: true; the input reads as it did. -/
def writePlaysUptoRow : OpenClaim := { program := "ytmbningljbcpkaagreat", sum := "262e7cdf1c644714a74d7a8b571d5949616766075219132f04ea49f03c7bf244", func := "doorman/doormanlaw15.WritePlays", spec := "writePlays", inPlace := ["slices.overlaps[doorman/api.Session]", "slices.overlaps[string]", "slices.overlaps[doorman/book.Entry]"], unfollowed := true, recurses := true, apart := false, narrowed := true }
def WritePlaysUptoSaid : Prop := writePlaysUptoRow.holds Tryz.pinned (OpenSpec.upto writePlaysSpec)

/-- 'doormanlaw18.SweepPlays', WHERE WHAT IT READS IS OF BULK AT MOST 1048576: true; the input reads as it did. -/
def sweepPlaysUptoRow : OpenClaim := { program := "ytmbningljbcpkaagreat", sum := "262e7cdf1c644714a74d7a8b571d5949616766075219132f04ea49f03c7bf244", func := "doorman/doormanlaw18.SweepPlays", spec := "sweepPlays", inPlace := ["slices.overlaps[string]", "slices.overlaps[doorman/book.Entry]", "slices.overlaps[doorman/api.Session]"], unfollowed := true, recurses := true, apart := false, narrowed := true }
def SweepPlaysUptoSaid : Prop := sweepPlaysUptoRow.holds Tryz.pinned (OpenSpec.upto sweepPlaysSpec)

/-- 'doormanlaw16.ReadPlays', WHERE WHAT IT READS IS OF BULK AT MOST 1048576: true; the input reads as it did. -/
def readPlaysUptoRow : OpenClaim := { program := "ytmbningljbcpkaagreat", sum := "262e7cdf1c644714a74d7a8b571d5949616766075219132f04ea49f03c7bf244", func := "doorman/doormanlaw16.ReadPlays", spec := "readPlays", inPlace := ["slices.overlaps[doorman/api.Session]", "slices.overlaps[string]", "slices.overlaps[doorman/book.Entry]"], unfollowed := true, recurses := true, apart := false, narrowed := true }
def ReadPlaysUptoSaid : Prop := readPlaysUptoRow.holds Tryz.pinned (OpenSpec.upto readPlaysSpec)

/-- 'doormanlaw17.HeedPlays', WHERE WHAT IT READS IS OF BULK AT MOST 1048576: true; the input reads as it did. -/
def heedPlaysUptoRow : OpenClaim := { program := "ytmbningljbcpkaagreat", sum := "262e7cdf1c644714a74d7a8b571d5949616766075219132f04ea49f03c7bf244", func := "doorman/doormanlaw17.HeedPlays", spec := "heedPlays", inPlace := ["slices.overlaps[string]", "slices.overlaps[uint32]", "slices.overlaps[doorman/api.Session]", "slices.overlaps[doorman/book.Entry]"], unfollowed := true, recurses := true, apart := false, narrowed := true }
def HeedPlaysUptoSaid : Prop := heedPlaysUptoRow.holds Tryz.pinned (OpenSpec.upto heedPlaysSpec)

end Rows
end Go.Proofs.YtmbningljbcpkaaGreat
