/-
  No cell of these rows narrows 'for every input' (looked for: loops, veiled, ifaces, maps, wideKeys, modest, calm, conditions, laid).
  DERIVED. THE GIVEN ROWS OF THIS SEAT. 23 by the template 'for every input the law returns true; each argument reads behind the call as it read before'; 0 by the template 'total and deterministic' (their statements: YtcnphhhcknhhaaaGreatTotals.lean).
  GIVEN WITH THE SEED: the statements are not yours to turn. If you find one false, say at which input.
  Laid BY PROGRAM, IN A SANDBOX (cutbox-rows.mjs): the forced cells as the released guide's own fill.sh prints them over the translation 2ee4fd9bd37c55ca… (all of the seat's roots in one cut). By AI agents, Wed Nov 11 2026. No macro, syntax, notation, axiom, sorry.
-/
import Derived.Test.YtcnphhhcknhhaaaGreatChecked
import GoSem.Claim
import GoSem.ClaimJoined
import GoSem.ClaimMapViews
import Derived.JoinedTies
import Derived.KernelRfl
namespace Go.Proofs.YtcnphhhcknhhaaaGreat
/- THE CELL 'sum', in the pinned program and in every row, IS THE sha256 OF THE DUMP (.gsa) THAT YtcnphhhcknhhaaaGreatProg.lean LOADS. Nothing in Lean hashes anything: it is a label: what it is worth is what the hold of that sum in a sandbox is worth. -/
noncomputable def Tryz.pinned : Pinned := { name := "ytcnphhhcknhhaaagreat", sum := "2ee4fd9bd37c55ca573cba0b6a133a9ca4bbcb5813d198422a13592821accb56", checked := Tryz.checked }
namespace Rows
def none {H : Type} : Left H := { results := [], args := [] }

/-- 'doormanlaw18.SweepRounds': WHATEVER THE INPUT: true; the input reads as it did. -/
def sweepRoundsSpec : ChangeSpec := { name := "sweepRounds", fn := fun _ => fun
  | [d1, d2] => { results := [.lit (.bool true)], args := [d1, d2] }
  | _ => none }
def sweepRoundsRow : OpenClaim := { program := "ytcnphhhcknhhaaagreat", sum := "2ee4fd9bd37c55ca573cba0b6a133a9ca4bbcb5813d198422a13592821accb56", func := "doorman/doormanlaw18.SweepRounds", spec := "sweepRounds", inPlace := ["slices.overlaps[string]", "slices.overlaps[doorman/book.Entry]"], unfollowed := true, recurses := true, apart := false }
def SweepRoundsSaid : Prop := sweepRoundsRow.holds Tryz.pinned (OpenSpec.ofChange sweepRoundsSpec)

/-- ITS FALSE NEIGHBOUR: 'it returns false'. Refute it at one input. -/
def sweepRoundsWrong : ChangeSpec := { name := "sweepRounds", fn := fun _ => fun
  | [d1, d2] => { results := [.lit (.bool false)], args := [d1, d2] }
  | _ => none }
def SweepRoundsWrongFalsely : Prop := sweepRoundsRow.holds Tryz.pinned (OpenSpec.ofChange sweepRoundsWrong)

/-- 'doormanlaw17.HeedKnows': WHATEVER THE INPUT: true; the input reads as it did. -/
def heedKnowsSpec : ChangeSpec := { name := "heedKnows", fn := fun _ => fun
  | [d] => { results := [.lit (.bool true)], args := [d] }
  | _ => none }
def heedKnowsRow : OpenClaim := { program := "ytcnphhhcknhhaaagreat", sum := "2ee4fd9bd37c55ca573cba0b6a133a9ca4bbcb5813d198422a13592821accb56", func := "doorman/doormanlaw17.HeedKnows", spec := "heedKnows", inPlace := ["slices.overlaps[string]", "slices.overlaps[uint32]"], unfollowed := true, recurses := true, apart := false }
def HeedKnowsSaid : Prop := heedKnowsRow.holds Tryz.pinned (OpenSpec.ofChange heedKnowsSpec)

/-- ITS FALSE NEIGHBOUR: 'it returns false'. Refute it at one input. -/
def heedKnowsWrong : ChangeSpec := { name := "heedKnows", fn := fun _ => fun
  | [d] => { results := [.lit (.bool false)], args := [d] }
  | _ => none }
def HeedKnowsWrongFalsely : Prop := heedKnowsRow.holds Tryz.pinned (OpenSpec.ofChange heedKnowsWrong)

/-- 'doormanlaw15.WriteHolds': WHATEVER THE INPUT: true; the input reads as it did. -/
def writeHoldsSpec : ChangeSpec := { name := "writeHolds", fn := fun _ => fun
  | [d1, d2, d3] => { results := [.lit (.bool true)], args := [d1, d2, d3] }
  | _ => none }
def writeHoldsRow : OpenClaim := { program := "ytcnphhhcknhhaaagreat", sum := "2ee4fd9bd37c55ca573cba0b6a133a9ca4bbcb5813d198422a13592821accb56", func := "doorman/doormanlaw15.WriteHolds", spec := "writeHolds", inPlace := ["slices.overlaps[doorman/api.Session]", "slices.overlaps[string]", "slices.overlaps[doorman/book.Entry]"], unfollowed := true, recurses := true, apart := false }
def WriteHoldsSaid : Prop := writeHoldsRow.holds Tryz.pinned (OpenSpec.ofChange writeHoldsSpec)

/-- ITS FALSE NEIGHBOUR: 'it returns false'. Refute it at one input. -/
def writeHoldsWrong : ChangeSpec := { name := "writeHolds", fn := fun _ => fun
  | [d1, d2, d3] => { results := [.lit (.bool false)], args := [d1, d2, d3] }
  | _ => none }
def WriteHoldsWrongFalsely : Prop := writeHoldsRow.holds Tryz.pinned (OpenSpec.ofChange writeHoldsWrong)

/-- 'doormanlaw15.WriteOnly': WHATEVER THE INPUT: true; the input reads as it did. -/
def writeOnlySpec : ChangeSpec := { name := "writeOnly", fn := fun _ => fun
  | [d1, d2] => { results := [.lit (.bool true)], args := [d1, d2] }
  | _ => none }
def writeOnlyRow : OpenClaim := { program := "ytcnphhhcknhhaaagreat", sum := "2ee4fd9bd37c55ca573cba0b6a133a9ca4bbcb5813d198422a13592821accb56", func := "doorman/doormanlaw15.WriteOnly", spec := "writeOnly", inPlace := ["slices.overlaps[doorman/api.Session]", "slices.overlaps[string]", "slices.overlaps[doorman/book.Entry]"], unfollowed := true, recurses := true, apart := false }
def WriteOnlySaid : Prop := writeOnlyRow.holds Tryz.pinned (OpenSpec.ofChange writeOnlySpec)

/-- ITS FALSE NEIGHBOUR: 'it returns false'. Refute it at one input. -/
def writeOnlyWrong : ChangeSpec := { name := "writeOnly", fn := fun _ => fun
  | [d1, d2] => { results := [.lit (.bool false)], args := [d1, d2] }
  | _ => none }
def WriteOnlyWrongFalsely : Prop := writeOnlyRow.holds Tryz.pinned (OpenSpec.ofChange writeOnlyWrong)

/-- 'doormanlaw14.HallPublish': WHATEVER THE INPUT: true; the input reads as it did. -/
def hallPublishSpec : ChangeSpec := { name := "hallPublish", fn := fun _ => fun
  | [d] => { results := [.lit (.bool true)], args := [d] }
  | _ => none }
def hallPublishRow : OpenClaim := { program := "ytcnphhhcknhhaaagreat", sum := "2ee4fd9bd37c55ca573cba0b6a133a9ca4bbcb5813d198422a13592821accb56", func := "doorman/doormanlaw14.HallPublish", spec := "hallPublish", inPlace := ["slices.overlaps[doorman/api.Session]", "slices.overlaps[string]", "slices.overlaps[doorman/book.Entry]", "slices.overlaps[uint32]"], unfollowed := true, recurses := true, apart := false }
def HallPublishSaid : Prop := hallPublishRow.holds Tryz.pinned (OpenSpec.ofChange hallPublishSpec)

/-- ITS FALSE NEIGHBOUR: 'it returns false'. Refute it at one input. -/
def hallPublishWrong : ChangeSpec := { name := "hallPublish", fn := fun _ => fun
  | [d] => { results := [.lit (.bool false)], args := [d] }
  | _ => none }
def HallPublishWrongFalsely : Prop := hallPublishRow.holds Tryz.pinned (OpenSpec.ofChange hallPublishWrong)

/-- 'doormanlaw15.WriteSections': WHATEVER THE INPUT: true; the input reads as it did. -/
def writeSectionsSpec : ChangeSpec := { name := "writeSections", fn := fun _ => fun
  | [d1, d2, d3, d4] => { results := [.lit (.bool true)], args := [d1, d2, d3, d4] }
  | _ => none }
def writeSectionsRow : OpenClaim := { program := "ytcnphhhcknhhaaagreat", sum := "2ee4fd9bd37c55ca573cba0b6a133a9ca4bbcb5813d198422a13592821accb56", func := "doorman/doormanlaw15.WriteSections", spec := "writeSections", inPlace := ["slices.overlaps[doorman/api.Session]", "slices.overlaps[string]", "slices.overlaps[doorman/book.Entry]"], unfollowed := true, recurses := true, apart := false }
def WriteSectionsSaid : Prop := writeSectionsRow.holds Tryz.pinned (OpenSpec.ofChange writeSectionsSpec)

/-- ITS FALSE NEIGHBOUR: 'it returns false'. Refute it at one input. -/
def writeSectionsWrong : ChangeSpec := { name := "writeSections", fn := fun _ => fun
  | [d1, d2, d3, d4] => { results := [.lit (.bool false)], args := [d1, d2, d3, d4] }
  | _ => none }
def WriteSectionsWrongFalsely : Prop := writeSectionsRow.holds Tryz.pinned (OpenSpec.ofChange writeSectionsWrong)

/-- 'doormanlaw15.WritePlays': WHATEVER THE INPUT: true; the input reads as it did. -/
def writePlaysSpec : ChangeSpec := { name := "writePlays", fn := fun _ => fun
  | [d1, d2, d3] => { results := [.lit (.bool true)], args := [d1, d2, d3] }
  | _ => none }
def writePlaysRow : OpenClaim := { program := "ytcnphhhcknhhaaagreat", sum := "2ee4fd9bd37c55ca573cba0b6a133a9ca4bbcb5813d198422a13592821accb56", func := "doorman/doormanlaw15.WritePlays", spec := "writePlays", inPlace := ["slices.overlaps[doorman/api.Session]", "slices.overlaps[string]", "slices.overlaps[doorman/book.Entry]"], unfollowed := true, recurses := true, apart := false }
def WritePlaysSaid : Prop := writePlaysRow.holds Tryz.pinned (OpenSpec.ofChange writePlaysSpec)

/-- ITS FALSE NEIGHBOUR: 'it returns false'. Refute it at one input. -/
def writePlaysWrong : ChangeSpec := { name := "writePlays", fn := fun _ => fun
  | [d1, d2, d3] => { results := [.lit (.bool false)], args := [d1, d2, d3] }
  | _ => none }
def WritePlaysWrongFalsely : Prop := writePlaysRow.holds Tryz.pinned (OpenSpec.ofChange writePlaysWrong)

/-- 'doormanlaw14.HallApart': WHATEVER THE INPUT: true; the input reads as it did. -/
def hallApartSpec : ChangeSpec := { name := "hallApart", fn := fun _ => fun
  | [d] => { results := [.lit (.bool true)], args := [d] }
  | _ => none }
def hallApartRow : OpenClaim := { program := "ytcnphhhcknhhaaagreat", sum := "2ee4fd9bd37c55ca573cba0b6a133a9ca4bbcb5813d198422a13592821accb56", func := "doorman/doormanlaw14.HallApart", spec := "hallApart", inPlace := ["slices.overlaps[doorman/api.Session]", "slices.overlaps[string]", "slices.overlaps[doorman/book.Entry]", "slices.overlaps[uint32]"], unfollowed := true, recurses := true, apart := false }
def HallApartSaid : Prop := hallApartRow.holds Tryz.pinned (OpenSpec.ofChange hallApartSpec)

/-- ITS FALSE NEIGHBOUR: 'it returns false'. Refute it at one input. -/
def hallApartWrong : ChangeSpec := { name := "hallApart", fn := fun _ => fun
  | [d] => { results := [.lit (.bool false)], args := [d] }
  | _ => none }
def HallApartWrongFalsely : Prop := hallApartRow.holds Tryz.pinned (OpenSpec.ofChange hallApartWrong)

/-- 'doormanlaw18.SweepPlays': WHATEVER THE INPUT: true; the input reads as it did. -/
def sweepPlaysSpec : ChangeSpec := { name := "sweepPlays", fn := fun _ => fun
  | [d1, d2, d3] => { results := [.lit (.bool true)], args := [d1, d2, d3] }
  | _ => none }
def sweepPlaysRow : OpenClaim := { program := "ytcnphhhcknhhaaagreat", sum := "2ee4fd9bd37c55ca573cba0b6a133a9ca4bbcb5813d198422a13592821accb56", func := "doorman/doormanlaw18.SweepPlays", spec := "sweepPlays", inPlace := ["slices.overlaps[string]", "slices.overlaps[doorman/book.Entry]", "slices.overlaps[doorman/api.Session]"], unfollowed := true, recurses := true, apart := false }
def SweepPlaysSaid : Prop := sweepPlaysRow.holds Tryz.pinned (OpenSpec.ofChange sweepPlaysSpec)

/-- ITS FALSE NEIGHBOUR: 'it returns false'. Refute it at one input. -/
def sweepPlaysWrong : ChangeSpec := { name := "sweepPlays", fn := fun _ => fun
  | [d1, d2, d3] => { results := [.lit (.bool false)], args := [d1, d2, d3] }
  | _ => none }
def SweepPlaysWrongFalsely : Prop := sweepPlaysRow.holds Tryz.pinned (OpenSpec.ofChange sweepPlaysWrong)

/-- 'doormanlaw18.SweepRemoves': WHATEVER THE INPUT: true; the input reads as it did. -/
def sweepRemovesSpec : ChangeSpec := { name := "sweepRemoves", fn := fun _ => fun
  | [d1, d2, d3, d4] => { results := [.lit (.bool true)], args := [d1, d2, d3, d4] }
  | _ => none }
def sweepRemovesRow : OpenClaim := { program := "ytcnphhhcknhhaaagreat", sum := "2ee4fd9bd37c55ca573cba0b6a133a9ca4bbcb5813d198422a13592821accb56", func := "doorman/doormanlaw18.SweepRemoves", spec := "sweepRemoves", inPlace := ["slices.overlaps[string]", "slices.overlaps[doorman/book.Entry]", "slices.overlaps[doorman/api.Session]"], unfollowed := true, recurses := true, apart := false }
def SweepRemovesSaid : Prop := sweepRemovesRow.holds Tryz.pinned (OpenSpec.ofChange sweepRemovesSpec)

/-- ITS FALSE NEIGHBOUR: 'it returns false'. Refute it at one input. -/
def sweepRemovesWrong : ChangeSpec := { name := "sweepRemoves", fn := fun _ => fun
  | [d1, d2, d3, d4] => { results := [.lit (.bool false)], args := [d1, d2, d3, d4] }
  | _ => none }
def SweepRemovesWrongFalsely : Prop := sweepRemovesRow.holds Tryz.pinned (OpenSpec.ofChange sweepRemovesWrong)

/-- 'doormanlaw14.HallActs': WHATEVER THE INPUT: true; the input reads as it did. -/
def hallActsSpec : ChangeSpec := { name := "hallActs", fn := fun _ => fun
  | [d] => { results := [.lit (.bool true)], args := [d] }
  | _ => none }
def hallActsRow : OpenClaim := { program := "ytcnphhhcknhhaaagreat", sum := "2ee4fd9bd37c55ca573cba0b6a133a9ca4bbcb5813d198422a13592821accb56", func := "doorman/doormanlaw14.HallActs", spec := "hallActs", inPlace := ["slices.overlaps[doorman/api.Session]", "slices.overlaps[string]", "slices.overlaps[doorman/book.Entry]", "slices.overlaps[uint32]"], unfollowed := true, recurses := true, apart := false }
def HallActsSaid : Prop := hallActsRow.holds Tryz.pinned (OpenSpec.ofChange hallActsSpec)

/-- ITS FALSE NEIGHBOUR: 'it returns false'. Refute it at one input. -/
def hallActsWrong : ChangeSpec := { name := "hallActs", fn := fun _ => fun
  | [d] => { results := [.lit (.bool false)], args := [d] }
  | _ => none }
def HallActsWrongFalsely : Prop := hallActsRow.holds Tryz.pinned (OpenSpec.ofChange hallActsWrong)

/-- 'doormanlaw18.SweepQuiet': WHATEVER THE INPUT: true; the input reads as it did. -/
def sweepQuietSpec : ChangeSpec := { name := "sweepQuiet", fn := fun _ => fun
  | [d1, d2, d3, d4] => { results := [.lit (.bool true)], args := [d1, d2, d3, d4] }
  | _ => none }
def sweepQuietRow : OpenClaim := { program := "ytcnphhhcknhhaaagreat", sum := "2ee4fd9bd37c55ca573cba0b6a133a9ca4bbcb5813d198422a13592821accb56", func := "doorman/doormanlaw18.SweepQuiet", spec := "sweepQuiet", inPlace := ["slices.overlaps[string]", "slices.overlaps[doorman/book.Entry]", "slices.overlaps[doorman/api.Session]"], unfollowed := true, recurses := true, apart := false }
def SweepQuietSaid : Prop := sweepQuietRow.holds Tryz.pinned (OpenSpec.ofChange sweepQuietSpec)

/-- ITS FALSE NEIGHBOUR: 'it returns false'. Refute it at one input. -/
def sweepQuietWrong : ChangeSpec := { name := "sweepQuiet", fn := fun _ => fun
  | [d1, d2, d3, d4] => { results := [.lit (.bool false)], args := [d1, d2, d3, d4] }
  | _ => none }
def SweepQuietWrongFalsely : Prop := sweepQuietRow.holds Tryz.pinned (OpenSpec.ofChange sweepQuietWrong)

/-- 'doormanlaw14.HallPlays': WHATEVER THE INPUT: true; the input reads as it did. -/
def hallPlaysSpec : ChangeSpec := { name := "hallPlays", fn := fun _ => fun
  | [d1, d2, d3] => { results := [.lit (.bool true)], args := [d1, d2, d3] }
  | _ => none }
def hallPlaysRow : OpenClaim := { program := "ytcnphhhcknhhaaagreat", sum := "2ee4fd9bd37c55ca573cba0b6a133a9ca4bbcb5813d198422a13592821accb56", func := "doorman/doormanlaw14.HallPlays", spec := "hallPlays", inPlace := ["slices.overlaps[doorman/api.Session]", "slices.overlaps[string]", "slices.overlaps[doorman/book.Entry]", "slices.overlaps[uint32]"], unfollowed := true, recurses := true, apart := false }
def HallPlaysSaid : Prop := hallPlaysRow.holds Tryz.pinned (OpenSpec.ofChange hallPlaysSpec)

/-- ITS FALSE NEIGHBOUR: 'it returns false'. Refute it at one input. -/
def hallPlaysWrong : ChangeSpec := { name := "hallPlays", fn := fun _ => fun
  | [d1, d2, d3] => { results := [.lit (.bool false)], args := [d1, d2, d3] }
  | _ => none }
def HallPlaysWrongFalsely : Prop := hallPlaysRow.holds Tryz.pinned (OpenSpec.ofChange hallPlaysWrong)

/-- 'doormanlaw14.HallModel': WHATEVER THE INPUT: true; the input reads as it did. -/
def hallModelSpec : ChangeSpec := { name := "hallModel", fn := fun _ => fun
  | [d] => { results := [.lit (.bool true)], args := [d] }
  | _ => none }
def hallModelRow : OpenClaim := { program := "ytcnphhhcknhhaaagreat", sum := "2ee4fd9bd37c55ca573cba0b6a133a9ca4bbcb5813d198422a13592821accb56", func := "doorman/doormanlaw14.HallModel", spec := "hallModel", inPlace := ["slices.overlaps[string]", "slices.overlaps[doorman/book.Entry]", "slices.overlaps[doorman/api.Session]", "slices.overlaps[uint32]"], unfollowed := true, recurses := true, apart := false }
def HallModelSaid : Prop := hallModelRow.holds Tryz.pinned (OpenSpec.ofChange hallModelSpec)

/-- ITS FALSE NEIGHBOUR: 'it returns false'. Refute it at one input. -/
def hallModelWrong : ChangeSpec := { name := "hallModel", fn := fun _ => fun
  | [d] => { results := [.lit (.bool false)], args := [d] }
  | _ => none }
def HallModelWrongFalsely : Prop := hallModelRow.holds Tryz.pinned (OpenSpec.ofChange hallModelWrong)

/-- 'doormanlaw16.ReadOther': WHATEVER THE INPUT: true; the input reads as it did. -/
def readOtherSpec : ChangeSpec := { name := "readOther", fn := fun _ => fun
  | [d1, d2, d3] => { results := [.lit (.bool true)], args := [d1, d2, d3] }
  | _ => none }
def readOtherRow : OpenClaim := { program := "ytcnphhhcknhhaaagreat", sum := "2ee4fd9bd37c55ca573cba0b6a133a9ca4bbcb5813d198422a13592821accb56", func := "doorman/doormanlaw16.ReadOther", spec := "readOther", inPlace := ["slices.overlaps[doorman/api.Session]", "slices.overlaps[string]", "slices.overlaps[doorman/book.Entry]"], unfollowed := true, recurses := true, apart := false }
def ReadOtherSaid : Prop := readOtherRow.holds Tryz.pinned (OpenSpec.ofChange readOtherSpec)

/-- ITS FALSE NEIGHBOUR: 'it returns false'. Refute it at one input. -/
def readOtherWrong : ChangeSpec := { name := "readOther", fn := fun _ => fun
  | [d1, d2, d3] => { results := [.lit (.bool false)], args := [d1, d2, d3] }
  | _ => none }
def ReadOtherWrongFalsely : Prop := readOtherRow.holds Tryz.pinned (OpenSpec.ofChange readOtherWrong)

/-- 'doormanlaw16.ReadPlays': WHATEVER THE INPUT: true; the input reads as it did. -/
def readPlaysSpec : ChangeSpec := { name := "readPlays", fn := fun _ => fun
  | [d] => { results := [.lit (.bool true)], args := [d] }
  | _ => none }
def readPlaysRow : OpenClaim := { program := "ytcnphhhcknhhaaagreat", sum := "2ee4fd9bd37c55ca573cba0b6a133a9ca4bbcb5813d198422a13592821accb56", func := "doorman/doormanlaw16.ReadPlays", spec := "readPlays", inPlace := ["slices.overlaps[doorman/api.Session]", "slices.overlaps[string]", "slices.overlaps[doorman/book.Entry]"], unfollowed := true, recurses := true, apart := false }
def ReadPlaysSaid : Prop := readPlaysRow.holds Tryz.pinned (OpenSpec.ofChange readPlaysSpec)

/-- ITS FALSE NEIGHBOUR: 'it returns false'. Refute it at one input. -/
def readPlaysWrong : ChangeSpec := { name := "readPlays", fn := fun _ => fun
  | [d] => { results := [.lit (.bool false)], args := [d] }
  | _ => none }
def ReadPlaysWrongFalsely : Prop := readPlaysRow.holds Tryz.pinned (OpenSpec.ofChange readPlaysWrong)

/-- 'doormanlaw17.HeedTwice': WHATEVER THE INPUT: true; the input reads as it did. -/
def heedTwiceSpec : ChangeSpec := { name := "heedTwice", fn := fun _ => fun
  | [d] => { results := [.lit (.bool true)], args := [d] }
  | _ => none }
def heedTwiceRow : OpenClaim := { program := "ytcnphhhcknhhaaagreat", sum := "2ee4fd9bd37c55ca573cba0b6a133a9ca4bbcb5813d198422a13592821accb56", func := "doorman/doormanlaw17.HeedTwice", spec := "heedTwice", inPlace := ["slices.overlaps[string]", "slices.overlaps[uint32]", "slices.overlaps[doorman/api.Session]", "slices.overlaps[doorman/book.Entry]"], unfollowed := true, recurses := true, apart := false }
def HeedTwiceSaid : Prop := heedTwiceRow.holds Tryz.pinned (OpenSpec.ofChange heedTwiceSpec)

/-- ITS FALSE NEIGHBOUR: 'it returns false'. Refute it at one input. -/
def heedTwiceWrong : ChangeSpec := { name := "heedTwice", fn := fun _ => fun
  | [d] => { results := [.lit (.bool false)], args := [d] }
  | _ => none }
def HeedTwiceWrongFalsely : Prop := heedTwiceRow.holds Tryz.pinned (OpenSpec.ofChange heedTwiceWrong)

/-- 'doormanlaw17.HeedPlays': WHATEVER THE INPUT: true; the input reads as it did. -/
def heedPlaysSpec : ChangeSpec := { name := "heedPlays", fn := fun _ => fun
  | [d1, d2] => { results := [.lit (.bool true)], args := [d1, d2] }
  | _ => none }
def heedPlaysRow : OpenClaim := { program := "ytcnphhhcknhhaaagreat", sum := "2ee4fd9bd37c55ca573cba0b6a133a9ca4bbcb5813d198422a13592821accb56", func := "doorman/doormanlaw17.HeedPlays", spec := "heedPlays", inPlace := ["slices.overlaps[string]", "slices.overlaps[uint32]", "slices.overlaps[doorman/api.Session]", "slices.overlaps[doorman/book.Entry]"], unfollowed := true, recurses := true, apart := false }
def HeedPlaysSaid : Prop := heedPlaysRow.holds Tryz.pinned (OpenSpec.ofChange heedPlaysSpec)

/-- ITS FALSE NEIGHBOUR: 'it returns false'. Refute it at one input. -/
def heedPlaysWrong : ChangeSpec := { name := "heedPlays", fn := fun _ => fun
  | [d1, d2] => { results := [.lit (.bool false)], args := [d1, d2] }
  | _ => none }
def HeedPlaysWrongFalsely : Prop := heedPlaysRow.holds Tryz.pinned (OpenSpec.ofChange heedPlaysWrong)

/-- 'doormanlaw15.WriteAlone': WHATEVER THE INPUT: true; the input reads as it did. -/
def writeAloneSpec : ChangeSpec := { name := "writeAlone", fn := fun _ => fun
  | [d1, d2] => { results := [.lit (.bool true)], args := [d1, d2] }
  | _ => none }
def writeAloneRow : OpenClaim := { program := "ytcnphhhcknhhaaagreat", sum := "2ee4fd9bd37c55ca573cba0b6a133a9ca4bbcb5813d198422a13592821accb56", func := "doorman/doormanlaw15.WriteAlone", spec := "writeAlone", inPlace := ["slices.overlaps[doorman/api.Session]", "slices.overlaps[string]", "slices.overlaps[doorman/book.Entry]", "slices.overlaps[uint32]"], unfollowed := true, recurses := true, apart := false }
def WriteAloneSaid : Prop := writeAloneRow.holds Tryz.pinned (OpenSpec.ofChange writeAloneSpec)

/-- ITS FALSE NEIGHBOUR: 'it returns false'. Refute it at one input. -/
def writeAloneWrong : ChangeSpec := { name := "writeAlone", fn := fun _ => fun
  | [d1, d2] => { results := [.lit (.bool false)], args := [d1, d2] }
  | _ => none }
def WriteAloneWrongFalsely : Prop := writeAloneRow.holds Tryz.pinned (OpenSpec.ofChange writeAloneWrong)

/-- 'doormanlaw18.SweepAlone': WHATEVER THE INPUT: true; the input reads as it did. -/
def sweepAloneSpec : ChangeSpec := { name := "sweepAlone", fn := fun _ => fun
  | [d1, d2, d3] => { results := [.lit (.bool true)], args := [d1, d2, d3] }
  | _ => none }
def sweepAloneRow : OpenClaim := { program := "ytcnphhhcknhhaaagreat", sum := "2ee4fd9bd37c55ca573cba0b6a133a9ca4bbcb5813d198422a13592821accb56", func := "doorman/doormanlaw18.SweepAlone", spec := "sweepAlone", inPlace := ["slices.overlaps[string]", "slices.overlaps[doorman/book.Entry]", "slices.overlaps[doorman/api.Session]", "slices.overlaps[uint32]"], unfollowed := true, recurses := true, apart := false }
def SweepAloneSaid : Prop := sweepAloneRow.holds Tryz.pinned (OpenSpec.ofChange sweepAloneSpec)

/-- ITS FALSE NEIGHBOUR: 'it returns false'. Refute it at one input. -/
def sweepAloneWrong : ChangeSpec := { name := "sweepAlone", fn := fun _ => fun
  | [d1, d2, d3] => { results := [.lit (.bool false)], args := [d1, d2, d3] }
  | _ => none }
def SweepAloneWrongFalsely : Prop := sweepAloneRow.holds Tryz.pinned (OpenSpec.ofChange sweepAloneWrong)

/-- 'doormanlaw17.HeedTrue': WHATEVER THE INPUT: true; the input reads as it did. -/
def heedTrueSpec : ChangeSpec := { name := "heedTrue", fn := fun _ => fun
  | [d] => { results := [.lit (.bool true)], args := [d] }
  | _ => none }
def heedTrueRow : OpenClaim := { program := "ytcnphhhcknhhaaagreat", sum := "2ee4fd9bd37c55ca573cba0b6a133a9ca4bbcb5813d198422a13592821accb56", func := "doorman/doormanlaw17.HeedTrue", spec := "heedTrue", inPlace := ["slices.overlaps[string]", "slices.overlaps[uint32]", "slices.overlaps[doorman/api.Session]", "slices.overlaps[doorman/book.Entry]"], unfollowed := true, recurses := true, apart := false }
def HeedTrueSaid : Prop := heedTrueRow.holds Tryz.pinned (OpenSpec.ofChange heedTrueSpec)

/-- ITS FALSE NEIGHBOUR: 'it returns false'. Refute it at one input. -/
def heedTrueWrong : ChangeSpec := { name := "heedTrue", fn := fun _ => fun
  | [d] => { results := [.lit (.bool false)], args := [d] }
  | _ => none }
def HeedTrueWrongFalsely : Prop := heedTrueRow.holds Tryz.pinned (OpenSpec.ofChange heedTrueWrong)

/-- 'doormanlaw17.HeedAlone': WHATEVER THE INPUT: true; the input reads as it did. -/
def heedAloneSpec : ChangeSpec := { name := "heedAlone", fn := fun _ => fun
  | [d] => { results := [.lit (.bool true)], args := [d] }
  | _ => none }
def heedAloneRow : OpenClaim := { program := "ytcnphhhcknhhaaagreat", sum := "2ee4fd9bd37c55ca573cba0b6a133a9ca4bbcb5813d198422a13592821accb56", func := "doorman/doormanlaw17.HeedAlone", spec := "heedAlone", inPlace := ["slices.overlaps[string]", "slices.overlaps[uint32]", "slices.overlaps[doorman/api.Session]", "slices.overlaps[doorman/book.Entry]"], unfollowed := true, recurses := true, apart := false }
def HeedAloneSaid : Prop := heedAloneRow.holds Tryz.pinned (OpenSpec.ofChange heedAloneSpec)

/-- ITS FALSE NEIGHBOUR: 'it returns false'. Refute it at one input. -/
def heedAloneWrong : ChangeSpec := { name := "heedAlone", fn := fun _ => fun
  | [d] => { results := [.lit (.bool false)], args := [d] }
  | _ => none }
def HeedAloneWrongFalsely : Prop := heedAloneRow.holds Tryz.pinned (OpenSpec.ofChange heedAloneWrong)

/-- 'doormanlaw16.ReadTrue': WHATEVER THE INPUT: true; the input reads as it did. -/
def readTrueSpec : ChangeSpec := { name := "readTrue", fn := fun _ => fun
  | [d] => { results := [.lit (.bool true)], args := [d] }
  | _ => none }
def readTrueRow : OpenClaim := { program := "ytcnphhhcknhhaaagreat", sum := "2ee4fd9bd37c55ca573cba0b6a133a9ca4bbcb5813d198422a13592821accb56", func := "doorman/doormanlaw16.ReadTrue", spec := "readTrue", inPlace := ["slices.overlaps[doorman/api.Session]", "slices.overlaps[string]", "slices.overlaps[doorman/book.Entry]", "slices.overlaps[uint32]"], unfollowed := true, recurses := true, apart := false }
def ReadTrueSaid : Prop := readTrueRow.holds Tryz.pinned (OpenSpec.ofChange readTrueSpec)

/-- ITS FALSE NEIGHBOUR: 'it returns false'. Refute it at one input. -/
def readTrueWrong : ChangeSpec := { name := "readTrue", fn := fun _ => fun
  | [d] => { results := [.lit (.bool false)], args := [d] }
  | _ => none }
def ReadTrueWrongFalsely : Prop := readTrueRow.holds Tryz.pinned (OpenSpec.ofChange readTrueWrong)

/- THE SECOND FORM. 'bulk': how many values and letters a reading holds, each counted each time it is reached (what is shared counts as often as it is met; a slice's spare places count too). A statement '..UptoSaid' is the law's where the arguments, and the package variables that the reading takes, are together of bulk at most 1048576: NARROWER than '..Said'. Prove '..Said' where nothing that the law and all that it calls make is longer than what came in: it says more and counts as full. Else prove '..UptoSaid'. A law counts once. -/
mutual
def uptoBulk {H : Type} : DataW H → Nat
  | .lit (.string bytes) => bytes.length + 1
  | .lit _ => 1
  | .nil => 1
  | .ptr d => uptoBulk d + 1
  | .slice elems spare => uptoBulkAll elems + uptoBulkAll spare + 1
  | .agg parts => uptoBulkAll parts + 1
  | .iface _ d => uptoBulk d + 1
  | .map entries => uptoBulkEntries entries + 1
  | .held _ => 1
def uptoBulkAll {H : Type} : List (DataW H) → Nat
  | [] => 0
  | d :: r => uptoBulk d + uptoBulkAll r
def uptoBulkEntries {H : Type} : List (Lit × DataW H) → Nat
  | [] => 0
  | x :: r => uptoBulkEntry x + uptoBulkEntries r
def uptoBulkEntry {H : Type} : Lit × DataW H → Nat
  | (.string bytes, d) => bytes.length + uptoBulk d + 1
  | (_, d) => uptoBulk d + 1
 end
def uptoSmall : (H : Type) → List (DataW H) → Bool := fun _ ds => decide (uptoBulkAll ds ≤ 1048576)
def OpenSpec.upto (s : _root_.Go.ChangeSpec) : _root_.Go.OpenSpec := { _root_.Go.OpenSpec.ofChange s with cond := some uptoSmall }

/-- 'doormanlaw18.SweepRounds', WHERE WHAT IT READS IS OF BULK AT MOST 1048576: true; the input reads as it did. -/
def sweepRoundsUptoRow : OpenClaim := { program := "ytcnphhhcknhhaaagreat", sum := "2ee4fd9bd37c55ca573cba0b6a133a9ca4bbcb5813d198422a13592821accb56", func := "doorman/doormanlaw18.SweepRounds", spec := "sweepRounds", inPlace := ["slices.overlaps[string]", "slices.overlaps[doorman/book.Entry]"], unfollowed := true, recurses := true, apart := false, narrowed := true }
def SweepRoundsUptoSaid : Prop := sweepRoundsUptoRow.holds Tryz.pinned (OpenSpec.upto sweepRoundsSpec)

/-- 'doormanlaw17.HeedKnows', WHERE WHAT IT READS IS OF BULK AT MOST 1048576: true; the input reads as it did. -/
def heedKnowsUptoRow : OpenClaim := { program := "ytcnphhhcknhhaaagreat", sum := "2ee4fd9bd37c55ca573cba0b6a133a9ca4bbcb5813d198422a13592821accb56", func := "doorman/doormanlaw17.HeedKnows", spec := "heedKnows", inPlace := ["slices.overlaps[string]", "slices.overlaps[uint32]"], unfollowed := true, recurses := true, apart := false, narrowed := true }
def HeedKnowsUptoSaid : Prop := heedKnowsUptoRow.holds Tryz.pinned (OpenSpec.upto heedKnowsSpec)

/-- 'doormanlaw15.WriteHolds', WHERE WHAT IT READS IS OF BULK AT MOST 1048576: true; the input reads as it did. -/
def writeHoldsUptoRow : OpenClaim := { program := "ytcnphhhcknhhaaagreat", sum := "2ee4fd9bd37c55ca573cba0b6a133a9ca4bbcb5813d198422a13592821accb56", func := "doorman/doormanlaw15.WriteHolds", spec := "writeHolds", inPlace := ["slices.overlaps[doorman/api.Session]", "slices.overlaps[string]", "slices.overlaps[doorman/book.Entry]"], unfollowed := true, recurses := true, apart := false, narrowed := true }
def WriteHoldsUptoSaid : Prop := writeHoldsUptoRow.holds Tryz.pinned (OpenSpec.upto writeHoldsSpec)

/-- 'doormanlaw15.WriteOnly', WHERE WHAT IT READS IS OF BULK AT MOST 1048576: true; the input reads as it did. -/
def writeOnlyUptoRow : OpenClaim := { program := "ytcnphhhcknhhaaagreat", sum := "2ee4fd9bd37c55ca573cba0b6a133a9ca4bbcb5813d198422a13592821accb56", func := "doorman/doormanlaw15.WriteOnly", spec := "writeOnly", inPlace := ["slices.overlaps[doorman/api.Session]", "slices.overlaps[string]", "slices.overlaps[doorman/book.Entry]"], unfollowed := true, recurses := true, apart := false, narrowed := true }
def WriteOnlyUptoSaid : Prop := writeOnlyUptoRow.holds Tryz.pinned (OpenSpec.upto writeOnlySpec)

/-- 'doormanlaw14.HallPublish', WHERE WHAT IT READS IS OF BULK AT MOST 1048576: true; the input reads as it did. -/
def hallPublishUptoRow : OpenClaim := { program := "ytcnphhhcknhhaaagreat", sum := "2ee4fd9bd37c55ca573cba0b6a133a9ca4bbcb5813d198422a13592821accb56", func := "doorman/doormanlaw14.HallPublish", spec := "hallPublish", inPlace := ["slices.overlaps[doorman/api.Session]", "slices.overlaps[string]", "slices.overlaps[doorman/book.Entry]", "slices.overlaps[uint32]"], unfollowed := true, recurses := true, apart := false, narrowed := true }
def HallPublishUptoSaid : Prop := hallPublishUptoRow.holds Tryz.pinned (OpenSpec.upto hallPublishSpec)

/-- 'doormanlaw15.WriteSections', WHERE WHAT IT READS IS OF BULK AT MOST 1048576: true; the input reads as it did. -/
def writeSectionsUptoRow : OpenClaim := { program := "ytcnphhhcknhhaaagreat", sum := "2ee4fd9bd37c55ca573cba0b6a133a9ca4bbcb5813d198422a13592821accb56", func := "doorman/doormanlaw15.WriteSections", spec := "writeSections", inPlace := ["slices.overlaps[doorman/api.Session]", "slices.overlaps[string]", "slices.overlaps[doorman/book.Entry]"], unfollowed := true, recurses := true, apart := false, narrowed := true }
def WriteSectionsUptoSaid : Prop := writeSectionsUptoRow.holds Tryz.pinned (OpenSpec.upto writeSectionsSpec)

/-- 'doormanlaw15.WritePlays', WHERE WHAT IT READS IS OF BULK AT MOST 1048576: true; the input reads as it did. -/
def writePlaysUptoRow : OpenClaim := { program := "ytcnphhhcknhhaaagreat", sum := "2ee4fd9bd37c55ca573cba0b6a133a9ca4bbcb5813d198422a13592821accb56", func := "doorman/doormanlaw15.WritePlays", spec := "writePlays", inPlace := ["slices.overlaps[doorman/api.Session]", "slices.overlaps[string]", "slices.overlaps[doorman/book.Entry]"], unfollowed := true, recurses := true, apart := false, narrowed := true }
def WritePlaysUptoSaid : Prop := writePlaysUptoRow.holds Tryz.pinned (OpenSpec.upto writePlaysSpec)

/-- 'doormanlaw14.HallApart', WHERE WHAT IT READS IS OF BULK AT MOST 1048576: true; the input reads as it did. -/
def hallApartUptoRow : OpenClaim := { program := "ytcnphhhcknhhaaagreat", sum := "2ee4fd9bd37c55ca573cba0b6a133a9ca4bbcb5813d198422a13592821accb56", func := "doorman/doormanlaw14.HallApart", spec := "hallApart", inPlace := ["slices.overlaps[doorman/api.Session]", "slices.overlaps[string]", "slices.overlaps[doorman/book.Entry]", "slices.overlaps[uint32]"], unfollowed := true, recurses := true, apart := false, narrowed := true }
def HallApartUptoSaid : Prop := hallApartUptoRow.holds Tryz.pinned (OpenSpec.upto hallApartSpec)

/-- 'doormanlaw18.SweepPlays', WHERE WHAT IT READS IS OF BULK AT MOST 1048576: true; the input reads as it did. -/
def sweepPlaysUptoRow : OpenClaim := { program := "ytcnphhhcknhhaaagreat", sum := "2ee4fd9bd37c55ca573cba0b6a133a9ca4bbcb5813d198422a13592821accb56", func := "doorman/doormanlaw18.SweepPlays", spec := "sweepPlays", inPlace := ["slices.overlaps[string]", "slices.overlaps[doorman/book.Entry]", "slices.overlaps[doorman/api.Session]"], unfollowed := true, recurses := true, apart := false, narrowed := true }
def SweepPlaysUptoSaid : Prop := sweepPlaysUptoRow.holds Tryz.pinned (OpenSpec.upto sweepPlaysSpec)

/-- 'doormanlaw18.SweepRemoves', WHERE WHAT IT READS IS OF BULK AT MOST 1048576: true; the input reads as it did. -/
def sweepRemovesUptoRow : OpenClaim := { program := "ytcnphhhcknhhaaagreat", sum := "2ee4fd9bd37c55ca573cba0b6a133a9ca4bbcb5813d198422a13592821accb56", func := "doorman/doormanlaw18.SweepRemoves", spec := "sweepRemoves", inPlace := ["slices.overlaps[string]", "slices.overlaps[doorman/book.Entry]", "slices.overlaps[doorman/api.Session]"], unfollowed := true, recurses := true, apart := false, narrowed := true }
def SweepRemovesUptoSaid : Prop := sweepRemovesUptoRow.holds Tryz.pinned (OpenSpec.upto sweepRemovesSpec)

/-- 'doormanlaw14.HallActs', WHERE WHAT IT READS IS OF BULK AT MOST 1048576: true; the input reads as it did. -/
def hallActsUptoRow : OpenClaim := { program := "ytcnphhhcknhhaaagreat", sum := "2ee4fd9bd37c55ca573cba0b6a133a9ca4bbcb5813d198422a13592821accb56", func := "doorman/doormanlaw14.HallActs", spec := "hallActs", inPlace := ["slices.overlaps[doorman/api.Session]", "slices.overlaps[string]", "slices.overlaps[doorman/book.Entry]", "slices.overlaps[uint32]"], unfollowed := true, recurses := true, apart := false, narrowed := true }
def HallActsUptoSaid : Prop := hallActsUptoRow.holds Tryz.pinned (OpenSpec.upto hallActsSpec)

/-- 'doormanlaw18.SweepQuiet', WHERE WHAT IT READS IS OF BULK AT MOST 1048576: true; the input reads as it did. -/
def sweepQuietUptoRow : OpenClaim := { program := "ytcnphhhcknhhaaagreat", sum := "2ee4fd9bd37c55ca573cba0b6a133a9ca4bbcb5813d198422a13592821accb56", func := "doorman/doormanlaw18.SweepQuiet", spec := "sweepQuiet", inPlace := ["slices.overlaps[string]", "slices.overlaps[doorman/book.Entry]", "slices.overlaps[doorman/api.Session]"], unfollowed := true, recurses := true, apart := false, narrowed := true }
def SweepQuietUptoSaid : Prop := sweepQuietUptoRow.holds Tryz.pinned (OpenSpec.upto sweepQuietSpec)

/-- 'doormanlaw14.HallPlays', WHERE WHAT IT READS IS OF BULK AT MOST 1048576: true; the input reads as it did. -/
def hallPlaysUptoRow : OpenClaim := { program := "ytcnphhhcknhhaaagreat", sum := "2ee4fd9bd37c55ca573cba0b6a133a9ca4bbcb5813d198422a13592821accb56", func := "doorman/doormanlaw14.HallPlays", spec := "hallPlays", inPlace := ["slices.overlaps[doorman/api.Session]", "slices.overlaps[string]", "slices.overlaps[doorman/book.Entry]", "slices.overlaps[uint32]"], unfollowed := true, recurses := true, apart := false, narrowed := true }
def HallPlaysUptoSaid : Prop := hallPlaysUptoRow.holds Tryz.pinned (OpenSpec.upto hallPlaysSpec)

/-- 'doormanlaw14.HallModel', WHERE WHAT IT READS IS OF BULK AT MOST 1048576: true; the input reads as it did. -/
def hallModelUptoRow : OpenClaim := { program := "ytcnphhhcknhhaaagreat", sum := "2ee4fd9bd37c55ca573cba0b6a133a9ca4bbcb5813d198422a13592821accb56", func := "doorman/doormanlaw14.HallModel", spec := "hallModel", inPlace := ["slices.overlaps[string]", "slices.overlaps[doorman/book.Entry]", "slices.overlaps[doorman/api.Session]", "slices.overlaps[uint32]"], unfollowed := true, recurses := true, apart := false, narrowed := true }
def HallModelUptoSaid : Prop := hallModelUptoRow.holds Tryz.pinned (OpenSpec.upto hallModelSpec)

/-- 'doormanlaw16.ReadOther', WHERE WHAT IT READS IS OF BULK AT MOST 1048576: true; the input reads as it did. -/
def readOtherUptoRow : OpenClaim := { program := "ytcnphhhcknhhaaagreat", sum := "2ee4fd9bd37c55ca573cba0b6a133a9ca4bbcb5813d198422a13592821accb56", func := "doorman/doormanlaw16.ReadOther", spec := "readOther", inPlace := ["slices.overlaps[doorman/api.Session]", "slices.overlaps[string]", "slices.overlaps[doorman/book.Entry]"], unfollowed := true, recurses := true, apart := false, narrowed := true }
def ReadOtherUptoSaid : Prop := readOtherUptoRow.holds Tryz.pinned (OpenSpec.upto readOtherSpec)

/-- 'doormanlaw16.ReadPlays', WHERE WHAT IT READS IS OF BULK AT MOST 1048576: true; the input reads as it did. -/
def readPlaysUptoRow : OpenClaim := { program := "ytcnphhhcknhhaaagreat", sum := "2ee4fd9bd37c55ca573cba0b6a133a9ca4bbcb5813d198422a13592821accb56", func := "doorman/doormanlaw16.ReadPlays", spec := "readPlays", inPlace := ["slices.overlaps[doorman/api.Session]", "slices.overlaps[string]", "slices.overlaps[doorman/book.Entry]"], unfollowed := true, recurses := true, apart := false, narrowed := true }
def ReadPlaysUptoSaid : Prop := readPlaysUptoRow.holds Tryz.pinned (OpenSpec.upto readPlaysSpec)

/-- 'doormanlaw17.HeedTwice', WHERE WHAT IT READS IS OF BULK AT MOST 1048576: true; the input reads as it did. -/
def heedTwiceUptoRow : OpenClaim := { program := "ytcnphhhcknhhaaagreat", sum := "2ee4fd9bd37c55ca573cba0b6a133a9ca4bbcb5813d198422a13592821accb56", func := "doorman/doormanlaw17.HeedTwice", spec := "heedTwice", inPlace := ["slices.overlaps[string]", "slices.overlaps[uint32]", "slices.overlaps[doorman/api.Session]", "slices.overlaps[doorman/book.Entry]"], unfollowed := true, recurses := true, apart := false, narrowed := true }
def HeedTwiceUptoSaid : Prop := heedTwiceUptoRow.holds Tryz.pinned (OpenSpec.upto heedTwiceSpec)

/-- 'doormanlaw17.HeedPlays', WHERE WHAT IT READS IS OF BULK AT MOST 1048576: true; the input reads as it did. -/
def heedPlaysUptoRow : OpenClaim := { program := "ytcnphhhcknhhaaagreat", sum := "2ee4fd9bd37c55ca573cba0b6a133a9ca4bbcb5813d198422a13592821accb56", func := "doorman/doormanlaw17.HeedPlays", spec := "heedPlays", inPlace := ["slices.overlaps[string]", "slices.overlaps[uint32]", "slices.overlaps[doorman/api.Session]", "slices.overlaps[doorman/book.Entry]"], unfollowed := true, recurses := true, apart := false, narrowed := true }
def HeedPlaysUptoSaid : Prop := heedPlaysUptoRow.holds Tryz.pinned (OpenSpec.upto heedPlaysSpec)

/-- 'doormanlaw15.WriteAlone', WHERE WHAT IT READS IS OF BULK AT MOST 1048576: true; the input reads as it did. -/
def writeAloneUptoRow : OpenClaim := { program := "ytcnphhhcknhhaaagreat", sum := "2ee4fd9bd37c55ca573cba0b6a133a9ca4bbcb5813d198422a13592821accb56", func := "doorman/doormanlaw15.WriteAlone", spec := "writeAlone", inPlace := ["slices.overlaps[doorman/api.Session]", "slices.overlaps[string]", "slices.overlaps[doorman/book.Entry]", "slices.overlaps[uint32]"], unfollowed := true, recurses := true, apart := false, narrowed := true }
def WriteAloneUptoSaid : Prop := writeAloneUptoRow.holds Tryz.pinned (OpenSpec.upto writeAloneSpec)

/-- 'doormanlaw18.SweepAlone', WHERE WHAT IT READS IS OF BULK AT MOST 1048576: true; the input reads as it did. -/
def sweepAloneUptoRow : OpenClaim := { program := "ytcnphhhcknhhaaagreat", sum := "2ee4fd9bd37c55ca573cba0b6a133a9ca4bbcb5813d198422a13592821accb56", func := "doorman/doormanlaw18.SweepAlone", spec := "sweepAlone", inPlace := ["slices.overlaps[string]", "slices.overlaps[doorman/book.Entry]", "slices.overlaps[doorman/api.Session]", "slices.overlaps[uint32]"], unfollowed := true, recurses := true, apart := false, narrowed := true }
def SweepAloneUptoSaid : Prop := sweepAloneUptoRow.holds Tryz.pinned (OpenSpec.upto sweepAloneSpec)

/-- 'doormanlaw17.HeedTrue', WHERE WHAT IT READS IS OF BULK AT MOST 1048576: true; the input reads as it did. -/
def heedTrueUptoRow : OpenClaim := { program := "ytcnphhhcknhhaaagreat", sum := "2ee4fd9bd37c55ca573cba0b6a133a9ca4bbcb5813d198422a13592821accb56", func := "doorman/doormanlaw17.HeedTrue", spec := "heedTrue", inPlace := ["slices.overlaps[string]", "slices.overlaps[uint32]", "slices.overlaps[doorman/api.Session]", "slices.overlaps[doorman/book.Entry]"], unfollowed := true, recurses := true, apart := false, narrowed := true }
def HeedTrueUptoSaid : Prop := heedTrueUptoRow.holds Tryz.pinned (OpenSpec.upto heedTrueSpec)

/-- 'doormanlaw17.HeedAlone', WHERE WHAT IT READS IS OF BULK AT MOST 1048576: true; the input reads as it did. -/
def heedAloneUptoRow : OpenClaim := { program := "ytcnphhhcknhhaaagreat", sum := "2ee4fd9bd37c55ca573cba0b6a133a9ca4bbcb5813d198422a13592821accb56", func := "doorman/doormanlaw17.HeedAlone", spec := "heedAlone", inPlace := ["slices.overlaps[string]", "slices.overlaps[uint32]", "slices.overlaps[doorman/api.Session]", "slices.overlaps[doorman/book.Entry]"], unfollowed := true, recurses := true, apart := false, narrowed := true }
def HeedAloneUptoSaid : Prop := heedAloneUptoRow.holds Tryz.pinned (OpenSpec.upto heedAloneSpec)

/-- 'doormanlaw16.ReadTrue', WHERE WHAT IT READS IS OF BULK AT MOST 1048576: true; the input reads as it did. -/
def readTrueUptoRow : OpenClaim := { program := "ytcnphhhcknhhaaagreat", sum := "2ee4fd9bd37c55ca573cba0b6a133a9ca4bbcb5813d198422a13592821accb56", func := "doorman/doormanlaw16.ReadTrue", spec := "readTrue", inPlace := ["slices.overlaps[doorman/api.Session]", "slices.overlaps[string]", "slices.overlaps[doorman/book.Entry]", "slices.overlaps[uint32]"], unfollowed := true, recurses := true, apart := false, narrowed := true }
def ReadTrueUptoSaid : Prop := readTrueUptoRow.holds Tryz.pinned (OpenSpec.upto readTrueSpec)

end Rows
end Go.Proofs.YtcnphhhcknhhaaaGreat
