/- Words, plain data and contracts of the Go functions that this claim reaches. No condition beyond the hypotheses that each theorem states. -/
import Derived.Test.YtcnphhhcknhhaaaGreatW1
import Derived.Test.YtcnphhhcknhhaaaGreatRows
import Derived.WalkKit
import Derived.JoinedOf
import Derived.KernelRfl
set_option linter.unusedSimpArgs false
set_option linter.unusedVariables false
namespace Go.Proofs.YtcnphhhcknhhaaaGreat
open Go
open Go.ChangeShapes Go.WideShapes Go.RowKit
set_option maxRecDepth 100000
theorem io1 : Tryz.pinned.checked.prog.initOrder = "harness cebffccecb8f58e26f572955207c275a5410db0d2384427a9ba920cc5b2706e4 cut at doorman/doormanlaw18.SweepRounds doorman/doormanlaw17.HeedKnows doorman/doormanlaw15.WriteHolds doorman/doormanlaw15.WriteOnly doorman/doormanlaw14.HallPublish doorman/doormanlaw15.WriteSections doorman/doormanlaw15.WritePlays doorman/doormanlaw14.HallApart doorman/doormanlaw18.SweepPlays doorman/doormanlaw18.SweepRemoves doorman/doormanlaw14.HallActs doorman/doormanlaw18.SweepQuiet doorman/doormanlaw14.HallPlays doorman/doormanlaw14.HallModel doorman/doormanlaw16.ReadOther doorman/doormanlaw16.ReadPlays doorman/doormanlaw17.HeedTwice doorman/doormanlaw17.HeedPlays doorman/doormanlaw15.WriteAlone doorman/doormanlaw18.SweepAlone doorman/doormanlaw17.HeedTrue doorman/doormanlaw17.HeedAlone doorman/doormanlaw16.ReadTrue" := by kernel_rfl
abbrev ioL : List Char := [Char.ofNat 104, Char.ofNat 97, Char.ofNat 114, Char.ofNat 110, Char.ofNat 101, Char.ofNat 115, Char.ofNat 115, Char.ofNat 32, Char.ofNat 99, Char.ofNat 101, Char.ofNat 98, Char.ofNat 102, Char.ofNat 102, Char.ofNat 99, Char.ofNat 99, Char.ofNat 101, Char.ofNat 99, Char.ofNat 98, Char.ofNat 56, Char.ofNat 102, Char.ofNat 53, Char.ofNat 56, Char.ofNat 101, Char.ofNat 50, Char.ofNat 54, Char.ofNat 102, Char.ofNat 53, Char.ofNat 55, Char.ofNat 50, Char.ofNat 57, Char.ofNat 53, Char.ofNat 53, Char.ofNat 50, Char.ofNat 48, Char.ofNat 55, Char.ofNat 99, Char.ofNat 50, Char.ofNat 55, Char.ofNat 53, Char.ofNat 97, Char.ofNat 53, Char.ofNat 52, Char.ofNat 49, Char.ofNat 48, Char.ofNat 100, Char.ofNat 98, Char.ofNat 48, Char.ofNat 100, Char.ofNat 50, Char.ofNat 51, Char.ofNat 56, Char.ofNat 52, Char.ofNat 52, Char.ofNat 50, Char.ofNat 55, Char.ofNat 97, Char.ofNat 57, Char.ofNat 98, Char.ofNat 97, Char.ofNat 57, Char.ofNat 50, Char.ofNat 48, Char.ofNat 99, Char.ofNat 99, Char.ofNat 53, Char.ofNat 98, Char.ofNat 50, Char.ofNat 55, Char.ofNat 48, Char.ofNat 54, Char.ofNat 101, Char.ofNat 52, Char.ofNat 32, Char.ofNat 99, Char.ofNat 117, Char.ofNat 116, Char.ofNat 32, Char.ofNat 97, Char.ofNat 116, Char.ofNat 32, Char.ofNat 100, Char.ofNat 111, Char.ofNat 111, Char.ofNat 114, Char.ofNat 109, Char.ofNat 97, Char.ofNat 110, Char.ofNat 47, Char.ofNat 100, Char.ofNat 111, Char.ofNat 111, Char.ofNat 114, Char.ofNat 109, Char.ofNat 97, Char.ofNat 110, Char.ofNat 108, Char.ofNat 97, Char.ofNat 119, Char.ofNat 49, Char.ofNat 56, Char.ofNat 46, Char.ofNat 83, Char.ofNat 119, Char.ofNat 101, Char.ofNat 101, Char.ofNat 112, Char.ofNat 82, Char.ofNat 111, Char.ofNat 117, Char.ofNat 110, Char.ofNat 100, Char.ofNat 115, Char.ofNat 32, Char.ofNat 100, Char.ofNat 111, Char.ofNat 111, Char.ofNat 114, Char.ofNat 109, Char.ofNat 97, Char.ofNat 110, Char.ofNat 47, Char.ofNat 100, Char.ofNat 111, Char.ofNat 111, Char.ofNat 114, Char.ofNat 109, Char.ofNat 97, Char.ofNat 110, Char.ofNat 108, Char.ofNat 97, Char.ofNat 119, Char.ofNat 49, Char.ofNat 55, Char.ofNat 46, Char.ofNat 72, Char.ofNat 101, Char.ofNat 101, Char.ofNat 100, Char.ofNat 75, Char.ofNat 110, Char.ofNat 111, Char.ofNat 119, Char.ofNat 115, Char.ofNat 32, Char.ofNat 100, Char.ofNat 111, Char.ofNat 111, Char.ofNat 114, Char.ofNat 109, Char.ofNat 97, Char.ofNat 110, Char.ofNat 47, Char.ofNat 100, Char.ofNat 111, Char.ofNat 111, Char.ofNat 114, Char.ofNat 109, Char.ofNat 97, Char.ofNat 110, Char.ofNat 108, Char.ofNat 97, Char.ofNat 119, Char.ofNat 49, Char.ofNat 53, Char.ofNat 46, Char.ofNat 87, Char.ofNat 114, Char.ofNat 105, Char.ofNat 116, Char.ofNat 101, Char.ofNat 72, Char.ofNat 111, Char.ofNat 108, Char.ofNat 100, Char.ofNat 115, Char.ofNat 32, Char.ofNat 100, Char.ofNat 111, Char.ofNat 111, Char.ofNat 114, Char.ofNat 109, Char.ofNat 97, Char.ofNat 110, Char.ofNat 47, Char.ofNat 100, Char.ofNat 111, Char.ofNat 111, Char.ofNat 114, Char.ofNat 109, Char.ofNat 97, Char.ofNat 110, Char.ofNat 108, Char.ofNat 97, Char.ofNat 119, Char.ofNat 49, Char.ofNat 53, Char.ofNat 46, Char.ofNat 87, Char.ofNat 114, Char.ofNat 105, Char.ofNat 116, Char.ofNat 101, Char.ofNat 79, Char.ofNat 110, Char.ofNat 108, Char.ofNat 121, Char.ofNat 32, Char.ofNat 100, Char.ofNat 111, Char.ofNat 111, Char.ofNat 114, Char.ofNat 109, Char.ofNat 97, Char.ofNat 110, Char.ofNat 47, Char.ofNat 100, Char.ofNat 111, Char.ofNat 111, Char.ofNat 114, Char.ofNat 109, Char.ofNat 97, Char.ofNat 110, Char.ofNat 108, Char.ofNat 97, Char.ofNat 119, Char.ofNat 49, Char.ofNat 52, Char.ofNat 46, Char.ofNat 72, Char.ofNat 97, Char.ofNat 108, Char.ofNat 108, Char.ofNat 80, Char.ofNat 117, Char.ofNat 98, Char.ofNat 108, Char.ofNat 105, Char.ofNat 115, Char.ofNat 104, Char.ofNat 32, Char.ofNat 100, Char.ofNat 111, Char.ofNat 111, Char.ofNat 114, Char.ofNat 109, Char.ofNat 97, Char.ofNat 110, Char.ofNat 47, Char.ofNat 100, Char.ofNat 111, Char.ofNat 111, Char.ofNat 114, Char.ofNat 109, Char.ofNat 97, Char.ofNat 110, Char.ofNat 108, Char.ofNat 97, Char.ofNat 119, Char.ofNat 49, Char.ofNat 53, Char.ofNat 46, Char.ofNat 87, Char.ofNat 114, Char.ofNat 105, Char.ofNat 116, Char.ofNat 101, Char.ofNat 83, Char.ofNat 101, Char.ofNat 99, Char.ofNat 116, Char.ofNat 105, Char.ofNat 111, Char.ofNat 110, Char.ofNat 115, Char.ofNat 32, Char.ofNat 100, Char.ofNat 111, Char.ofNat 111, Char.ofNat 114, Char.ofNat 109, Char.ofNat 97, Char.ofNat 110, Char.ofNat 47, Char.ofNat 100, Char.ofNat 111, Char.ofNat 111, Char.ofNat 114, Char.ofNat 109, Char.ofNat 97, Char.ofNat 110, Char.ofNat 108, Char.ofNat 97, Char.ofNat 119, Char.ofNat 49, Char.ofNat 53, Char.ofNat 46, Char.ofNat 87, Char.ofNat 114, Char.ofNat 105, Char.ofNat 116, Char.ofNat 101, Char.ofNat 80, Char.ofNat 108, Char.ofNat 97, Char.ofNat 121, Char.ofNat 115, Char.ofNat 32, Char.ofNat 100, Char.ofNat 111, Char.ofNat 111, Char.ofNat 114, Char.ofNat 109, Char.ofNat 97, Char.ofNat 110, Char.ofNat 47, Char.ofNat 100, Char.ofNat 111, Char.ofNat 111, Char.ofNat 114, Char.ofNat 109, Char.ofNat 97, Char.ofNat 110, Char.ofNat 108, Char.ofNat 97, Char.ofNat 119, Char.ofNat 49, Char.ofNat 52, Char.ofNat 46, Char.ofNat 72, Char.ofNat 97, Char.ofNat 108, Char.ofNat 108, Char.ofNat 65, Char.ofNat 112, Char.ofNat 97, Char.ofNat 114, Char.ofNat 116, Char.ofNat 32, Char.ofNat 100, Char.ofNat 111, Char.ofNat 111, Char.ofNat 114, Char.ofNat 109, Char.ofNat 97, Char.ofNat 110, Char.ofNat 47, Char.ofNat 100, Char.ofNat 111, Char.ofNat 111, Char.ofNat 114, Char.ofNat 109, Char.ofNat 97, Char.ofNat 110, Char.ofNat 108, Char.ofNat 97, Char.ofNat 119, Char.ofNat 49, Char.ofNat 56, Char.ofNat 46, Char.ofNat 83, Char.ofNat 119, Char.ofNat 101, Char.ofNat 101, Char.ofNat 112, Char.ofNat 80, Char.ofNat 108, Char.ofNat 97, Char.ofNat 121, Char.ofNat 115, Char.ofNat 32, Char.ofNat 100, Char.ofNat 111, Char.ofNat 111, Char.ofNat 114, Char.ofNat 109, Char.ofNat 97, Char.ofNat 110, Char.ofNat 47, Char.ofNat 100, Char.ofNat 111, Char.ofNat 111, Char.ofNat 114, Char.ofNat 109, Char.ofNat 97, Char.ofNat 110, Char.ofNat 108, Char.ofNat 97, Char.ofNat 119, Char.ofNat 49, Char.ofNat 56, Char.ofNat 46, Char.ofNat 83, Char.ofNat 119, Char.ofNat 101, Char.ofNat 101, Char.ofNat 112, Char.ofNat 82, Char.ofNat 101, Char.ofNat 109, Char.ofNat 111, Char.ofNat 118, Char.ofNat 101, Char.ofNat 115, Char.ofNat 32, Char.ofNat 100, Char.ofNat 111, Char.ofNat 111, Char.ofNat 114, Char.ofNat 109, Char.ofNat 97, Char.ofNat 110, Char.ofNat 47, Char.ofNat 100, Char.ofNat 111, Char.ofNat 111, Char.ofNat 114, Char.ofNat 109, Char.ofNat 97, Char.ofNat 110, Char.ofNat 108, Char.ofNat 97, Char.ofNat 119, Char.ofNat 49, Char.ofNat 52, Char.ofNat 46, Char.ofNat 72, Char.ofNat 97, Char.ofNat 108, Char.ofNat 108, Char.ofNat 65, Char.ofNat 99, Char.ofNat 116, Char.ofNat 115, Char.ofNat 32, Char.ofNat 100, Char.ofNat 111, Char.ofNat 111, Char.ofNat 114, Char.ofNat 109, Char.ofNat 97, Char.ofNat 110, Char.ofNat 47, Char.ofNat 100, Char.ofNat 111, Char.ofNat 111, Char.ofNat 114, Char.ofNat 109, Char.ofNat 97, Char.ofNat 110, Char.ofNat 108, Char.ofNat 97, Char.ofNat 119, Char.ofNat 49, Char.ofNat 56, Char.ofNat 46, Char.ofNat 83, Char.ofNat 119, Char.ofNat 101, Char.ofNat 101, Char.ofNat 112, Char.ofNat 81, Char.ofNat 117, Char.ofNat 105, Char.ofNat 101, Char.ofNat 116, Char.ofNat 32, Char.ofNat 100, Char.ofNat 111, Char.ofNat 111, Char.ofNat 114, Char.ofNat 109, Char.ofNat 97, Char.ofNat 110, Char.ofNat 47, Char.ofNat 100, Char.ofNat 111, Char.ofNat 111, Char.ofNat 114, Char.ofNat 109, Char.ofNat 97, Char.ofNat 110, Char.ofNat 108, Char.ofNat 97, Char.ofNat 119, Char.ofNat 49, Char.ofNat 52, Char.ofNat 46, Char.ofNat 72, Char.ofNat 97, Char.ofNat 108, Char.ofNat 108, Char.ofNat 80, Char.ofNat 108, Char.ofNat 97, Char.ofNat 121, Char.ofNat 115, Char.ofNat 32, Char.ofNat 100, Char.ofNat 111, Char.ofNat 111, Char.ofNat 114, Char.ofNat 109, Char.ofNat 97, Char.ofNat 110, Char.ofNat 47, Char.ofNat 100, Char.ofNat 111, Char.ofNat 111, Char.ofNat 114, Char.ofNat 109, Char.ofNat 97, Char.ofNat 110, Char.ofNat 108, Char.ofNat 97, Char.ofNat 119, Char.ofNat 49, Char.ofNat 52, Char.ofNat 46, Char.ofNat 72, Char.ofNat 97, Char.ofNat 108, Char.ofNat 108, Char.ofNat 77, Char.ofNat 111, Char.ofNat 100, Char.ofNat 101, Char.ofNat 108, Char.ofNat 32, Char.ofNat 100, Char.ofNat 111, Char.ofNat 111, Char.ofNat 114, Char.ofNat 109, Char.ofNat 97, Char.ofNat 110, Char.ofNat 47, Char.ofNat 100, Char.ofNat 111, Char.ofNat 111, Char.ofNat 114, Char.ofNat 109, Char.ofNat 97, Char.ofNat 110, Char.ofNat 108, Char.ofNat 97, Char.ofNat 119, Char.ofNat 49, Char.ofNat 54, Char.ofNat 46, Char.ofNat 82, Char.ofNat 101, Char.ofNat 97, Char.ofNat 100, Char.ofNat 79, Char.ofNat 116, Char.ofNat 104, Char.ofNat 101, Char.ofNat 114, Char.ofNat 32, Char.ofNat 100, Char.ofNat 111, Char.ofNat 111, Char.ofNat 114, Char.ofNat 109, Char.ofNat 97, Char.ofNat 110, Char.ofNat 47, Char.ofNat 100, Char.ofNat 111, Char.ofNat 111, Char.ofNat 114, Char.ofNat 109, Char.ofNat 97, Char.ofNat 110, Char.ofNat 108, Char.ofNat 97, Char.ofNat 119, Char.ofNat 49, Char.ofNat 54, Char.ofNat 46, Char.ofNat 82, Char.ofNat 101, Char.ofNat 97, Char.ofNat 100, Char.ofNat 80, Char.ofNat 108, Char.ofNat 97, Char.ofNat 121, Char.ofNat 115, Char.ofNat 32, Char.ofNat 100, Char.ofNat 111, Char.ofNat 111, Char.ofNat 114, Char.ofNat 109, Char.ofNat 97, Char.ofNat 110, Char.ofNat 47, Char.ofNat 100, Char.ofNat 111, Char.ofNat 111, Char.ofNat 114, Char.ofNat 109, Char.ofNat 97, Char.ofNat 110, Char.ofNat 108, Char.ofNat 97, Char.ofNat 119, Char.ofNat 49, Char.ofNat 55, Char.ofNat 46, Char.ofNat 72, Char.ofNat 101, Char.ofNat 101, Char.ofNat 100, Char.ofNat 84, Char.ofNat 119, Char.ofNat 105, Char.ofNat 99, Char.ofNat 101, Char.ofNat 32, Char.ofNat 100, Char.ofNat 111, Char.ofNat 111, Char.ofNat 114, Char.ofNat 109, Char.ofNat 97, Char.ofNat 110, Char.ofNat 47, Char.ofNat 100, Char.ofNat 111, Char.ofNat 111, Char.ofNat 114, Char.ofNat 109, Char.ofNat 97, Char.ofNat 110, Char.ofNat 108, Char.ofNat 97, Char.ofNat 119, Char.ofNat 49, Char.ofNat 55, Char.ofNat 46, Char.ofNat 72, Char.ofNat 101, Char.ofNat 101, Char.ofNat 100, Char.ofNat 80, Char.ofNat 108, Char.ofNat 97, Char.ofNat 121, Char.ofNat 115, Char.ofNat 32, Char.ofNat 100, Char.ofNat 111, Char.ofNat 111, Char.ofNat 114, Char.ofNat 109, Char.ofNat 97, Char.ofNat 110, Char.ofNat 47, Char.ofNat 100, Char.ofNat 111, Char.ofNat 111, Char.ofNat 114, Char.ofNat 109, Char.ofNat 97, Char.ofNat 110, Char.ofNat 108, Char.ofNat 97, Char.ofNat 119, Char.ofNat 49, Char.ofNat 53, Char.ofNat 46, Char.ofNat 87, Char.ofNat 114, Char.ofNat 105, Char.ofNat 116, Char.ofNat 101, Char.ofNat 65, Char.ofNat 108, Char.ofNat 111, Char.ofNat 110, Char.ofNat 101, Char.ofNat 32, Char.ofNat 100, Char.ofNat 111, Char.ofNat 111, Char.ofNat 114, Char.ofNat 109, Char.ofNat 97, Char.ofNat 110, Char.ofNat 47, Char.ofNat 100, Char.ofNat 111, Char.ofNat 111, Char.ofNat 114, Char.ofNat 109, Char.ofNat 97, Char.ofNat 110, Char.ofNat 108, Char.ofNat 97, Char.ofNat 119, Char.ofNat 49, Char.ofNat 56, Char.ofNat 46, Char.ofNat 83, Char.ofNat 119, Char.ofNat 101, Char.ofNat 101, Char.ofNat 112, Char.ofNat 65, Char.ofNat 108, Char.ofNat 111, Char.ofNat 110, Char.ofNat 101, Char.ofNat 32, Char.ofNat 100, Char.ofNat 111, Char.ofNat 111, Char.ofNat 114, Char.ofNat 109, Char.ofNat 97, Char.ofNat 110, Char.ofNat 47, Char.ofNat 100, Char.ofNat 111, Char.ofNat 111, Char.ofNat 114, Char.ofNat 109, Char.ofNat 97, Char.ofNat 110, Char.ofNat 108, Char.ofNat 97, Char.ofNat 119, Char.ofNat 49, Char.ofNat 55, Char.ofNat 46, Char.ofNat 72, Char.ofNat 101, Char.ofNat 101, Char.ofNat 100, Char.ofNat 84, Char.ofNat 114, Char.ofNat 117, Char.ofNat 101, Char.ofNat 32, Char.ofNat 100, Char.ofNat 111, Char.ofNat 111, Char.ofNat 114, Char.ofNat 109, Char.ofNat 97, Char.ofNat 110, Char.ofNat 47, Char.ofNat 100, Char.ofNat 111, Char.ofNat 111, Char.ofNat 114, Char.ofNat 109, Char.ofNat 97, Char.ofNat 110, Char.ofNat 108, Char.ofNat 97, Char.ofNat 119, Char.ofNat 49, Char.ofNat 55, Char.ofNat 46, Char.ofNat 72, Char.ofNat 101, Char.ofNat 101, Char.ofNat 100, Char.ofNat 65, Char.ofNat 108, Char.ofNat 111, Char.ofNat 110, Char.ofNat 101, Char.ofNat 32, Char.ofNat 100, Char.ofNat 111, Char.ofNat 111, Char.ofNat 114, Char.ofNat 109, Char.ofNat 97, Char.ofNat 110, Char.ofNat 47, Char.ofNat 100, Char.ofNat 111, Char.ofNat 111, Char.ofNat 114, Char.ofNat 109, Char.ofNat 97, Char.ofNat 110, Char.ofNat 108, Char.ofNat 97, Char.ofNat 119, Char.ofNat 49, Char.ofNat 54, Char.ofNat 46, Char.ofNat 82, Char.ofNat 101, Char.ofNat 97, Char.ofNat 100, Char.ofNat 84, Char.ofNat 114, Char.ofNat 117, Char.ofNat 101]
theorem io2 : "harness cebffccecb8f58e26f572955207c275a5410db0d2384427a9ba920cc5b2706e4 cut at doorman/doormanlaw18.SweepRounds doorman/doormanlaw17.HeedKnows doorman/doormanlaw15.WriteHolds doorman/doormanlaw15.WriteOnly doorman/doormanlaw14.HallPublish doorman/doormanlaw15.WriteSections doorman/doormanlaw15.WritePlays doorman/doormanlaw14.HallApart doorman/doormanlaw18.SweepPlays doorman/doormanlaw18.SweepRemoves doorman/doormanlaw14.HallActs doorman/doormanlaw18.SweepQuiet doorman/doormanlaw14.HallPlays doorman/doormanlaw14.HallModel doorman/doormanlaw16.ReadOther doorman/doormanlaw16.ReadPlays doorman/doormanlaw17.HeedTwice doorman/doormanlaw17.HeedPlays doorman/doormanlaw15.WriteAlone doorman/doormanlaw18.SweepAlone doorman/doormanlaw17.HeedTrue doorman/doormanlaw17.HeedAlone doorman/doormanlaw16.ReadTrue".toList = ioL := String.toList_ofList
theorem io : Tryz.pinned.checked.prog.initOrder.toList = ioL := by rw [io1]; exact io2
theorem words_of : ∀ (w r : List Char), w.all (fun c => !(c == Char.ofNat 32)) = true → wordsSigns (w ++ Char.ofNat 32 :: r) = w :: wordsSigns r
  | [], r, _ => rfl
  | c :: w, r, h => by
    simp only [List.all_cons, Bool.and_eq_true] at h
    have hc : c ≠ Char.ofNat 32 := fun e => by simp [e] at h
    have ih := words_of w r h.2
    rw [List.cons_append, wordsSigns]
    · rw [ih]
    · exact hc
theorem io4 : ioL = ([Char.ofNat 104, Char.ofNat 97, Char.ofNat 114, Char.ofNat 110, Char.ofNat 101, Char.ofNat 115, Char.ofNat 115] : List Char) ++ Char.ofNat 32 :: (([Char.ofNat 99, Char.ofNat 101, Char.ofNat 98, Char.ofNat 102, Char.ofNat 102, Char.ofNat 99, Char.ofNat 99, Char.ofNat 101, Char.ofNat 99, Char.ofNat 98, Char.ofNat 56, Char.ofNat 102, Char.ofNat 53, Char.ofNat 56, Char.ofNat 101, Char.ofNat 50, Char.ofNat 54, Char.ofNat 102, Char.ofNat 53, Char.ofNat 55, Char.ofNat 50, Char.ofNat 57, Char.ofNat 53, Char.ofNat 53, Char.ofNat 50, Char.ofNat 48, Char.ofNat 55, Char.ofNat 99, Char.ofNat 50, Char.ofNat 55, Char.ofNat 53, Char.ofNat 97, Char.ofNat 53, Char.ofNat 52, Char.ofNat 49, Char.ofNat 48, Char.ofNat 100, Char.ofNat 98, Char.ofNat 48, Char.ofNat 100, Char.ofNat 50, Char.ofNat 51, Char.ofNat 56, Char.ofNat 52, Char.ofNat 52, Char.ofNat 50, Char.ofNat 55, Char.ofNat 97, Char.ofNat 57, Char.ofNat 98, Char.ofNat 97, Char.ofNat 57, Char.ofNat 50, Char.ofNat 48, Char.ofNat 99, Char.ofNat 99, Char.ofNat 53, Char.ofNat 98, Char.ofNat 50, Char.ofNat 55, Char.ofNat 48, Char.ofNat 54, Char.ofNat 101, Char.ofNat 52] : List Char) ++ Char.ofNat 32 :: (([Char.ofNat 99, Char.ofNat 117, Char.ofNat 116] : List Char) ++ Char.ofNat 32 :: ioL.drop 77)) := rfl
theorem words : ∃ X, wordsSigns Tryz.pinned.checked.prog.initOrder.toList = ([Char.ofNat 104, Char.ofNat 97, Char.ofNat 114, Char.ofNat 110, Char.ofNat 101, Char.ofNat 115, Char.ofNat 115] : List Char) :: ([Char.ofNat 99, Char.ofNat 101, Char.ofNat 98, Char.ofNat 102, Char.ofNat 102, Char.ofNat 99, Char.ofNat 99, Char.ofNat 101, Char.ofNat 99, Char.ofNat 98, Char.ofNat 56, Char.ofNat 102, Char.ofNat 53, Char.ofNat 56, Char.ofNat 101, Char.ofNat 50, Char.ofNat 54, Char.ofNat 102, Char.ofNat 53, Char.ofNat 55, Char.ofNat 50, Char.ofNat 57, Char.ofNat 53, Char.ofNat 53, Char.ofNat 50, Char.ofNat 48, Char.ofNat 55, Char.ofNat 99, Char.ofNat 50, Char.ofNat 55, Char.ofNat 53, Char.ofNat 97, Char.ofNat 53, Char.ofNat 52, Char.ofNat 49, Char.ofNat 48, Char.ofNat 100, Char.ofNat 98, Char.ofNat 48, Char.ofNat 100, Char.ofNat 50, Char.ofNat 51, Char.ofNat 56, Char.ofNat 52, Char.ofNat 52, Char.ofNat 50, Char.ofNat 55, Char.ofNat 97, Char.ofNat 57, Char.ofNat 98, Char.ofNat 97, Char.ofNat 57, Char.ofNat 50, Char.ofNat 48, Char.ofNat 99, Char.ofNat 99, Char.ofNat 53, Char.ofNat 98, Char.ofNat 50, Char.ofNat 55, Char.ofNat 48, Char.ofNat 54, Char.ofNat 101, Char.ofNat 52] : List Char) :: ([Char.ofNat 99, Char.ofNat 117, Char.ofNat 116] : List Char) :: X := by
  refine ⟨wordsSigns (ioL.drop 77), ?_⟩
  rw [io]
  refine (congrArg wordsSigns io4).trans ?_
  rw [words_of _ _ (by decide +kernel), words_of _ _ (by decide +kernel), words_of _ _ (by decide +kernel)]
theorem make_of {P : Program} {X : List (List Char)} (h : wordsSigns P.initOrder.toList = ([Char.ofNat 104, Char.ofNat 97, Char.ofNat 114, Char.ofNat 110, Char.ofNat 101, Char.ofNat 115, Char.ofNat 115] : List Char) :: ([Char.ofNat 99, Char.ofNat 101, Char.ofNat 98, Char.ofNat 102, Char.ofNat 102, Char.ofNat 99, Char.ofNat 99, Char.ofNat 101, Char.ofNat 99, Char.ofNat 98, Char.ofNat 56, Char.ofNat 102, Char.ofNat 53, Char.ofNat 56, Char.ofNat 101, Char.ofNat 50, Char.ofNat 54, Char.ofNat 102, Char.ofNat 53, Char.ofNat 55, Char.ofNat 50, Char.ofNat 57, Char.ofNat 53, Char.ofNat 53, Char.ofNat 50, Char.ofNat 48, Char.ofNat 55, Char.ofNat 99, Char.ofNat 50, Char.ofNat 55, Char.ofNat 53, Char.ofNat 97, Char.ofNat 53, Char.ofNat 52, Char.ofNat 49, Char.ofNat 48, Char.ofNat 100, Char.ofNat 98, Char.ofNat 48, Char.ofNat 100, Char.ofNat 50, Char.ofNat 51, Char.ofNat 56, Char.ofNat 52, Char.ofNat 52, Char.ofNat 50, Char.ofNat 55, Char.ofNat 97, Char.ofNat 57, Char.ofNat 98, Char.ofNat 97, Char.ofNat 57, Char.ofNat 50, Char.ofNat 48, Char.ofNat 99, Char.ofNat 99, Char.ofNat 53, Char.ofNat 98, Char.ofNat 50, Char.ofNat 55, Char.ofNat 48, Char.ofNat 54, Char.ofNat 101, Char.ofNat 52] : List Char) :: ([Char.ofNat 99, Char.ofNat 117, Char.ofNat 116] : List Char) :: X) : P.make = some .cut := by
  unfold Program.make
  rw [h]
  kernel_rfl
theorem lifts_of {P : Program} {X : List (List Char)} (h : wordsSigns P.initOrder.toList = ([Char.ofNat 104, Char.ofNat 97, Char.ofNat 114, Char.ofNat 110, Char.ofNat 101, Char.ofNat 115, Char.ofNat 115] : List Char) :: ([Char.ofNat 99, Char.ofNat 101, Char.ofNat 98, Char.ofNat 102, Char.ofNat 102, Char.ofNat 99, Char.ofNat 99, Char.ofNat 101, Char.ofNat 99, Char.ofNat 98, Char.ofNat 56, Char.ofNat 102, Char.ofNat 53, Char.ofNat 56, Char.ofNat 101, Char.ofNat 50, Char.ofNat 54, Char.ofNat 102, Char.ofNat 53, Char.ofNat 55, Char.ofNat 50, Char.ofNat 57, Char.ofNat 53, Char.ofNat 53, Char.ofNat 50, Char.ofNat 48, Char.ofNat 55, Char.ofNat 99, Char.ofNat 50, Char.ofNat 55, Char.ofNat 53, Char.ofNat 97, Char.ofNat 53, Char.ofNat 52, Char.ofNat 49, Char.ofNat 48, Char.ofNat 100, Char.ofNat 98, Char.ofNat 48, Char.ofNat 100, Char.ofNat 50, Char.ofNat 51, Char.ofNat 56, Char.ofNat 52, Char.ofNat 52, Char.ofNat 50, Char.ofNat 55, Char.ofNat 97, Char.ofNat 57, Char.ofNat 98, Char.ofNat 97, Char.ofNat 57, Char.ofNat 50, Char.ofNat 48, Char.ofNat 99, Char.ofNat 99, Char.ofNat 53, Char.ofNat 98, Char.ofNat 50, Char.ofNat 55, Char.ofNat 48, Char.ofNat 54, Char.ofNat 101, Char.ofNat 52] : List Char) :: ([Char.ofNat 99, Char.ofNat 117, Char.ofNat 116] : List Char) :: X) : P.liftsFinal = false := by
  unfold Program.liftsFinal Program.headLifts
  rw [h]
  kernel_rfl
theorem may_of {P : Program} {X : List (List Char)} (h : wordsSigns P.initOrder.toList = ([Char.ofNat 104, Char.ofNat 97, Char.ofNat 114, Char.ofNat 110, Char.ofNat 101, Char.ofNat 115, Char.ofNat 115] : List Char) :: ([Char.ofNat 99, Char.ofNat 101, Char.ofNat 98, Char.ofNat 102, Char.ofNat 102, Char.ofNat 99, Char.ofNat 99, Char.ofNat 101, Char.ofNat 99, Char.ofNat 98, Char.ofNat 56, Char.ofNat 102, Char.ofNat 53, Char.ofNat 56, Char.ofNat 101, Char.ofNat 50, Char.ofNat 54, Char.ofNat 102, Char.ofNat 53, Char.ofNat 55, Char.ofNat 50, Char.ofNat 57, Char.ofNat 53, Char.ofNat 53, Char.ofNat 50, Char.ofNat 48, Char.ofNat 55, Char.ofNat 99, Char.ofNat 50, Char.ofNat 55, Char.ofNat 53, Char.ofNat 97, Char.ofNat 53, Char.ofNat 52, Char.ofNat 49, Char.ofNat 48, Char.ofNat 100, Char.ofNat 98, Char.ofNat 48, Char.ofNat 100, Char.ofNat 50, Char.ofNat 51, Char.ofNat 56, Char.ofNat 52, Char.ofNat 52, Char.ofNat 50, Char.ofNat 55, Char.ofNat 97, Char.ofNat 57, Char.ofNat 98, Char.ofNat 97, Char.ofNat 57, Char.ofNat 50, Char.ofNat 48, Char.ofNat 99, Char.ofNat 99, Char.ofNat 53, Char.ofNat 98, Char.ofNat 50, Char.ofNat 55, Char.ofNat 48, Char.ofNat 54, Char.ofNat 101, Char.ofNat 52] : List Char) :: ([Char.ofNat 99, Char.ofNat 117, Char.ofNat 116] : List Char) :: X) (l : P.laysLater = false) (b : P.bearsReflect = false) (d : P.doorFits [] = true) : P.mayEnter = true := by
  unfold Program.mayEnter
  rw [h]
  have e : behindMainWord (([Char.ofNat 104, Char.ofNat 97, Char.ofNat 114, Char.ofNat 110, Char.ofNat 101, Char.ofNat 115, Char.ofNat 115] : List Char) :: ([Char.ofNat 99, Char.ofNat 101, Char.ofNat 98, Char.ofNat 102, Char.ofNat 102, Char.ofNat 99, Char.ofNat 99, Char.ofNat 101, Char.ofNat 99, Char.ofNat 98, Char.ofNat 56, Char.ofNat 102, Char.ofNat 53, Char.ofNat 56, Char.ofNat 101, Char.ofNat 50, Char.ofNat 54, Char.ofNat 102, Char.ofNat 53, Char.ofNat 55, Char.ofNat 50, Char.ofNat 57, Char.ofNat 53, Char.ofNat 53, Char.ofNat 50, Char.ofNat 48, Char.ofNat 55, Char.ofNat 99, Char.ofNat 50, Char.ofNat 55, Char.ofNat 53, Char.ofNat 97, Char.ofNat 53, Char.ofNat 52, Char.ofNat 49, Char.ofNat 48, Char.ofNat 100, Char.ofNat 98, Char.ofNat 48, Char.ofNat 100, Char.ofNat 50, Char.ofNat 51, Char.ofNat 56, Char.ofNat 52, Char.ofNat 52, Char.ofNat 50, Char.ofNat 55, Char.ofNat 97, Char.ofNat 57, Char.ofNat 98, Char.ofNat 97, Char.ofNat 57, Char.ofNat 50, Char.ofNat 48, Char.ofNat 99, Char.ofNat 99, Char.ofNat 53, Char.ofNat 98, Char.ofNat 50, Char.ofNat 55, Char.ofNat 48, Char.ofNat 54, Char.ofNat 101, Char.ofNat 52] : List Char) :: ([Char.ofNat 99, Char.ofNat 117, Char.ofNat 116] : List Char) :: X) = ([Char.ofNat 99, Char.ofNat 117, Char.ofNat 116] : List Char) :: X := by kernel_rfl
  rw [e]
  have e2 : stripLifts liftWords (([Char.ofNat 99, Char.ofNat 117, Char.ofNat 116] : List Char) :: X) = ([], ([Char.ofNat 99, Char.ofNat 117, Char.ofNat 116] : List Char) :: X) := by kernel_rfl
  dsimp only
  rw [e2, l, b, d]
  simp
theorem pf_later : Tryz.pinned.checked.prog.laysLater = false := by kernel_rfl
theorem pf_reflect : Tryz.pinned.checked.prog.bearsReflect = false := by kernel_rfl
theorem pf_door : Tryz.pinned.checked.prog.doorFits [] = true := by kernel_rfl
theorem pf_may : Tryz.pinned.checked.prog.mayEnter = true := by obtain ⟨X, h⟩ := words; exact may_of h pf_later pf_reflect pf_door
theorem pf_lifts : Tryz.pinned.checked.prog.liftsFinal = false := by obtain ⟨X, h⟩ := words; exact lifts_of h
theorem pf_make : Tryz.pinned.checked.prog.make = some .cut := by obtain ⟨X, h⟩ := words; exact make_of h
theorem pf_laid : laidOutB Tryz.pinned.checked.prog = true := by kernel_rfl
theorem pf_maps : mapsRowed Tryz.pinned.checked.prog = true := by kernel_rfl
theorem pf_stops : (Tryz.pinned.checked.prog.stops == []) = true := by kernel_rfl
theorem pf_knobs : (Tryz.pinned.checked.prog.stopKnobs == []) = true := by kernel_rfl
theorem pf_heard : Tryz.pinned.checked.prog.stopsHeard = true := by kernel_rfl
theorem pf_own : ownKnob Tryz.prog.godebug = none := by kernel_rfl
theorem joined_of {P : Program} {f : FuncId} {fn : Func} {s : ChangeSpec} {c : OpenClaim} (h1 : c.wf (OpenSpec.ofChange s) = true) (h2 : laidOutB P = true) (h3 : mapsRowed P = true)
    (h4 : fn.params.all (P.readableRec ·) = true) (h5 : namedTie P c.named s.vars = true) (h6 : (c.stops == []) = true) (h7 : (P.stops == []) = true) (h8 : (c.knobs == []) = true) (h9 : (P.stopKnobs == []) = true)
    (h10 : (c.inPlace == P.inPlace f) = true) (h11 : (c.unfollowed == P.unfollowed f) = true) (h12 : (c.recurses == P.recurses f) = true) (h13 : (c.named == P.varsNamed f) = true)
    (h14 : (c.maps == (fn.params.toList ++ s.plain.varTypes P).any (P.mapsRec ·)) = true) (h15 : (c.ifaces == (fn.params.toList ++ s.plain.varTypes P).any (P.ifacesRec ·)) = true) (h16 : (c.mapsOut == P.mapsAmong fn.resultTypes.toList) = true)
    (h17 : (c.loops == (fn.params.toList ++ s.plain.varTypes P).any (P.loopsFrom ·)) = true) (h18 : (c.wideKeys == (fn.params.toList ++ s.plain.varTypes P ++ fn.resultTypes.toList).any (P.wideKeysFrom ·)) = true)
    (h19 : s.vars.all (P.varReadable ·) = true) (h20 : fn.resultTypes.all (fun t => P.readableRec t && decide (t < P.types.size)) = true) (h21 : (c.ifacesOut == fn.resultTypes.toList.any (P.ifacesRec ·)) = true) (h22 : (c.loopsOut == fn.resultTypes.toList.any (P.loopsFrom ·)) = true)
    (h23 : (c.plainKeys == P.plainKeys) = true) (h24 : c.shortTexts.isNone = true) (h25 : P.stopsHeard = true) (h26 : P.mayEnter = true) (h27 : c.lifted = false) (h28 : P.liftsFinal = false) (h29 : P.make = some .cut) (h30 : c.make = .cut)
    (h31 : (c.kinds == (if c.domain.isEmpty then [] else fn.params.toList.map fun t => match P.underlying t with | some (.int k) => some k | _ => none)) = true) (h32 : (c.pinned == c.pinnedBy) = true)
    (h33 : (c.veiled == (fn.params.toList ++ s.plain.varTypes P ++ fn.resultTypes.toList).any (P.veiledRec ·)) = true) (h34 : c.veiledFits P fn.params.toList (fn.params.toList ++ s.plain.varTypes P ++ fn.resultTypes.toList) = true) : joinedFacts P f fn s c = true := by
  have h28' : (c.lifted == P.liftsFinal) = true := by rw [h27, h28]; rfl
  have h29' : (P.make == some c.make) = true := by rw [h29, h30]; rfl
  unfold joinedFacts
  simp only [Bool.and_eq_true]
  exact ⟨⟨⟨⟨⟨⟨⟨⟨⟨⟨⟨⟨⟨⟨⟨⟨⟨⟨⟨⟨⟨⟨⟨⟨⟨⟨⟨⟨⟨⟨⟨h1, h2⟩, h3⟩, h4⟩, h5⟩, h6⟩, h7⟩, h8⟩, h9⟩, h10⟩, h11⟩, h12⟩, h13⟩, h14⟩, h15⟩, h16⟩, h17⟩, h18⟩, h19⟩, h20⟩, h21⟩, h22⟩, h23⟩, h24⟩, h25⟩, h26⟩, h28'⟩, h29'⟩, h31⟩, h32⟩, h33⟩, h34⟩
end Go.Proofs.YtcnphhhcknhhaaaGreat
namespace Go.Proofs.YtcnphhhcknhhaaaGreat
open Go Go.Den
set_option maxRecDepth 100000
set_option linter.unusedVariables false
def d_doormanref10_Right (x0 : Value) (h : Heap) (K : Value → Heap → Prop) : Prop := nwM (some x0.cells) ty_api_Config h fun v1 h2 => ov (faV (some 0) v1) fun v3 => ov (ldV (some none) v3 h2) fun v4 => ov (binV BinOp.gtr 2 true v4 (Value.int IntKind.i64 0)) fun v5 => gM (isB v5 true) (fun k8 => ov (faV (some 0) v1) fun v9 => k8 v9 h2) h2 fun v6 h7 => gM (isB v5 true) (fun k12 => ov (ldV (some none) v6 h7) fun v13 => k12 v13 h7) h7 fun v10 h11 => gM (isB v5 true) (fun k16 => ov (binV BinOp.lss 2 true v10 (Value.int IntKind.i64 9)) fun v17 => k16 v17 h11) h11 fun v14 h15 => ov (pkV v5 v14 (Value.bool false)) fun v18 => gM (isB v18 true) (fun k21 => ov (faV (some 1) v1) fun v22 => k21 v22 h15) h15 fun v19 h20 => gM (isB v18 true) (fun k25 => ov (ldV (some none) v19 h20) fun v26 => k25 v26 h20) h20 fun v23 h24 => gM (isB v18 true) (fun k29 => ov (binV BinOp.gtr 2 true v23 (Value.int IntKind.i64 0)) fun v30 => k29 v30 h24) h24 fun v27 h28 => ov (pkV v18 v27 (Value.bool false)) fun v31 => gM (isB v31 true) (fun k34 => ov (faV (some 1) v1) fun v35 => k34 v35 h28) h28 fun v32 h33 => gM (isB v31 true) (fun k38 => ov (ldV (some none) v32 h33) fun v39 => k38 v39 h33) h33 fun v36 h37 => gM (isB v31 true) (fun k42 => ov (binV BinOp.lss 2 true v36 (Value.int IntKind.i64 9)) fun v43 => k42 v43 h37) h37 fun v40 h41 => ov (pkV v31 v40 (Value.bool false)) fun v44 => gM (isB v44 true) (fun k47 => ov (faV (some 2) v1) fun v48 => k47 v48 h41) h41 fun v45 h46 => gM (isB v44 true) (fun k51 => ov (ldV (some none) v45 h46) fun v52 => k51 v52 h46) h46 fun v49 h50 => gM (isB v44 true) (fun k55 => ov (binV BinOp.gtr 2 true v49 (Value.int IntKind.i64 0)) fun v56 => k55 v56 h50) h50 fun v53 h54 => ov (pkV v44 v53 (Value.bool false)) fun v57 => gM (isB v57 true) (fun k60 => ov (faV (some 2) v1) fun v61 => k60 v61 h54) h54 fun v58 h59 => gM (isB v57 true) (fun k64 => ov (ldV (some none) v58 h59) fun v65 => k64 v65 h59) h59 fun v62 h63 => gM (isB v57 true) (fun k68 => ov (binV BinOp.lss 2 true v62 (Value.int IntKind.i64 17)) fun v69 => k68 v69 h63) h63 fun v66 h67 => ov (pkV v57 v66 (Value.bool false)) fun v70 => gM (isB v70 true) (fun k73 => ov (faV (some 3) v1) fun v74 => k73 v74 h67) h67 fun v71 h72 => gM (isB v70 true) (fun k77 => ov (ldV (some none) v71 h72) fun v78 => k77 v78 h72) h72 fun v75 h76 => gM (isB v70 true) (fun k81 => ov (binV BinOp.gtr 2 true v75 (Value.int IntKind.i64 0)) fun v82 => k81 v82 h76) h76 fun v79 h80 => ov (pkV v70 v79 (Value.bool false)) fun v83 => gM (isB v83 true) (fun k86 => ov (faV (some 3) v1) fun v87 => k86 v87 h80) h80 fun v84 h85 => gM (isB v83 true) (fun k90 => ov (ldV (some none) v84 h85) fun v91 => k90 v91 h85) h85 fun v88 h89 => gM (isB v83 true) (fun k94 => ov (binV BinOp.lss 2 true v88 (Value.int IntKind.i64 9)) fun v95 => k94 v95 h89) h89 fun v92 h93 => ov (pkV v83 v92 (Value.bool false)) fun v96 => gM (isB v96 true) (fun k99 => ov (faV (some 4) v1) fun v100 => k99 v100 h93) h93 fun v97 h98 => gM (isB v96 true) (fun k103 => ov (ldV (some none) v97 h98) fun v104 => k103 v104 h98) h98 fun v101 h102 => gM (isB v96 true) (fun k107 => ov (binV BinOp.geq 2 true v101 (Value.int IntKind.i64 0)) fun v108 => k107 v108 h102) h102 fun v105 h106 => ov (pkV v96 v105 (Value.bool false)) fun v109 => gM (isB v109 true) (fun k112 => ov (faV (some 4) v1) fun v113 => k112 v113 h106) h106 fun v110 h111 => gM (isB v109 true) (fun k116 => ov (ldV (some none) v110 h111) fun v117 => k116 v117 h111) h111 fun v114 h115 => gM (isB v109 true) (fun k120 => ov (binV BinOp.lss 2 true v114 (Value.int IntKind.i64 5)) fun v121 => k120 v121 h115) h115 fun v118 h119 => ov (pkV v109 v118 (Value.bool false)) fun v122 => K v122 h119
theorem e_doormanref10_Right {x0 : Value} {h : Heap} {K : Value → Heap → Prop} (hd : d_doormanref10_Right x0 h K) : callM P fn_doormanref10_Right #[x0] h K :=
  call_of good mixed (fn := Tryz.f27) (args := [x0]) Tryz.func27 rfl (by kernel_rfl) (of_decide_eq_true rfl) (B := d_doormanref10_Right x0 h K) (by kernel_rfl) hd
def d_hall_New_6 (v24 : Value) (h31 : Heap) (v25 v28 v29 v30 : Value) (s19 : Env) (q21 : Post) (m : List Nat) (v22 v23 v26 v27 : Value) : Prop := ldV (some none) v24 h31 = some v25 ∧ ldV (some none) v28 h31 = some v29 ∧ callM P fn_feed_New #[v29] h31 fun v32 h33 => ldV (some none) v24 h33 = some v25 ∧ ov (bdV (binf P ty_hall_stripe) [(1, v30), (4, v32)]) fun v34 => bsM (bsI P ty_Sl_hall_stripe) 1 [(0, v34)] h33 fun v35 h36 => ldV (some none) v24 h36 = some v25 ∧ vvM P (Builtin.append_ #[ty_Sl_hall_stripe, ty_Sl_hall_stripe] ty_Sl_hall_stripe #[v25, v35]) h36 fun v37 h38 => ov (ncV (s19 4)) fun v39 => ov (faV (some 10) v39) fun v40 => stM (some 1) v40 v37 h38 fun h41 => ov (binV BinOp.add 2 true (s19 16) (Value.int IntKind.i64 1)) fun v42 => q21 .normal m (puts s19 [(17, v22), (18, (s19 4)), (19, (s19 4)), (20, v23), (21, v24), (22, v25), (23, v26), (24, v27), (26, v28), (27, v29), (25, v30), (28, v32), (29, v34), (30, v35), (31, v37), (32, v39), (33, v40), (34, v42), (16, v42)]) h41
def d_hall_New_5 (s19 : Env) (h20 : Heap) (q21 : Post) (m : List Nat) (v22 : Value) : Prop := ov (ncV (s19 4)) fun v23 => ov (faV (some 10) v23) fun v24 => ov (ldV (some none) v24 h20) fun v25 => ov (faV (some 5) (s19 1)) fun v26 => ov (ldV (some none) v26 h20) fun v27 => ov (faV (some 2) (s19 1)) fun v28 => ov (ldV (some none) v28 h20) fun v29 => callM P fn_cell_New #[v27] h20 fun v30 h31 => d_hall_New_6 v24 h31 v25 v28 v29 v30 s19 q21 m v22 v23 v26 v27
def d_hall_New_4 (s19 : Env) (h20 : Heap) (q21 : Post) (m : List Nat) : Prop := ov (binV BinOp.lss 2 false (s19 16) (s19 15)) fun v22 => cdM v22 (d_hall_New_5 s19 h20 q21 m v22) (q21 (.exit 0) m (puts s19 [(17, v22)]) h20)
def d_hall_New_3 (v1 : Value) (h13 : Heap) (x0 v3 v4 v6 v7 v8 v9 v10 v11 v12 : Value) (q14 : Post) : Prop := ov (faV (some 0) v1) fun v17 => ov (ldV (some none) v17 h13) fun v18 => loopM (fun m s19 h20 q21 => d_hall_New_4 s19 h20 q21 m) [] (puts (envOf [x0]) [(1, v1), (2, (Value.pointer none)), (3, (Value.int IntKind.i64 0)), (5, v3), (6, v4), (7, v6), (8, v7), (9, v8), (10, v9), (11, v10), (12, v11), (13, v12), (4, v12), (14, v17), (15, v18), (16, (Value.int IntKind.i64 0))]) h13 (blkM 0 q14)
def d_hall_New_2 (v1 : Value) (h5 : Heap) (x0 v3 v4 v6 : Value) (K : Value → Heap → Prop) : Prop := ov (ldV (some (some 7)) v1 h5) fun v7 => ov (faV (some 6) v1) fun v8 => ov (ldV (some none) v8 h5) fun v9 => ov (bdV (binf P ty_api_Time) [(0, v9)]) fun v10 => ov (bdV (binf P ty_hall_Hall) [(0, v7), (1, v10)]) fun v11 => nwM (some v11.cells) ty_hall_Hall h5 fun v12 h13 => seqM (fun q14 => d_hall_New_3 v1 h13 x0 v3 v4 v6 v7 v8 v9 v10 v11 v12 q14) (fun m s15 h16 => (retM P [.tmp 2, .tmp 3] K) .ret m (puts s15 [(35, (s15 4)), (2, (s15 4)), (3, (Value.int IntKind.i64 0))]) h16) (retM P [.tmp 2, .tmp 3] K)
def d_hall_New_1 (v4 : Value) (K : Value → Heap → Prop) (h5 : Heap) (v1 x0 v3 : Value) : Prop := ov (unV UnOp.not v4) fun v6 => cdM v6 (K (.tuple #[(Value.pointer none), (Value.int IntKind.i64 1)]) h5) (d_hall_New_2 v1 h5 x0 v3 v4 v6 K)
def d_hall_New (x0 : Value) (h : Heap) (K : Value → Heap → Prop) : Prop := nwM (some x0.cells) ty_api_Config h fun v1 h2 => ov (ldV (some (some 7)) v1 h2) fun v3 => callM P fn_model_Right #[v3] h2 fun v4 h5 => d_hall_New_1 v4 K h5 v1 x0 v3
theorem e_hall_New {x0 : Value} {h : Heap} {K : Value → Heap → Prop} (hd : d_hall_New x0 h K) : callM P fn_hall_New #[x0] h K :=
  call_of good mixed (fn := Tryz.f28) (args := [x0]) Tryz.func28 rfl (by kernel_rfl) (of_decide_eq_true rfl) (B := d_hall_New x0 h K) (by kernel_rfl) hd
def d_doormanlaw17_awake_9 (s24 : Env) (q26 : Post) (m : List Nat) (v27 v28 v31 v36 v40 v41 : Value) (h42 : Heap) : Prop := ov (binV BinOp.add 2 true (s24 4) (Value.int IntKind.i64 1)) fun v43 => q26 .normal m (puts s24 [(20, (s24 4)), (21, v27), (22, v27), (23, v28), (24, v31), (25, v36), (26, v40), (27, (s24 3)), (28, (s24 1)), (29, (s24 4)), (30, v41), (31, (s24 4)), (32, v43), (4, v43)]) h42
def d_doormanlaw17_awake_8 (s24 : Env) (h37 : Heap) (q26 : Post) (m : List Nat) (v27 v28 v31 v36 v40 : Value) : Prop := callM P fn_heed_Proc_Step #[(s24 3), (s24 1), (s24 4)] h37 fun v41 h42 => d_doormanlaw17_awake_9 s24 q26 m v27 v28 v31 v36 v40 v41 h42
def d_doormanlaw17_awake_7 (s24 : Env) (h25 : Heap) (q26 : Post) (m : List Nat) : Prop := ov (binV BinOp.lss 2 true (s24 4) (Value.int IntKind.i64 20)) fun v27 => gM (isB v27 true) (fun k30 => k30 (s24 3) h25) h25 fun v28 h29 => gM (isB v27 true) (fun k33 => callM P fn_heed_Proc_Done #[v28] h29 fun v34 h35 => k33 v34 h35) h29 fun v31 h32 => gM (isB v27 true) (fun k38 => ov (unV UnOp.not v31) fun v39 => k38 v39 h32) h32 fun v36 h37 => ov (pkV v27 v36 (Value.bool false)) fun v40 => cdM v40 (d_doormanlaw17_awake_8 s24 h37 q26 m v27 v28 v31 v36 v40) (q26 (.exit 0) m (puts s24 [(20, (s24 4)), (21, v27), (22, v27), (23, v28), (24, v31), (25, v36), (26, v40)]) h37)
def d_doormanlaw17_awake_6 (v1 v3 v5 v6 v7 v8 v11 v15 v16 v18 v19 : Value) (h20 : Heap) (q21 : Post) : Prop := loopM (fun m s24 h25 q26 => d_doormanlaw17_awake_7 s24 h25 q26 m) [] (puts (envOf []) [(0, (Value.bool false)), (6, v1), (7, v3), (5, v3), (8, v5), (9, v6), (1, v5), (2, v6), (10, v6), (11, v7), (12, v7), (13, v8), (14, v11), (15, v15), (16, v5), (17, v16), (18, v18), (19, v19), (3, v19), (4, (Value.int IntKind.i64 0))]) h20 (blkM 0 q21)
def d_doormanlaw17_awake_10 (s22 : Env) (h23 : Heap) (K : Value → Heap → Prop) (m : List Nat) : Prop := ov (binV BinOp.eql 2 true (s22 4) (Value.int IntKind.i64 10)) fun v44 => gM (isB v44 true) (fun k47 => k47 (s22 3) h23) h23 fun v45 h46 => gM (isB v44 true) (fun k50 => callM P fn_heed_Proc_Placed #[v45] h46 fun v51 h52 => k50 v51 h52) h46 fun v48 h49 => gM (isB v44 true) (fun k55 => ov (binV BinOp.eql 2 true v48 (Value.int IntKind.i64 3)) fun v56 => k55 v56 h49) h49 fun v53 h54 => ov (pkV v44 v53 (Value.bool false)) fun v57 => (retM P [.tmp 0] K) .ret m (puts s22 [(33, (s22 4)), (34, v44), (35, v44), (36, v45), (37, v48), (38, v53), (39, v57), (0, v57)]) h54
def d_doormanlaw17_awake_5 (v1 v3 v5 v6 v7 v8 v11 v15 v16 v18 v19 : Value) (h20 : Heap) (K : Value → Heap → Prop) : Prop := seqM (fun q21 => d_doormanlaw17_awake_6 v1 v3 v5 v6 v7 v8 v11 v15 v16 v18 v19 h20 q21) (fun m s22 h23 => d_doormanlaw17_awake_10 s22 h23 K m) (retM P [.tmp 0] K)
def d_doormanlaw17_awake_4 (v5 v16 : Value) (h17 : Heap) (v1 v3 v6 v7 v8 v11 v15 : Value) (K : Value → Heap → Prop) : Prop := ov (bdV (binf P ty_api_Op) [(0, (Value.int IntKind.i64 8))]) fun v18 => callM P fn_heed_New #[v5, v16, (Value.int IntKind.i64 0), v18] h17 fun v19 h20 => d_doormanlaw17_awake_5 v1 v3 v5 v6 v7 v8 v11 v15 v16 v18 v19 h20 K
def d_doormanlaw17_awake_3 (h12 : Heap) (v5 v1 v3 v6 v7 v8 v11 v15 : Value) (K : Value → Heap → Prop) : Prop := callM P fn_heed_NewMine #[] h12 fun v16 h17 => d_doormanlaw17_awake_4 v5 v16 h17 v1 v3 v6 v7 v8 v11 v15 K
def d_doormanlaw17_awake_2 (v3 : Value) (h4 : Heap) (K : Value → Heap → Prop) (v1 : Value) : Prop := ov (exV v3 0) fun v5 => ov (exV v3 1) fun v6 => ov (binV BinOp.neq 2 true v6 (Value.int IntKind.i64 0)) fun v7 => gM (isB v7 false) (fun k10 => k10 v5 h4) h4 fun v8 h9 => gM (isB v7 false) (fun k13 => ov (binV BinOp.eql 4 true v8 (Value.pointer none)) fun v14 => k13 v14 h9) h9 fun v11 h12 => ov (pkV v7 (Value.bool true) v11) fun v15 => cdM v15 (K (Value.bool false) h12) (d_doormanlaw17_awake_3 h12 v5 v1 v3 v6 v7 v8 v11 v15 K)
def d_doormanlaw17_awake_1 (v1 : Value) (h2 : Heap) (K : Value → Heap → Prop) : Prop := callM P fn_hall_New #[v1] h2 fun v3 h4 => d_doormanlaw17_awake_2 v3 h4 K v1
def d_doormanlaw17_awake (h : Heap) (K : Value → Heap → Prop) : Prop := callM P fn_doormanlaw10_Small #[] h fun v1 h2 => d_doormanlaw17_awake_1 v1 h2 K
theorem e_doormanlaw17_awake {h : Heap} {K : Value → Heap → Prop} (hd : d_doormanlaw17_awake h K) : callM P fn_doormanlaw17_awake #[] h K :=
  call_of good mixed (fn := Tryz.f35) (args := []) Tryz.func35 rfl (by kernel_rfl) (of_decide_eq_true rfl) (B := d_doormanlaw17_awake h K) (by kernel_rfl) hd
def d_doormanlaw17_fits_6 (q97 : Post) (m : List Nat) (s95 : Env) (v98 v99 v100 v101 v102 v103 v104 v105 v106 v108 : Value) (h107 : Heap) : Prop := q97 .ret m (puts s95 [(38, (s95 3)), (39, v98), (40, v99), (41, v100), (42, v101), (45, v102), (46, v103), (47, (s95 3)), (48, v104), (49, v105), (50, v106), (51, v108), (2, (Value.bool false))]) h107
def d_doormanlaw17_fits_7 (s95 : Env) (q97 : Post) (m : List Nat) (v98 v99 v100 v101 v102 v103 v104 v105 v106 v108 : Value) (h107 : Heap) : Prop := ov (binV BinOp.add 2 true (s95 3) (Value.int IntKind.i64 1)) fun v109 => q97 .normal m (puts s95 [(38, (s95 3)), (39, v98), (40, v99), (41, v100), (42, v101), (45, v102), (46, v103), (47, (s95 3)), (48, v104), (49, v105), (50, v106), (51, v108), (43, (s95 3)), (44, v109), (3, v109)]) h107
def d_doormanlaw17_fits_5 (v106 : Value) (q97 : Post) (m : List Nat) (s95 : Env) (v98 v99 v100 v101 v102 v103 v104 v105 : Value) (h107 : Heap) : Prop := ov (unV UnOp.not v106) fun v108 => cdM v108 (d_doormanlaw17_fits_6 q97 m s95 v98 v99 v100 v101 v102 v103 v104 v105 v106 v108 h107) (d_doormanlaw17_fits_7 s95 q97 m v98 v99 v100 v101 v102 v103 v104 v105 v106 v108 h107)
def d_doormanlaw17_fits_4 (s95 : Env) (h96 : Heap) (q97 : Post) (m : List Nat) (v98 v99 v100 v101 : Value) : Prop := ov (faV (some 7) (s95 1)) fun v102 => ov (ldV (some none) v102 h96) fun v103 => ov (iaV (some (none, 7)) v103 (s95 3)) fun v104 => ov (ldV (some (some 7)) v104 h96) fun v105 => callM P fn_doormanref10_Short #[v105] h96 fun v106 h107 => d_doormanlaw17_fits_5 v106 q97 m s95 v98 v99 v100 v101 v102 v103 v104 v105 h107
def d_doormanlaw17_fits_3 (s95 : Env) (h96 : Heap) (q97 : Post) (m : List Nat) : Prop := ov (faV (some 7) (s95 1)) fun v98 => ov (ldV (some none) v98 h96) fun v99 => ov (lnV 7 v99) fun v100 => ov (binV BinOp.lss 2 false (s95 3) v100) fun v101 => cdM v101 (d_doormanlaw17_fits_4 s95 h96 q97 m v98 v99 v100 v101) (q97 (.exit 0) m (puts s95 [(38, (s95 3)), (39, v98), (40, v99), (41, v100), (42, v101)]) h96)
def d_doormanlaw17_fits_2 (x0 v1 v3 v4 v5 v6 v7 v11 v15 v19 v23 v24 v28 v32 v36 v40 v44 v48 v52 v56 v57 v61 v65 v69 v73 v74 v78 v82 v87 v91 : Value) (h88 : Heap) (q92 : Post) : Prop := loopM (fun m s95 h96 q97 => d_doormanlaw17_fits_3 s95 h96 q97 m) [] (puts (envOf [x0]) [(1, v1), (2, (Value.bool false)), (6, v3), (7, v4), (8, v5), (9, v6), (10, v6), (11, v7), (12, v11), (13, v15), (14, v19), (15, v23), (16, v23), (17, v24), (18, v28), (19, v32), (20, v36), (21, v40), (22, v44), (23, v48), (24, v52), (25, v56), (26, v56), (27, v57), (28, v61), (29, v65), (30, v69), (31, v73), (32, v73), (33, v74), (34, v78), (35, v82), (36, v87), (37, v91), (3, (Value.int IntKind.i64 0))]) h88 (blkM 0 q92)
def d_doormanlaw17_fits_13 (q120 : Post) (m : List Nat) (s113 : Env) (v116 v117 v118 v119 v123 v124 v125 v126 v127 v128 : Value) (h114 : Heap) : Prop := q120 .ret m (puts s113 [(52, (s113 4)), (53, v116), (54, v117), (55, v118), (56, v119), (59, v123), (60, v124), (61, (s113 4)), (62, v125), (63, v126), (64, v127), (65, v128), (2, (Value.bool false))]) h114
def d_doormanlaw17_fits_18 (q131 : Post) (m : List Nat) (s129 : Env) (v132 v133 v134 v135 v136 v137 v138 v139 v140 v141 v142 v143 v144 v146 : Value) (h145 : Heap) : Prop := q131 .ret m (puts s129 [(66, (s129 5)), (67, v132), (68, v133), (69, (s129 4)), (70, v134), (71, v135), (72, v136), (73, v137), (76, v138), (77, v139), (78, (s129 4)), (79, v140), (80, v141), (81, (s129 5)), (82, v142), (83, v143), (84, v144), (85, v146), (2, (Value.bool false))]) h145
def d_doormanlaw17_fits_19 (s129 : Env) (q131 : Post) (m : List Nat) (v132 v133 v134 v135 v136 v137 v138 v139 v140 v141 v142 v143 v144 v146 : Value) (h145 : Heap) : Prop := ov (binV BinOp.add 2 true (s129 5) (Value.int IntKind.i64 1)) fun v147 => q131 .normal m (puts s129 [(66, (s129 5)), (67, v132), (68, v133), (69, (s129 4)), (70, v134), (71, v135), (72, v136), (73, v137), (76, v138), (77, v139), (78, (s129 4)), (79, v140), (80, v141), (81, (s129 5)), (82, v142), (83, v143), (84, v144), (85, v146), (74, (s129 5)), (75, v147), (5, v147)]) h145
def d_doormanlaw17_fits_17 (v144 : Value) (q131 : Post) (m : List Nat) (s129 : Env) (v132 v133 v134 v135 v136 v137 v138 v139 v140 v141 v142 v143 : Value) (h145 : Heap) : Prop := ov (unV UnOp.not v144) fun v146 => cdM v146 (d_doormanlaw17_fits_18 q131 m s129 v132 v133 v134 v135 v136 v137 v138 v139 v140 v141 v142 v143 v144 v146 h145) (d_doormanlaw17_fits_19 s129 q131 m v132 v133 v134 v135 v136 v137 v138 v139 v140 v141 v142 v143 v144 v146 h145)
def d_doormanlaw17_fits_16 (s129 : Env) (h130 : Heap) (q131 : Post) (m : List Nat) (v132 v133 v134 v135 v136 v137 : Value) : Prop := ov (faV (some 8) (s129 1)) fun v138 => ov (ldV (some none) v138 h130) fun v139 => ov (iaV (some (none, 1)) v139 (s129 4)) fun v140 => ov (ldV (some none) v140 h130) fun v141 => ov (iaV (some (none, 7)) v141 (s129 5)) fun v142 => ov (ldV (some (some 7)) v142 h130) fun v143 => callM P fn_doormanref10_Short #[v143] h130 fun v144 h145 => d_doormanlaw17_fits_17 v144 q131 m s129 v132 v133 v134 v135 v136 v137 v138 v139 v140 v141 v142 v143 h145
def d_doormanlaw17_fits_15 (s129 : Env) (h130 : Heap) (q131 : Post) (m : List Nat) : Prop := ov (faV (some 8) (s129 1)) fun v132 => ov (ldV (some none) v132 h130) fun v133 => ov (iaV (some (none, 1)) v133 (s129 4)) fun v134 => ov (ldV (some none) v134 h130) fun v135 => ov (lnV 7 v135) fun v136 => ov (binV BinOp.lss 2 false (s129 5) v136) fun v137 => cdM v137 (d_doormanlaw17_fits_16 s129 h130 q131 m v132 v133 v134 v135 v136 v137) (q131 (.exit 4) m (puts s129 [(66, (s129 5)), (67, v132), (68, v133), (69, (s129 4)), (70, v134), (71, v135), (72, v136), (73, v137)]) h130)
def d_doormanlaw17_fits_14 (m : List Nat) (s113 : Env) (v116 v117 v118 v119 v123 v124 v125 v126 v127 v128 : Value) (h114 : Heap) (q120 : Post) : Prop := loopM (fun m s129 h130 q131 => d_doormanlaw17_fits_15 s129 h130 q131 m) m (puts s113 [(52, (s113 4)), (53, v116), (54, v117), (55, v118), (56, v119), (59, v123), (60, v124), (61, (s113 4)), (62, v125), (63, v126), (64, v127), (65, v128), (5, (Value.int IntKind.i64 0))]) h114 (blkM 4 (blkM 3 q120))
def d_doormanlaw17_fits_12 (s113 : Env) (h114 : Heap) (q120 : Post) (m : List Nat) (v116 v117 v118 v119 : Value) : Prop := ov (faV (some 8) (s113 1)) fun v123 => ov (ldV (some none) v123 h114) fun v124 => ov (iaV (some (none, 1)) v124 (s113 4)) fun v125 => ov (ldV (some none) v125 h114) fun v126 => ov (lnV 7 v126) fun v127 => ov (binV BinOp.gtr 2 true v127 (Value.int IntKind.i64 60)) fun v128 => cdM v128 (d_doormanlaw17_fits_13 q120 m s113 v116 v117 v118 v119 v123 v124 v125 v126 v127 v128 h114) (d_doormanlaw17_fits_14 m s113 v116 v117 v118 v119 v123 v124 v125 v126 v127 v128 h114 q120)
def d_doormanlaw17_fits_11 (s113 : Env) (h114 : Heap) (m : List Nat) (v116 v117 v118 v119 : Value) (q115 : Post) : Prop := seqM (fun q120 => d_doormanlaw17_fits_12 s113 h114 q120 m v116 v117 v118 v119) (fun m s121 h122 => ov (binV BinOp.add 2 true (s121 4) (Value.int IntKind.i64 1)) fun v148 => q115 .normal m (puts s121 [(57, (s121 4)), (58, v148), (4, v148)]) h122) q115
def d_doormanlaw17_fits_10 (s113 : Env) (h114 : Heap) (m : List Nat) (q115 : Post) : Prop := ov (faV (some 8) (s113 1)) fun v116 => ov (ldV (some none) v116 h114) fun v117 => ov (lnV 7 v117) fun v118 => ov (binV BinOp.lss 2 false (s113 4) v118) fun v119 => cdM v119 (d_doormanlaw17_fits_11 s113 h114 m v116 v117 v118 v119 q115) (q115 (.exit 2) m (puts s113 [(52, (s113 4)), (53, v116), (54, v117), (55, v118), (56, v119)]) h114)
def d_doormanlaw17_fits_9 (m : List Nat) (s93 : Env) (h94 : Heap) (q110 : Post) : Prop := loopM (fun m s113 h114 q115 => d_doormanlaw17_fits_10 s113 h114 m q115) m (puts s93 [(4, (Value.int IntKind.i64 0))]) h94 (blkM 2 q110)
def d_doormanlaw17_fits_8 (m : List Nat) (s93 : Env) (h94 : Heap) (K : Value → Heap → Prop) : Prop := seqM (fun q110 => d_doormanlaw17_fits_9 m s93 h94 q110) (fun m s111 h112 => (retM P [.tmp 2] K) .ret m (puts s111 [(2, (Value.bool true))]) h112) (retM P [.tmp 2] K)
def d_doormanlaw17_fits_1 (x0 v1 v3 v4 v5 v6 v7 v11 v15 v19 v23 v24 v28 v32 v36 v40 v44 v48 v52 v56 v57 v61 v65 v69 v73 v74 v78 v82 v87 v91 : Value) (h88 : Heap) (K : Value → Heap → Prop) : Prop := seqM (fun q92 => d_doormanlaw17_fits_2 x0 v1 v3 v4 v5 v6 v7 v11 v15 v19 v23 v24 v28 v32 v36 v40 v44 v48 v52 v56 v57 v61 v65 v69 v73 v74 v78 v82 v87 v91 h88 q92) (fun m s93 h94 => d_doormanlaw17_fits_8 m s93 h94 K) (retM P [.tmp 2] K)
def d_doormanlaw17_fits (x0 : Value) (h : Heap) (K : Value → Heap → Prop) : Prop := nwM (some x0.cells) ty_doormanlaw17_Crew h fun v1 h2 => ov (faV (some 7) v1) fun v3 => ov (ldV (some none) v3 h2) fun v4 => ov (lnV 7 v4) fun v5 => ov (binV BinOp.gtr 2 true v5 (Value.int IntKind.i64 4)) fun v6 => gM (isB v6 false) (fun k9 => ov (faV (some 8) v1) fun v10 => k9 v10 h2) h2 fun v7 h8 => gM (isB v6 false) (fun k13 => ov (ldV (some none) v7 h8) fun v14 => k13 v14 h8) h8 fun v11 h12 => gM (isB v6 false) (fun k17 => ov (lnV 7 v11) fun v18 => k17 v18 h12) h12 fun v15 h16 => gM (isB v6 false) (fun k21 => ov (binV BinOp.gtr 2 true v15 (Value.int IntKind.i64 4)) fun v22 => k21 v22 h16) h16 fun v19 h20 => ov (pkV v6 (Value.bool true) v19) fun v23 => gM (isB v23 false) (fun k26 => ov (faV (some 7) v1) fun v27 => k26 v27 h20) h20 fun v24 h25 => gM (isB v23 false) (fun k30 => ov (ldV (some none) v24 h25) fun v31 => k30 v31 h25) h25 fun v28 h29 => gM (isB v23 false) (fun k34 => ov (lnV 7 v28) fun v35 => k34 v35 h29) h29 fun v32 h33 => gM (isB v23 false) (fun k38 => ov (faV (some 8) v1) fun v39 => k38 v39 h33) h33 fun v36 h37 => gM (isB v23 false) (fun k42 => ov (ldV (some none) v36 h37) fun v43 => k42 v43 h37) h37 fun v40 h41 => gM (isB v23 false) (fun k46 => ov (lnV 7 v40) fun v47 => k46 v47 h41) h41 fun v44 h45 => gM (isB v23 false) (fun k50 => ov (binV BinOp.add 2 false v32 v44) fun v51 => k50 v51 h45) h45 fun v48 h49 => gM (isB v23 false) (fun k54 => ov (binV BinOp.eql 2 true v48 (Value.int IntKind.i64 0)) fun v55 => k54 v55 h49) h49 fun v52 h53 => ov (pkV v23 (Value.bool true) v52) fun v56 => gM (isB v56 false) (fun k59 => ov (faV (some 9) v1) fun v60 => k59 v60 h53) h53 fun v57 h58 => gM (isB v56 false) (fun k63 => ov (ldV (some none) v57 h58) fun v64 => k63 v64 h58) h58 fun v61 h62 => gM (isB v56 false) (fun k67 => ov (lnV 7 v61) fun v68 => k67 v68 h62) h62 fun v65 h66 => gM (isB v56 false) (fun k71 => ov (binV BinOp.gtr 2 true v65 (Value.int IntKind.i64 300)) fun v72 => k71 v72 h66) h66 fun v69 h70 => ov (pkV v56 (Value.bool true) v69) fun v73 => gM (isB v73 false) (fun k76 => ov (faV (some 0) v1) fun v77 => k76 v77 h70) h70 fun v74 h75 => gM (isB v73 false) (fun k80 => ov (ldV (some (some 7)) v74 h75) fun v81 => k80 v81 h75) h75 fun v78 h79 => gM (isB v73 false) (fun k84 => callM P fn_doormanref10_Right #[v78] h79 fun v85 h86 => k84 v85 h86) h79 fun v82 h83 => gM (isB v73 false) (fun k89 => ov (unV UnOp.not v82) fun v90 => k89 v90 h83) h83 fun v87 h88 => ov (pkV v73 (Value.bool true) v87) fun v91 => cdM v91 (K (Value.bool false) h88) (d_doormanlaw17_fits_1 x0 v1 v3 v4 v5 v6 v7 v11 v15 v19 v23 v24 v28 v32 v36 v40 v44 v48 v52 v56 v57 v61 v65 v69 v73 v74 v78 v82 v87 v91 h88 K)
theorem e_doormanlaw17_fits {x0 : Value} {h : Heap} {K : Value → Heap → Prop} (hd : d_doormanlaw17_fits x0 h K) : callM P fn_doormanlaw17_fits #[x0] h K :=
  call_of good mixed (fn := Tryz.f36) (args := [x0]) Tryz.func36 rfl (by kernel_rfl) (of_decide_eq_true rfl) (B := d_doormanlaw17_fits x0 h K) (by kernel_rfl) hd
def d_heed_NewMine (h : Heap) (K : Value → Heap → Prop) : Prop := vvM P (Instr.makeMap ty_Map_string_bool none) h fun v1 h2 => ov (bdV (binf P ty_heed_Mine) [(0, v1)]) fun v3 => nwM (some v3.cells) ty_heed_Mine h2 fun v4 h5 => K v4 h5
theorem e_heed_NewMine {h : Heap} {K : Value → Heap → Prop} (hd : d_heed_NewMine h K) : callM P fn_heed_NewMine #[] h K :=
  call_of good mixed (fn := Tryz.f37) (args := []) Tryz.func37 rfl (by kernel_rfl) (of_decide_eq_true rfl) (B := d_heed_NewMine h K) (by kernel_rfl) hd
def d_doormanlaw17_heeding (x0 : Value) (h : Heap) (K : Value → Heap → Prop) : Prop := nwM (some x0.cells) ty_api_Op h fun v1 h2 => nwM (zc P ty_api_Op) ty_api_Op h2 fun v3 h4 => ov (faV (some 0) v1) fun v5 => ov (ldV (some none) v5 h4) fun v6 => ov (binV BinOp.rem 2 true v6 (Value.int IntKind.i64 4)) fun v7 => ov (binV BinOp.add 2 true v7 (Value.int IntKind.i64 4)) fun v8 => ov (binV BinOp.rem 2 true v8 (Value.int IntKind.i64 4)) fun v9 => ov (binV BinOp.add 2 true (Value.int IntKind.i64 6) v9) fun v10 => ov (faV (some 0) v1) fun v11 => stM (some 1) v11 v10 h4 fun h12 => ov (ldV (some (some 7)) v1 h12) fun v13 => stM (some 7) v3 v13 h12 fun h14 => ov (ldV (some (some 7)) v3 h14) fun v15 => K v15 h14
theorem e_doormanlaw17_heeding {x0 : Value} {h : Heap} {K : Value → Heap → Prop} (hd : d_doormanlaw17_heeding x0 h K) : callM P fn_doormanlaw17_heeding #[x0] h K :=
  call_of good mixed (fn := Tryz.f38) (args := [x0]) Tryz.func38 rfl (by kernel_rfl) (of_decide_eq_true rfl) (B := d_doormanlaw17_heeding x0 h K) (by kernel_rfl) hd
def d_heed_New_4 (q12 : Post) (x0 x1 x2 x3 v1 v3 v5 v6 v7 v9 v15 v16 v18 v19 v20 : Value) (h21 : Heap) : Prop := q12 .normal [] (puts (envOf [x0, x1, x2, x3]) [(6, v1), (7, v3), (8, (Value.pointer none)), (10, v5), (11, v6), (12, v7), (9, v9), (20, v15), (21, v16), (19, v16), (22, v18), (23, v19), (24, v20)]) h21
def d_heed_New_3 (v9 : Value) (h17 : Heap) (q12 : Post) (x0 x1 x2 x3 v1 v3 v5 v6 v7 v15 v16 : Value) : Prop := ov (ldV (some none) v9 h17) fun v18 => ov ((some (.func (Fn.func fn_heed_New_c1) #[] #[v9]) : Option Value)) fun v19 => callM P fn_heed_Proc_add #[v18, (Value.int IntKind.i64 (-1)), v19] h17 fun v20 h21 => d_heed_New_4 q12 x0 x1 x2 x3 v1 v3 v5 v6 v7 v9 v15 v16 v18 v19 v20 h21
def d_heed_New_7 (q12 : Post) (x0 x1 x2 x3 v1 v3 v5 v6 v7 v9 v15 v16 v22 v23 v24 v25 v26 v27 : Value) (h28 : Heap) : Prop := q12 .normal [] (puts (envOf [x0, x1, x2, x3]) [(6, v1), (7, v3), (8, (Value.pointer none)), (10, v5), (11, v6), (12, v7), (9, v9), (20, v15), (21, v16), (19, v16), (26, v22), (27, v23), (28, v24), (25, v24), (29, v25), (30, x0), (31, v26), (32, v27)]) h28
def d_heed_New_6 (v9 : Value) (h17 : Heap) (v1 x0 : Value) (q12 : Post) (x1 x2 x3 v3 v5 v6 v7 v15 v16 v22 v23 v24 : Value) : Prop := ov (ldV (some none) v9 h17) fun v25 => ov (ldV (some none) v1 h17) fun v26 => callM P fn_heed_Proc_poll #[v25, x0, v26] h17 fun v27 h28 => d_heed_New_7 q12 x0 x1 x2 x3 v1 v3 v5 v6 v7 v9 v15 v16 v22 v23 v24 v25 v26 v27 h28
def d_heed_New_10 (q12 : Post) (x0 x1 x2 x3 v1 v3 v5 v6 v7 v9 v15 v16 v22 v23 v24 v29 v30 v31 v32 v33 v34 : Value) (h35 : Heap) : Prop := q12 .normal [] (puts (envOf [x0, x1, x2, x3]) [(6, v1), (7, v3), (8, (Value.pointer none)), (10, v5), (11, v6), (12, v7), (9, v9), (20, v15), (21, v16), (19, v16), (26, v22), (27, v23), (28, v24), (25, v24), (34, v29), (35, v30), (36, v31), (33, v31), (37, v32), (38, v33), (39, v34)]) h35
def d_heed_New_9 (v9 : Value) (h17 : Heap) (v1 : Value) (q12 : Post) (x0 x1 x2 x3 v3 v5 v6 v7 v15 v16 v22 v23 v24 v29 v30 v31 : Value) : Prop := ov (ldV (some none) v9 h17) fun v32 => ov ((some (.func (Fn.func fn_heed_New_c2) #[] #[v1, v9]) : Option Value)) fun v33 => callM P fn_heed_Proc_add #[v32, (Value.int IntKind.i64 (-1)), v33] h17 fun v34 h35 => d_heed_New_10 q12 x0 x1 x2 x3 v1 v3 v5 v6 v7 v9 v15 v16 v22 v23 v24 v29 v30 v31 v32 v33 v34 h35
def d_heed_New_12 (q12 : Post) (x0 x1 x2 x3 v1 v3 v5 v6 v7 v9 v15 v16 v22 v23 v24 v29 v30 v31 v36 v37 v38 v39 : Value) (h40 : Heap) : Prop := q12 .normal [] (puts (envOf [x0, x1, x2, x3]) [(6, v1), (7, v3), (8, (Value.pointer none)), (10, v5), (11, v6), (12, v7), (9, v9), (20, v15), (21, v16), (19, v16), (26, v22), (27, v23), (28, v24), (25, v24), (34, v29), (35, v30), (36, v31), (33, v31), (13, v36), (14, x0), (15, x1), (16, v37), (17, v38), (18, v39)]) h40
def d_heed_New_11 (v9 : Value) (h17 : Heap) (v1 v3 x0 x1 : Value) (q12 : Post) (x2 x3 v5 v6 v7 v15 v16 v22 v23 v24 v29 v30 v31 : Value) : Prop := ov (ldV (some none) v9 h17) fun v36 => ov (ldV (some none) v1 h17) fun v37 => ov (ldV (some (some 7)) v3 h17) fun v38 => callM P fn_heed_Proc_watch #[v36, x0, x1, v37, v38] h17 fun v39 h40 => d_heed_New_12 q12 x0 x1 x2 x3 v1 v3 v5 v6 v7 v9 v15 v16 v22 v23 v24 v29 v30 v31 v36 v37 v38 v39 h40
def d_heed_New_8 (v3 : Value) (h17 : Heap) (v9 v1 : Value) (q12 : Post) (x0 x1 x2 x3 v5 v6 v7 v15 v16 v22 v23 v24 : Value) : Prop := ov (faV (some 0) v3) fun v29 => ov (ldV (some none) v29 h17) fun v30 => ov (binV BinOp.eql 2 true v30 (Value.int IntKind.i64 9)) fun v31 => cdM v31 (d_heed_New_9 v9 h17 v1 q12 x0 x1 x2 x3 v3 v5 v6 v7 v15 v16 v22 v23 v24 v29 v30 v31) (d_heed_New_11 v9 h17 v1 v3 x0 x1 q12 x2 x3 v5 v6 v7 v15 v16 v22 v23 v24 v29 v30 v31)
def d_heed_New_5 (v3 : Value) (h17 : Heap) (v9 v1 x0 : Value) (q12 : Post) (x1 x2 x3 v5 v6 v7 v15 v16 : Value) : Prop := ov (faV (some 0) v3) fun v22 => ov (ldV (some none) v22 h17) fun v23 => ov (binV BinOp.eql 2 true v23 (Value.int IntKind.i64 8)) fun v24 => cdM v24 (d_heed_New_6 v9 h17 v1 x0 q12 x1 x2 x3 v3 v5 v6 v7 v15 v16 v22 v23 v24) (d_heed_New_8 v3 h17 v9 v1 q12 x0 x1 x2 x3 v5 v6 v7 v15 v16 v22 v23 v24)
def d_heed_New_2 (v16 v9 : Value) (h17 : Heap) (q12 : Post) (x0 x1 x2 x3 v1 v3 v5 v6 v7 v15 : Value) : Prop := cdM v16 (d_heed_New_3 v9 h17 q12 x0 x1 x2 x3 v1 v3 v5 v6 v7 v15 v16) (d_heed_New_5 v3 h17 v9 v1 x0 q12 x1 x2 x3 v5 v6 v7 v15 v16)
def d_heed_New_1 (v3 : Value) (h11 : Heap) (v9 : Value) (q12 : Post) (x0 x1 x2 x3 v1 v5 v6 v7 : Value) : Prop := ov (ldV (some (some 7)) v3 h11) fun v15 => callM P fn_model_Bad #[v15] h11 fun v16 h17 => d_heed_New_2 v16 v9 h17 q12 x0 x1 x2 x3 v1 v3 v5 v6 v7 v15
def d_heed_New (x0 x1 x2 x3 : Value) (h : Heap) (K : Value → Heap → Prop) : Prop := nwM (some x2.cells) ty_int h fun v1 h2 => nwM (some x3.cells) ty_api_Op h2 fun v3 h4 => ov (bdV (binf P ty_heed_moment) [(0, (Value.int IntKind.i64 (-1)))]) fun v5 => ov (bdV (binf P ty_heed_Proc) [(0, v5)]) fun v6 => nwM (some v6.cells) ty_heed_Proc h4 fun v7 h8 => nwM (zc P ty_Ptr_heed_Proc) ty_Ptr_heed_Proc h8 fun v9 h10 => stM (some 1) v9 v7 h10 fun h11 => seqM (fun q12 => d_heed_New_1 v3 h11 v9 q12 x0 x1 x2 x3 v1 v5 v6 v7) (fun m s13 h14 => ov (ldV (some none) (s13 9) h14) fun v41 => (retM P [.tmp 8] K) .ret m (puts s13 [(40, v41), (8, v41)]) h14) (retM P [.tmp 8] K)
theorem e_heed_New {x0 x1 x2 x3 : Value} {h : Heap} {K : Value → Heap → Prop} (hd : d_heed_New x0 x1 x2 x3 h K) : callM P fn_heed_New #[x0, x1, x2, x3] h K :=
  call_of good mixed (fn := Tryz.f39) (args := [x0, x1, x2, x3]) Tryz.func39 rfl (by kernel_rfl) (of_decide_eq_true rfl) (B := d_heed_New x0 x1 x2 x3 h K) (by kernel_rfl) hd
def d_heed_Proc_Done (x0 : Value) (h : Heap) (K : Value → Heap → Prop) : Prop := ov (ncV x0) fun v1 => ov (faV (some 2) v1) fun v2 => ov (ldV (some none) v2 h) fun v3 => ov (ncV x0) fun v4 => ov (faV (some 1) v4) fun v5 => ov (ldV (some none) v5 h) fun v6 => ov (lnV 7 v6) fun v7 => ov (binV BinOp.geq 2 false v3 v7) fun v8 => K v8 h
theorem e_heed_Proc_Done {x0 : Value} {h : Heap} {K : Value → Heap → Prop} (hd : d_heed_Proc_Done x0 h K) : callM P fn_heed_Proc_Done #[x0] h K :=
  call_of good mixed (fn := Tryz.f40) (args := [x0]) Tryz.func40 rfl (by kernel_rfl) (of_decide_eq_true rfl) (B := d_heed_Proc_Done x0 h K) (by kernel_rfl) hd
def d_heed_Proc_Step_6 (q4 : Post) (x0 x1 x2 v1 v3 v7 v8 v9 v10 v11 v12 v13 v14 v15 v16 v18 v19 v20 : Value) (h21 : Heap) : Prop := q4 .normal [] (puts (envOf [x0, x1, x2]) [(6, x0), (7, x1), (8, v1), (9, v3), (10, x0), (11, v7), (12, v8), (13, v9), (14, x0), (15, v10), (16, v11), (17, v12), (18, v13), (19, v14), (20, v15), (21, x1), (22, v16), (23, x0), (24, v18), (25, v19), (26, x2), (27, v20)]) h21
def d_heed_Proc_Step_5 (x0 x2 : Value) (h17 : Heap) (q4 : Post) (x1 v1 v3 v7 v8 v9 v10 v11 v12 v13 v14 v15 v16 : Value) : Prop := ov (ncV x0) fun v18 => ov (faV (some 0) v18) fun v19 => callM P fn_heed_moment_took #[v19, x2] h17 fun v20 h21 => d_heed_Proc_Step_6 q4 x0 x1 x2 v1 v3 v7 v8 v9 v10 v11 v12 v13 v14 v15 v16 v18 v19 v20 h21
def d_heed_Proc_Step_7 (q4 : Post) (x0 x1 x2 v1 v3 v7 v8 v9 v10 v11 v12 v13 v14 v15 v16 : Value) (h17 : Heap) : Prop := q4 .normal [] (puts (envOf [x0, x1, x2]) [(6, x0), (7, x1), (8, v1), (9, v3), (10, x0), (11, v7), (12, v8), (13, v9), (14, x0), (15, v10), (16, v11), (17, v12), (18, v13), (19, v14), (20, v15), (21, x1), (22, v16)]) h17
def d_heed_Proc_Step_4 (v16 x0 x2 : Value) (h17 : Heap) (q4 : Post) (x1 v1 v3 v7 v8 v9 v10 v11 v12 v13 v14 v15 : Value) : Prop := cdM v16 (d_heed_Proc_Step_5 x0 x2 h17 q4 x1 v1 v3 v7 v8 v9 v10 v11 v12 v13 v14 v15 v16) (d_heed_Proc_Step_7 q4 x0 x1 x2 v1 v3 v7 v8 v9 v10 v11 v12 v13 v14 v15 v16 h17)
def d_heed_Proc_Step_3 (x0 : Value) (h2 : Heap) (x1 x2 : Value) (q4 : Post) (v1 v3 : Value) : Prop := ov (ncV x0) fun v7 => ov (faV (some 1) v7) fun v8 => ov (ldV (some none) v8 h2) fun v9 => ov (ncV x0) fun v10 => ov (faV (some 2) v10) fun v11 => ov (ldV (some none) v11 h2) fun v12 => ov (iaV (some (none, 2)) v9 v12) fun v13 => ov (faV (some 1) v13) fun v14 => ov (ldV (some none) v14 h2) fun v15 => nxM P (do let d ← Deferred.ofValue v15 #[x1] ; invoke d.target d.args) h2 fun v16 h17 => d_heed_Proc_Step_4 v16 x0 x2 h17 q4 x1 v1 v3 v7 v8 v9 v10 v11 v12 v13 v14 v15
def d_heed_Proc_Step_8 (s5 : Env) (h6 : Heap) (K : Value → Heap → Prop) (m : List Nat) : Prop := ov (ncV (s5 0)) fun v22 => ov (faV (some 2) v22) fun v23 => ov (ldV (some none) v23 h6) fun v24 => ov (binV BinOp.add 2 true v24 (Value.int IntKind.i64 1)) fun v25 => ov (ncV (s5 0)) fun v26 => ov (faV (some 2) v26) fun v27 => stM (some 1) v27 v25 h6 fun h28 => (retM P [] K) .normal m (puts s5 [(28, (s5 0)), (29, v22), (30, v23), (31, v24), (32, v25), (33, v26), (34, v27)]) h28
def d_heed_Proc_Step_2 (x0 : Value) (h2 : Heap) (x1 x2 v1 v3 : Value) (K : Value → Heap → Prop) : Prop := seqM (fun q4 => d_heed_Proc_Step_3 x0 h2 x1 x2 q4 v1 v3) (fun m s5 h6 => d_heed_Proc_Step_8 s5 h6 K m) (retM P [] K)
def d_heed_Proc_Step_1 (v1 : Value) (K : Value → Heap → Prop) (h2 : Heap) (x0 x1 x2 : Value) : Prop := ov (unV UnOp.not v1) fun v3 => cdM v3 (K (.tuple #[]) h2) (d_heed_Proc_Step_2 x0 h2 x1 x2 v1 v3 K)
def d_heed_Proc_Step (x0 x1 x2 : Value) (h : Heap) (K : Value → Heap → Prop) : Prop := callM P fn_heed_Proc_Enabled #[x0, x1] h fun v1 h2 => d_heed_Proc_Step_1 v1 K h2 x0 x1 x2
theorem e_heed_Proc_Step {x0 x1 x2 : Value} {h : Heap} {K : Value → Heap → Prop} (hd : d_heed_Proc_Step x0 x1 x2 h K) : callM P fn_heed_Proc_Step #[x0, x1, x2] h K :=
  call_of good mixed (fn := Tryz.f41) (args := [x0, x1, x2]) Tryz.func41 rfl (by kernel_rfl) (of_decide_eq_true rfl) (B := d_heed_Proc_Step x0 x1 x2 h K) (by kernel_rfl) hd
def d_hall_Hall_Count_3 (v12 : Value) (h18 : Heap) (v13 v15 v16 x1 x3 : Value) (K : Value → Heap → Prop) (v17 : Value) : Prop := ldV (some none) v12 h18 = some v13 ∧ ldV (some none) v15 h18 = some v16 ∧ callM P fn_feed_Feed_Watching #[v16, x1, x3] h18 fun v19 h20 => K (.tuple #[v17, v19]) h20
def d_hall_Hall_Count_2 (x0 : Value) (h4 : Heap) (x2 x1 x3 : Value) (K : Value → Heap → Prop) : Prop := ov (ncV x0) fun v5 => ov (faV (some 10) v5) fun v6 => ov (ldV (some none) v6 h4) fun v7 => ov (iaV (some (none, 8)) v7 x2) fun v8 => ov (faV (some 7) v8) fun v9 => ov (ldV (some none) v9 h4) fun v10 => ov (ncV x0) fun v11 => ov (faV (some 10) v11) fun v12 => ov (ldV (some none) v12 h4) fun v13 => ov (iaV (some (none, 8)) v13 x2) fun v14 => ov (faV (some 7) v14) fun v15 => ov (ldV (some none) v15 h4) fun v16 => callM P fn_feed_Feed_Count #[v10, x1] h4 fun v17 h18 => d_hall_Hall_Count_3 v12 h18 v13 v15 v16 x1 x3 K v17
def d_hall_Hall_Count_1 (x0 x1 v1 : Value) (h2 : Heap) (x2 x3 : Value) (K : Value → Heap → Prop) : Prop := callM P fn_hall_Hall_did #[x0, x1, (Value.int IntKind.i64 1), v1] h2 fun v3 h4 => d_hall_Hall_Count_2 x0 h4 x2 x1 x3 K
def d_hall_Hall_Count (x0 x1 x2 x3 : Value) (h : Heap) (K : Value → Heap → Prop) : Prop := callM P fn_hall_Place #[x2, (Value.int IntKind.i64 4)] h fun v1 h2 => d_hall_Hall_Count_1 x0 x1 v1 h2 x2 x3 K
theorem e_hall_Hall_Count {x0 x1 x2 x3 : Value} {h : Heap} {K : Value → Heap → Prop} (hd : d_hall_Hall_Count x0 x1 x2 x3 h K) : callM P fn_hall_Hall_Count #[x0, x1, x2, x3] h K :=
  call_of good mixed (fn := Tryz.f42) (args := [x0, x1, x2, x3]) Tryz.func42 rfl (by kernel_rfl) (of_decide_eq_true rfl) (B := d_hall_Hall_Count x0 x1 x2 x3 h K) (by kernel_rfl) hd
def d_hall_Hall_Stripe (x0 x1 : Value) (h : Heap) (K : Value → Heap → Prop) : Prop := ov (ncV x0) fun v1 => ov (faV (some 0) v1) fun v2 => ov (faV (some 0) v2) fun v3 => ov (ldV (some none) v3 h) fun v4 => callM P fn_hash_Stripe #[x1, v4] h fun v5 h6 => K v5 h6
theorem e_hall_Hall_Stripe {x0 x1 : Value} {h : Heap} {K : Value → Heap → Prop} (hd : d_hall_Hall_Stripe x0 x1 h K) : callM P fn_hall_Hall_Stripe #[x0, x1] h K :=
  call_of good mixed (fn := Tryz.f43) (args := [x0, x1]) Tryz.func43 rfl (by kernel_rfl) (of_decide_eq_true rfl) (B := d_hall_Hall_Stripe x0 x1 h K) (by kernel_rfl) hd
def d_heed_Mine_Count (x0 : Value) (h : Heap) (K : Value → Heap → Prop) : Prop := ov (ncV x0) fun v1 => ov (faV (some 0) v1) fun v2 => ov (ldV (some none) v2 h) fun v3 => vvM P (Builtin.len_ #[ty_Map_string_bool] ty_int #[v3]) h fun v4 h5 => K v4 h5
theorem e_heed_Mine_Count {x0 : Value} {h : Heap} {K : Value → Heap → Prop} (hd : d_heed_Mine_Count x0 h K) : callM P fn_heed_Mine_Count #[x0] h K :=
  call_of good mixed (fn := Tryz.f44) (args := [x0]) Tryz.func44 rfl (by kernel_rfl) (of_decide_eq_true rfl) (B := d_heed_Mine_Count x0 h K) (by kernel_rfl) hd
def d_heed_Mine_Has (x0 x1 : Value) (h : Heap) (K : Value → Heap → Prop) : Prop := ov (ncV x0) fun v1 => ov (faV (some 0) v1) fun v2 => ov (ldV (some none) v2 h) fun v3 => vvM P (Instr.lookup ty_Map_string_bool v3 x1 false) h fun v4 h5 => K v4 h5
theorem e_heed_Mine_Has {x0 x1 : Value} {h : Heap} {K : Value → Heap → Prop} (hd : d_heed_Mine_Has x0 x1 h K) : callM P fn_heed_Mine_Has #[x0, x1] h K :=
  call_of good mixed (fn := Tryz.f45) (args := [x0, x1]) Tryz.func45 rfl (by kernel_rfl) (of_decide_eq_true rfl) (B := d_heed_Mine_Has x0 x1 h K) (by kernel_rfl) hd
def d_doormanref10_Short_5 (q29 : Post) (m : List Nat) (s27 : Env) (v30 v31 v32 v33 v34 v35 v36 v37 v38 v39 : Value) (h28 : Heap) : Prop := q29 .ret m (puts s27 [(14, (s27 3)), (15, v30), (16, v31), (17, v32), (18, v33), (21, v34), (22, v35), (23, (s27 3)), (24, v36), (25, v37), (26, v38), (27, v39), (2, (Value.bool false))]) h28
def d_doormanref10_Short_6 (s27 : Env) (q29 : Post) (m : List Nat) (v30 v31 v32 v33 v34 v35 v36 v37 v38 v39 : Value) (h28 : Heap) : Prop := ov (binV BinOp.add 2 true (s27 3) (Value.int IntKind.i64 1)) fun v40 => q29 .normal m (puts s27 [(14, (s27 3)), (15, v30), (16, v31), (17, v32), (18, v33), (21, v34), (22, v35), (23, (s27 3)), (24, v36), (25, v37), (26, v38), (27, v39), (19, (s27 3)), (20, v40), (3, v40)]) h28
def d_doormanref10_Short_4 (s27 : Env) (h28 : Heap) (q29 : Post) (m : List Nat) (v30 v31 v32 v33 : Value) : Prop := ov (faV (some 6) (s27 1)) fun v34 => ov (ldV (some none) v34 h28) fun v35 => ov (iaV (some (none, 1)) v35 (s27 3)) fun v36 => ov (ldV (some none) v36 h28) fun v37 => ov (lnV 3 v37) fun v38 => ov (binV BinOp.gtr 2 true v38 (Value.int IntKind.i64 40)) fun v39 => cdM v39 (d_doormanref10_Short_5 q29 m s27 v30 v31 v32 v33 v34 v35 v36 v37 v38 v39 h28) (d_doormanref10_Short_6 s27 q29 m v30 v31 v32 v33 v34 v35 v36 v37 v38 v39 h28)
def d_doormanref10_Short_3 (s27 : Env) (h28 : Heap) (q29 : Post) (m : List Nat) : Prop := ov (faV (some 6) (s27 1)) fun v30 => ov (ldV (some none) v30 h28) fun v31 => ov (lnV 7 v31) fun v32 => ov (binV BinOp.lss 2 false (s27 3) v32) fun v33 => cdM v33 (d_doormanref10_Short_4 s27 h28 q29 m v30 v31 v32 v33) (q29 (.exit 0) m (puts s27 [(14, (s27 3)), (15, v30), (16, v31), (17, v32), (18, v33)]) h28)
def d_doormanref10_Short_2 (x0 v1 v3 v4 v5 v6 v7 v11 v15 v19 v23 : Value) (h20 : Heap) (q24 : Post) : Prop := loopM (fun m s27 h28 q29 => d_doormanref10_Short_3 s27 h28 q29 m) [] (puts (envOf [x0]) [(1, v1), (2, (Value.bool false)), (4, v3), (5, v4), (6, v5), (7, v6), (8, v6), (9, v7), (10, v11), (11, v15), (12, v19), (13, v23), (3, (Value.int IntKind.i64 0))]) h20 (blkM 0 q24)
def d_doormanref10_Short_1 (x0 v1 v3 v4 v5 v6 v7 v11 v15 v19 v23 : Value) (h20 : Heap) (K : Value → Heap → Prop) : Prop := seqM (fun q24 => d_doormanref10_Short_2 x0 v1 v3 v4 v5 v6 v7 v11 v15 v19 v23 h20 q24) (fun m s25 h26 => (retM P [.tmp 2] K) .ret m (puts s25 [(2, (Value.bool true))]) h26) (retM P [.tmp 2] K)
def d_doormanref10_Short (x0 : Value) (h : Heap) (K : Value → Heap → Prop) : Prop := nwM (some x0.cells) ty_api_Op h fun v1 h2 => ov (faV (some 1) v1) fun v3 => ov (ldV (some none) v3 h2) fun v4 => ov (lnV 3 v4) fun v5 => ov (binV BinOp.gtr 2 true v5 (Value.int IntKind.i64 40)) fun v6 => gM (isB v6 false) (fun k9 => ov (faV (some 6) v1) fun v10 => k9 v10 h2) h2 fun v7 h8 => gM (isB v6 false) (fun k13 => ov (ldV (some none) v7 h8) fun v14 => k13 v14 h8) h8 fun v11 h12 => gM (isB v6 false) (fun k17 => ov (lnV 7 v11) fun v18 => k17 v18 h12) h12 fun v15 h16 => gM (isB v6 false) (fun k21 => ov (binV BinOp.gtr 2 true v15 (Value.int IntKind.i64 20)) fun v22 => k21 v22 h16) h16 fun v19 h20 => ov (pkV v6 (Value.bool true) v19) fun v23 => cdM v23 (K (Value.bool false) h20) (d_doormanref10_Short_1 x0 v1 v3 v4 v5 v6 v7 v11 v15 v19 v23 h20 K)
theorem e_doormanref10_Short {x0 : Value} {h : Heap} {K : Value → Heap → Prop} (hd : d_doormanref10_Short x0 h K) : callM P fn_doormanref10_Short #[x0] h K :=
  call_of good mixed (fn := Tryz.f47) (args := [x0]) Tryz.func47 rfl (by kernel_rfl) (of_decide_eq_true rfl) (B := d_doormanref10_Short x0 h K) (by kernel_rfl) hd
def d_model_Bad_3 (v11 v1 : Value) (h12 : Heap) (q3 : Post) (x0 v6 v7 v8 v9 v10 : Value) : Prop := ov (unV UnOp.not v11) fun v13 => gM (isB v13 false) (fun k16 => ov (faV (some 2) v1) fun v17 => k16 v17 h12) h12 fun v14 h15 => gM (isB v13 false) (fun k20 => ov (ldV (some none) v14 h15) fun v21 => k20 v21 h15) h15 fun v18 h19 => gM (isB v13 false) (fun k24 => ov (faV (some 3) v1) fun v25 => k24 v25 h19) h19 fun v22 h23 => gM (isB v13 false) (fun k28 => ov (ldV (some none) v22 h23) fun v29 => k28 v29 h23) h23 fun v26 h27 => gM (isB v13 false) (fun k32 => ov (faV (some 4) v1) fun v33 => k32 v33 h27) h27 fun v30 h31 => gM (isB v13 false) (fun k36 => ov (ldV (some none) v30 h31) fun v37 => k36 v37 h31) h31 fun v34 h35 => gM (isB v13 false) (fun k40 => callM P fn_sess_Right #[v18, v26, v34] h35 fun v41 h42 => k40 v41 h42) h35 fun v38 h39 => gM (isB v13 false) (fun k45 => ov (unV UnOp.not v38) fun v46 => k45 v46 h39) h39 fun v43 h44 => ov (pkV v13 (Value.bool true) v43) fun v47 => q3 .ret [] (puts (envOf [x0]) [(1, v1), (2, (Value.bool false)), (5, v6), (6, v7), (8, v8), (7, v8), (9, v9), (10, v10), (11, v11), (12, v13), (13, v13), (14, v14), (15, v18), (16, v22), (17, v26), (18, v30), (19, v34), (20, v38), (21, v43), (22, v47), (2, v47)]) h44
def d_model_Bad_2 (v1 : Value) (h2 : Heap) (q3 : Post) (x0 v6 v7 v8 : Value) : Prop := ov (faV (some 1) v1) fun v9 => ov (ldV (some none) v9 h2) fun v10 => callM P fn_hash_Right #[v10] h2 fun v11 h12 => d_model_Bad_3 v11 v1 h12 q3 x0 v6 v7 v8 v9 v10
def d_model_Bad_6 (v7 : Value) (q48 : Post) (x0 v1 v6 v8 v51 : Value) (h2 : Heap) : Prop := ov (binV BinOp.eql 2 true v7 (Value.int IntKind.i64 3)) fun v52 => q48 .normal [] (puts (envOf [x0]) [(1, v1), (2, (Value.bool false)), (5, v6), (6, v7), (8, v8), (7, v8), (24, v51), (23, v51), (25, v52), (23, v52)]) h2
def d_model_Bad_5 (v7 : Value) (q48 : Post) (x0 v1 v6 v8 : Value) (h2 : Heap) : Prop := ov (binV BinOp.eql 2 true v7 (Value.int IntKind.i64 2)) fun v51 => cdM v51 (q48 .normal [] (puts (envOf [x0]) [(1, v1), (2, (Value.bool false)), (5, v6), (6, v7), (8, v8), (7, v8), (24, v51), (23, v51)]) h2) (d_model_Bad_6 v7 q48 x0 v1 v6 v8 v51 h2)
def d_model_Bad_9 (v55 : Value) (s49 : Env) (h56 : Heap) (q3 : Post) (m : List Nat) (v53 v54 : Value) : Prop := ov (unV UnOp.not v55) fun v57 => gM (isB v57 false) (fun k60 => ov (faV (some 2) (s49 1)) fun v61 => k60 v61 h56) h56 fun v58 h59 => gM (isB v57 false) (fun k64 => ov (ldV (some none) v58 h59) fun v65 => k64 v65 h59) h59 fun v62 h63 => gM (isB v57 false) (fun k68 => callM P fn_model_within #[v62, (Value.int IntKind.i64 0), (Value.int IntKind.i64 255)] h63 fun v69 h70 => k68 v69 h70) h63 fun v66 h67 => gM (isB v57 false) (fun k73 => ov (unV UnOp.not v66) fun v74 => k73 v74 h67) h67 fun v71 h72 => ov (pkV v57 (Value.bool true) v71) fun v75 => q3 .ret m (puts s49 [(26, v53), (27, v54), (28, v55), (29, v57), (30, v57), (31, v58), (32, v62), (33, v66), (34, v71), (35, v75), (2, v75)]) h72
def d_model_Bad_8 (s49 : Env) (h50 : Heap) (q3 : Post) (m : List Nat) : Prop := ov (faV (some 1) (s49 1)) fun v53 => ov (ldV (some none) v53 h50) fun v54 => callM P fn_hash_Right #[v54] h50 fun v55 h56 => d_model_Bad_9 v55 s49 h56 q3 m v53 v54
def d_model_Bad_13 (s49 : Env) (q76 : Post) (m : List Nat) (v79 v80 : Value) (h50 : Heap) : Prop := ov (binV BinOp.eql 2 true (s49 6) (Value.int IntKind.i64 7)) fun v81 => q76 .normal m (puts s49 [(37, v79), (36, v79), (38, v80), (36, v80), (39, v81), (36, v81)]) h50
def d_model_Bad_12 (s49 : Env) (q76 : Post) (m : List Nat) (v79 : Value) (h50 : Heap) : Prop := ov (binV BinOp.eql 2 true (s49 6) (Value.int IntKind.i64 6)) fun v80 => cdM v80 (q76 .normal m (puts s49 [(37, v79), (36, v79), (38, v80), (36, v80)]) h50) (d_model_Bad_13 s49 q76 m v79 v80 h50)
def d_model_Bad_11 (s49 : Env) (q76 : Post) (m : List Nat) (h50 : Heap) : Prop := ov (binV BinOp.eql 2 true (s49 6) (Value.int IntKind.i64 4)) fun v79 => cdM v79 (q76 .normal m (puts s49 [(37, v79), (36, v79)]) h50) (d_model_Bad_12 s49 q76 m v79 h50)
def d_model_Bad_15 (s77 : Env) (h78 : Heap) (q3 : Post) (m : List Nat) : Prop := ov (faV (some 1) (s77 1)) fun v82 => ov (ldV (some none) v82 h78) fun v83 => callM P fn_hash_Right #[v83] h78 fun v84 h85 => ov (unV UnOp.not v84) fun v86 => q3 .ret m (puts s77 [(40, v82), (41, v83), (42, v84), (43, v86), (2, v86)]) h85
def d_model_Bad_22 (s94 : Env) (q96 : Post) (m : List Nat) (v97 v98 v99 v100 v102 : Value) (h101 : Heap) : Prop := ov (binV BinOp.add 2 true (s94 49) (Value.int IntKind.i64 1)) fun v103 => q96 .normal m (puts s94 [(50, v97), (51, v98), (52, v99), (4, v99), (53, v99), (54, v100), (55, v102), (56, v103), (49, v103)]) h101
def d_model_Bad_21 (v100 : Value) (q96 : Post) (m : List Nat) (s94 : Env) (v97 v98 v99 : Value) (h101 : Heap) : Prop := ov (unV UnOp.not v100) fun v102 => cdM v102 (q96 .ret m (puts s94 [(50, v97), (51, v98), (52, v99), (4, v99), (53, v99), (54, v100), (55, v102), (2, (Value.bool true))]) h101) (d_model_Bad_22 s94 q96 m v97 v98 v99 v100 v102 h101)
def d_model_Bad_20 (s94 : Env) (h95 : Heap) (q96 : Post) (m : List Nat) (v97 : Value) : Prop := ov (iaV (some (none, 1)) (s94 47) (s94 49)) fun v98 => ov (ldV (some none) v98 h95) fun v99 => callM P fn_hash_Right #[v99] h95 fun v100 h101 => d_model_Bad_21 v100 q96 m s94 v97 v98 v99 h101
def d_model_Bad_19 (s94 : Env) (h95 : Heap) (q96 : Post) (m : List Nat) : Prop := ov (binV BinOp.lss 2 false (s94 49) (s94 48)) fun v97 => cdM v97 (d_model_Bad_20 s94 h95 q96 m v97) (q96 (.exit 1) m (puts s94 [(50, v97)]) h95)
def d_model_Bad_18 (s77 : Env) (h78 : Heap) (m : List Nat) (v87 : Value) (q88 : Post) : Prop := ov (faV (some 6) (s77 1)) fun v91 => ov (ldV (some none) v91 h78) fun v92 => ov (lnV 7 v92) fun v93 => loopM (fun m s94 h95 q96 => d_model_Bad_19 s94 h95 q96 m) m (puts s77 [(45, v87), (44, v87), (46, v91), (47, v92), (48, v93), (49, (Value.int IntKind.i64 0))]) h78 (blkM 1 q88)
def d_model_Bad_23 (s89 : Env) (h90 : Heap) (q3 : Post) (m : List Nat) : Prop := ov (faV (some 6) (s89 1)) fun v104 => ov (ldV (some none) v104 h90) fun v105 => ov (lnV 7 v105) fun v106 => callM P fn_model_within #[v106, (Value.int IntKind.i64 1), (Value.int IntKind.i64 8)] h90 fun v107 h108 => ov (unV UnOp.not v107) fun v109 => q3 .ret m (puts s89 [(57, v104), (58, v105), (59, v106), (60, v107), (61, v109), (2, v109)]) h108
def d_model_Bad_17 (s77 : Env) (h78 : Heap) (m : List Nat) (v87 : Value) (q3 : Post) : Prop := seqM (fun q88 => d_model_Bad_18 s77 h78 m v87 q88) (fun m s89 h90 => d_model_Bad_23 s89 h90 q3 m) (blkM 0 q3)
def d_model_Bad_26 (s77 : Env) (q110 : Post) (m : List Nat) (v87 v113 : Value) (h78 : Heap) : Prop := ov (binV BinOp.eql 2 true (s77 6) (Value.int IntKind.i64 9)) fun v114 => q110 .normal m (puts s77 [(45, v87), (44, v87), (63, v113), (62, v113), (64, v114), (62, v114)]) h78
def d_model_Bad_25 (s77 : Env) (q110 : Post) (m : List Nat) (v87 : Value) (h78 : Heap) : Prop := ov (binV BinOp.eql 2 true (s77 6) (Value.int IntKind.i64 8)) fun v113 => cdM v113 (q110 .normal m (puts s77 [(45, v87), (44, v87), (63, v113), (62, v113)]) h78) (d_model_Bad_26 s77 q110 m v87 v113 h78)
def d_model_Bad_24 (s77 : Env) (m : List Nat) (v87 : Value) (h78 : Heap) (q3 : Post) : Prop := seqM (fun q110 => d_model_Bad_25 s77 q110 m v87 h78) (fun m s111 h112 => cdM (s111 62) (q3 .ret m (puts s111 [(2, (Value.bool false))]) h112) (q3 .normal m s111 h112)) (blkM 0 q3)
def d_model_Bad_16 (s77 : Env) (h78 : Heap) (m : List Nat) (q3 : Post) : Prop := ov (binV BinOp.eql 2 true (s77 6) (Value.int IntKind.i64 5)) fun v87 => cdM v87 (d_model_Bad_17 s77 h78 m v87 q3) (d_model_Bad_24 s77 m v87 h78 q3)
def d_model_Bad_14 (s77 : Env) (h78 : Heap) (q3 : Post) (m : List Nat) : Prop := cdM (s77 36) (d_model_Bad_15 s77 h78 q3 m) (d_model_Bad_16 s77 h78 m q3)
def d_model_Bad_10 (s49 : Env) (m : List Nat) (h50 : Heap) (q3 : Post) : Prop := seqM (fun q76 => d_model_Bad_11 s49 q76 m h50) (fun m s77 h78 => d_model_Bad_14 s77 h78 q3 m) (blkM 0 q3)
def d_model_Bad_7 (s49 : Env) (h50 : Heap) (q3 : Post) (m : List Nat) : Prop := cdM (s49 23) (d_model_Bad_8 s49 h50 q3 m) (d_model_Bad_10 s49 m h50 q3)
def d_model_Bad_4 (v7 x0 v1 v6 v8 : Value) (h2 : Heap) (q3 : Post) : Prop := seqM (fun q48 => d_model_Bad_5 v7 q48 x0 v1 v6 v8 h2) (fun m s49 h50 => d_model_Bad_7 s49 h50 q3 m) (blkM 0 q3)
def d_model_Bad_1 (v1 : Value) (h2 : Heap) (q3 : Post) (x0 : Value) : Prop := ov (faV (some 0) v1) fun v6 => ov (ldV (some none) v6 h2) fun v7 => ov (binV BinOp.eql 2 true v7 (Value.int IntKind.i64 1)) fun v8 => cdM v8 (d_model_Bad_2 v1 h2 q3 x0 v6 v7 v8) (d_model_Bad_4 v7 x0 v1 v6 v8 h2 q3)
def d_model_Bad (x0 : Value) (h : Heap) (K : Value → Heap → Prop) : Prop := nwM (some x0.cells) ty_api_Op h fun v1 h2 => seqM (fun q3 => d_model_Bad_1 v1 h2 q3 x0) (fun m s4 h5 => (retM P [.tmp 2] K) .ret m (puts s4 [(2, (Value.bool true))]) h5) (retM P [.tmp 2] K)
theorem e_model_Bad {x0 : Value} {h : Heap} {K : Value → Heap → Prop} (hd : d_model_Bad x0 h K) : callM P fn_model_Bad #[x0] h K :=
  call_of good mixed (fn := Tryz.f49) (args := [x0]) Tryz.func49 rfl (by kernel_rfl) (of_decide_eq_true rfl) (B := d_model_Bad x0 h K) (by kernel_rfl) hd
def d_doormanlaw10_Small (h : Heap) (K : Value → Heap → Prop) : Prop := nwM (zc P ty_api_Config) ty_api_Config h fun v1 h2 => ov (bdV (binf P ty_api_Config) [(0, (Value.int IntKind.i64 3)), (1, (Value.int IntKind.i64 2)), (2, (Value.int IntKind.i64 16)), (3, (Value.int IntKind.i64 4)), (4, (Value.int IntKind.i64 1)), (5, (Value.int IntKind.u64 100))]) fun v3 => stM (some 7) v1 v3 h2 fun h4 => ov (ldV (some (some 7)) v1 h4) fun v5 => K v5 h4
theorem e_doormanlaw10_Small {h : Heap} {K : Value → Heap → Prop} (hd : d_doormanlaw10_Small h K) : callM P fn_doormanlaw10_Small #[] h K :=
  call_of good mixed (fn := Tryz.f50) (args := []) Tryz.func50 rfl (by kernel_rfl) (of_decide_eq_true rfl) (B := d_doormanlaw10_Small h K) (by kernel_rfl) hd
end Go.Proofs.YtcnphhhcknhhaaaGreat
namespace Go.Proofs.YtcnphhhcknhhaaaGreat
open Go Go.Den
set_option maxRecDepth 100000
set_option linter.unusedVariables false
def d_hall_Hall_Free (x0 x1 : Value) (h : Heap) (K : Value → Heap → Prop) : Prop := ov (ncV x0) fun v1 => ov (faV (some 10) v1) fun v2 => ov (ldV (some none) v2 h) fun v3 => ov (iaV (some (none, 8)) v3 x1) fun v4 => ov (faV (some 0) v4) fun v5 => ov (ldV (some (some 1)) v5 h) fun v6 => callM P fn_latch_Latch_Free #[v6] h fun v7 h8 => K v7 h8
theorem e_hall_Hall_Free {x0 x1 : Value} {h : Heap} {K : Value → Heap → Prop} (hd : d_hall_Hall_Free x0 x1 h K) : callM P fn_hall_Hall_Free #[x0, x1] h K :=
  call_of good mixed (fn := Tryz.f70) (args := [x0, x1]) Tryz.func70 rfl (by kernel_rfl) (of_decide_eq_true rfl) (B := d_hall_Hall_Free x0 x1 h K) (by kernel_rfl) hd
def d_hall_Hall_Config (x0 : Value) (h : Heap) (K : Value → Heap → Prop) : Prop := nwM (zc P ty_api_Config) ty_api_Config h fun v1 h2 => ov (ncV x0) fun v3 => ov (faV (some 0) v3) fun v4 => ov (ldV (some (some 7)) v4 h2) fun v5 => stM (some 7) v1 v5 h2 fun h6 => ov (ldV (some (some 7)) v1 h6) fun v7 => K v7 h6
theorem e_hall_Hall_Config {x0 : Value} {h : Heap} {K : Value → Heap → Prop} (hd : d_hall_Hall_Config x0 h K) : callM P fn_hall_Hall_Config #[x0] h K :=
  call_of good mixed (fn := Tryz.f96) (args := [x0]) Tryz.func96 rfl (by kernel_rfl) (of_decide_eq_true rfl) (B := d_hall_Hall_Config x0 h K) (by kernel_rfl) hd
def d_hall_Hall_Look_1 (x0 : Value) (h4 : Heap) (v1 : Value) (K : Value → Heap → Prop) : Prop := ov (ncV x0) fun v5 => ov (faV (some 7) v5) fun v6 => ov (ldV (some (some 3)) v6 h4) fun v7 => stM (some 3) v1 v7 h4 fun h8 => ov (ldV (some (some 3)) v1 h8) fun v9 => K v9 h8
def d_hall_Hall_Look (x0 x1 : Value) (h : Heap) (K : Value → Heap → Prop) : Prop := nwM (zc P ty_api_Time) ty_api_Time h fun v1 h2 => callM P fn_hall_Hall_did #[x0, x1, (Value.int IntKind.i64 3), (Value.int IntKind.i64 0)] h2 fun v3 h4 => d_hall_Hall_Look_1 x0 h4 v1 K
theorem e_hall_Hall_Look {x0 x1 : Value} {h : Heap} {K : Value → Heap → Prop} (hd : d_hall_Hall_Look x0 x1 h K) : callM P fn_hall_Hall_Look #[x0, x1] h K :=
  call_of good mixed (fn := Tryz.f107) (args := [x0, x1]) Tryz.func107 rfl (by kernel_rfl) (of_decide_eq_true rfl) (B := d_hall_Hall_Look x0 x1 h K) (by kernel_rfl) hd
def d_hall_Hall_Shut_1 (x0 : Value) (h2 : Heap) (K : Value → Heap → Prop) : Prop := ov (ncV x0) fun v3 => ov (faV (some 7) v3) fun v4 => ov (faV (some 2) v4) fun v5 => ov (ldV (some none) v5 h2) fun v6 => ov (ncV x0) fun v7 => ov (faV (some 7) v7) fun v8 => ov (ldV (some (some 3)) v8 h2) fun v9 => callM P fn_tick_Shut #[v9] h2 fun v10 h11 => ov (ncV x0) fun v12 => ov (faV (some 7) v12) fun v13 => stM (some 3) v13 v10 h11 fun h14 => ov (unV UnOp.not v6) fun v15 => K v15 h14
def d_hall_Hall_Shut (x0 x1 : Value) (h : Heap) (K : Value → Heap → Prop) : Prop := callM P fn_hall_Hall_did #[x0, x1, (Value.int IntKind.i64 4), (Value.int IntKind.i64 0)] h fun v1 h2 => d_hall_Hall_Shut_1 x0 h2 K
theorem e_hall_Hall_Shut {x0 x1 : Value} {h : Heap} {K : Value → Heap → Prop} (hd : d_hall_Hall_Shut x0 x1 h K) : callM P fn_hall_Hall_Shut #[x0, x1] h K :=
  call_of good mixed (fn := Tryz.f110) (args := [x0, x1]) Tryz.func110 rfl (by kernel_rfl) (of_decide_eq_true rfl) (B := d_hall_Hall_Shut x0 x1 h K) (by kernel_rfl) hd
end Go.Proofs.YtcnphhhcknhhaaaGreat
namespace Go.Proofs.YtcnphhhcknhhaaaGreat
open Go Go.Den
set_option maxRecDepth 100000
set_option linter.unusedVariables false
def d_heed_Proc_Enabled_1 (v1 x0 : Value) (h2 : Heap) (x1 : Value) (K : Value → Heap → Prop) : Prop := ov (unV UnOp.not v1) fun v3 => gM (isB v3 true) (fun k6 => k6 x0 h2) h2 fun v4 h5 => gM (isB v3 true) (fun k9 => callM P fn_heed_Proc_Waits #[v4] h5 fun v10 h11 => k9 v10 h11) h5 fun v7 h8 => gM (isB v3 true) (fun k14 => ov (binV BinOp.lss 2 true v7 (Value.int IntKind.i64 0)) fun v15 => k14 v15 h8) h8 fun v12 h13 => gM (isB v3 true) (fun k18 => k18 v12 h13) h13 fun v16 h17 => gM (isB v16 false) (fun k21 => k21 x1 h17) h17 fun v19 h20 => gM (isB v16 false) (fun k24 => k24 x0 h20) h20 fun v22 h23 => gM (isB v16 false) (fun k27 => callM P fn_heed_Proc_Waits #[v22] h23 fun v28 h29 => k27 v28 h29) h23 fun v25 h26 => gM (isB v16 false) (fun k32 => callM P fn_hall_Hall_Free #[v19, v25] h26 fun v33 h34 => k32 v33 h34) h26 fun v30 h31 => gM (isB v3 true) (fun k37 => ov (pkV v16 (Value.bool true) v30) fun v38 => k37 v38 h31) h31 fun v35 h36 => ov (pkV v3 v35 (Value.bool false)) fun v39 => K v39 h36
def d_heed_Proc_Enabled (x0 x1 : Value) (h : Heap) (K : Value → Heap → Prop) : Prop := callM P fn_heed_Proc_Done #[x0] h fun v1 h2 => d_heed_Proc_Enabled_1 v1 x0 h2 x1 K
theorem e_heed_Proc_Enabled {x0 x1 : Value} {h : Heap} {K : Value → Heap → Prop} (hd : d_heed_Proc_Enabled x0 x1 h K) : callM P fn_heed_Proc_Enabled #[x0, x1] h K :=
  call_of good mixed (fn := Tryz.f133) (args := [x0, x1]) Tryz.func133 rfl (by kernel_rfl) (of_decide_eq_true rfl) (B := d_heed_Proc_Enabled x0 x1 h K) (by kernel_rfl) hd
def d_heed_Proc_Waits_2 (x0 : Value) (h2 : Heap) (K : Value → Heap → Prop) : Prop := ov (ncV x0) fun v3 => ov (faV (some 1) v3) fun v4 => ov (ldV (some none) v4 h2) fun v5 => ov (ncV x0) fun v6 => ov (faV (some 2) v6) fun v7 => ov (ldV (some none) v7 h2) fun v8 => ov (iaV (some (none, 2)) v5 v8) fun v9 => ov (faV (some 0) v9) fun v10 => ov (ldV (some none) v10 h2) fun v11 => K v11 h2
def d_heed_Proc_Waits_1 (v1 : Value) (K : Value → Heap → Prop) (h2 : Heap) (x0 : Value) : Prop := cdM v1 (K (Value.int IntKind.i64 (-1)) h2) (d_heed_Proc_Waits_2 x0 h2 K)
def d_heed_Proc_Waits (x0 : Value) (h : Heap) (K : Value → Heap → Prop) : Prop := callM P fn_heed_Proc_Done #[x0] h fun v1 h2 => d_heed_Proc_Waits_1 v1 K h2 x0
theorem e_heed_Proc_Waits {x0 : Value} {h : Heap} {K : Value → Heap → Prop} (hd : d_heed_Proc_Waits x0 h K) : callM P fn_heed_Proc_Waits #[x0] h K :=
  call_of good mixed (fn := Tryz.f136) (args := [x0]) Tryz.func136 rfl (by kernel_rfl) (of_decide_eq_true rfl) (B := d_heed_Proc_Waits x0 h K) (by kernel_rfl) hd
def d_heed_Proc_Placed (x0 : Value) (h : Heap) (K : Value → Heap → Prop) : Prop := ov (ncV x0) fun v1 => ov (faV (some 0) v1) fun v2 => ov (faV (some 0) v2) fun v3 => ov (ldV (some none) v3 h) fun v4 => K v4 h
theorem e_heed_Proc_Placed {x0 : Value} {h : Heap} {K : Value → Heap → Prop} (hd : d_heed_Proc_Placed x0 h K) : callM P fn_heed_Proc_Placed #[x0] h K :=
  call_of good mixed (fn := Tryz.f138) (args := [x0]) Tryz.func138 rfl (by kernel_rfl) (of_decide_eq_true rfl) (B := d_heed_Proc_Placed x0 h K) (by kernel_rfl) hd
def d_hall_Hall_Watch_1 (v1 : Value) (h2 : Heap) (x4 x1 x3 : Value) (K : Value → Heap → Prop) : Prop := ov (ncV v1) fun v3 => ov (faV (some 7) v3) fun v4 => ov (ldV (some none) v4 h2) fun v5 => cdM x4 (callM P fn_feed_Feed_Watch #[v5, x1, x3] h2 fun v6 h7 => K (.tuple #[]) h7) (callM P fn_feed_Feed_Unwatch #[v5, x1, x3] h2 fun v8 h9 => K (.tuple #[]) h9)
def d_hall_Hall_Watch (x0 x1 x2 x3 x4 : Value) (h : Heap) (K : Value → Heap → Prop) : Prop := callM P fn_hall_Hall_write #[x0, x1, x2] h fun v1 h2 => d_hall_Hall_Watch_1 v1 h2 x4 x1 x3 K
theorem e_hall_Hall_Watch {x0 x1 x2 x3 x4 : Value} {h : Heap} {K : Value → Heap → Prop} (hd : d_hall_Hall_Watch x0 x1 x2 x3 x4 h K) : callM P fn_hall_Hall_Watch #[x0, x1, x2, x3, x4] h K :=
  call_of good mixed (fn := Tryz.f140) (args := [x0, x1, x2, x3, x4]) Tryz.func140 rfl (by kernel_rfl) (of_decide_eq_true rfl) (B := d_hall_Hall_Watch x0 x1 x2 x3 x4 h K) (by kernel_rfl) hd
def d_hall_Hall_Drain_1 (v1 : Value) (h2 : Heap) (x1 : Value) (K : Value → Heap → Prop) : Prop := ov (ncV v1) fun v3 => ov (faV (some 7) v3) fun v4 => ov (ldV (some none) v4 h2) fun v5 => callM P fn_feed_Feed_Drain #[v5, x1] h2 fun v6 h7 => ov (exV v6 0) fun v8 => ov (exV v6 1) fun v9 => K (.tuple #[v8, v9]) h7
def d_hall_Hall_Drain (x0 x1 x2 : Value) (h : Heap) (K : Value → Heap → Prop) : Prop := callM P fn_hall_Hall_write #[x0, x1, x2] h fun v1 h2 => d_hall_Hall_Drain_1 v1 h2 x1 K
theorem e_hall_Hall_Drain {x0 x1 x2 : Value} {h : Heap} {K : Value → Heap → Prop} (hd : d_hall_Hall_Drain x0 x1 x2 h K) : callM P fn_hall_Hall_Drain #[x0, x1, x2] h K :=
  call_of good mixed (fn := Tryz.f141) (args := [x0, x1, x2]) Tryz.func141 rfl (by kernel_rfl) (of_decide_eq_true rfl) (B := d_hall_Hall_Drain x0 x1 x2 h K) (by kernel_rfl) hd
def d_feed_Merge_7 (q15 : Post) (m : List Nat) (s11 : Env) (v14 v18 v19 v20 v21 v22 v23 v24 v25 v26 v27 v28 v29 v30 v31 v32 v33 v34 v35 v36 v37 v38 v39 v40 v41 v42 v43 v44 v45 v46 v47 v48 v49 v50 v51 : Value) (h12 : Heap) : Prop := q15 .normal m (puts s11 [(13, v14), (14, (s11 12)), (6, (s11 12)), (15, (s11 4)), (16, (s11 12)), (17, v18), (18, v19), (19, (s11 0)), (20, (s11 12)), (21, v20), (22, v21), (23, v22), (24, v23), (25, v23), (26, v24), (27, v25), (28, v26), (29, v27), (30, v28), (31, v29), (32, v30), (33, v31), (34, v32), (35, v33), (36, v34), (37, v35), (38, v36), (39, v37), (40, v38), (41, v39), (42, v40), (43, v41), (44, v42), (45, v43), (46, v44), (47, v45), (48, v46), (49, v47), (50, v48), (51, v49), (52, v50), (53, v51), (54, (s11 12)), (5, (s11 12))]) h12
def d_feed_Merge_8 (q15 : Post) (m : List Nat) (s11 : Env) (v14 v18 v19 v20 v21 v22 v23 v24 v25 v26 v27 v28 v29 v30 v31 v32 v33 v34 v35 v36 v37 v38 v39 v40 v41 v42 v43 v44 v45 v46 v47 v48 v49 v50 v51 : Value) (h12 : Heap) : Prop := q15 .normal m (puts s11 [(13, v14), (14, (s11 12)), (6, (s11 12)), (15, (s11 4)), (16, (s11 12)), (17, v18), (18, v19), (19, (s11 0)), (20, (s11 12)), (21, v20), (22, v21), (23, v22), (24, v23), (25, v23), (26, v24), (27, v25), (28, v26), (29, v27), (30, v28), (31, v29), (32, v30), (33, v31), (34, v32), (35, v33), (36, v34), (37, v35), (38, v36), (39, v37), (40, v38), (41, v39), (42, v40), (43, v41), (44, v42), (45, v43), (46, v44), (47, v45), (48, v46), (49, v47), (50, v48), (51, v49), (52, v50), (53, v51)]) h12
def d_feed_Merge_6 (s11 : Env) (h12 : Heap) (q15 : Post) (m : List Nat) (v14 : Value) : Prop := ov (iaV (some (none, 1)) (s11 4) (s11 12)) fun v18 => ov (ldV (some none) v18 h12) fun v19 => ov (iaV (some (none, 1)) (s11 0) (s11 12)) fun v20 => ov (ldV (some none) v20 h12) fun v21 => ov (lnV 7 v21) fun v22 => ov (binV BinOp.lss 2 false v19 v22) fun v23 => gv (isB v23 true) (fun k => k (s11 5)) fun v24 => gv (isB v23 true) (ov (binV BinOp.lss 2 true v24 (Value.int IntKind.i64 0))) fun v25 => gv (isB v23 true) (fun k => k v25) fun v26 => gv (isB v26 false) (fun k => k (s11 0)) fun v27 => gv (isB v26 false) (fun k => k (s11 12)) fun v28 => gv (isB v26 false) (ov (iaV (some (none, 1)) v27 v28)) fun v29 => gv (isB v26 false) (ov (ldV (some none) v29 h12)) fun v30 => gv (isB v26 false) (fun k => k (s11 4)) fun v31 => gv (isB v26 false) (fun k => k (s11 12)) fun v32 => gv (isB v26 false) (ov (iaV (some (none, 1)) v31 v32)) fun v33 => gv (isB v26 false) (ov (ldV (some none) v33 h12)) fun v34 => gv (isB v26 false) (ov (iaV (some (none, 8)) v30 v34)) fun v35 => gv (isB v26 false) (ov (faV (some 7) v35)) fun v36 => gv (isB v26 false) (ov (ldV (some none) v36 h12)) fun v37 => gv (isB v26 false) (fun k => k (s11 0)) fun v38 => gv (isB v26 false) (fun k => k (s11 5)) fun v39 => gv (isB v26 false) (ov (iaV (some (none, 1)) v38 v39)) fun v40 => gv (isB v26 false) (ov (ldV (some none) v40 h12)) fun v41 => gv (isB v26 false) (fun k => k (s11 4)) fun v42 => gv (isB v26 false) (fun k => k (s11 5)) fun v43 => gv (isB v26 false) (ov (iaV (some (none, 1)) v42 v43)) fun v44 => gv (isB v26 false) (ov (ldV (some none) v44 h12)) fun v45 => gv (isB v26 false) (ov (iaV (some (none, 8)) v41 v45)) fun v46 => gv (isB v26 false) (ov (faV (some 7) v46)) fun v47 => gv (isB v26 false) (ov (ldV (some none) v47 h12)) fun v48 => gv (isB v26 false) (ov (binV BinOp.lss 2 false v37 v48)) fun v49 => gv (isB v23 true) (ov (pkV v26 (Value.bool true) v49)) fun v50 => ov (pkV v23 v50 (Value.bool false)) fun v51 => cdM v51 (d_feed_Merge_7 q15 m s11 v14 v18 v19 v20 v21 v22 v23 v24 v25 v26 v27 v28 v29 v30 v31 v32 v33 v34 v35 v36 v37 v38 v39 v40 v41 v42 v43 v44 v45 v46 v47 v48 v49 v50 v51 h12) (d_feed_Merge_8 q15 m s11 v14 v18 v19 v20 v21 v22 v23 v24 v25 v26 v27 v28 v29 v30 v31 v32 v33 v34 v35 v36 v37 v38 v39 v40 v41 v42 v43 v44 v45 v46 v47 v48 v49 v50 v51 h12)
def d_feed_Merge_5 (s11 : Env) (h12 : Heap) (m : List Nat) (v14 : Value) (q13 : Post) : Prop := seqM (fun q15 => d_feed_Merge_6 s11 h12 q15 m v14) (fun m s16 h17 => ov (binV BinOp.add 2 true (s16 12) (Value.int IntKind.i64 1)) fun v52 => q13 .normal m (puts s16 [(55, v52), (12, v52)]) h17) q13
def d_feed_Merge_4 (s11 : Env) (h12 : Heap) (m : List Nat) (q13 : Post) : Prop := ov (binV BinOp.lss 2 false (s11 12) (s11 11)) fun v14 => cdM v14 (d_feed_Merge_5 s11 h12 m v14 q13) (q13 (.exit 2) m (puts s11 [(13, v14)]) h12)
def d_feed_Merge_3 (s4 : Env) (m : List Nat) (h5 : Heap) (q7 : Post) : Prop := ov (lnV 7 (s4 0)) fun v10 => loopM (fun m s11 h12 q13 => d_feed_Merge_4 s11 h12 m q13) m (puts s4 [(5, (Value.int IntKind.i64 (-1))), (10, (s4 0)), (11, v10), (12, (Value.int IntKind.i64 0))]) h5 (blkM 2 q7)
def d_feed_Merge_11 (s8 : Env) (h63 : Heap) (q6 : Post) (m : List Nat) (v53 v54 v55 v56 v57 v58 v59 v60 v62 : Value) : Prop := ov (iaV (some (none, 1)) (s8 4) (s8 5)) fun v64 => ov (ldV (some none) v64 h63) fun v65 => ov (binV BinOp.add 2 true v65 (Value.int IntKind.i64 1)) fun v66 => ov (iaV (some (none, 1)) (s8 4) (s8 5)) fun v67 => stM (some 1) v67 v66 h63 fun h68 => q6 .normal m (puts s8 [(56, (s8 5)), (57, v53), (59, (s8 3)), (60, (s8 0)), (61, (s8 5)), (62, v54), (63, v55), (64, (s8 4)), (65, (s8 5)), (66, v56), (67, v57), (68, v58), (69, v59), (70, v60), (71, v62), (3, v62), (72, (s8 4)), (73, (s8 5)), (74, v64), (75, v65), (76, v66), (77, v67)]) h68
def d_feed_Merge_10 (s8 : Env) (h9 : Heap) (q6 : Post) (m : List Nat) (v53 : Value) : Prop := ov (iaV (some (none, 1)) (s8 0) (s8 5)) fun v54 => ov (ldV (some none) v54 h9) fun v55 => ov (iaV (some (none, 1)) (s8 4) (s8 5)) fun v56 => ov (ldV (some none) v56 h9) fun v57 => ov (iaV (some (none, 8)) v55 v57) fun v58 => ov (ldV (some (some 8)) v58 h9) fun v59 => bsM (bsI P ty_Sl_api_Event) 1 [(0, v59)] h9 fun v60 h61 => vvM P (Builtin.append_ #[ty_Sl_api_Event, ty_Sl_api_Event] ty_Sl_api_Event #[(s8 3), v60]) h61 fun v62 h63 => d_feed_Merge_11 s8 h63 q6 m v53 v54 v55 v56 v57 v58 v59 v60 v62
def d_feed_Merge_9 (s8 : Env) (q6 : Post) (m : List Nat) (h9 : Heap) : Prop := ov (binV BinOp.lss 2 true (s8 5) (Value.int IntKind.i64 0)) fun v53 => cdM v53 (q6 .ret m (puts s8 [(56, (s8 5)), (57, v53), (58, (s8 3)), (2, (s8 3))]) h9) (d_feed_Merge_10 s8 h9 q6 m v53)
def d_feed_Merge_2 (s4 : Env) (m : List Nat) (h5 : Heap) (q6 : Post) : Prop := seqM (fun q7 => d_feed_Merge_3 s4 m h5 q7) (fun m s8 h9 => d_feed_Merge_9 s8 q6 m h9) (blkM 1 q6)
def d_feed_Merge_1 (x0 v1 v2 : Value) (h3 : Heap) (K : Value → Heap → Prop) : Prop := loopM (fun m s4 h5 q6 => d_feed_Merge_2 s4 m h5 q6) [] (puts (envOf [x0]) [(2, (Value.slice none 0 0)), (3, (Value.slice none 0 0)), (7, x0), (8, v1), (9, v2), (4, v2)]) h3 (blkM 0 (retM P [.tmp 2] K))
def d_feed_Merge (x0 : Value) (h : Heap) (K : Value → Heap → Prop) : Prop := ov (lnV 7 x0) fun v1 => vvM P (Instr.makeSlice ty_Sl_int v1 v1) h fun v2 h3 => d_feed_Merge_1 x0 v1 v2 h3 K
theorem e_feed_Merge {x0 : Value} {h : Heap} {K : Value → Heap → Prop} (hd : d_feed_Merge x0 h K) : callM P fn_feed_Merge #[x0] h K :=
  call_of good mixed (fn := Tryz.f142) (args := [x0]) Tryz.func142 rfl (by kernel_rfl) (of_decide_eq_true rfl) (B := d_feed_Merge x0 h K) (by kernel_rfl) hd
def d_model_Right_1 (v5 v1 : Value) (h6 : Heap) (K : Value → Heap → Prop) : Prop := gM (isB v5 true) (fun k9 => ov (faV (some 1) v1) fun v10 => k9 v10 h6) h6 fun v7 h8 => gM (isB v5 true) (fun k13 => ov (ldV (some none) v7 h8) fun v14 => k13 v14 h8) h8 fun v11 h12 => gM (isB v5 true) (fun k17 => callM P fn_model_within #[v11, (Value.int IntKind.i64 1), (Value.int IntKind.i64 8)] h12 fun v18 h19 => k17 v18 h19) h12 fun v15 h16 => ov (pkV v5 v15 (Value.bool false)) fun v20 => gM (isB v20 true) (fun k23 => ov (faV (some 2) v1) fun v24 => k23 v24 h16) h16 fun v21 h22 => gM (isB v20 true) (fun k27 => ov (ldV (some none) v21 h22) fun v28 => k27 v28 h22) h22 fun v25 h26 => gM (isB v20 true) (fun k31 => callM P fn_model_within #[v25, (Value.int IntKind.i64 1), (Value.int IntKind.i64 16)] h26 fun v32 h33 => k31 v32 h33) h26 fun v29 h30 => ov (pkV v20 v29 (Value.bool false)) fun v34 => gM (isB v34 true) (fun k37 => ov (faV (some 3) v1) fun v38 => k37 v38 h30) h30 fun v35 h36 => gM (isB v34 true) (fun k41 => ov (ldV (some none) v35 h36) fun v42 => k41 v42 h36) h36 fun v39 h40 => gM (isB v34 true) (fun k45 => callM P fn_model_within #[v39, (Value.int IntKind.i64 1), (Value.int IntKind.i64 8)] h40 fun v46 h47 => k45 v46 h47) h40 fun v43 h44 => ov (pkV v34 v43 (Value.bool false)) fun v48 => gM (isB v48 true) (fun k51 => ov (faV (some 4) v1) fun v52 => k51 v52 h44) h44 fun v49 h50 => gM (isB v48 true) (fun k55 => ov (ldV (some none) v49 h50) fun v56 => k55 v56 h50) h50 fun v53 h54 => gM (isB v48 true) (fun k59 => callM P fn_model_within #[v53, (Value.int IntKind.i64 0), (Value.int IntKind.i64 4)] h54 fun v60 h61 => k59 v60 h61) h54 fun v57 h58 => ov (pkV v48 v57 (Value.bool false)) fun v62 => K v62 h58
def d_model_Right (x0 : Value) (h : Heap) (K : Value → Heap → Prop) : Prop := nwM (some x0.cells) ty_api_Config h fun v1 h2 => ov (faV (some 0) v1) fun v3 => ov (ldV (some none) v3 h2) fun v4 => callM P fn_model_within #[v4, (Value.int IntKind.i64 1), (Value.int IntKind.i64 8)] h2 fun v5 h6 => d_model_Right_1 v5 v1 h6 K
theorem e_model_Right {x0 : Value} {h : Heap} {K : Value → Heap → Prop} (hd : d_model_Right x0 h K) : callM P fn_model_Right #[x0] h K :=
  call_of good mixed (fn := Tryz.f143) (args := [x0]) Tryz.func143 rfl (by kernel_rfl) (of_decide_eq_true rfl) (B := d_model_Right x0 h K) (by kernel_rfl) hd
def d_cell_New (x0 : Value) (h : Heap) (K : Value → Heap → Prop) : Prop := nwM (zc P ty_cell_Cell) ty_cell_Cell h fun v1 h2 => ov (binV BinOp.andNot 2 true x0 (Value.int IntKind.u64 1)) fun v3 => ov (bdV (binf P ty_cell_Cell) [(1, v3)]) fun v4 => stM (some 2) v1 v4 h2 fun h5 => ov (ldV (some (some 2)) v1 h5) fun v6 => K v6 h5
theorem e_cell_New {x0 : Value} {h : Heap} {K : Value → Heap → Prop} (hd : d_cell_New x0 h K) : callM P fn_cell_New #[x0] h K :=
  call_of good mixed (fn := Tryz.f144) (args := [x0]) Tryz.func144 rfl (by kernel_rfl) (of_decide_eq_true rfl) (B := d_cell_New x0 h K) (by kernel_rfl) hd
def d_feed_New_4 (v12 : Value) (s7 : Env) (v13 : Value) (h14 : Heap) (q9 : Post) (m : List Nat) (v10 v11 : Value) : Prop := ov (iaV (some (some 8, 1)) v12 (s7 7)) fun v15 => stM (some 1) v15 v13 h14 fun h16 => ov (binV BinOp.add 2 true (s7 7) (Value.int IntKind.i64 1)) fun v17 => q9 .normal m (puts s7 [(8, v10), (9, (s7 7)), (4, (s7 7)), (10, (s7 3)), (11, (s7 7)), (12, (s7 0)), (14, v11), (15, v12), (13, v13), (16, v15), (17, v17), (7, v17)]) h16
def d_feed_New_3 (s7 : Env) (h8 : Heap) (q9 : Post) (m : List Nat) (v10 : Value) : Prop := ov (ncV (s7 3)) fun v11 => ov (faV (some 2) v11) fun v12 => callM P fn_ring_New_api_Event #[(s7 0)] h8 fun v13 h14 => d_feed_New_4 v12 s7 v13 h14 q9 m v10 v11
def d_feed_New_2 (s7 : Env) (h8 : Heap) (q9 : Post) (m : List Nat) : Prop := ov (binV BinOp.lss 2 true (s7 7) (Value.int IntKind.i64 8)) fun v10 => cdM v10 (d_feed_New_3 s7 h8 q9 m v10) (q9 (.exit 0) m (puts s7 [(8, v10)]) h8)
def d_feed_New_1 (x0 v1 v2 : Value) (h3 : Heap) (q4 : Post) : Prop := loopM (fun m s7 h8 q9 => d_feed_New_2 s7 h8 q9 m) [] (puts (envOf [x0]) [(2, (Value.pointer none)), (5, v1), (6, v2), (3, v2), (7, (Value.int IntKind.i64 0))]) h3 (blkM 0 q4)
def d_feed_New (x0 : Value) (h : Heap) (K : Value → Heap → Prop) : Prop := ov (bdV (binf P ty_feed_Feed) []) fun v1 => nwM (some v1.cells) ty_feed_Feed h fun v2 h3 => seqM (fun q4 => d_feed_New_1 x0 v1 v2 h3 q4) (fun m s5 h6 => (retM P [.tmp 2] K) .ret m (puts s5 [(18, (s5 3)), (2, (s5 3))]) h6) (retM P [.tmp 2] K)
theorem e_feed_New {x0 : Value} {h : Heap} {K : Value → Heap → Prop} (hd : d_feed_New x0 h K) : callM P fn_feed_New #[x0] h K :=
  call_of good mixed (fn := Tryz.f145) (args := [x0]) Tryz.func145 rfl (by kernel_rfl) (of_decide_eq_true rfl) (B := d_feed_New x0 h K) (by kernel_rfl) hd
def d_heed_Proc_add (x0 x1 x2 : Value) (h : Heap) (K : Value → Heap → Prop) : Prop := ov (ncV x0) fun v1 => ov (faV (some 1) v1) fun v2 => ov (ldV (some none) v2 h) fun v3 => ov (bdV (binf P ty_heed_act) [(0, x1), (1, x2)]) fun v4 => bsM (bsI P ty_Sl_heed_act) 1 [(0, v4)] h fun v5 h6 => vvM P (Builtin.append_ #[ty_Sl_heed_act, ty_Sl_heed_act] ty_Sl_heed_act #[v3, v5]) h6 fun v7 h8 => ov (ncV x0) fun v9 => ov (faV (some 1) v9) fun v10 => stM (some 1) v10 v7 h8 fun h11 => K (.tuple #[]) h11
theorem e_heed_Proc_add {x0 x1 x2 : Value} {h : Heap} {K : Value → Heap → Prop} (hd : d_heed_Proc_add x0 x1 x2 h K) : callM P fn_heed_Proc_add #[x0, x1, x2] h K :=
  call_of good mixed (fn := Tryz.f147) (args := [x0, x1, x2]) Tryz.func147 rfl (by kernel_rfl) (of_decide_eq_true rfl) (B := d_heed_Proc_add x0 x1 x2 h K) (by kernel_rfl) hd
def d_heed_New_c1 (x0 x1 : Value) (h : Heap) (K : Value → Heap → Prop) : Prop := ov (ldV (some none) x1 h) fun v1 => ov (ncV v1) fun v2 => ov (faV (some 6) v2) fun v3 => ov (faV (some 0) v3) fun v4 => stM (some 1) v4 (Value.int IntKind.i64 1) h fun h5 => K (Value.bool true) h5
theorem e_heed_New_c1 {x0 x1 : Value} {h : Heap} {K : Value → Heap → Prop} (hd : d_heed_New_c1 x0 x1 h K) : callM P fn_heed_New_c1 #[x0, x1] h K :=
  call_of good mixed (fn := Tryz.f148) (args := [x0, x1]) Tryz.func148 rfl (by kernel_rfl) (of_decide_eq_true rfl) (B := d_heed_New_c1 x0 x1 h K) (by kernel_rfl) hd
def d_heed_Proc_poll_6 (s21 : Env) (q23 : Post) (m : List Nat) (v24 v25 v26 v27 : Value) (h28 : Heap) : Prop := ov (binV BinOp.add 2 true (s21 17) (Value.int IntKind.i64 1)) fun v29 => q23 .normal m (puts s21 [(18, v24), (19, (s21 17)), (8, (s21 17)), (20, v25), (21, v26), (22, (s21 17)), (23, v27), (24, v29), (17, v29)]) h28
def d_heed_Proc_poll_5 (s21 : Env) (h22 : Heap) (q23 : Post) (m : List Nat) (v24 : Value) : Prop := ov (ldV (some none) (s21 3) h22) fun v25 => ov (ldV (some none) (s21 5) h22) fun v26 => callM P fn_heed_Proc_locked #[v25, v26, (s21 17)] h22 fun v27 h28 => d_heed_Proc_poll_6 s21 q23 m v24 v25 v26 v27 h28
def d_heed_Proc_poll_4 (s21 : Env) (h22 : Heap) (q23 : Post) (m : List Nat) : Prop := ov (binV BinOp.lss 2 false (s21 17) (s21 16)) fun v24 => cdM v24 (d_heed_Proc_poll_5 s21 h22 q23 m v24) (q23 (.exit 0) m (puts s21 [(18, v24)]) h22)
def d_heed_Proc_poll_3 (v8 : Value) (h16 : Heap) (x0 x1 x2 v1 v3 v5 v7 v11 v12 v14 : Value) (q17 : Post) : Prop := ov (ldV (some none) v8 h16) fun v20 => loopM (fun m s21 h22 q23 => d_heed_Proc_poll_4 s21 h22 q23 m) [] (puts (envOf [x0, x1, x2]) [(3, v1), (5, v3), (11, x1), (12, v5), (13, v7), (6, v8), (14, v11), (15, v12), (7, v14), (16, v20), (17, (Value.int IntKind.i64 0))]) h16 (blkM 0 q17)
def d_heed_Proc_poll_12 (s38 : Env) (q40 : Post) (m : List Nat) (v41 v42 v45 v46 v47 : Value) (h48 : Heap) : Prop := ov (binV BinOp.add 2 true (s38 29) (Value.int IntKind.i64 1)) fun v49 => q40 .normal m (puts s38 [(30, v41), (31, (s38 29)), (9, v42), (32, v45), (33, v46), (34, v47), (35, v49), (29, v49)]) h48
def d_heed_Proc_poll_11 (h39 : Heap) (s38 : Env) (q40 : Post) (m : List Nat) (v41 : Value) : Prop := nwM (zc P ty_int) ty_int h39 fun v42 h43 => stM (some 1) v42 (s38 29) h43 fun h44 => ov (ldV (some none) (s38 3) h44) fun v45 => ov ((some (.func (Fn.func fn_heed_Proc_poll_c1) #[] #[(s38 5), v42, (s38 7), (s38 3)]) : Option Value)) fun v46 => callM P fn_heed_Proc_plain #[v45, v46] h44 fun v47 h48 => d_heed_Proc_poll_12 s38 q40 m v41 v42 v45 v46 v47 h48
def d_heed_Proc_poll_10 (s38 : Env) (h39 : Heap) (q40 : Post) (m : List Nat) : Prop := ov (binV BinOp.lss 2 false (s38 29) (s38 28)) fun v41 => cdM v41 (d_heed_Proc_poll_11 h39 s38 q40 m v41) (q40 (.exit 2) m (puts s38 [(30, v41)]) h39)
def d_heed_Proc_poll_9 (s18 : Env) (h33 : Heap) (m : List Nat) (v30 v31 v32 : Value) (q34 : Post) : Prop := ov (ldV (some none) (s18 6) h33) fun v37 => loopM (fun m s38 h39 q40 => d_heed_Proc_poll_10 s38 h39 q40 m) m (puts s18 [(25, v30), (26, v31), (27, v32), (28, v37), (29, (Value.int IntKind.i64 0))]) h33 (blkM 2 q34)
def d_heed_Proc_poll_16 (s51 : Env) (q53 : Post) (m : List Nat) (v54 v55 v58 v59 v60 : Value) (h61 : Heap) : Prop := ov (binV BinOp.add 2 true (s51 37) (Value.int IntKind.i64 1)) fun v62 => q53 .normal m (puts s51 [(38, v54), (39, (s51 37)), (10, v55), (40, v58), (41, v59), (42, v60), (43, v62), (37, v62)]) h61
def d_heed_Proc_poll_15 (h52 : Heap) (s51 : Env) (q53 : Post) (m : List Nat) (v54 : Value) : Prop := nwM (zc P ty_int) ty_int h52 fun v55 h56 => stM (some 1) v55 (s51 37) h56 fun h57 => ov (ldV (some none) (s51 3) h57) fun v58 => ov ((some (.func (Fn.func fn_heed_Proc_poll_c2) #[] #[(s51 5), v55, (s51 6), (s51 7), (s51 3)]) : Option Value)) fun v59 => callM P fn_heed_Proc_plain #[v58, v59] h57 fun v60 h61 => d_heed_Proc_poll_16 s51 q53 m v54 v55 v58 v59 v60 h61
def d_heed_Proc_poll_14 (s51 : Env) (h52 : Heap) (q53 : Post) (m : List Nat) : Prop := ov (binV BinOp.lss 2 false (s51 37) (s51 36)) fun v54 => cdM v54 (d_heed_Proc_poll_15 h52 s51 q53 m v54) (q53 (.exit 4) m (puts s51 [(38, v54)]) h52)
def d_heed_Proc_poll_13 (s35 : Env) (h36 : Heap) (m : List Nat) (K : Value → Heap → Prop) : Prop := ov (ldV (some none) (s35 6) h36) fun v50 => loopM (fun m s51 h52 q53 => d_heed_Proc_poll_14 s51 h52 q53 m) m (puts s35 [(36, v50), (37, (Value.int IntKind.i64 0))]) h36 (blkM 4 (retM P [] K))
def d_heed_Proc_poll_8 (s18 : Env) (h33 : Heap) (m : List Nat) (v30 v31 v32 : Value) (K : Value → Heap → Prop) : Prop := seqM (fun q34 => d_heed_Proc_poll_9 s18 h33 m v30 v31 v32 q34) (fun m s35 h36 => d_heed_Proc_poll_13 s35 h36 m K) (retM P [] K)
def d_heed_Proc_poll_7 (s18 : Env) (h19 : Heap) (m : List Nat) (K : Value → Heap → Prop) : Prop := ov (ldV (some none) (s18 3) h19) fun v30 => ov (ldV (some none) (s18 5) h19) fun v31 => callM P fn_heed_Proc_look #[v30, v31] h19 fun v32 h33 => d_heed_Proc_poll_8 s18 h33 m v30 v31 v32 K
def d_heed_Proc_poll_2 (h13 : Heap) (v12 v8 x0 x1 x2 v1 v3 v5 v7 v11 : Value) (K : Value → Heap → Prop) : Prop := nwM (zc P ty_Sl_Sl_api_Event) ty_Sl_Sl_api_Event h13 fun v14 h15 => stM (some 1) v14 v12 h15 fun h16 => seqM (fun q17 => d_heed_Proc_poll_3 v8 h16 x0 x1 x2 v1 v3 v5 v7 v11 v12 v14 q17) (fun m s18 h19 => d_heed_Proc_poll_7 s18 h19 m K) (retM P [] K)
def d_heed_Proc_poll_1 (v5 : Value) (h6 : Heap) (x0 x1 x2 v1 v3 : Value) (K : Value → Heap → Prop) : Prop := ov (fdV (some (none, 0)) v5) fun v7 => nwM (zc P ty_int) ty_int h6 fun v8 h9 => stM (some 1) v8 v7 h9 fun h10 => ov (ldV (some none) v8 h10) fun v11 => vvM P (Instr.makeSlice ty_Sl_Sl_api_Event v11 v11) h10 fun v12 h13 => d_heed_Proc_poll_2 h13 v12 v8 x0 x1 x2 v1 v3 v5 v7 v11 K
def d_heed_Proc_poll (x0 x1 x2 : Value) (h : Heap) (K : Value → Heap → Prop) : Prop := nwM (some x0.cells) ty_Ptr_heed_Proc h fun v1 h2 => nwM (some x2.cells) ty_int h2 fun v3 h4 => callM P fn_hall_Hall_Config #[x1] h4 fun v5 h6 => d_heed_Proc_poll_1 v5 h6 x0 x1 x2 v1 v3 K
theorem e_heed_Proc_poll {x0 x1 x2 : Value} {h : Heap} {K : Value → Heap → Prop} (hd : d_heed_Proc_poll x0 x1 x2 h K) : callM P fn_heed_Proc_poll #[x0, x1, x2] h K :=
  call_of good mixed (fn := Tryz.f149) (args := [x0, x1, x2]) Tryz.func149 rfl (by kernel_rfl) (of_decide_eq_true rfl) (B := d_heed_Proc_poll x0 x1 x2 h K) (by kernel_rfl) hd
def d_heed_New_c2_3 (x2 : Value) (h6 : Heap) (q1 : Post) (x0 x1 v4 v5 v7 : Value) : Prop := ov (ldV (some none) x2 h6) fun v8 => ov (ncV v8) fun v9 => ov (faV (some 6) v9) fun v10 => ov (faV (some 0) v10) fun v11 => stM (some 1) v11 (Value.int IntKind.i64 5) h6 fun h12 => q1 .normal [] (puts (envOf [x0, x1, x2]) [(4, (Value.bool false)), (5, x0), (6, v4), (7, v5), (8, v7), (9, v8), (10, v9), (11, v10), (12, v11)]) h12
def d_heed_New_c2_2 (v5 x2 : Value) (h6 : Heap) (q1 : Post) (x0 x1 v4 : Value) : Prop := ov (unV UnOp.not v5) fun v7 => cdM v7 (d_heed_New_c2_3 x2 h6 q1 x0 x1 v4 v5 v7) (q1 .normal [] (puts (envOf [x0, x1, x2]) [(4, (Value.bool false)), (5, x0), (6, v4), (7, v5), (8, v7)]) h6)
def d_heed_New_c2_1 (x1 : Value) (h : Heap) (x0 x2 : Value) (q1 : Post) : Prop := ov (ldV (some none) x1 h) fun v4 => callM P fn_hall_Hall_Shut #[x0, v4] h fun v5 h6 => d_heed_New_c2_2 v5 x2 h6 q1 x0 x1 v4
def d_heed_New_c2 (x0 x1 x2 : Value) (h : Heap) (K : Value → Heap → Prop) : Prop := seqM (fun q1 => d_heed_New_c2_1 x1 h x0 x2 q1) (fun m s2 h3 => (retM P [.tmp 4] K) .ret m (puts s2 [(4, (Value.bool true))]) h3) (retM P [.tmp 4] K)
theorem e_heed_New_c2 {x0 x1 x2 : Value} {h : Heap} {K : Value → Heap → Prop} (hd : d_heed_New_c2 x0 x1 x2 h K) : callM P fn_heed_New_c2 #[x0, x1, x2] h K :=
  call_of good mixed (fn := Tryz.f150) (args := [x0, x1, x2]) Tryz.func150 rfl (by kernel_rfl) (of_decide_eq_true rfl) (B := d_heed_New_c2 x0 x1 x2 h K) (by kernel_rfl) hd
def d_heed_Proc_watch_4 (v1 : Value) (h34 : Heap) (v5 v13 : Value) (K : Value → Heap → Prop) : Prop := ov (ldV (some none) v1 h34) fun v35 => ov ((some (.func (Fn.func fn_heed_Proc_watch_c2) #[] #[v5, v13]) : Option Value)) fun v36 => callM P fn_heed_Proc_plain #[v35, v36] h34 fun v37 h38 => K (.tuple #[]) h38
def d_heed_Proc_watch_3 (v1 : Value) (h30 : Heap) (v19 v3 v7 v5 v13 : Value) (K : Value → Heap → Prop) : Prop := ov (ldV (some none) v1 h30) fun v31 => ov ((some (.func (Fn.func fn_heed_Proc_watch_c1) #[] #[v1, v19, v3, v7, v5, v13]) : Option Value)) fun v32 => callM P fn_heed_Proc_plain #[v31, v32] h30 fun v33 h34 => d_heed_Proc_watch_4 v1 h34 v5 v13 K
def d_heed_Proc_watch_2 (v1 : Value) (h26 : Heap) (v5 v19 v3 v7 v13 : Value) (K : Value → Heap → Prop) : Prop := ov (ldV (some none) v1 h26) fun v27 => ov (ldV (some none) v5 h26) fun v28 => callM P fn_heed_Proc_look #[v27, v28] h26 fun v29 h30 => d_heed_Proc_watch_3 v1 h30 v19 v3 v7 v5 v13 K
def d_heed_Proc_watch_1 (h12 : Heap) (v11 v7 v1 v5 v3 : Value) (K : Value → Heap → Prop) : Prop := nwM (zc P ty_int) ty_int h12 fun v13 h14 => stM (some 1) v13 v11 h14 fun h15 => ov (faV (some 0) v7) fun v16 => ov (ldV (some none) v16 h15) fun v17 => ov (binV BinOp.eql 2 true v17 (Value.int IntKind.i64 6)) fun v18 => nwM (zc P ty_bool) ty_bool h15 fun v19 h20 => stM (some 1) v19 v18 h20 fun h21 => ov (ldV (some none) v1 h21) fun v22 => ov (ldV (some none) v5 h21) fun v23 => ov (ldV (some none) v13 h21) fun v24 => callM P fn_heed_Proc_locked #[v22, v23, v24] h21 fun v25 h26 => d_heed_Proc_watch_2 v1 h26 v5 v19 v3 v7 v13 K
def d_heed_Proc_watch (x0 x1 x2 x3 x4 : Value) (h : Heap) (K : Value → Heap → Prop) : Prop := nwM (some x0.cells) ty_Ptr_heed_Proc h fun v1 h2 => nwM (some x2.cells) ty_Ptr_heed_Mine h2 fun v3 h4 => nwM (some x3.cells) ty_int h4 fun v5 h6 => nwM (some x4.cells) ty_api_Op h6 fun v7 h8 => ov (faV (some 1) v7) fun v9 => ov (ldV (some none) v9 h8) fun v10 => callM P fn_hall_Hall_Stripe #[x1, v10] h8 fun v11 h12 => d_heed_Proc_watch_1 h12 v11 v7 v1 v5 v3 K
theorem e_heed_Proc_watch {x0 x1 x2 x3 x4 : Value} {h : Heap} {K : Value → Heap → Prop} (hd : d_heed_Proc_watch x0 x1 x2 x3 x4 h K) : callM P fn_heed_Proc_watch #[x0, x1, x2, x3, x4] h K :=
  call_of good mixed (fn := Tryz.f151) (args := [x0, x1, x2, x3, x4]) Tryz.func151 rfl (by kernel_rfl) (of_decide_eq_true rfl) (B := d_heed_Proc_watch x0 x1 x2 x3 x4 h K) (by kernel_rfl) hd
def d_heed_moment_took (x0 x1 : Value) (h : Heap) (K : Value → Heap → Prop) : Prop := ov (ncV x0) fun v1 => ov (faV (some 0) v1) fun v2 => stM (some 1) v2 x1 h fun h3 => K (.tuple #[]) h3
theorem e_heed_moment_took {x0 x1 : Value} {h : Heap} {K : Value → Heap → Prop} (hd : d_heed_moment_took x0 x1 h K) : callM P fn_heed_moment_took #[x0, x1] h K :=
  call_of good mixed (fn := Tryz.f152) (args := [x0, x1]) Tryz.func152 rfl (by kernel_rfl) (of_decide_eq_true rfl) (B := d_heed_moment_took x0 x1 h K) (by kernel_rfl) hd
def d_hall_Hall_did (x0 x1 x2 x3 : Value) (h : Heap) (K : Value → Heap → Prop) : Prop := ov (ncV x0) fun v1 => ov (faV (some 11) v1) fun v2 => ov (ldV (some none) v2 h) fun v3 => ov (bdV (binf P ty_api_Act) [(0, x1), (1, x2), (2, x3)]) fun v4 => bsM (bsI P ty_Sl_api_Act) 1 [(0, v4)] h fun v5 h6 => vvM P (Builtin.append_ #[ty_Sl_api_Act, ty_Sl_api_Act] ty_Sl_api_Act #[v3, v5]) h6 fun v7 h8 => ov (ncV x0) fun v9 => ov (faV (some 11) v9) fun v10 => stM (some 1) v10 v7 h8 fun h11 => K (.tuple #[]) h11
theorem e_hall_Hall_did {x0 x1 x2 x3 : Value} {h : Heap} {K : Value → Heap → Prop} (hd : d_hall_Hall_did x0 x1 x2 x3 h K) : callM P fn_hall_Hall_did #[x0, x1, x2, x3] h K :=
  call_of good mixed (fn := Tryz.f153) (args := [x0, x1, x2, x3]) Tryz.func153 rfl (by kernel_rfl) (of_decide_eq_true rfl) (B := d_hall_Hall_did x0 x1 x2 x3 h K) (by kernel_rfl) hd
def d_hall_Place (x0 x1 : Value) (h : Heap) (K : Value → Heap → Prop) : Prop := ov (binV BinOp.mul 2 true (Value.int IntKind.i64 4) x0) fun v1 => ov (binV BinOp.add 2 false v1 x1) fun v2 => K v2 h
theorem e_hall_Place {x0 x1 : Value} {h : Heap} {K : Value → Heap → Prop} (hd : d_hall_Place x0 x1 h K) : callM P fn_hall_Place #[x0, x1] h K :=
  call_of good mixed (fn := Tryz.f154) (args := [x0, x1]) Tryz.func154 rfl (by kernel_rfl) (of_decide_eq_true rfl) (B := d_hall_Place x0 x1 h K) (by kernel_rfl) hd
def d_feed_Feed_Count_2 (v12 x0 x1 v1 v3 v9 v10 v11 : Value) (h13 : Heap) (q6 : Post) : Prop := rfM P gd v12 #[13, 14] (rfA P fn_feed_Feed_Count 0) (rfB P fn_feed_Feed_Count 0) [] (puts (envOf [x0, x1]) [(3, v1), (4, (Value.int IntKind.i64 0)), (5, v3), (8, x0), (9, v9), (10, v10), (11, v11), (12, v12)]) h13 (blkM 0 q6)
def d_feed_Feed_Count_1 (x0 : Value) (h5 : Heap) (x1 v1 v3 : Value) (q6 : Post) : Prop := ov (ncV x0) fun v9 => ov (faV (some 0) v9) fun v10 => ov (ldV (some (some 2)) v10 h5) fun v11 => callM P fn_omap_Map_string_uint32_All #[v11] h5 fun v12 h13 => d_feed_Feed_Count_2 v12 x0 x1 v1 v3 v9 v10 v11 h13 q6
def d_feed_Feed_Count (x0 x1 : Value) (h : Heap) (K : Value → Heap → Prop) : Prop := nwM (some x1.cells) ty_int h fun v1 h2 => nwM (zc P ty_int) ty_int h2 fun v3 h4 => stM (some 1) v3 (Value.int IntKind.i64 0) h4 fun h5 => seqM (fun q6 => d_feed_Feed_Count_1 x0 h5 x1 v1 v3 q6) (fun m s7 h8 => ov (ldV (some none) (s7 5) h8) fun v14 => (retM P [.tmp 4] K) .ret m (puts s7 [(26, v14), (4, v14)]) h8) (retM P [.tmp 4] K)
theorem e_feed_Feed_Count {x0 x1 : Value} {h : Heap} {K : Value → Heap → Prop} (hd : d_feed_Feed_Count x0 x1 h K) : callM P fn_feed_Feed_Count #[x0, x1] h K :=
  call_of good mixed (fn := Tryz.f155) (args := [x0, x1]) Tryz.func155 rfl (by kernel_rfl) (of_decide_eq_true rfl) (B := d_feed_Feed_Count x0 x1 h K) (by kernel_rfl) hd
def da_feed_Feed_Count_0 (m : List Nat) (s : Env) (h : Heap) (Q : Post) : Prop := Q .normal m (puts s [(7, (s 14))]) h
theorem ea_feed_Feed_Count_0 {m : List Nat} {s : Env} {h : Heap} {Q : Post} : den P gd (rfA P fn_feed_Feed_Count 0) m s h Q = da_feed_Feed_Count_0 m s h Q := by kernel_rfl
def db_feed_Feed_Count_0 (m : List Nat) (s : Env) (h : Heap) (Q : Post) : Prop := ov (ldV (some none) (s 3) h) fun v1 => callM P fn_feed_client #[v1] h fun v2 h3 => gM (isB v2 true) (fun k6 => k6 (s 7) h3) h3 fun v4 h5 => gM (isB v2 true) (fun k9 => ov (ldV (some none) (s 3) h5) fun v10 => k9 v10 h5) h5 fun v7 h8 => gM (isB v2 true) (fun k13 => ov (binV BinOp.shr 2 false v4 v7) fun v14 => k13 v14 h8) h8 fun v11 h12 => gM (isB v2 true) (fun k17 => ov (binV BinOp.and 2 true v11 (Value.int IntKind.u32 1)) fun v18 => k17 v18 h12) h12 fun v15 h16 => gM (isB v2 true) (fun k21 => ov (binV BinOp.eql 2 true v15 (Value.int IntKind.u32 1)) fun v22 => k21 v22 h16) h16 fun v19 h20 => ov (pkV v2 v19 (Value.bool false)) fun v23 => cdM v23 (ov (ldV (some none) (s 5) h20) fun v24 => ov (binV BinOp.add 2 true v24 (Value.int IntKind.i64 1)) fun v25 => stM (some 1) (s 5) v25 h20 fun h26 => Q .normal m (puts s [(15, v1), (16, v2), (17, v2), (18, v4), (19, v7), (20, v11), (21, v15), (22, v19), (23, v23), (24, v24), (25, v25)]) h26) (Q .normal m (puts s [(15, v1), (16, v2), (17, v2), (18, v4), (19, v7), (20, v11), (21, v15), (22, v19), (23, v23)]) h20)
theorem eb_feed_Feed_Count_0 {m : List Nat} {s : Env} {h : Heap} {Q : Post} : den P gd (rfB P fn_feed_Feed_Count 0) m s h Q = db_feed_Feed_Count_0 m s h Q := by kernel_rfl
end Go.Proofs.YtcnphhhcknhhaaaGreat
namespace Go.Proofs.YtcnphhhcknhhaaaGreat
open Go Go.Den
set_option maxRecDepth 100000
set_option linter.unusedVariables false
def d_feed_Feed_Watching_2 (v8 v6 : Value) (h9 : Heap) (x1 : Value) (K : Value → Heap → Prop) : Prop := gM (isB v8 true) (fun k12 => k12 v6 h9) h9 fun v10 h11 => gM (isB v8 true) (fun k15 => k15 x1 h11) h11 fun v13 h14 => gM (isB v8 true) (fun k18 => ov (binV BinOp.shr 2 false v10 v13) fun v19 => k18 v19 h14) h14 fun v16 h17 => gM (isB v8 true) (fun k22 => ov (binV BinOp.and 2 true v16 (Value.int IntKind.u32 1)) fun v23 => k22 v23 h17) h17 fun v20 h21 => gM (isB v8 true) (fun k26 => ov (binV BinOp.eql 2 true v20 (Value.int IntKind.u32 1)) fun v27 => k26 v27 h21) h21 fun v24 h25 => ov (pkV v8 v24 (Value.bool false)) fun v28 => K v28 h25
def d_feed_Feed_Watching_1 (v4 x1 : Value) (h5 : Heap) (K : Value → Heap → Prop) : Prop := ov (exV v4 0) fun v6 => ov (exV v4 1) fun v7 => callM P fn_feed_client #[x1] h5 fun v8 h9 => d_feed_Feed_Watching_2 v8 v6 h9 x1 K
def d_feed_Feed_Watching (x0 x1 x2 : Value) (h : Heap) (K : Value → Heap → Prop) : Prop := ov (ncV x0) fun v1 => ov (faV (some 0) v1) fun v2 => ov (ldV (some (some 2)) v2 h) fun v3 => callM P fn_omap_Map_string_uint32_Get #[v3, x2] h fun v4 h5 => d_feed_Feed_Watching_1 v4 x1 h5 K
theorem e_feed_Feed_Watching {x0 x1 x2 : Value} {h : Heap} {K : Value → Heap → Prop} (hd : d_feed_Feed_Watching x0 x1 x2 h K) : callM P fn_feed_Feed_Watching #[x0, x1, x2] h K :=
  call_of good mixed (fn := Tryz.f156) (args := [x0, x1, x2]) Tryz.func156 rfl (by kernel_rfl) (of_decide_eq_true rfl) (B := d_feed_Feed_Watching x0 x1 x2 h K) (by kernel_rfl) hd
def d_hash_Stripe_1 (x0 : Value) (h : Heap) (x1 : Value) (K : Value → Heap → Prop) : Prop := callM P fn_hash_Of #[x0] h fun v2 h3 => ov (cvV (some .u64) x1) fun v4 => ov (binV BinOp.rem 2 false v2 v4) fun v5 => ov (cvV (some .i64) v5) fun v6 => K v6 h3
def d_hash_Stripe (x0 x1 : Value) (h : Heap) (K : Value → Heap → Prop) : Prop := ov (binV BinOp.lss 2 true x1 (Value.int IntKind.i64 1)) fun v1 => cdM v1 (K (Value.int IntKind.i64 0) h) (d_hash_Stripe_1 x0 h x1 K)
theorem e_hash_Stripe {x0 x1 : Value} {h : Heap} {K : Value → Heap → Prop} (hd : d_hash_Stripe x0 x1 h K) : callM P fn_hash_Stripe #[x0, x1] h K :=
  call_of good mixed (fn := Tryz.f157) (args := [x0, x1]) Tryz.func157 rfl (by kernel_rfl) (of_decide_eq_true rfl) (B := d_hash_Stripe x0 x1 h K) (by kernel_rfl) hd
def d_hash_Right (x0 : Value) (h : Heap) (K : Value → Heap → Prop) : Prop := ov (binV BinOp.neq 3 true x0 (Value.string { data := #[] })) fun v1 => gM (isB v1 true) (fun k4 => k4 x0 h) h fun v2 h3 => gM (isB v1 true) (fun k7 => ov (lnV 3 v2) fun v8 => k7 v8 h3) h3 fun v5 h6 => gM (isB v1 true) (fun k11 => ov (binV BinOp.leq 2 true v5 (Value.int IntKind.i64 16)) fun v12 => k11 v12 h6) h6 fun v9 h10 => ov (pkV v1 v9 (Value.bool false)) fun v13 => K v13 h10
theorem e_hash_Right {x0 : Value} {h : Heap} {K : Value → Heap → Prop} (hd : d_hash_Right x0 h K) : callM P fn_hash_Right #[x0] h K :=
  call_of good mixed (fn := Tryz.f158) (args := [x0]) Tryz.func158 rfl (by kernel_rfl) (of_decide_eq_true rfl) (B := d_hash_Right x0 h K) (by kernel_rfl) hd
def d_sess_Right (x0 x1 x2 : Value) (h : Heap) (K : Value → Heap → Prop) : Prop := ov (binV BinOp.geq 2 true x0 (Value.int IntKind.i64 0)) fun v1 => gM (isB v1 true) (fun k4 => k4 x0 h) h fun v2 h3 => gM (isB v1 true) (fun k7 => ov (binV BinOp.leq 2 true v2 (Value.int IntKind.i64 255)) fun v8 => k7 v8 h3) h3 fun v5 h6 => ov (pkV v1 v5 (Value.bool false)) fun v9 => gM (isB v9 true) (fun k12 => k12 x1 h6) h6 fun v10 h11 => gM (isB v9 true) (fun k15 => ov (binV BinOp.geq 2 true v10 (Value.int IntKind.i64 1)) fun v16 => k15 v16 h11) h11 fun v13 h14 => ov (pkV v9 v13 (Value.bool false)) fun v17 => gM (isB v17 true) (fun k20 => k20 x1 h14) h14 fun v18 h19 => gM (isB v17 true) (fun k23 => ov (binV BinOp.leq 2 true v18 (Value.int IntKind.i64 9)) fun v24 => k23 v24 h19) h19 fun v21 h22 => ov (pkV v17 v21 (Value.bool false)) fun v25 => gM (isB v25 true) (fun k28 => k28 x2 h22) h22 fun v26 h27 => gM (isB v25 true) (fun k31 => ov (binV BinOp.geq 2 true v26 (Value.int IntKind.i64 0)) fun v32 => k31 v32 h27) h27 fun v29 h30 => ov (pkV v25 v29 (Value.bool false)) fun v33 => gM (isB v33 true) (fun k36 => k36 x2 h30) h30 fun v34 h35 => gM (isB v33 true) (fun k39 => ov (binV BinOp.leq 2 true v34 (Value.int IntKind.i64 9)) fun v40 => k39 v40 h35) h35 fun v37 h38 => ov (pkV v33 v37 (Value.bool false)) fun v41 => K v41 h38
theorem e_sess_Right {x0 x1 x2 : Value} {h : Heap} {K : Value → Heap → Prop} (hd : d_sess_Right x0 x1 x2 h K) : callM P fn_sess_Right #[x0, x1, x2] h K :=
  call_of good mixed (fn := Tryz.f159) (args := [x0, x1, x2]) Tryz.func159 rfl (by kernel_rfl) (of_decide_eq_true rfl) (B := d_sess_Right x0 x1 x2 h K) (by kernel_rfl) hd
def d_model_within (x0 x1 x2 : Value) (h : Heap) (K : Value → Heap → Prop) : Prop := ov (binV BinOp.geq 2 false x0 x1) fun v1 => gM (isB v1 true) (fun k4 => k4 x0 h) h fun v2 h3 => gM (isB v1 true) (fun k7 => k7 x2 h3) h3 fun v5 h6 => gM (isB v1 true) (fun k10 => ov (binV BinOp.leq 2 false v2 v5) fun v11 => k10 v11 h6) h6 fun v8 h9 => ov (pkV v1 v8 (Value.bool false)) fun v12 => K v12 h9
theorem e_model_within {x0 x1 x2 : Value} {h : Heap} {K : Value → Heap → Prop} (hd : d_model_within x0 x1 x2 h K) : callM P fn_model_within #[x0, x1, x2] h K :=
  call_of good mixed (fn := Tryz.f160) (args := [x0, x1, x2]) Tryz.func160 rfl (by kernel_rfl) (of_decide_eq_true rfl) (B := d_model_within x0 x1 x2 h K) (by kernel_rfl) hd
def d_hall_Hall_Lock_5 (x0 : Value) (h20 : Heap) (v11 x2 : Value) (q14 : Post) (x1 v1 v2 v3 v4 v5 v6 v7 v9 v10 v17 v19 : Value) : Prop := ov (ncV x0) fun v21 => ov (faV (some 10) v21) fun v22 => ov (ldV (some none) v22 h20) fun v23 => ov (ldV (some (some 1)) v11 h20) fun v24 => ov (iaV (some (none, 8)) v23 x2) fun v25 => ov (faV (some 0) v25) fun v26 => stM (some 1) v26 v24 h20 fun h27 => q14 .normal [] (puts (envOf [x0, x1, x2]) [(6, (Value.bool false)), (10, x0), (11, v1), (12, v2), (13, v3), (14, x2), (15, v4), (16, v5), (17, v6), (18, x1), (19, v7), (9, v7), (20, v9), (21, v10), (7, v11), (8, v10), (22, v10), (23, x0), (24, x1), (25, x2), (26, v17), (27, v19), (28, x0), (29, v21), (30, v22), (31, v23), (32, x2), (33, v24), (34, v25), (35, v26)]) h27
def d_hall_Hall_Lock_4 (x0 x1 v17 : Value) (h18 : Heap) (v11 x2 : Value) (q14 : Post) (v1 v2 v3 v4 v5 v6 v7 v9 v10 : Value) : Prop := callM P fn_hall_Hall_did #[x0, x1, (Value.int IntKind.i64 5), v17] h18 fun v19 h20 => d_hall_Hall_Lock_5 x0 h20 v11 x2 q14 x1 v1 v2 v3 v4 v5 v6 v7 v9 v10 v17 v19
def d_hall_Hall_Lock_3 (x2 : Value) (h13 : Heap) (x0 x1 v11 : Value) (q14 : Post) (v1 v2 v3 v4 v5 v6 v7 v9 v10 : Value) : Prop := callM P fn_hall_Place #[x2, (Value.int IntKind.i64 1)] h13 fun v17 h18 => d_hall_Hall_Lock_4 x0 x1 v17 h18 v11 x2 q14 v1 v2 v3 v4 v5 v6 v7 v9 v10
def d_hall_Hall_Lock_6 (q14 : Post) (x0 x1 x2 v1 v2 v3 v4 v5 v6 v7 v9 v10 v11 : Value) (h13 : Heap) : Prop := q14 .normal [] (puts (envOf [x0, x1, x2]) [(6, (Value.bool false)), (10, x0), (11, v1), (12, v2), (13, v3), (14, x2), (15, v4), (16, v5), (17, v6), (18, x1), (19, v7), (9, v7), (20, v9), (21, v10), (7, v11), (8, v10), (22, v10)]) h13
def d_hall_Hall_Lock_2 (v10 x2 : Value) (h13 : Heap) (x0 x1 v11 : Value) (q14 : Post) (v1 v2 v3 v4 v5 v6 v7 v9 : Value) : Prop := cdM v10 (d_hall_Hall_Lock_3 x2 h13 x0 x1 v11 q14 v1 v2 v3 v4 v5 v6 v7 v9 v10) (d_hall_Hall_Lock_6 q14 x0 x1 x2 v1 v2 v3 v4 v5 v6 v7 v9 v10 v11 h13)
def d_hall_Hall_Lock_1 (v7 : Value) (h8 : Heap) (x2 x0 x1 v1 v2 v3 v4 v5 v6 : Value) (K : Value → Heap → Prop) : Prop := ov (exV v7 0) fun v9 => ov (exV v7 1) fun v10 => nwM (zc P ty_latch_Latch) ty_latch_Latch h8 fun v11 h12 => stM (some 1) v11 v9 h12 fun h13 => seqM (fun q14 => d_hall_Hall_Lock_2 v10 x2 h13 x0 x1 v11 q14 v1 v2 v3 v4 v5 v6 v7 v9) (fun m s15 h16 => (retM P [.tmp 6] K) .ret m (puts s15 [(36, (s15 8)), (6, (s15 8))]) h16) (retM P [.tmp 6] K)
def d_hall_Hall_Lock (x0 x1 x2 : Value) (h : Heap) (K : Value → Heap → Prop) : Prop := ov (ncV x0) fun v1 => ov (faV (some 10) v1) fun v2 => ov (ldV (some none) v2 h) fun v3 => ov (iaV (some (none, 8)) v3 x2) fun v4 => ov (faV (some 0) v4) fun v5 => ov (ldV (some (some 1)) v5 h) fun v6 => callM P fn_latch_Latch_Take #[v6, x1] h fun v7 h8 => d_hall_Hall_Lock_1 v7 h8 x2 x0 x1 v1 v2 v3 v4 v5 v6 K
theorem e_hall_Hall_Lock {x0 x1 x2 : Value} {h : Heap} {K : Value → Heap → Prop} (hd : d_hall_Hall_Lock x0 x1 x2 h K) : callM P fn_hall_Hall_Lock #[x0, x1, x2] h K :=
  call_of good mixed (fn := Tryz.f170) (args := [x0, x1, x2]) Tryz.func170 rfl (by kernel_rfl) (of_decide_eq_true rfl) (B := d_hall_Hall_Lock x0 x1 x2 h K) (by kernel_rfl) hd
def d_hall_Hall_Unlock_5 (x0 : Value) (h20 : Heap) (v11 x2 : Value) (q14 : Post) (x1 v1 v2 v3 v4 v5 v6 v7 v9 v10 v17 v19 : Value) : Prop := ov (ncV x0) fun v21 => ov (faV (some 10) v21) fun v22 => ov (ldV (some none) v22 h20) fun v23 => ov (ldV (some (some 1)) v11 h20) fun v24 => ov (iaV (some (none, 8)) v23 x2) fun v25 => ov (faV (some 0) v25) fun v26 => stM (some 1) v26 v24 h20 fun h27 => q14 .normal [] (puts (envOf [x0, x1, x2]) [(6, (Value.bool false)), (10, x0), (11, v1), (12, v2), (13, v3), (14, x2), (15, v4), (16, v5), (17, v6), (18, x1), (19, v7), (9, v7), (20, v9), (21, v10), (7, v11), (8, v10), (22, v10), (23, x0), (24, x1), (25, x2), (26, v17), (27, v19), (28, x0), (29, v21), (30, v22), (31, v23), (32, x2), (33, v24), (34, v25), (35, v26)]) h27
def d_hall_Hall_Unlock_4 (x0 x1 v17 : Value) (h18 : Heap) (v11 x2 : Value) (q14 : Post) (v1 v2 v3 v4 v5 v6 v7 v9 v10 : Value) : Prop := callM P fn_hall_Hall_did #[x0, x1, (Value.int IntKind.i64 6), v17] h18 fun v19 h20 => d_hall_Hall_Unlock_5 x0 h20 v11 x2 q14 x1 v1 v2 v3 v4 v5 v6 v7 v9 v10 v17 v19
def d_hall_Hall_Unlock_3 (x2 : Value) (h13 : Heap) (x0 x1 v11 : Value) (q14 : Post) (v1 v2 v3 v4 v5 v6 v7 v9 v10 : Value) : Prop := callM P fn_hall_Place #[x2, (Value.int IntKind.i64 1)] h13 fun v17 h18 => d_hall_Hall_Unlock_4 x0 x1 v17 h18 v11 x2 q14 v1 v2 v3 v4 v5 v6 v7 v9 v10
def d_hall_Hall_Unlock_6 (q14 : Post) (x0 x1 x2 v1 v2 v3 v4 v5 v6 v7 v9 v10 v11 : Value) (h13 : Heap) : Prop := q14 .normal [] (puts (envOf [x0, x1, x2]) [(6, (Value.bool false)), (10, x0), (11, v1), (12, v2), (13, v3), (14, x2), (15, v4), (16, v5), (17, v6), (18, x1), (19, v7), (9, v7), (20, v9), (21, v10), (7, v11), (8, v10), (22, v10)]) h13
def d_hall_Hall_Unlock_2 (v10 x2 : Value) (h13 : Heap) (x0 x1 v11 : Value) (q14 : Post) (v1 v2 v3 v4 v5 v6 v7 v9 : Value) : Prop := cdM v10 (d_hall_Hall_Unlock_3 x2 h13 x0 x1 v11 q14 v1 v2 v3 v4 v5 v6 v7 v9 v10) (d_hall_Hall_Unlock_6 q14 x0 x1 x2 v1 v2 v3 v4 v5 v6 v7 v9 v10 v11 h13)
def d_hall_Hall_Unlock_1 (v7 : Value) (h8 : Heap) (x2 x0 x1 v1 v2 v3 v4 v5 v6 : Value) (K : Value → Heap → Prop) : Prop := ov (exV v7 0) fun v9 => ov (exV v7 1) fun v10 => nwM (zc P ty_latch_Latch) ty_latch_Latch h8 fun v11 h12 => stM (some 1) v11 v9 h12 fun h13 => seqM (fun q14 => d_hall_Hall_Unlock_2 v10 x2 h13 x0 x1 v11 q14 v1 v2 v3 v4 v5 v6 v7 v9) (fun m s15 h16 => (retM P [.tmp 6] K) .ret m (puts s15 [(36, (s15 8)), (6, (s15 8))]) h16) (retM P [.tmp 6] K)
def d_hall_Hall_Unlock (x0 x1 x2 : Value) (h : Heap) (K : Value → Heap → Prop) : Prop := ov (ncV x0) fun v1 => ov (faV (some 10) v1) fun v2 => ov (ldV (some none) v2 h) fun v3 => ov (iaV (some (none, 8)) v3 x2) fun v4 => ov (faV (some 0) v4) fun v5 => ov (ldV (some (some 1)) v5 h) fun v6 => callM P fn_latch_Latch_Give #[v6, x1] h fun v7 h8 => d_hall_Hall_Unlock_1 v7 h8 x2 x0 x1 v1 v2 v3 v4 v5 v6 K
theorem e_hall_Hall_Unlock {x0 x1 x2 : Value} {h : Heap} {K : Value → Heap → Prop} (hd : d_hall_Hall_Unlock x0 x1 x2 h K) : callM P fn_hall_Hall_Unlock #[x0, x1, x2] h K :=
  call_of good mixed (fn := Tryz.f172) (args := [x0, x1, x2]) Tryz.func172 rfl (by kernel_rfl) (of_decide_eq_true rfl) (B := d_hall_Hall_Unlock x0 x1 x2 h K) (by kernel_rfl) hd
def d_latch_Latch_Free (x0 : Value) (h : Heap) (K : Value → Heap → Prop) : Prop := nwM (some x0.cells) ty_latch_Latch h fun v1 h2 => ov (faV (some 0) v1) fun v3 => ov (ldV (some none) v3 h2) fun v4 => ov (binV BinOp.eql 2 true v4 (Value.int IntKind.i64 0)) fun v5 => K v5 h2
theorem e_latch_Latch_Free {x0 : Value} {h : Heap} {K : Value → Heap → Prop} (hd : d_latch_Latch_Free x0 h K) : callM P fn_latch_Latch_Free #[x0] h K :=
  call_of good mixed (fn := Tryz.f185) (args := [x0]) Tryz.func185 rfl (by kernel_rfl) (of_decide_eq_true rfl) (B := d_latch_Latch_Free x0 h K) (by kernel_rfl) hd
def d_hall_Hall_write_1 (x0 x1 v1 : Value) (h2 : Heap) (x2 : Value) (K : Value → Heap → Prop) : Prop := callM P fn_hall_Hall_did #[x0, x1, (Value.int IntKind.i64 2), v1] h2 fun v3 h4 => ov (ncV x0) fun v5 => ov (faV (some 10) v5) fun v6 => ov (ldV (some none) v6 h4) fun v7 => ov (iaV (some (none, 8)) v7 x2) fun v8 => K v8 h4
def d_hall_Hall_write (x0 x1 x2 : Value) (h : Heap) (K : Value → Heap → Prop) : Prop := callM P fn_hall_Place #[x2, (Value.int IntKind.i64 4)] h fun v1 h2 => d_hall_Hall_write_1 x0 x1 v1 h2 x2 K
theorem e_hall_Hall_write {x0 x1 x2 : Value} {h : Heap} {K : Value → Heap → Prop} (hd : d_hall_Hall_write x0 x1 x2 h K) : callM P fn_hall_Hall_write #[x0, x1, x2] h K :=
  call_of good mixed (fn := Tryz.f201) (args := [x0, x1, x2]) Tryz.func201 rfl (by kernel_rfl) (of_decide_eq_true rfl) (B := d_hall_Hall_write x0 x1 x2 h K) (by kernel_rfl) hd
def d_feed_Feed_Unwatch_4 (x0 : Value) (h15 : Heap) (x2 : Value) (K : Value → Heap → Prop) : Prop := ov (ncV x0) fun v22 => ov (faV (some 0) v22) fun v23 => ov (ldV (some (some 2)) v23 h15) fun v24 => callM P fn_omap_Map_string_uint32_Without #[v24, x2] h15 fun v25 h26 => ov (ncV x0) fun v27 => ov (faV (some 0) v27) fun v28 => stM (some 2) v28 v25 h26 fun h29 => K (.tuple #[]) h29
def d_feed_Feed_Unwatch_5 (x0 : Value) (h15 : Heap) (x2 v20 : Value) (K : Value → Heap → Prop) : Prop := ov (ncV x0) fun v30 => ov (faV (some 0) v30) fun v31 => ov (ldV (some (some 2)) v31 h15) fun v32 => callM P fn_omap_Map_string_uint32_With #[v32, x2, v20] h15 fun v33 h34 => ov (ncV x0) fun v35 => ov (faV (some 0) v35) fun v36 => stM (some 2) v36 v33 h34 fun h37 => K (.tuple #[]) h37
def d_feed_Feed_Unwatch_3 (x1 v6 x0 : Value) (h15 : Heap) (x2 : Value) (K : Value → Heap → Prop) : Prop := ov (binV BinOp.shl 2 true (Value.int IntKind.u32 1) x1) fun v19 => ov (binV BinOp.andNot 2 false v6 v19) fun v20 => ov (binV BinOp.eql 2 true v20 (Value.int IntKind.u32 0)) fun v21 => cdM v21 (d_feed_Feed_Unwatch_4 x0 h15 x2 K) (d_feed_Feed_Unwatch_5 x0 h15 x2 v20 K)
def d_feed_Feed_Unwatch_2 (v8 v6 : Value) (h9 : Heap) (K : Value → Heap → Prop) (x1 x0 x2 : Value) : Prop := ov (unV UnOp.not v8) fun v10 => gM (isB v10 false) (fun k13 => k13 v6 h9) h9 fun v11 h12 => gM (isB v10 false) (fun k16 => ov (binV BinOp.eql 2 true v11 (Value.int IntKind.u32 0)) fun v17 => k16 v17 h12) h12 fun v14 h15 => ov (pkV v10 (Value.bool true) v14) fun v18 => cdM v18 (K (.tuple #[]) h15) (d_feed_Feed_Unwatch_3 x1 v6 x0 h15 x2 K)
def d_feed_Feed_Unwatch_1 (v4 x1 : Value) (h5 : Heap) (K : Value → Heap → Prop) (x0 x2 : Value) : Prop := ov (exV v4 0) fun v6 => ov (exV v4 1) fun v7 => callM P fn_feed_client #[x1] h5 fun v8 h9 => d_feed_Feed_Unwatch_2 v8 v6 h9 K x1 x0 x2
def d_feed_Feed_Unwatch (x0 x1 x2 : Value) (h : Heap) (K : Value → Heap → Prop) : Prop := ov (ncV x0) fun v1 => ov (faV (some 0) v1) fun v2 => ov (ldV (some (some 2)) v2 h) fun v3 => callM P fn_omap_Map_string_uint32_Get #[v3, x2] h fun v4 h5 => d_feed_Feed_Unwatch_1 v4 x1 h5 K x0 x2
theorem e_feed_Feed_Unwatch {x0 x1 x2 : Value} {h : Heap} {K : Value → Heap → Prop} (hd : d_feed_Feed_Unwatch x0 x1 x2 h K) : callM P fn_feed_Feed_Unwatch #[x0, x1, x2] h K :=
  call_of good mixed (fn := Tryz.f206) (args := [x0, x1, x2]) Tryz.func206 rfl (by kernel_rfl) (of_decide_eq_true rfl) (B := d_feed_Feed_Unwatch x0 x1 x2 h K) (by kernel_rfl) hd
def d_tick_Shut (x0 : Value) (h : Heap) (K : Value → Heap → Prop) : Prop := nwM (some x0.cells) ty_api_Time h fun v1 h2 => nwM (zc P ty_api_Time) ty_api_Time h2 fun v3 h4 => ov (faV (some 2) v1) fun v5 => stM (some 1) v5 (Value.bool true) h4 fun h6 => ov (ldV (some (some 3)) v1 h6) fun v7 => stM (some 3) v3 v7 h6 fun h8 => ov (ldV (some (some 3)) v3 h8) fun v9 => K v9 h8
theorem e_tick_Shut {x0 : Value} {h : Heap} {K : Value → Heap → Prop} (hd : d_tick_Shut x0 h K) : callM P fn_tick_Shut #[x0] h K :=
  call_of good mixed (fn := Tryz.f207) (args := [x0]) Tryz.func207 rfl (by kernel_rfl) (of_decide_eq_true rfl) (B := d_tick_Shut x0 h K) (by kernel_rfl) hd
end Go.Proofs.YtcnphhhcknhhaaaGreat
namespace Go.Proofs.YtcnphhhcknhhaaaGreat
open Go Go.Den
set_option maxRecDepth 100000
set_option linter.unusedVariables false
def d_feed_Feed_Watch_3 (v7 x0 : Value) (h8 : Heap) (x1 x2 : Value) (K : Value → Heap → Prop) : Prop := ov (exV v7 0) fun v9 => ov (exV v7 1) fun v10 => ov (ncV x0) fun v11 => ov (faV (some 0) v11) fun v12 => ov (ldV (some (some 2)) v12 h8) fun v13 => ov (binV BinOp.shl 2 true (Value.int IntKind.u32 1) x1) fun v14 => ov (binV BinOp.or 2 false v9 v14) fun v15 => callM P fn_omap_Map_string_uint32_With #[v13, x2, v15] h8 fun v16 h17 => ov (ncV x0) fun v18 => ov (faV (some 0) v18) fun v19 => stM (some 2) v19 v16 h17 fun h20 => K (.tuple #[]) h20
def d_feed_Feed_Watch_2 (x0 : Value) (h2 : Heap) (x2 x1 : Value) (K : Value → Heap → Prop) : Prop := ov (ncV x0) fun v4 => ov (faV (some 0) v4) fun v5 => ov (ldV (some (some 2)) v5 h2) fun v6 => callM P fn_omap_Map_string_uint32_Get #[v6, x2] h2 fun v7 h8 => d_feed_Feed_Watch_3 v7 x0 h8 x1 x2 K
def d_feed_Feed_Watch_1 (v1 : Value) (K : Value → Heap → Prop) (h2 : Heap) (x0 x2 x1 : Value) : Prop := ov (unV UnOp.not v1) fun v3 => cdM v3 (K (.tuple #[]) h2) (d_feed_Feed_Watch_2 x0 h2 x2 x1 K)
def d_feed_Feed_Watch (x0 x1 x2 : Value) (h : Heap) (K : Value → Heap → Prop) : Prop := callM P fn_feed_client #[x1] h fun v1 h2 => d_feed_Feed_Watch_1 v1 K h2 x0 x2 x1
theorem e_feed_Feed_Watch {x0 x1 x2 : Value} {h : Heap} {K : Value → Heap → Prop} (hd : d_feed_Feed_Watch x0 x1 x2 h K) : callM P fn_feed_Feed_Watch #[x0, x1, x2] h K :=
  call_of good mixed (fn := Tryz.f226) (args := [x0, x1, x2]) Tryz.func226 rfl (by kernel_rfl) (of_decide_eq_true rfl) (B := d_feed_Feed_Watch x0 x1 x2 h K) (by kernel_rfl) hd
def d_feed_Feed_Drain_2 (x0 x1 : Value) (h2 : Heap) (K : Value → Heap → Prop) : Prop := ov (ncV x0) fun v4 => ov (faV (some 2) v4) fun v5 => ov (iaV (some (some 8, 1)) v5 x1) fun v6 => ov (ldV (some none) v6 h2) fun v7 => callM P fn_ring_Ring_api_Event_Drain #[v7] h2 fun v8 h9 => ov (exV v8 0) fun v10 => ov (exV v8 1) fun v11 => K (.tuple #[v10, v11]) h9
def d_feed_Feed_Drain_1 (v1 : Value) (K : Value → Heap → Prop) (h2 : Heap) (x0 x1 : Value) : Prop := ov (unV UnOp.not v1) fun v3 => cdM v3 (K (.tuple #[(Value.slice none 0 0), (Value.bool false)]) h2) (d_feed_Feed_Drain_2 x0 x1 h2 K)
def d_feed_Feed_Drain (x0 x1 : Value) (h : Heap) (K : Value → Heap → Prop) : Prop := callM P fn_feed_client #[x1] h fun v1 h2 => d_feed_Feed_Drain_1 v1 K h2 x0 x1
theorem e_feed_Feed_Drain {x0 x1 : Value} {h : Heap} {K : Value → Heap → Prop} (hd : d_feed_Feed_Drain x0 x1 h K) : callM P fn_feed_Feed_Drain #[x0, x1] h K :=
  call_of good mixed (fn := Tryz.f227) (args := [x0, x1]) Tryz.func227 rfl (by kernel_rfl) (of_decide_eq_true rfl) (B := d_feed_Feed_Drain x0 x1 h K) (by kernel_rfl) hd
def d_ring_New_api_Event (x0 : Value) (h : Heap) (K : Value → Heap → Prop) : Prop := vvM P (Builtin.max_ #[ty_int, ty_int] ty_int #[x0, (Value.int IntKind.i64 0)]) h fun v1 h2 => ov (bdV (binf P ty_ring_Ring_doorman_api_Event) [(0, v1)]) fun v3 => nwM (some v3.cells) ty_ring_Ring_doorman_api_Event h2 fun v4 h5 => K v4 h5
theorem e_ring_New_api_Event {x0 : Value} {h : Heap} {K : Value → Heap → Prop} (hd : d_ring_New_api_Event x0 h K) : callM P fn_ring_New_api_Event #[x0] h K :=
  call_of good mixed (fn := Tryz.f228) (args := [x0]) Tryz.func228 rfl (by kernel_rfl) (of_decide_eq_true rfl) (B := d_ring_New_api_Event x0 h K) (by kernel_rfl) hd
def d_heed_Proc_locked (x0 x1 x2 : Value) (h : Heap) (K : Value → Heap → Prop) : Prop := nwM (some x1.cells) ty_int h fun v1 h2 => nwM (some x2.cells) ty_int h2 fun v3 h4 => ov (ldV (some none) v3 h4) fun v5 => ov ((some (.func (Fn.func fn_heed_Proc_locked_c1) #[] #[v1, v3]) : Option Value)) fun v6 => callM P fn_heed_Proc_add #[x0, v5, v6] h4 fun v7 h8 => K (.tuple #[]) h8
theorem e_heed_Proc_locked {x0 x1 x2 : Value} {h : Heap} {K : Value → Heap → Prop} (hd : d_heed_Proc_locked x0 x1 x2 h K) : callM P fn_heed_Proc_locked #[x0, x1, x2] h K :=
  call_of good mixed (fn := Tryz.f230) (args := [x0, x1, x2]) Tryz.func230 rfl (by kernel_rfl) (of_decide_eq_true rfl) (B := d_heed_Proc_locked x0 x1 x2 h K) (by kernel_rfl) hd
def d_heed_Proc_look (x0 x1 : Value) (h : Heap) (K : Value → Heap → Prop) : Prop := nwM (some x0.cells) ty_Ptr_heed_Proc h fun v1 h2 => nwM (some x1.cells) ty_int h2 fun v3 h4 => ov (ldV (some none) v1 h4) fun v5 => ov ((some (.func (Fn.func fn_heed_Proc_look_c1) #[] #[v3, v1]) : Option Value)) fun v6 => callM P fn_heed_Proc_add #[v5, (Value.int IntKind.i64 (-1)), v6] h4 fun v7 h8 => K (.tuple #[]) h8
theorem e_heed_Proc_look {x0 x1 : Value} {h : Heap} {K : Value → Heap → Prop} (hd : d_heed_Proc_look x0 x1 h K) : callM P fn_heed_Proc_look #[x0, x1] h K :=
  call_of good mixed (fn := Tryz.f231) (args := [x0, x1]) Tryz.func231 rfl (by kernel_rfl) (of_decide_eq_true rfl) (B := d_heed_Proc_look x0 x1 h K) (by kernel_rfl) hd
def d_heed_Proc_plain (x0 x1 : Value) (h : Heap) (K : Value → Heap → Prop) : Prop := nwM (some x1.cells) ty_func_Ptr_hall_Hall h fun v1 h2 => ov ((some (.func (Fn.func fn_heed_Proc_plain_c1) #[] #[v1]) : Option Value)) fun v3 => callM P fn_heed_Proc_add #[x0, (Value.int IntKind.i64 (-1)), v3] h2 fun v4 h5 => K (.tuple #[]) h5
theorem e_heed_Proc_plain {x0 x1 : Value} {h : Heap} {K : Value → Heap → Prop} (hd : d_heed_Proc_plain x0 x1 h K) : callM P fn_heed_Proc_plain #[x0, x1] h K :=
  call_of good mixed (fn := Tryz.f232) (args := [x0, x1]) Tryz.func232 rfl (by kernel_rfl) (of_decide_eq_true rfl) (B := d_heed_Proc_plain x0 x1 h K) (by kernel_rfl) hd
def d_heed_Proc_poll_c1_1 (v3 x3 : Value) (h4 : Heap) (x2 x4 : Value) (K : Value → Heap → Prop) : Prop := ov (exV v3 0) fun v5 => ov (exV v3 1) fun v6 => ov (ldV (some none) x3 h4) fun v7 => ov (ldV (some none) x2 h4) fun v8 => ov (iaV (some (none, 1)) v7 v8) fun v9 => stM (some 1) v9 v5 h4 fun h10 => ov (ldV (some none) x4 h10) fun v11 => ov (ldV (some none) x4 h10) fun v12 => ov (ncV v12) fun v13 => ov (faV (some 6) v13) fun v14 => ov (faV (some 3) v14) fun v15 => ov (ldV (some none) v15 h10) fun v16 => gv (isB v16 false) (fun k => k v6) fun v17 => ov (pkV v16 (Value.bool true) v17) fun v18 => ov (ncV v11) fun v19 => ov (faV (some 6) v19) fun v20 => ov (faV (some 3) v20) fun v21 => stM (some 1) v21 v18 h10 fun h22 => K (.tuple #[]) h22
def d_heed_Proc_poll_c1 (x0 x1 x2 x3 x4 : Value) (h : Heap) (K : Value → Heap → Prop) : Prop := ov (ldV (some none) x1 h) fun v1 => ov (ldV (some none) x2 h) fun v2 => callM P fn_hall_Hall_Drain #[x0, v1, v2] h fun v3 h4 => d_heed_Proc_poll_c1_1 v3 x3 h4 x2 x4 K
theorem e_heed_Proc_poll_c1 {x0 x1 x2 x3 x4 : Value} {h : Heap} {K : Value → Heap → Prop} (hd : d_heed_Proc_poll_c1 x0 x1 x2 x3 x4 h K) : callM P fn_heed_Proc_poll_c1 #[x0, x1, x2, x3, x4] h K :=
  call_of good mixed (fn := Tryz.f233) (args := [x0, x1, x2, x3, x4]) Tryz.func233 rfl (by kernel_rfl) (of_decide_eq_true rfl) (B := d_heed_Proc_poll_c1 x0 x1 x2 x3 x4 h K) (by kernel_rfl) hd
def d_heed_Proc_poll_c2_3 (x5 : Value) (h12 : Heap) (v9 v11 : Value) (K : Value → Heap → Prop) : Prop := ldV (some none) x5 h12 = some v9 ∧ ov (ncV v9) fun v13 => ov (faV (some 6) v13) fun v14 => ov (faV (some 2) v14) fun v15 => stM (some 1) v15 v11 h12 fun h16 => K (.tuple #[]) h16
def d_heed_Proc_poll_c2_2 (x5 : Value) (h4 : Heap) (x4 : Value) (K : Value → Heap → Prop) : Prop := ov (ldV (some none) x5 h4) fun v9 => ov (ldV (some none) x4 h4) fun v10 => callM P fn_feed_Merge #[v10] h4 fun v11 h12 => d_heed_Proc_poll_c2_3 x5 h12 v9 v11 K
def d_heed_Proc_poll_c2_1 (x2 : Value) (h4 : Heap) (x3 x5 x4 : Value) (K : Value → Heap → Prop) : Prop := ov (ldV (some none) x2 h4) fun v5 => ov (ldV (some none) x3 h4) fun v6 => ov (binV BinOp.sub 2 true v6 (Value.int IntKind.i64 1)) fun v7 => ov (binV BinOp.eql 2 false v5 v7) fun v8 => cdM v8 (d_heed_Proc_poll_c2_2 x5 h4 x4 K) (K (.tuple #[]) h4)
def d_heed_Proc_poll_c2 (x0 x1 x2 x3 x4 x5 : Value) (h : Heap) (K : Value → Heap → Prop) : Prop := ov (ldV (some none) x1 h) fun v1 => ov (ldV (some none) x2 h) fun v2 => callM P fn_hall_Hall_Unlock #[x0, v1, v2] h fun v3 h4 => d_heed_Proc_poll_c2_1 x2 h4 x3 x5 x4 K
theorem e_heed_Proc_poll_c2 {x0 x1 x2 x3 x4 x5 : Value} {h : Heap} {K : Value → Heap → Prop} (hd : d_heed_Proc_poll_c2 x0 x1 x2 x3 x4 x5 h K) : callM P fn_heed_Proc_poll_c2 #[x0, x1, x2, x3, x4, x5] h K :=
  call_of good mixed (fn := Tryz.f234) (args := [x0, x1, x2, x3, x4, x5]) Tryz.func234 rfl (by kernel_rfl) (of_decide_eq_true rfl) (B := d_heed_Proc_poll_c2 x0 x1 x2 x3 x4 x5 h K) (by kernel_rfl) hd
def d_heed_Proc_watch_c1_1 (x1 : Value) (h : Heap) (K : Value → Heap → Prop) : Prop := ov (ldV (some none) x1 h) fun v6 => ov (ncV v6) fun v7 => ov (faV (some 6) v7) fun v8 => ov (faV (some 0) v8) fun v9 => stM (some 1) v9 (Value.int IntKind.i64 5) h fun h10 => K (.tuple #[]) h10
def d_heed_Proc_watch_c1_3 (x1 : Value) (h56 : Heap) (K : Value → Heap → Prop) : Prop := ov (ldV (some none) x1 h56) fun v60 => ov (ncV v60) fun v61 => ov (faV (some 6) v61) fun v62 => ov (faV (some 0) v62) fun v63 => stM (some 1) v63 (Value.int IntKind.i64 4) h56 fun h64 => K (.tuple #[]) h64
def d_heed_Proc_watch_c1_5 (x3 : Value) (h71 : Heap) (x4 x2 : Value) (K : Value → Heap → Prop) : Prop := ov (ldV (some none) x3 h71) fun v72 => ov (faV (some 1) x4) fun v73 => ov (ldV (some none) v73 h71) fun v74 => ov (ldV (some none) x2 h71) fun v75 => callM P fn_heed_Mine_set #[v72, v74, v75] h71 fun v76 h77 => K (.tuple #[]) h77
def d_heed_Proc_watch_c1_4 (x5 : Value) (h56 : Heap) (x6 x4 x2 x0 x3 : Value) (K : Value → Heap → Prop) : Prop := ov (ldV (some none) x5 h56) fun v65 => ov (ldV (some none) x6 h56) fun v66 => ov (faV (some 1) x4) fun v67 => ov (ldV (some none) v67 h56) fun v68 => ov (ldV (some none) x2 h56) fun v69 => callM P fn_hall_Hall_Watch #[x0, v65, v66, v68, v69] h56 fun v70 h71 => d_heed_Proc_watch_c1_5 x3 h71 x4 x2 K
def d_heed_Proc_watch_c1_2 (x2 : Value) (h : Heap) (x3 x4 x0 x1 : Value) (K : Value → Heap → Prop) (x5 x6 : Value) : Prop := ov (ldV (some none) x2 h) fun v11 => gM (isB v11 true) (fun k14 => ov (ldV (some none) x3 h) fun v15 => k14 v15 h) h fun v12 h13 => gM (isB v11 true) (fun k18 => ov (faV (some 1) x4) fun v19 => k18 v19 h13) h13 fun v16 h17 => gM (isB v11 true) (fun k22 => ov (ldV (some none) v16 h17) fun v23 => k22 v23 h17) h17 fun v20 h21 => gM (isB v11 true) (fun k26 => callM P fn_heed_Mine_Has #[v12, v20] h21 fun v27 h28 => k26 v27 h28) h21 fun v24 h25 => gM (isB v11 true) (fun k31 => ov (unV UnOp.not v24) fun v32 => k31 v32 h25) h25 fun v29 h30 => ov (pkV v11 v29 (Value.bool false)) fun v33 => gM (isB v33 true) (fun k36 => ov (ldV (some none) x3 h30) fun v37 => k36 v37 h30) h30 fun v34 h35 => gM (isB v33 true) (fun k40 => callM P fn_heed_Mine_Count #[v34] h35 fun v41 h42 => k40 v41 h42) h35 fun v38 h39 => gM (isB v33 true) (fun k45 => k45 x0 h39) h39 fun v43 h44 => gM (isB v33 true) (fun k48 => callM P fn_hall_Hall_Config #[v43] h44 fun v49 h50 => k48 v49 h50) h44 fun v46 h47 => gM (isB v33 true) (fun k53 => ov (fdV (some (none, 3)) v46) fun v54 => k53 v54 h47) h47 fun v51 h52 => gM (isB v33 true) (fun k57 => ov (binV BinOp.geq 2 false v38 v51) fun v58 => k57 v58 h52) h52 fun v55 h56 => ov (pkV v33 v55 (Value.bool false)) fun v59 => cdM v59 (d_heed_Proc_watch_c1_3 x1 h56 K) (d_heed_Proc_watch_c1_4 x5 h56 x6 x4 x2 x0 x3 K)
def d_heed_Proc_watch_c1 (x0 x1 x2 x3 x4 x5 x6 : Value) (h : Heap) (K : Value → Heap → Prop) : Prop := ov (ldV (some none) x1 h) fun v1 => ov (ncV v1) fun v2 => ov (faV (some 3) v2) fun v3 => ov (faV (some 2) v3) fun v4 => ov (ldV (some none) v4 h) fun v5 => cdM v5 (d_heed_Proc_watch_c1_1 x1 h K) (d_heed_Proc_watch_c1_2 x2 h x3 x4 x0 x1 K x5 x6)
theorem e_heed_Proc_watch_c1 {x0 x1 x2 x3 x4 x5 x6 : Value} {h : Heap} {K : Value → Heap → Prop} (hd : d_heed_Proc_watch_c1 x0 x1 x2 x3 x4 x5 x6 h K) : callM P fn_heed_Proc_watch_c1 #[x0, x1, x2, x3, x4, x5, x6] h K :=
  call_of good mixed (fn := Tryz.f235) (args := [x0, x1, x2, x3, x4, x5, x6]) Tryz.func235 rfl (by kernel_rfl) (of_decide_eq_true rfl) (B := d_heed_Proc_watch_c1 x0 x1 x2 x3 x4 x5 x6 h K) (by kernel_rfl) hd
def d_heed_Mine_set_1 (x0 : Value) (h : Heap) (x1 : Value) (K : Value → Heap → Prop) : Prop := ov (ncV x0) fun v1 => ov (faV (some 0) v1) fun v2 => ov (ldV (some none) v2 h) fun v3 => uM P (Instr.mapUpdate ty_Map_string_bool v3 x1 (Value.bool true)) h fun h4 => K (.tuple #[]) h4
def d_heed_Mine_set_2 (x0 : Value) (h : Heap) (x1 : Value) (K : Value → Heap → Prop) : Prop := ov (ncV x0) fun v5 => ov (faV (some 0) v5) fun v6 => ov (ldV (some none) v6 h) fun v7 => vvM P (Builtin.delete_ #[ty_Map_string_bool, ty_string] ty_unit #[v7, x1]) h fun v8 h9 => K (.tuple #[]) h9
def d_heed_Mine_set (x0 x1 x2 : Value) (h : Heap) (K : Value → Heap → Prop) : Prop := cdM x2 (d_heed_Mine_set_1 x0 h x1 K) (d_heed_Mine_set_2 x0 h x1 K)
theorem e_heed_Mine_set {x0 x1 x2 : Value} {h : Heap} {K : Value → Heap → Prop} (hd : d_heed_Mine_set x0 x1 x2 h K) : callM P fn_heed_Mine_set #[x0, x1, x2] h K :=
  call_of good mixed (fn := Tryz.f236) (args := [x0, x1, x2]) Tryz.func236 rfl (by kernel_rfl) (of_decide_eq_true rfl) (B := d_heed_Mine_set x0 x1 x2 h K) (by kernel_rfl) hd
def d_heed_Proc_watch_c2 (x0 x1 x2 : Value) (h : Heap) (K : Value → Heap → Prop) : Prop := ov (ldV (some none) x1 h) fun v1 => ov (ldV (some none) x2 h) fun v2 => callM P fn_hall_Hall_Unlock #[x0, v1, v2] h fun v3 h4 => K (.tuple #[]) h4
theorem e_heed_Proc_watch_c2 {x0 x1 x2 : Value} {h : Heap} {K : Value → Heap → Prop} (hd : d_heed_Proc_watch_c2 x0 x1 x2 h K) : callM P fn_heed_Proc_watch_c2 #[x0, x1, x2] h K :=
  call_of good mixed (fn := Tryz.f237) (args := [x0, x1, x2]) Tryz.func237 rfl (by kernel_rfl) (of_decide_eq_true rfl) (B := d_heed_Proc_watch_c2 x0 x1 x2 h K) (by kernel_rfl) hd
def d_omap_Map_string_uint32_All (x0 : Value) (h : Heap) (K : Value → Heap → Prop) : Prop := nwM (some x0.cells) ty_omap_Map_string_uint32 h fun v1 h2 => ov ((some (.func (Fn.func fn_omap_Map_string_uint32_All_c1) #[] #[v1]) : Option Value)) fun v3 => K v3 h2
theorem e_omap_Map_string_uint32_All {x0 : Value} {h : Heap} {K : Value → Heap → Prop} (hd : d_omap_Map_string_uint32_All x0 h K) : callM P fn_omap_Map_string_uint32_All #[x0] h K :=
  call_of good mixed (fn := Tryz.f238) (args := [x0]) Tryz.func238 rfl (by kernel_rfl) (of_decide_eq_true rfl) (B := d_omap_Map_string_uint32_All x0 h K) (by kernel_rfl) hd
def d_feed_client (x0 : Value) (h : Heap) (K : Value → Heap → Prop) : Prop := ov (binV BinOp.geq 2 true x0 (Value.int IntKind.i64 0)) fun v1 => gM (isB v1 true) (fun k4 => k4 x0 h) h fun v2 h3 => gM (isB v1 true) (fun k7 => ov (binV BinOp.lss 2 true v2 (Value.int IntKind.i64 8)) fun v8 => k7 v8 h3) h3 fun v5 h6 => ov (pkV v1 v5 (Value.bool false)) fun v9 => K v9 h6
theorem e_feed_client {x0 : Value} {h : Heap} {K : Value → Heap → Prop} (hd : d_feed_client x0 h K) : callM P fn_feed_client #[x0] h K :=
  call_of good mixed (fn := Tryz.f239) (args := [x0]) Tryz.func239 rfl (by kernel_rfl) (of_decide_eq_true rfl) (B := d_feed_client x0 h K) (by kernel_rfl) hd
def d_omap_Map_string_uint32_Get_2 (v1 : Value) (h5 : Heap) (v6 : Value) (K : Value → Heap → Prop) : Prop := ov (faV (some 1) v1) fun v9 => ov (ldV (some none) v9 h5) fun v10 => ov (iaV (some (none, 1)) v10 v6) fun v11 => ov (ldV (some none) v11 h5) fun v12 => K (.tuple #[v12, (Value.bool true)]) h5
def d_omap_Map_string_uint32_Get_1 (v4 : Value) (K : Value → Heap → Prop) (h5 : Heap) (v1 : Value) : Prop := ov (exV v4 0) fun v6 => ov (exV v4 1) fun v7 => ov (unV UnOp.not v7) fun v8 => cdM v8 (K (.tuple #[(Value.int IntKind.u32 0), (Value.bool false)]) h5) (d_omap_Map_string_uint32_Get_2 v1 h5 v6 K)
def d_omap_Map_string_uint32_Get (x0 x1 : Value) (h : Heap) (K : Value → Heap → Prop) : Prop := nwM (some x0.cells) ty_omap_Map_string_uint32 h fun v1 h2 => ov (ldV (some (some 2)) v1 h2) fun v3 => callM P fn_omap_Map_string_uint32_find #[v3, x1] h2 fun v4 h5 => d_omap_Map_string_uint32_Get_1 v4 K h5 v1
theorem e_omap_Map_string_uint32_Get {x0 x1 : Value} {h : Heap} {K : Value → Heap → Prop} (hd : d_omap_Map_string_uint32_Get x0 x1 h K) : callM P fn_omap_Map_string_uint32_Get #[x0, x1] h K :=
  call_of good mixed (fn := Tryz.f240) (args := [x0, x1]) Tryz.func240 rfl (by kernel_rfl) (of_decide_eq_true rfl) (B := d_omap_Map_string_uint32_Get x0 x1 h K) (by kernel_rfl) hd
def d_hash_Of_3 (s5 : Env) (q7 : Post) (m : List Nat) (v8 : Value) (h6 : Heap) : Prop := ov (stV (s5 0) (s5 7)) fun v9 => ov (cvV (some .u64) v9) fun v10 => ov (binV BinOp.xor 2 false (s5 3) v10) fun v11 => ov (binV BinOp.mul 2 true v11 (Value.int IntKind.u64 1099511628211)) fun v12 => ov (binV BinOp.add 2 true (s5 7) (Value.int IntKind.i64 1)) fun v13 => q7 .normal m (puts s5 [(8, v8), (9, (s5 7)), (4, (s5 7)), (10, (s5 3)), (11, (s5 0)), (12, (s5 7)), (13, v9), (14, v10), (15, v11), (3, v11), (16, v11), (17, v12), (3, v12), (18, v13), (7, v13)]) h6
def d_hash_Of_2 (s5 : Env) (q7 : Post) (m : List Nat) (h6 : Heap) : Prop := ov (binV BinOp.lss 2 false (s5 7) (s5 6)) fun v8 => cdM v8 (d_hash_Of_3 s5 q7 m v8 h6) (q7 (.exit 0) m (puts s5 [(8, v8)]) h6)
def d_hash_Of_1 (x0 : Value) (h : Heap) (q1 : Post) : Prop := ov (lnV 3 x0) fun v4 => loopM (fun m s5 h6 q7 => d_hash_Of_2 s5 q7 m h6) [] (puts (envOf [x0]) [(2, (Value.int IntKind.u64 0)), (3, (Value.int IntKind.u64 14695981039346656037)), (5, x0), (6, v4), (7, (Value.int IntKind.i64 0))]) h (blkM 0 q1)
def d_hash_Of (x0 : Value) (h : Heap) (K : Value → Heap → Prop) : Prop := seqM (fun q1 => d_hash_Of_1 x0 h q1) (fun m s2 h3 => (retM P [.tmp 2] K) .ret m (puts s2 [(19, (s2 3)), (2, (s2 3))]) h3) (retM P [.tmp 2] K)
theorem e_hash_Of {x0 : Value} {h : Heap} {K : Value → Heap → Prop} (hd : d_hash_Of x0 h K) : callM P fn_hash_Of #[x0] h K :=
  call_of good mixed (fn := Tryz.f241) (args := [x0]) Tryz.func241 rfl (by kernel_rfl) (of_decide_eq_true rfl) (B := d_hash_Of x0 h K) (by kernel_rfl) hd
def d_latch_Latch_Take_1 (v1 : Value) (h16 : Heap) (v3 : Value) (K : Value → Heap → Prop) : Prop := ov (ldV (some (some 1)) v1 h16) fun v20 => stM (some 1) v3 v20 h16 fun h21 => ov (ldV (some (some 1)) v3 h21) fun v22 => K (.tuple #[v22, (Value.bool false)]) h21
def d_latch_Latch_Take_2 (x1 v3 : Value) (h16 : Heap) (K : Value → Heap → Prop) : Prop := ov (binV BinOp.add 2 true x1 (Value.int IntKind.i64 1)) fun v23 => ov (bdV (binf P ty_latch_Latch) [(0, v23)]) fun v24 => stM (some 1) v3 v24 h16 fun h25 => ov (ldV (some (some 1)) v3 h25) fun v26 => K (.tuple #[v26, (Value.bool true)]) h25
def d_latch_Latch_Take (x0 x1 : Value) (h : Heap) (K : Value → Heap → Prop) : Prop := nwM (some x0.cells) ty_latch_Latch h fun v1 h2 => nwM (zc P ty_latch_Latch) ty_latch_Latch h2 fun v3 h4 => ov (binV BinOp.lss 2 true x1 (Value.int IntKind.i64 0)) fun v5 => gM (isB v5 false) (fun k8 => ov (ldV (some (some 1)) v1 h4) fun v9 => k8 v9 h4) h4 fun v6 h7 => gM (isB v5 false) (fun k12 => callM P fn_latch_Latch_Free #[v6] h7 fun v13 h14 => k12 v13 h14) h7 fun v10 h11 => gM (isB v5 false) (fun k17 => ov (unV UnOp.not v10) fun v18 => k17 v18 h11) h11 fun v15 h16 => ov (pkV v5 (Value.bool true) v15) fun v19 => cdM v19 (d_latch_Latch_Take_1 v1 h16 v3 K) (d_latch_Latch_Take_2 x1 v3 h16 K)
theorem e_latch_Latch_Take {x0 x1 : Value} {h : Heap} {K : Value → Heap → Prop} (hd : d_latch_Latch_Take x0 x1 h K) : callM P fn_latch_Latch_Take #[x0, x1] h K :=
  call_of good mixed (fn := Tryz.f249) (args := [x0, x1]) Tryz.func249 rfl (by kernel_rfl) (of_decide_eq_true rfl) (B := d_latch_Latch_Take x0 x1 h K) (by kernel_rfl) hd
def d_latch_Latch_Give_2 (v1 : Value) (h21 : Heap) (v3 : Value) (K : Value → Heap → Prop) : Prop := ov (ldV (some (some 1)) v1 h21) fun v25 => stM (some 1) v3 v25 h21 fun h26 => ov (ldV (some (some 1)) v3 h26) fun v27 => K (.tuple #[v27, (Value.bool false)]) h26
def d_latch_Latch_Give_3 (v3 : Value) (h21 : Heap) (K : Value → Heap → Prop) : Prop := ov (bdV (binf P ty_latch_Latch) []) fun v28 => stM (some 1) v3 v28 h21 fun h29 => ov (ldV (some (some 1)) v3 h29) fun v30 => K (.tuple #[v30, (Value.bool true)]) h29
def d_latch_Latch_Give_1 (v6 v1 : Value) (h7 : Heap) (x1 v3 : Value) (K : Value → Heap → Prop) : Prop := gM (isB v6 false) (fun k10 => ov (ldV (some (some 1)) v1 h7) fun v11 => k10 v11 h7) h7 fun v8 h9 => gM (isB v6 false) (fun k14 => callM P fn_latch_Latch_Owner #[v8] h9 fun v15 h16 => k14 v15 h16) h9 fun v12 h13 => gM (isB v6 false) (fun k19 => k19 x1 h13) h13 fun v17 h18 => gM (isB v6 false) (fun k22 => ov (binV BinOp.neq 2 false v12 v17) fun v23 => k22 v23 h18) h18 fun v20 h21 => ov (pkV v6 (Value.bool true) v20) fun v24 => cdM v24 (d_latch_Latch_Give_2 v1 h21 v3 K) (d_latch_Latch_Give_3 v3 h21 K)
def d_latch_Latch_Give (x0 x1 : Value) (h : Heap) (K : Value → Heap → Prop) : Prop := nwM (some x0.cells) ty_latch_Latch h fun v1 h2 => nwM (zc P ty_latch_Latch) ty_latch_Latch h2 fun v3 h4 => ov (ldV (some (some 1)) v1 h4) fun v5 => callM P fn_latch_Latch_Free #[v5] h4 fun v6 h7 => d_latch_Latch_Give_1 v6 v1 h7 x1 v3 K
theorem e_latch_Latch_Give {x0 x1 : Value} {h : Heap} {K : Value → Heap → Prop} (hd : d_latch_Latch_Give x0 x1 h K) : callM P fn_latch_Latch_Give #[x0, x1] h K :=
  call_of good mixed (fn := Tryz.f251) (args := [x0, x1]) Tryz.func251 rfl (by kernel_rfl) (of_decide_eq_true rfl) (B := d_latch_Latch_Give x0 x1 h K) (by kernel_rfl) hd
end Go.Proofs.YtcnphhhcknhhaaaGreat
namespace Go.Proofs.YtcnphhhcknhhaaaGreat
open Go Go.Den
set_option maxRecDepth 100000
set_option linter.unusedVariables false
def d_omap_Map_string_uint32_Without_4 (v22 v26 v3 : Value) (h27 : Heap) (K : Value → Heap → Prop) : Prop := ov (bdV (binf P ty_omap_Map_string_uint32) [(0, v22), (1, v26)]) fun v28 => stM (some 2) v3 v28 h27 fun h29 => ov (ldV (some (some 2)) v3 h29) fun v30 => K v30 h29
def d_omap_Map_string_uint32_Without_3 (v17 : Value) (h21 : Heap) (v18 v20 v8 v16 v19 v3 : Value) (K : Value → Heap → Prop) : Prop := ldV (some none) v17 h21 = some v18 ∧ callM P fn_slices_Delete_string_string #[v20, v8, v16] h21 fun v22 h23 => ldV (some none) v17 h23 = some v18 ∧ callM P fn_slices_Clone_uint32_uint32 #[v18] h23 fun v24 h25 => callM P fn_slices_Delete_uint32_uint32 #[v24, v8, v19] h25 fun v26 h27 => d_omap_Map_string_uint32_Without_4 v22 v26 v3 h27 K
def d_omap_Map_string_uint32_Without_2 (v1 : Value) (h7 : Heap) (v8 v3 : Value) (K : Value → Heap → Prop) : Prop := ov (faV (some 0) v1) fun v14 => ov (ldV (some none) v14 h7) fun v15 => ov (binV BinOp.add 2 true v8 (Value.int IntKind.i64 1)) fun v16 => ov (faV (some 1) v1) fun v17 => ov (ldV (some none) v17 h7) fun v18 => ov (binV BinOp.add 2 true v8 (Value.int IntKind.i64 1)) fun v19 => callM P fn_slices_Clone_string_string #[v15] h7 fun v20 h21 => d_omap_Map_string_uint32_Without_3 v17 h21 v18 v20 v8 v16 v19 v3 K
def d_omap_Map_string_uint32_Without_1 (v6 v1 : Value) (h7 : Heap) (v3 : Value) (K : Value → Heap → Prop) : Prop := ov (exV v6 0) fun v8 => ov (exV v6 1) fun v9 => ov (unV UnOp.not v9) fun v10 => cdM v10 (ov (ldV (some (some 2)) v1 h7) fun v11 => stM (some 2) v3 v11 h7 fun h12 => ov (ldV (some (some 2)) v3 h12) fun v13 => K v13 h12) (d_omap_Map_string_uint32_Without_2 v1 h7 v8 v3 K)
def d_omap_Map_string_uint32_Without (x0 x1 : Value) (h : Heap) (K : Value → Heap → Prop) : Prop := nwM (some x0.cells) ty_omap_Map_string_uint32 h fun v1 h2 => nwM (zc P ty_omap_Map_string_uint32) ty_omap_Map_string_uint32 h2 fun v3 h4 => ov (ldV (some (some 2)) v1 h4) fun v5 => callM P fn_omap_Map_string_uint32_find #[v5, x1] h4 fun v6 h7 => d_omap_Map_string_uint32_Without_1 v6 v1 h7 v3 K
theorem e_omap_Map_string_uint32_Without {x0 x1 : Value} {h : Heap} {K : Value → Heap → Prop} (hd : d_omap_Map_string_uint32_Without x0 x1 h K) : callM P fn_omap_Map_string_uint32_Without #[x0, x1] h K :=
  call_of good mixed (fn := Tryz.f276) (args := [x0, x1]) Tryz.func276 rfl (by kernel_rfl) (of_decide_eq_true rfl) (B := d_omap_Map_string_uint32_Without x0 x1 h K) (by kernel_rfl) hd
def d_omap_Map_string_uint32_With_6 (v16 : Value) (h21 : Heap) (v17 v20 : Value) (q13 : Post) (x0 x1 x2 v1 v3 v5 v6 v8 v9 v18 v19 : Value) : Prop := ldV (some none) v16 h21 = some v17 ∧ ov (bdV (binf P ty_omap_Map_string_uint32) [(0, v17), (1, v20)]) fun v22 => nwM (zc P ty_omap_Map_string_uint32) ty_omap_Map_string_uint32 h21 fun v23 h24 => ldV (some none) v16 h24 = some v17 ∧ stM (some 2) v23 v22 h24 fun h25 => q13 .normal [] (puts (envOf [x0, x1, x2]) [(3, v1), (6, v3), (11, v5), (12, x1), (13, v6), (10, v6), (14, v8), (15, v9), (7, v8), (8, v9), (16, v9), (17, v16), (18, v17), (19, v18), (20, v19), (21, v20), (22, v22), (9, v23)]) h25
def d_omap_Map_string_uint32_With_5 (v19 : Value) (h7 : Heap) (v16 v17 : Value) (q13 : Post) (x0 x1 x2 v1 v3 v5 v6 v8 v9 v18 : Value) : Prop := callM P fn_slices_Clone_uint32_uint32 #[v19] h7 fun v20 h21 => d_omap_Map_string_uint32_With_6 v16 h21 v17 v20 q13 x0 x1 x2 v1 v3 v5 v6 v8 v9 v18 v19
def d_omap_Map_string_uint32_With_7 (h7 : Heap) (v16 v17 v18 v19 : Value) (q13 : Post) (x0 x1 x2 v1 v3 v5 v6 v8 v9 : Value) : Prop := nwM (zc P ty_omap_Map_string_uint32) ty_omap_Map_string_uint32 h7 fun v26 h27 => ldV (some none) v16 h27 = some v17 ∧ ldV (some none) v18 h27 = some v19 ∧ callM P fn_slices_Clone_uint32_uint32 #[v19] h27 fun v28 h29 => ldV (some none) v16 h29 = some v17 ∧ ov (bdV (binf P ty_omap_Map_string_uint32) [(0, v17), (1, v28)]) fun v30 => stM (some 2) v26 v30 h29 fun h31 => q13 .normal [] (puts (envOf [x0, x1, x2]) [(3, v1), (6, v3), (11, v5), (12, x1), (13, v6), (10, v6), (14, v8), (15, v9), (7, v8), (8, v9), (16, v9), (17, v16), (18, v17), (19, v18), (20, v19), (9, v26), (21, v28), (22, v30)]) h31
def d_omap_Map_string_uint32_With_4 (v1 : Value) (h7 : Heap) (q13 : Post) (x0 x1 x2 v3 v5 v6 v8 v9 : Value) : Prop := ov (faV (some 0) v1) fun v16 => ov (ldV (some none) v16 h7) fun v17 => ov (faV (some 1) v1) fun v18 => ov (ldV (some none) v18 h7) fun v19 => (d_omap_Map_string_uint32_With_5 v19 h7 v16 v17 q13 x0 x1 x2 v1 v3 v5 v6 v8 v9 v18) ∧ (d_omap_Map_string_uint32_With_7 h7 v16 v17 v18 v19 q13 x0 x1 x2 v1 v3 v5 v6 v8 v9)
def d_omap_Map_string_uint32_With_8 (s14 : Env) (h15 : Heap) (q10 : Post) (m : List Nat) : Prop := ov (faV (some 1) (s14 9)) fun v32 => ov (ldV (some none) v32 h15) fun v33 => ov (iaV (some (none, 1)) v33 (s14 7)) fun v34 => stM (some 1) v34 (s14 2) h15 fun h35 => ov (ldV (some (some 2)) (s14 9) h35) fun v36 => stM (some 2) (s14 6) v36 h35 fun h37 => q10 .ret m (puts s14 [(23, v32), (24, v33), (25, (s14 7)), (26, (s14 2)), (27, v34), (28, v36)]) h37
def d_omap_Map_string_uint32_With_3 (v1 : Value) (h7 : Heap) (x0 x1 x2 v3 v5 v6 v8 v9 : Value) (q10 : Post) : Prop := seqM (fun q13 => d_omap_Map_string_uint32_With_4 v1 h7 q13 x0 x1 x2 v3 v5 v6 v8 v9) (fun m s14 h15 => d_omap_Map_string_uint32_With_8 s14 h15 q10 m) q10
def d_omap_Map_string_uint32_With_2 (v9 v1 : Value) (h7 : Heap) (x0 x1 x2 v3 v5 v6 v8 : Value) (q10 : Post) : Prop := cdM v9 (d_omap_Map_string_uint32_With_3 v1 h7 x0 x1 x2 v3 v5 v6 v8 v9 q10) (q10 .normal [] (puts (envOf [x0, x1, x2]) [(3, v1), (6, v3), (11, v5), (12, x1), (13, v6), (10, v6), (14, v8), (15, v9), (7, v8), (8, v9), (16, v9)]) h7)
def d_omap_Map_string_uint32_With_15 (v49 v55 : Value) (s11 : Env) (h56 : Heap) (q38 : Post) (m : List Nat) (v41 v42 v43 v44 v45 v47 v51 v53 : Value) : Prop := ov (bdV (binf P ty_omap_Map_string_uint32) [(0, v49), (1, v55)]) fun v57 => stM (some 2) (s11 6) v57 h56 fun h58 => q38 .normal m (puts s11 [(29, v41), (30, v42), (32, (s11 7)), (33, (s11 1)), (36, v43), (37, v44), (39, (s11 7)), (40, (s11 2)), (31, v45), (34, v47), (35, v49), (38, v51), (41, v53), (42, v55), (43, v57)]) h58
def d_omap_Map_string_uint32_With_14 (s11 : Env) (h52 : Heap) (v51 v49 : Value) (q38 : Post) (m : List Nat) (v41 v42 v43 v44 v45 v47 : Value) : Prop := bsM (bsI P ty_Sl_uint32) 1 [(0, (s11 2))] h52 fun v53 h54 => callM P fn_slices_Insert_uint32_uint32 #[v51, (s11 7), v53] h54 fun v55 h56 => d_omap_Map_string_uint32_With_15 v49 v55 s11 h56 q38 m v41 v42 v43 v44 v45 v47 v51 v53
def d_omap_Map_string_uint32_With_16 (v49 v63 : Value) (s11 : Env) (h64 : Heap) (q38 : Post) (m : List Nat) (v41 v42 v43 v44 v45 v47 v59 v61 : Value) : Prop := ov (bdV (binf P ty_omap_Map_string_uint32) [(0, v49), (1, v63)]) fun v65 => stM (some 2) (s11 6) v65 h64 fun h66 => q38 .normal m (puts s11 [(29, v41), (30, v42), (32, (s11 7)), (33, (s11 1)), (36, v43), (37, v44), (39, (s11 7)), (40, (s11 2)), (31, v45), (34, v47), (35, v49), (41, v59), (38, v61), (42, v63), (43, v65)]) h66
def d_omap_Map_string_uint32_With_13 (v43 : Value) (h50 : Heap) (v44 : Value) (s11 : Env) (v49 : Value) (q38 : Post) (m : List Nat) (v41 v42 v45 v47 : Value) : Prop := ldV (some none) v43 h50 = some v44 ∧ (callM P fn_slices_Clone_uint32_uint32 #[v44] h50 fun v51 h52 => d_omap_Map_string_uint32_With_14 s11 h52 v51 v49 q38 m v41 v42 v43 v44 v45 v47) ∧ (bsM (bsI P ty_Sl_uint32) 1 [(0, (s11 2))] h50 fun v59 h60 => ldV (some none) v43 h60 = some v44 ∧ callM P fn_slices_Clone_uint32_uint32 #[v44] h60 fun v61 h62 => callM P fn_slices_Insert_uint32_uint32 #[v61, (s11 7), v59] h62 fun v63 h64 => d_omap_Map_string_uint32_With_16 v49 v63 s11 h64 q38 m v41 v42 v43 v44 v45 v47 v59 v61)
def d_omap_Map_string_uint32_With_17 (v69 v73 : Value) (s11 : Env) (h74 : Heap) (q38 : Post) (m : List Nat) (v41 v42 v43 v44 v45 v47 v67 v71 : Value) : Prop := ov (bdV (binf P ty_omap_Map_string_uint32) [(0, v69), (1, v73)]) fun v75 => stM (some 2) (s11 6) v75 h74 fun h76 => q38 .normal m (puts s11 [(29, v41), (30, v42), (32, (s11 7)), (33, (s11 1)), (36, v43), (37, v44), (39, (s11 7)), (40, (s11 2)), (31, v45), (34, v47), (41, v67), (35, v69), (38, v71), (42, v73), (43, v75)]) h76
def d_omap_Map_string_uint32_With_18 (v81 v85 : Value) (s11 : Env) (h86 : Heap) (q38 : Post) (m : List Nat) (v41 v42 v43 v44 v45 v77 v79 v83 : Value) : Prop := ov (bdV (binf P ty_omap_Map_string_uint32) [(0, v81), (1, v85)]) fun v87 => stM (some 2) (s11 6) v87 h86 fun h88 => q38 .normal m (puts s11 [(29, v41), (30, v42), (32, (s11 7)), (33, (s11 1)), (36, v43), (37, v44), (39, (s11 7)), (40, (s11 2)), (31, v45), (41, v77), (34, v79), (35, v81), (38, v83), (42, v85), (43, v87)]) h88
def d_omap_Map_string_uint32_With_12 (v43 : Value) (h46 : Heap) (v44 : Value) (s11 : Env) (v45 : Value) (q38 : Post) (m : List Nat) (v41 v42 : Value) : Prop := ldV (some none) v43 h46 = some v44 ∧ (bsM (bsI P ty_Sl_string) 1 [(0, (s11 1))] h46 fun v47 h48 => ldV (some none) v43 h48 = some v44 ∧ (callM P fn_slices_Insert_string_string #[v45, (s11 7), v47] h48 fun v49 h50 => d_omap_Map_string_uint32_With_13 v43 h50 v44 s11 v49 q38 m v41 v42 v45 v47) ∧ (bsM (bsI P ty_Sl_uint32) 1 [(0, (s11 2))] h48 fun v67 h68 => ldV (some none) v43 h68 = some v44 ∧ callM P fn_slices_Insert_string_string #[v45, (s11 7), v47] h68 fun v69 h70 => ldV (some none) v43 h70 = some v44 ∧ callM P fn_slices_Clone_uint32_uint32 #[v44] h70 fun v71 h72 => callM P fn_slices_Insert_uint32_uint32 #[v71, (s11 7), v67] h72 fun v73 h74 => d_omap_Map_string_uint32_With_17 v69 v73 s11 h74 q38 m v41 v42 v43 v44 v45 v47 v67 v71)) ∧ (bsM (bsI P ty_Sl_uint32) 1 [(0, (s11 2))] h46 fun v77 h78 => ldV (some none) v43 h78 = some v44 ∧ bsM (bsI P ty_Sl_string) 1 [(0, (s11 1))] h78 fun v79 h80 => ldV (some none) v43 h80 = some v44 ∧ callM P fn_slices_Insert_string_string #[v45, (s11 7), v79] h80 fun v81 h82 => ldV (some none) v43 h82 = some v44 ∧ callM P fn_slices_Clone_uint32_uint32 #[v44] h82 fun v83 h84 => callM P fn_slices_Insert_uint32_uint32 #[v83, (s11 7), v77] h84 fun v85 h86 => d_omap_Map_string_uint32_With_18 v81 v85 s11 h86 q38 m v41 v42 v43 v44 v45 v77 v79 v83)
def d_omap_Map_string_uint32_With_11 (v42 : Value) (h12 : Heap) (v43 v44 : Value) (s11 : Env) (q38 : Post) (m : List Nat) (v41 : Value) : Prop := callM P fn_slices_Clone_string_string #[v42] h12 fun v45 h46 => d_omap_Map_string_uint32_With_12 v43 h46 v44 s11 v45 q38 m v41 v42
def d_omap_Map_string_uint32_With_23 (v93 v99 : Value) (s11 : Env) (h100 : Heap) (q38 : Post) (m : List Nat) (v41 v42 v43 v44 v89 v91 v95 v97 : Value) : Prop := ov (bdV (binf P ty_omap_Map_string_uint32) [(0, v93), (1, v99)]) fun v101 => stM (some 2) (s11 6) v101 h100 fun h102 => q38 .normal m (puts s11 [(29, v41), (30, v42), (32, (s11 7)), (33, (s11 1)), (36, v43), (37, v44), (39, (s11 7)), (40, (s11 2)), (34, v89), (31, v91), (35, v93), (38, v95), (41, v97), (42, v99), (43, v101)]) h102
def d_omap_Map_string_uint32_With_22 (s11 : Env) (h96 : Heap) (v95 v93 : Value) (q38 : Post) (m : List Nat) (v41 v42 v43 v44 v89 v91 : Value) : Prop := bsM (bsI P ty_Sl_uint32) 1 [(0, (s11 2))] h96 fun v97 h98 => callM P fn_slices_Insert_uint32_uint32 #[v95, (s11 7), v97] h98 fun v99 h100 => d_omap_Map_string_uint32_With_23 v93 v99 s11 h100 q38 m v41 v42 v43 v44 v89 v91 v95 v97
def d_omap_Map_string_uint32_With_24 (v93 v107 : Value) (s11 : Env) (h108 : Heap) (q38 : Post) (m : List Nat) (v41 v42 v43 v44 v89 v91 v103 v105 : Value) : Prop := ov (bdV (binf P ty_omap_Map_string_uint32) [(0, v93), (1, v107)]) fun v109 => stM (some 2) (s11 6) v109 h108 fun h110 => q38 .normal m (puts s11 [(29, v41), (30, v42), (32, (s11 7)), (33, (s11 1)), (36, v43), (37, v44), (39, (s11 7)), (40, (s11 2)), (34, v89), (31, v91), (35, v93), (41, v103), (38, v105), (42, v107), (43, v109)]) h110
def d_omap_Map_string_uint32_With_21 (v43 : Value) (h94 : Heap) (v44 : Value) (s11 : Env) (v93 : Value) (q38 : Post) (m : List Nat) (v41 v42 v89 v91 : Value) : Prop := ldV (some none) v43 h94 = some v44 ∧ (callM P fn_slices_Clone_uint32_uint32 #[v44] h94 fun v95 h96 => d_omap_Map_string_uint32_With_22 s11 h96 v95 v93 q38 m v41 v42 v43 v44 v89 v91) ∧ (bsM (bsI P ty_Sl_uint32) 1 [(0, (s11 2))] h94 fun v103 h104 => ldV (some none) v43 h104 = some v44 ∧ callM P fn_slices_Clone_uint32_uint32 #[v44] h104 fun v105 h106 => callM P fn_slices_Insert_uint32_uint32 #[v105, (s11 7), v103] h106 fun v107 h108 => d_omap_Map_string_uint32_With_24 v93 v107 s11 h108 q38 m v41 v42 v43 v44 v89 v91 v103 v105)
def d_omap_Map_string_uint32_With_25 (v113 v117 : Value) (s11 : Env) (h118 : Heap) (q38 : Post) (m : List Nat) (v41 v42 v43 v44 v89 v91 v111 v115 : Value) : Prop := ov (bdV (binf P ty_omap_Map_string_uint32) [(0, v113), (1, v117)]) fun v119 => stM (some 2) (s11 6) v119 h118 fun h120 => q38 .normal m (puts s11 [(29, v41), (30, v42), (32, (s11 7)), (33, (s11 1)), (36, v43), (37, v44), (39, (s11 7)), (40, (s11 2)), (34, v89), (31, v91), (41, v111), (35, v113), (38, v115), (42, v117), (43, v119)]) h120
def d_omap_Map_string_uint32_With_20 (v43 : Value) (h92 : Heap) (v44 v91 : Value) (s11 : Env) (v89 : Value) (q38 : Post) (m : List Nat) (v41 v42 : Value) : Prop := ldV (some none) v43 h92 = some v44 ∧ (callM P fn_slices_Insert_string_string #[v91, (s11 7), v89] h92 fun v93 h94 => d_omap_Map_string_uint32_With_21 v43 h94 v44 s11 v93 q38 m v41 v42 v89 v91) ∧ (bsM (bsI P ty_Sl_uint32) 1 [(0, (s11 2))] h92 fun v111 h112 => ldV (some none) v43 h112 = some v44 ∧ callM P fn_slices_Insert_string_string #[v91, (s11 7), v89] h112 fun v113 h114 => ldV (some none) v43 h114 = some v44 ∧ callM P fn_slices_Clone_uint32_uint32 #[v44] h114 fun v115 h116 => callM P fn_slices_Insert_uint32_uint32 #[v115, (s11 7), v111] h116 fun v117 h118 => d_omap_Map_string_uint32_With_25 v113 v117 s11 h118 q38 m v41 v42 v43 v44 v89 v91 v111 v115)
def d_omap_Map_string_uint32_With_26 (v125 v129 : Value) (s11 : Env) (h130 : Heap) (q38 : Post) (m : List Nat) (v41 v42 v43 v44 v89 v121 v123 v127 : Value) : Prop := ov (bdV (binf P ty_omap_Map_string_uint32) [(0, v125), (1, v129)]) fun v131 => stM (some 2) (s11 6) v131 h130 fun h132 => q38 .normal m (puts s11 [(29, v41), (30, v42), (32, (s11 7)), (33, (s11 1)), (36, v43), (37, v44), (39, (s11 7)), (40, (s11 2)), (34, v89), (41, v121), (31, v123), (35, v125), (38, v127), (42, v129), (43, v131)]) h132
def d_omap_Map_string_uint32_With_19 (s11 : Env) (h12 : Heap) (v41 v42 v43 v44 : Value) (q38 : Post) (m : List Nat) : Prop := bsM (bsI P ty_Sl_string) 1 [(0, (s11 1))] h12 fun v89 h90 => ldV (some none) v41 h90 = some v42 ∧ ldV (some none) v43 h90 = some v44 ∧ (callM P fn_slices_Clone_string_string #[v42] h90 fun v91 h92 => d_omap_Map_string_uint32_With_20 v43 h92 v44 v91 s11 v89 q38 m v41 v42) ∧ (bsM (bsI P ty_Sl_uint32) 1 [(0, (s11 2))] h90 fun v121 h122 => ldV (some none) v41 h122 = some v42 ∧ ldV (some none) v43 h122 = some v44 ∧ callM P fn_slices_Clone_string_string #[v42] h122 fun v123 h124 => ldV (some none) v43 h124 = some v44 ∧ callM P fn_slices_Insert_string_string #[v123, (s11 7), v89] h124 fun v125 h126 => ldV (some none) v43 h126 = some v44 ∧ callM P fn_slices_Clone_uint32_uint32 #[v44] h126 fun v127 h128 => callM P fn_slices_Insert_uint32_uint32 #[v127, (s11 7), v121] h128 fun v129 h130 => d_omap_Map_string_uint32_With_26 v125 v129 s11 h130 q38 m v41 v42 v43 v44 v89 v121 v123 v127)
def d_omap_Map_string_uint32_With_29 (v139 v143 : Value) (s11 : Env) (h144 : Heap) (q38 : Post) (m : List Nat) (v41 v42 v43 v44 v133 v135 v137 v141 : Value) : Prop := ov (bdV (binf P ty_omap_Map_string_uint32) [(0, v139), (1, v143)]) fun v145 => stM (some 2) (s11 6) v145 h144 fun h146 => q38 .normal m (puts s11 [(29, v41), (30, v42), (32, (s11 7)), (33, (s11 1)), (36, v43), (37, v44), (39, (s11 7)), (40, (s11 2)), (41, v133), (31, v135), (34, v137), (35, v139), (38, v141), (42, v143), (43, v145)]) h146
def d_omap_Map_string_uint32_With_28 (v43 : Value) (h136 : Heap) (v44 : Value) (s11 : Env) (v135 v133 : Value) (q38 : Post) (m : List Nat) (v41 v42 : Value) : Prop := ldV (some none) v43 h136 = some v44 ∧ bsM (bsI P ty_Sl_string) 1 [(0, (s11 1))] h136 fun v137 h138 => ldV (some none) v43 h138 = some v44 ∧ callM P fn_slices_Insert_string_string #[v135, (s11 7), v137] h138 fun v139 h140 => ldV (some none) v43 h140 = some v44 ∧ callM P fn_slices_Clone_uint32_uint32 #[v44] h140 fun v141 h142 => callM P fn_slices_Insert_uint32_uint32 #[v141, (s11 7), v133] h142 fun v143 h144 => d_omap_Map_string_uint32_With_29 v139 v143 s11 h144 q38 m v41 v42 v43 v44 v133 v135 v137 v141
def d_omap_Map_string_uint32_With_30 (v151 v155 : Value) (s11 : Env) (h156 : Heap) (q38 : Post) (m : List Nat) (v41 v42 v43 v44 v133 v147 v149 v153 : Value) : Prop := ov (bdV (binf P ty_omap_Map_string_uint32) [(0, v151), (1, v155)]) fun v157 => stM (some 2) (s11 6) v157 h156 fun h158 => q38 .normal m (puts s11 [(29, v41), (30, v42), (32, (s11 7)), (33, (s11 1)), (36, v43), (37, v44), (39, (s11 7)), (40, (s11 2)), (41, v133), (34, v147), (31, v149), (35, v151), (38, v153), (42, v155), (43, v157)]) h158
def d_omap_Map_string_uint32_With_27 (s11 : Env) (h12 : Heap) (v41 v42 v43 v44 : Value) (q38 : Post) (m : List Nat) : Prop := bsM (bsI P ty_Sl_uint32) 1 [(0, (s11 2))] h12 fun v133 h134 => ldV (some none) v41 h134 = some v42 ∧ ldV (some none) v43 h134 = some v44 ∧ (callM P fn_slices_Clone_string_string #[v42] h134 fun v135 h136 => d_omap_Map_string_uint32_With_28 v43 h136 v44 s11 v135 v133 q38 m v41 v42) ∧ (bsM (bsI P ty_Sl_string) 1 [(0, (s11 1))] h134 fun v147 h148 => ldV (some none) v41 h148 = some v42 ∧ ldV (some none) v43 h148 = some v44 ∧ callM P fn_slices_Clone_string_string #[v42] h148 fun v149 h150 => ldV (some none) v43 h150 = some v44 ∧ callM P fn_slices_Insert_string_string #[v149, (s11 7), v147] h150 fun v151 h152 => ldV (some none) v43 h152 = some v44 ∧ callM P fn_slices_Clone_uint32_uint32 #[v44] h152 fun v153 h154 => callM P fn_slices_Insert_uint32_uint32 #[v153, (s11 7), v133] h154 fun v155 h156 => d_omap_Map_string_uint32_With_30 v151 v155 s11 h156 q38 m v41 v42 v43 v44 v133 v147 v149 v153)
def d_omap_Map_string_uint32_With_10 (s11 : Env) (h12 : Heap) (q38 : Post) (m : List Nat) : Prop := ov (faV (some 0) (s11 3)) fun v41 => ov (ldV (some none) v41 h12) fun v42 => ov (faV (some 1) (s11 3)) fun v43 => ov (ldV (some none) v43 h12) fun v44 => (d_omap_Map_string_uint32_With_11 v42 h12 v43 v44 s11 q38 m v41) ∧ (d_omap_Map_string_uint32_With_19 s11 h12 v41 v42 v43 v44 q38 m) ∧ (d_omap_Map_string_uint32_With_27 s11 h12 v41 v42 v43 v44 q38 m)
def d_omap_Map_string_uint32_With_9 (s11 : Env) (h12 : Heap) (m : List Nat) (K : Value → Heap → Prop) : Prop := seqM (fun q38 => d_omap_Map_string_uint32_With_10 s11 h12 q38 m) (fun m s39 h40 => (retM P [.cell 6 282] K) .ret m s39 h40) (retM P [.cell 6 282] K)
def d_omap_Map_string_uint32_With_1 (v6 v1 : Value) (h7 : Heap) (x0 x1 x2 v3 v5 : Value) (K : Value → Heap → Prop) : Prop := ov (exV v6 0) fun v8 => ov (exV v6 1) fun v9 => seqM (fun q10 => d_omap_Map_string_uint32_With_2 v9 v1 h7 x0 x1 x2 v3 v5 v6 v8 q10) (fun m s11 h12 => d_omap_Map_string_uint32_With_9 s11 h12 m K) (retM P [.cell 6 282] K)
def d_omap_Map_string_uint32_With (x0 x1 x2 : Value) (h : Heap) (K : Value → Heap → Prop) : Prop := nwM (some x0.cells) ty_omap_Map_string_uint32 h fun v1 h2 => nwM (zc P ty_omap_Map_string_uint32) ty_omap_Map_string_uint32 h2 fun v3 h4 => ov (ldV (some (some 2)) v1 h4) fun v5 => callM P fn_omap_Map_string_uint32_find #[v5, x1] h4 fun v6 h7 => d_omap_Map_string_uint32_With_1 v6 v1 h7 x0 x1 x2 v3 v5 K
theorem e_omap_Map_string_uint32_With {x0 x1 x2 : Value} {h : Heap} {K : Value → Heap → Prop} (hd : d_omap_Map_string_uint32_With x0 x1 x2 h K) : callM P fn_omap_Map_string_uint32_With #[x0, x1, x2] h K :=
  call_of good mixed (fn := Tryz.f277) (args := [x0, x1, x2]) Tryz.func277 rfl (by kernel_rfl) (of_decide_eq_true rfl) (B := d_omap_Map_string_uint32_With x0 x1 x2 h K) (by kernel_rfl) hd
def d_ring_Ring_api_Event_Drain_2 (v6 x0 v1 : Value) (h7 : Heap) (q3 : Post) : Prop := rfM P gd v6 #[9] (rfA P fn_ring_Ring_api_Event_Drain 0) (rfB P fn_ring_Ring_api_Event_Drain 0) [] (puts (envOf [x0]) [(2, (Value.slice none 0 0)), (3, (Value.bool false)), (4, v1), (7, x0), (8, v6)]) h7 (blkM 0 q3)
def d_ring_Ring_api_Event_Drain_1 (x0 : Value) (h2 : Heap) (v1 : Value) (q3 : Post) : Prop := callM P fn_ring_Ring_api_Event_All #[x0] h2 fun v6 h7 => d_ring_Ring_api_Event_Drain_2 v6 x0 v1 h7 q3
def d_ring_Ring_api_Event_Drain_3 (s4 : Env) (h5 : Heap) (K : Value → Heap → Prop) (m : List Nat) : Prop := ov (ncV (s4 0)) fun v8 => ov (faV (some 2) v8) fun v9 => ov (ldV (some none) v9 h5) fun v10 => ov (ncV (s4 0)) fun v11 => ov (faV (some 1) v11) fun v12 => stM (some 1) v12 (Value.slice none 0 0) h5 fun h13 => ov (ncV (s4 0)) fun v14 => ov (faV (some 2) v14) fun v15 => stM (some 1) v15 (Value.bool false) h13 fun h16 => ov (ldV (some none) (s4 4) h16) fun v17 => (retM P [.tmp 2, .tmp 3] K) .ret m (puts s4 [(14, (s4 0)), (15, v8), (16, v9), (17, v10), (6, v10), (18, (s4 0)), (19, (s4 0)), (20, v11), (21, v12), (22, v14), (23, v15), (24, v17), (25, v10), (2, v17), (3, v10)]) h16
def d_ring_Ring_api_Event_Drain (x0 : Value) (h : Heap) (K : Value → Heap → Prop) : Prop := nwM (zc P ty_Sl_api_Event) ty_Sl_api_Event h fun v1 h2 => seqM (fun q3 => d_ring_Ring_api_Event_Drain_1 x0 h2 v1 q3) (fun m s4 h5 => d_ring_Ring_api_Event_Drain_3 s4 h5 K m) (retM P [.tmp 2, .tmp 3] K)
theorem e_ring_Ring_api_Event_Drain {x0 : Value} {h : Heap} {K : Value → Heap → Prop} (hd : d_ring_Ring_api_Event_Drain x0 h K) : callM P fn_ring_Ring_api_Event_Drain #[x0] h K :=
  call_of good mixed (fn := Tryz.f285) (args := [x0]) Tryz.func285 rfl (by kernel_rfl) (of_decide_eq_true rfl) (B := d_ring_Ring_api_Event_Drain x0 h K) (by kernel_rfl) hd
def da_ring_Ring_api_Event_Drain_0 (m : List Nat) (s : Env) (h : Heap) (Q : Post) : Prop := nwM (zc P ty_api_Event) ty_api_Event h fun v1 h2 => stM (some 8) v1 (s 9) h2 fun h3 => Q .normal m (puts s [(5, v1)]) h3
theorem ea_ring_Ring_api_Event_Drain_0 {m : List Nat} {s : Env} {h : Heap} {Q : Post} : den P gd (rfA P fn_ring_Ring_api_Event_Drain 0) m s h Q = da_ring_Ring_api_Event_Drain_0 m s h Q := by kernel_rfl
def db_ring_Ring_api_Event_Drain_0 (m : List Nat) (s : Env) (h : Heap) (Q : Post) : Prop := ov (ldV (some none) (s 4) h) fun v1 => ov (ldV (some (some 8)) (s 5) h) fun v2 => bsM (bsI P ty_Sl_api_Event) 1 [(0, v2)] h fun v3 h4 => vvM P (Builtin.append_ #[ty_Sl_api_Event, ty_Sl_api_Event] ty_Sl_api_Event #[v1, v3]) h4 fun v5 h6 => stM (some 1) (s 4) v5 h6 fun h7 => Q .normal m (puts s [(10, v1), (11, v2), (12, v3), (13, v5)]) h7
theorem eb_ring_Ring_api_Event_Drain_0 {m : List Nat} {s : Env} {h : Heap} {Q : Post} : den P gd (rfB P fn_ring_Ring_api_Event_Drain 0) m s h Q = db_ring_Ring_api_Event_Drain_0 m s h Q := by kernel_rfl
def d_heed_Proc_locked_c1 (x0 x1 x2 : Value) (h : Heap) (K : Value → Heap → Prop) : Prop := ov (ldV (some none) x1 h) fun v1 => ov (ldV (some none) x2 h) fun v2 => callM P fn_hall_Hall_Lock #[x0, v1, v2] h fun v3 h4 => K (Value.bool false) h4
theorem e_heed_Proc_locked_c1 {x0 x1 x2 : Value} {h : Heap} {K : Value → Heap → Prop} (hd : d_heed_Proc_locked_c1 x0 x1 x2 h K) : callM P fn_heed_Proc_locked_c1 #[x0, x1, x2] h K :=
  call_of good mixed (fn := Tryz.f286) (args := [x0, x1, x2]) Tryz.func286 rfl (by kernel_rfl) (of_decide_eq_true rfl) (B := d_heed_Proc_locked_c1 x0 x1 x2 h K) (by kernel_rfl) hd
def d_heed_Proc_look_c1 (x0 x1 x2 : Value) (h : Heap) (K : Value → Heap → Prop) : Prop := ov (ldV (some none) x2 h) fun v1 => ov (ldV (some none) x1 h) fun v2 => callM P fn_hall_Hall_Look #[x0, v2] h fun v3 h4 => ldV (some none) x2 h4 = some v1 ∧ ov (ncV v1) fun v5 => ov (faV (some 3) v5) fun v6 => stM (some 3) v6 v3 h4 fun h7 => K (Value.bool true) h7
theorem e_heed_Proc_look_c1 {x0 x1 x2 : Value} {h : Heap} {K : Value → Heap → Prop} (hd : d_heed_Proc_look_c1 x0 x1 x2 h K) : callM P fn_heed_Proc_look_c1 #[x0, x1, x2] h K :=
  call_of good mixed (fn := Tryz.f287) (args := [x0, x1, x2]) Tryz.func287 rfl (by kernel_rfl) (of_decide_eq_true rfl) (B := d_heed_Proc_look_c1 x0 x1 x2 h K) (by kernel_rfl) hd
def d_heed_Proc_plain_c1 (x0 x1 : Value) (h : Heap) (K : Value → Heap → Prop) : Prop := ov (ldV (some none) x1 h) fun v1 => nxM P (do let d ← Deferred.ofValue v1 #[x0] ; invoke d.target d.args) h fun v2 h3 => K (Value.bool false) h3
theorem e_heed_Proc_plain_c1 {x0 x1 : Value} {h : Heap} {K : Value → Heap → Prop} (hd : d_heed_Proc_plain_c1 x0 x1 h K) : callM P fn_heed_Proc_plain_c1 #[x0, x1] h K :=
  call_of good mixed (fn := Tryz.f288) (args := [x0, x1]) Tryz.func288 rfl (by kernel_rfl) (of_decide_eq_true rfl) (B := d_heed_Proc_plain_c1 x0 x1 h K) (by kernel_rfl) hd
def d_omap_Map_string_uint32_All_c1_4 (q6 : Post) (m : List Nat) (s4 : Env) (v7 v8 v9 v10 v11 v12 v13 v14 v16 : Value) (h15 : Heap) : Prop := q6 .ret m (puts s4 [(9, v7), (10, (s4 8)), (11, v8), (12, v9), (3, (s4 8)), (4, v9), (13, (s4 0)), (14, v9), (15, v10), (16, v11), (17, (s4 8)), (18, v12), (19, v13), (20, v14), (21, v16)]) h15
def d_omap_Map_string_uint32_All_c1_5 (s4 : Env) (q6 : Post) (m : List Nat) (v7 v8 v9 v10 v11 v12 v13 v14 v16 : Value) (h15 : Heap) : Prop := ov (binV BinOp.add 2 true (s4 8) (Value.int IntKind.i64 1)) fun v17 => q6 .normal m (puts s4 [(9, v7), (10, (s4 8)), (11, v8), (12, v9), (3, (s4 8)), (4, v9), (13, (s4 0)), (14, v9), (15, v10), (16, v11), (17, (s4 8)), (18, v12), (19, v13), (20, v14), (21, v16), (22, v17), (8, v17)]) h15
def d_omap_Map_string_uint32_All_c1_3 (v14 : Value) (q6 : Post) (m : List Nat) (s4 : Env) (v7 v8 v9 v10 v11 v12 v13 : Value) (h15 : Heap) : Prop := ov (unV UnOp.not v14) fun v16 => cdM v16 (d_omap_Map_string_uint32_All_c1_4 q6 m s4 v7 v8 v9 v10 v11 v12 v13 v14 v16 h15) (d_omap_Map_string_uint32_All_c1_5 s4 q6 m v7 v8 v9 v10 v11 v12 v13 v14 v16 h15)
def d_omap_Map_string_uint32_All_c1_2 (s4 : Env) (h5 : Heap) (q6 : Post) (m : List Nat) (v7 : Value) : Prop := ov (iaV (some (none, 1)) (s4 6) (s4 8)) fun v8 => ov (ldV (some none) v8 h5) fun v9 => ov (faV (some 1) (s4 1)) fun v10 => ov (ldV (some none) v10 h5) fun v11 => ov (iaV (some (none, 1)) v11 (s4 8)) fun v12 => ov (ldV (some none) v12 h5) fun v13 => nxM P (do let d ← Deferred.ofValue (s4 0) #[v9, v13] ; invoke d.target d.args) h5 fun v14 h15 => d_omap_Map_string_uint32_All_c1_3 v14 q6 m s4 v7 v8 v9 v10 v11 v12 v13 h15
def d_omap_Map_string_uint32_All_c1_1 (s4 : Env) (h5 : Heap) (q6 : Post) (m : List Nat) : Prop := ov (binV BinOp.lss 2 false (s4 8) (s4 7)) fun v7 => cdM v7 (d_omap_Map_string_uint32_All_c1_2 s4 h5 q6 m v7) (q6 (.exit 0) m (puts s4 [(9, v7)]) h5)
def d_omap_Map_string_uint32_All_c1 (x0 x1 : Value) (h : Heap) (K : Value → Heap → Prop) : Prop := ov (faV (some 0) x1) fun v1 => ov (ldV (some none) v1 h) fun v2 => ov (lnV 7 v2) fun v3 => loopM (fun m s4 h5 q6 => d_omap_Map_string_uint32_All_c1_1 s4 h5 q6 m) [] (puts (envOf [x0, x1]) [(5, v1), (6, v2), (7, v3), (8, (Value.int IntKind.i64 0))]) h (blkM 0 (retM P [] K))
theorem e_omap_Map_string_uint32_All_c1 {x0 x1 : Value} {h : Heap} {K : Value → Heap → Prop} (hd : d_omap_Map_string_uint32_All_c1 x0 x1 h K) : callM P fn_omap_Map_string_uint32_All_c1 #[x0, x1] h K :=
  call_of good mixed (fn := Tryz.f289) (args := [x0, x1]) Tryz.func289 rfl (by kernel_rfl) (of_decide_eq_true rfl) (B := d_omap_Map_string_uint32_All_c1 x0 x1 h K) (by kernel_rfl) hd
def d_omap_Map_string_uint32_find (x0 x1 : Value) (h : Heap) (K : Value → Heap → Prop) : Prop := nwM (some x0.cells) ty_omap_Map_string_uint32 h fun v1 h2 => ov (faV (some 0) v1) fun v3 => ov (ldV (some none) v3 h2) fun v4 => callM P fn_slices_BinarySearch_string_string #[v4, x1] h2 fun v5 h6 => ov (exV v5 0) fun v7 => ov (exV v5 1) fun v8 => K (.tuple #[v7, v8]) h6
theorem e_omap_Map_string_uint32_find {x0 x1 : Value} {h : Heap} {K : Value → Heap → Prop} (hd : d_omap_Map_string_uint32_find x0 x1 h K) : callM P fn_omap_Map_string_uint32_find #[x0, x1] h K :=
  call_of good mixed (fn := Tryz.f290) (args := [x0, x1]) Tryz.func290 rfl (by kernel_rfl) (of_decide_eq_true rfl) (B := d_omap_Map_string_uint32_find x0 x1 h K) (by kernel_rfl) hd
def d_latch_Latch_Owner (x0 : Value) (h : Heap) (K : Value → Heap → Prop) : Prop := nwM (some x0.cells) ty_latch_Latch h fun v1 h2 => ov (faV (some 0) v1) fun v3 => ov (ldV (some none) v3 h2) fun v4 => ov (binV BinOp.sub 2 true v4 (Value.int IntKind.i64 1)) fun v5 => K v5 h2
theorem e_latch_Latch_Owner {x0 : Value} {h : Heap} {K : Value → Heap → Prop} (hd : d_latch_Latch_Owner x0 h K) : callM P fn_latch_Latch_Owner #[x0] h K :=
  call_of good mixed (fn := Tryz.f291) (args := [x0]) Tryz.func291 rfl (by kernel_rfl) (of_decide_eq_true rfl) (B := d_latch_Latch_Owner x0 h K) (by kernel_rfl) hd
def d_slices_BinarySearch_string_string_5 (v12 : Value) (q7 : Post) (m : List Nat) (s5 : Env) (v8 v9 v10 v11 v13 v14 v15 : Value) (h16 : Heap) : Prop := ov (binV BinOp.add 2 true v12 (Value.int IntKind.i64 1)) fun v17 => q7 .normal m (puts s5 [(13, (s5 7)), (14, (s5 8)), (15, v8), (16, (s5 7)), (17, (s5 8)), (18, v9), (19, v10), (20, v11), (21, v12), (9, v12), (22, (s5 0)), (23, v12), (24, v13), (25, v14), (26, (s5 1)), (27, v15), (28, v12), (29, v17), (7, v17)]) h16
def d_slices_BinarySearch_string_string_6 (q7 : Post) (m : List Nat) (s5 : Env) (v8 v9 v10 v11 v12 v13 v14 v15 : Value) (h16 : Heap) : Prop := q7 .normal m (puts s5 [(13, (s5 7)), (14, (s5 8)), (15, v8), (16, (s5 7)), (17, (s5 8)), (18, v9), (19, v10), (20, v11), (21, v12), (9, v12), (22, (s5 0)), (23, v12), (24, v13), (25, v14), (26, (s5 1)), (27, v15), (30, v12), (8, v12)]) h16
def d_slices_BinarySearch_string_string_4 (v15 v12 : Value) (q7 : Post) (m : List Nat) (s5 : Env) (v8 v9 v10 v11 v13 v14 : Value) (h16 : Heap) : Prop := cdM v15 (d_slices_BinarySearch_string_string_5 v12 q7 m s5 v8 v9 v10 v11 v13 v14 v15 h16) (d_slices_BinarySearch_string_string_6 q7 m s5 v8 v9 v10 v11 v12 v13 v14 v15 h16)
def d_slices_BinarySearch_string_string_3 (s5 : Env) (h6 : Heap) (q7 : Post) (m : List Nat) (v8 : Value) : Prop := ov (binV BinOp.add 2 false (s5 7) (s5 8)) fun v9 => ov (cvV (some .u64) v9) fun v10 => ov (binV BinOp.shr 2 true v10 (Value.int IntKind.u64 1)) fun v11 => ov (cvV (some .i64) v11) fun v12 => ov (iaV (some (none, 1)) (s5 0) v12) fun v13 => ov (ldV (some none) v13 h6) fun v14 => callM P fn_cmp_Less_string #[v14, (s5 1)] h6 fun v15 h16 => d_slices_BinarySearch_string_string_4 v15 v12 q7 m s5 v8 v9 v10 v11 v13 v14 h16
def d_slices_BinarySearch_string_string_2 (s5 : Env) (h6 : Heap) (q7 : Post) (m : List Nat) : Prop := ov (binV BinOp.lss 2 false (s5 7) (s5 8)) fun v8 => cdM v8 (d_slices_BinarySearch_string_string_3 s5 h6 q7 m v8) (q7 (.exit 0) m (puts s5 [(13, (s5 7)), (14, (s5 8)), (15, v8)]) h6)
def d_slices_BinarySearch_string_string_1 (x0 x1 v1 : Value) (h : Heap) (q2 : Post) : Prop := loopM (fun m s5 h6 q7 => d_slices_BinarySearch_string_string_2 s5 h6 q7 m) [] (puts (envOf [x0, x1]) [(4, (Value.int IntKind.i64 0)), (5, (Value.bool false)), (10, x0), (11, v1), (6, v1), (12, v1), (7, (Value.int IntKind.i64 0)), (8, v1)]) h (blkM 0 q2)
def d_slices_BinarySearch_string_string_7 (s3 : Env) (h4 : Heap) (K : Value → Heap → Prop) (m : List Nat) : Prop := ov (binV BinOp.lss 2 false (s3 7) (s3 6)) fun v18 => gM (isB v18 true) (fun k21 => k21 (s3 0) h4) h4 fun v19 h20 => gM (isB v18 true) (fun k24 => k24 (s3 7) h20) h20 fun v22 h23 => gM (isB v18 true) (fun k27 => ov (iaV (some (none, 1)) v19 v22) fun v28 => k27 v28 h23) h23 fun v25 h26 => gM (isB v18 true) (fun k31 => ov (ldV (some none) v25 h26) fun v32 => k31 v32 h26) h26 fun v29 h30 => gM (isB v18 true) (fun k35 => k35 (s3 1) h30) h30 fun v33 h34 => gM (isB v18 true) (fun k38 => ov (binV BinOp.eql 3 false v29 v33) fun v39 => k38 v39 h34) h34 fun v36 h37 => gM (isB v18 true) (fun k42 => k42 v36 h37) h37 fun v40 h41 => gM (isB v40 false) (fun k45 => k45 (s3 0) h41) h41 fun v43 h44 => gM (isB v40 false) (fun k48 => k48 (s3 7) h44) h44 fun v46 h47 => gM (isB v40 false) (fun k51 => ov (iaV (some (none, 1)) v43 v46) fun v52 => k51 v52 h47) h47 fun v49 h50 => gM (isB v40 false) (fun k55 => ov (ldV (some none) v49 h50) fun v56 => k55 v56 h50) h50 fun v53 h54 => gM (isB v40 false) (fun k59 => callM P fn_slices_isNaN_string #[v53] h54 fun v60 h61 => k59 v60 h61) h54 fun v57 h58 => gM (isB v40 false) (fun k64 => k64 v57 h58) h58 fun v62 h63 => gM (isB v62 true) (fun k67 => k67 (s3 1) h63) h63 fun v65 h66 => gM (isB v62 true) (fun k70 => callM P fn_slices_isNaN_string #[v65] h66 fun v71 h72 => k70 v71 h72) h66 fun v68 h69 => gM (isB v40 false) (fun k75 => ov (pkV v62 v68 (Value.bool false)) fun v76 => k75 v76 h69) h69 fun v73 h74 => gM (isB v18 true) (fun k79 => ov (pkV v40 (Value.bool true) v73) fun v80 => k79 v80 h74) h74 fun v77 h78 => ov (pkV v18 v77 (Value.bool false)) fun v81 => (retM P [.tmp 4, .tmp 5] K) .ret m (puts s3 [(31, (s3 7)), (32, (s3 7)), (33, (s3 6)), (34, v18), (35, v18), (36, v19), (37, v22), (38, v25), (39, v29), (40, v33), (41, v36), (42, v40), (43, v43), (44, v46), (45, v49), (46, v53), (47, v57), (48, v62), (49, v65), (50, v68), (51, v73), (52, v77), (53, v81), (4, (s3 7)), (5, v81)]) h78
def d_slices_BinarySearch_string_string (x0 x1 : Value) (h : Heap) (K : Value → Heap → Prop) : Prop := ov (lnV 7 x0) fun v1 => seqM (fun q2 => d_slices_BinarySearch_string_string_1 x0 x1 v1 h q2) (fun m s3 h4 => d_slices_BinarySearch_string_string_7 s3 h4 K m) (retM P [.tmp 4, .tmp 5] K)
theorem e_slices_BinarySearch_string_string {x0 x1 : Value} {h : Heap} {K : Value → Heap → Prop} (hd : d_slices_BinarySearch_string_string x0 x1 h K) : callM P fn_slices_BinarySearch_string_string #[x0, x1] h K :=
  call_of good mixed (fn := Tryz.f298) (args := [x0, x1]) Tryz.func298 rfl (by kernel_rfl) (of_decide_eq_true rfl) (B := d_slices_BinarySearch_string_string x0 x1 h K) (by kernel_rfl) hd
end Go.Proofs.YtcnphhhcknhhaaaGreat
namespace Go.Proofs.YtcnphhhcknhhaaaGreat
open Go Go.Den
set_option maxRecDepth 100000
set_option linter.unusedVariables false
def d_slices_Delete_string_string_2 (v7 v4 : Value) (h8 : Heap) (K : Value → Heap → Prop) : Prop := ov (lnV 7 v7) fun v9 => ov (slV (some (none, 1)) v7 (some v9) (some v4)) fun v10 => vvM P (Builtin.clear_ #[ty_Sl_string] ty_unit #[v10]) h8 fun v11 h12 => K v7 h12
def d_slices_Delete_string_string_1 (x0 x1 x2 : Value) (h : Heap) (K : Value → Heap → Prop) : Prop := ov (lnV 7 x0) fun v4 => ov (slV (some (none, 1)) x0 none (some x1)) fun v5 => ov (slV (some (none, 1)) x0 (some x2) none) fun v6 => vvM P (Builtin.append_ #[ty_Sl_string, ty_Sl_string] ty_Sl_string #[v5, v6]) h fun v7 h8 => d_slices_Delete_string_string_2 v7 v4 h8 K
def d_slices_Delete_string_string (x0 x1 x2 : Value) (h : Heap) (K : Value → Heap → Prop) : Prop := ov (lnV 7 x0) fun v1 => ov (sl3V (some (none, 1)) x0 (some x1) x2 v1) fun v2 => ov (binV BinOp.eql 2 false x1 x2) fun v3 => cdM v3 (K x0 h) (d_slices_Delete_string_string_1 x0 x1 x2 h K)
theorem e_slices_Delete_string_string {x0 x1 x2 : Value} {h : Heap} {K : Value → Heap → Prop} (hd : d_slices_Delete_string_string x0 x1 x2 h K) : callM P fn_slices_Delete_string_string #[x0, x1, x2] h K :=
  call_of good mixed (fn := Tryz.f306) (args := [x0, x1, x2]) Tryz.func306 rfl (by kernel_rfl) (of_decide_eq_true rfl) (B := d_slices_Delete_string_string x0 x1 x2 h K) (by kernel_rfl) hd
def d_slices_Clone_string_string (x0 : Value) (h : Heap) (K : Value → Heap → Prop) : Prop := ov (binV BinOp.eql 7 true x0 (Value.slice none 0 0)) fun v1 => cdM v1 (K (Value.slice none 0 0) h) (bsM (bsI P ty_Sl_string) 0 [] h fun v2 h3 => vvM P (Builtin.append_ #[ty_Sl_string, ty_Sl_string] ty_Sl_string #[v2, x0]) h3 fun v4 h5 => K v4 h5)
theorem e_slices_Clone_string_string {x0 : Value} {h : Heap} {K : Value → Heap → Prop} (hd : d_slices_Clone_string_string x0 h K) : callM P fn_slices_Clone_string_string #[x0] h K :=
  call_of good mixed (fn := Tryz.f307) (args := [x0]) Tryz.func307 rfl (by kernel_rfl) (of_decide_eq_true rfl) (B := d_slices_Clone_string_string x0 h K) (by kernel_rfl) hd
def d_slices_Delete_uint32_uint32_2 (v7 v4 : Value) (h8 : Heap) (K : Value → Heap → Prop) : Prop := ov (lnV 7 v7) fun v9 => ov (slV (some (none, 1)) v7 (some v9) (some v4)) fun v10 => vvM P (Builtin.clear_ #[ty_Sl_uint32] ty_unit #[v10]) h8 fun v11 h12 => K v7 h12
def d_slices_Delete_uint32_uint32_1 (x0 x1 x2 : Value) (h : Heap) (K : Value → Heap → Prop) : Prop := ov (lnV 7 x0) fun v4 => ov (slV (some (none, 1)) x0 none (some x1)) fun v5 => ov (slV (some (none, 1)) x0 (some x2) none) fun v6 => vvM P (Builtin.append_ #[ty_Sl_uint32, ty_Sl_uint32] ty_Sl_uint32 #[v5, v6]) h fun v7 h8 => d_slices_Delete_uint32_uint32_2 v7 v4 h8 K
def d_slices_Delete_uint32_uint32 (x0 x1 x2 : Value) (h : Heap) (K : Value → Heap → Prop) : Prop := ov (lnV 7 x0) fun v1 => ov (sl3V (some (none, 1)) x0 (some x1) x2 v1) fun v2 => ov (binV BinOp.eql 2 false x1 x2) fun v3 => cdM v3 (K x0 h) (d_slices_Delete_uint32_uint32_1 x0 x1 x2 h K)
theorem e_slices_Delete_uint32_uint32 {x0 x1 x2 : Value} {h : Heap} {K : Value → Heap → Prop} (hd : d_slices_Delete_uint32_uint32 x0 x1 x2 h K) : callM P fn_slices_Delete_uint32_uint32 #[x0, x1, x2] h K :=
  call_of good mixed (fn := Tryz.f308) (args := [x0, x1, x2]) Tryz.func308 rfl (by kernel_rfl) (of_decide_eq_true rfl) (B := d_slices_Delete_uint32_uint32 x0 x1 x2 h K) (by kernel_rfl) hd
def d_slices_Clone_uint32_uint32 (x0 : Value) (h : Heap) (K : Value → Heap → Prop) : Prop := ov (binV BinOp.eql 7 true x0 (Value.slice none 0 0)) fun v1 => cdM v1 (K (Value.slice none 0 0) h) (bsM (bsI P ty_Sl_uint32) 0 [] h fun v2 h3 => vvM P (Builtin.append_ #[ty_Sl_uint32, ty_Sl_uint32] ty_Sl_uint32 #[v2, x0]) h3 fun v4 h5 => K v4 h5)
theorem e_slices_Clone_uint32_uint32 {x0 : Value} {h : Heap} {K : Value → Heap → Prop} (hd : d_slices_Clone_uint32_uint32 x0 h K) : callM P fn_slices_Clone_uint32_uint32 #[x0] h K :=
  call_of good mixed (fn := Tryz.f309) (args := [x0]) Tryz.func309 rfl (by kernel_rfl) (of_decide_eq_true rfl) (B := d_slices_Clone_uint32_uint32 x0 h K) (by kernel_rfl) hd
def d_slices_Insert_string_string_6 (x1 v2 v15 x0 : Value) (h19 : Heap) (K : Value → Heap → Prop) : Prop := ov (binV BinOp.add 2 false x1 v2) fun v20 => ov (slV (some (none, 1)) v15 (some v20) none) fun v21 => ov (slV (some (none, 1)) x0 (some x1) none) fun v22 => vvM P (Builtin.copy_ #[ty_Sl_string, ty_Sl_string] ty_int #[v21, v22]) h19 fun v23 h24 => K v15 h24
def d_slices_Insert_string_string_5 (v15 x1 x2 : Value) (h16 : Heap) (v2 x0 : Value) (K : Value → Heap → Prop) : Prop := ov (slV (some (none, 1)) v15 (some x1) none) fun v17 => vvM P (Builtin.copy_ #[ty_Sl_string, ty_Sl_string] ty_int #[v17, x2]) h16 fun v18 h19 => d_slices_Insert_string_string_6 x1 v2 v15 x0 h19 K
def d_slices_Insert_string_string_4 (x0 x1 v4 v2 : Value) (h10 : Heap) (x2 : Value) (K : Value → Heap → Prop) : Prop := ov (slV (some (none, 1)) x0 none (some x1)) fun v12 => ov (binV BinOp.add 2 false v4 v2) fun v13 => ov (binV BinOp.sub 2 false v13 x1) fun v14 => vvM P (Builtin.append_ #[ty_Sl_string, ty_int] ty_Sl_string #[v12, v14]) h10 fun v15 h16 => d_slices_Insert_string_string_5 v15 x1 x2 h16 v2 x0 K
def d_slices_Insert_string_string_9 (x1 v2 v26 : Value) (h30 : Heap) (x2 : Value) (K : Value → Heap → Prop) : Prop := ov (binV BinOp.add 2 false x1 v2) fun v32 => ov (slV (some (none, 1)) v26 (some v32) none) fun v33 => ov (slV (some (none, 1)) v26 (some x1) none) fun v34 => vvM P (Builtin.copy_ #[ty_Sl_string, ty_Sl_string] ty_int #[v33, v34]) h30 fun v35 h36 => ov (slV (some (none, 1)) v26 (some x1) none) fun v37 => vvM P (Builtin.copy_ #[ty_Sl_string, ty_Sl_string] ty_int #[v37, x2]) h36 fun v38 h39 => K v26 h39
def d_slices_Insert_string_string_10 (v26 v4 x2 : Value) (h30 : Heap) (x1 v2 : Value) (K : Value → Heap → Prop) : Prop := ov (slV (some (none, 1)) v26 (some v4) none) fun v40 => vvM P (Builtin.copy_ #[ty_Sl_string, ty_Sl_string] ty_int #[v40, x2]) h30 fun v41 h42 => ov (slV (some (none, 1)) v26 (some x1) none) fun v43 => callM P fn_slices_rotateRight_string #[v43, v2] h42 fun v44 h45 => K v26 h45
def d_slices_Insert_string_string_8 (v29 x1 v2 v26 : Value) (h30 : Heap) (x2 : Value) (K : Value → Heap → Prop) (v4 : Value) : Prop := ov (unV UnOp.not v29) fun v31 => cdM v31 (d_slices_Insert_string_string_9 x1 v2 v26 h30 x2 K) (d_slices_Insert_string_string_10 v26 v4 x2 h30 x1 v2 K)
def d_slices_Insert_string_string_7 (v4 v2 x0 x1 x2 : Value) (h10 : Heap) (K : Value → Heap → Prop) : Prop := ov (binV BinOp.add 2 false v4 v2) fun v25 => ov (slV (some (none, 1)) x0 none (some v25)) fun v26 => ov (binV BinOp.add 2 false x1 v2) fun v27 => ov (slV (some (none, 1)) v26 (some v27) none) fun v28 => nxM P (callFunc fn_slices_overlaps_string #[x2, v28]) h10 fun v29 h30 => d_slices_Insert_string_string_8 v29 x1 v2 v26 h30 x2 K v4
def d_slices_Insert_string_string_3 (v8 v9 x0 x1 v4 v2 : Value) (h10 : Heap) (x2 : Value) (K : Value → Heap → Prop) : Prop := ov (binV BinOp.gtr 2 false v8 v9) fun v11 => cdM v11 (d_slices_Insert_string_string_4 x0 x1 v4 v2 h10 x2 K) (d_slices_Insert_string_string_7 v4 v2 x0 x1 x2 h10 K)
def d_slices_Insert_string_string_2 (v4 v2 x0 : Value) (h : Heap) (x1 x2 : Value) (K : Value → Heap → Prop) : Prop := ov (binV BinOp.add 2 false v4 v2) fun v8 => vvM P (Builtin.cap_ #[ty_Sl_string] ty_int #[x0]) h fun v9 h10 => d_slices_Insert_string_string_3 v8 v9 x0 x1 v4 v2 h10 x2 K
def d_slices_Insert_string_string_1 (x0 x1 x2 : Value) (h : Heap) (K : Value → Heap → Prop) (v2 : Value) : Prop := ov (lnV 7 x0) fun v4 => ov (binV BinOp.eql 2 false x1 v4) fun v5 => cdM v5 (vvM P (Builtin.append_ #[ty_Sl_string, ty_Sl_string] ty_Sl_string #[x0, x2]) h fun v6 h7 => K v6 h7) (d_slices_Insert_string_string_2 v4 v2 x0 h x1 x2 K)
def d_slices_Insert_string_string (x0 x1 x2 : Value) (h : Heap) (K : Value → Heap → Prop) : Prop := ov (slV (some (none, 1)) x0 (some x1) none) fun v1 => ov (lnV 7 x2) fun v2 => ov (binV BinOp.eql 2 true v2 (Value.int IntKind.i64 0)) fun v3 => cdM v3 (K x0 h) (d_slices_Insert_string_string_1 x0 x1 x2 h K v2)
theorem e_slices_Insert_string_string {x0 x1 x2 : Value} {h : Heap} {K : Value → Heap → Prop} (hd : d_slices_Insert_string_string x0 x1 x2 h K) : callM P fn_slices_Insert_string_string #[x0, x1, x2] h K :=
  call_of good mixed (fn := Tryz.f310) (args := [x0, x1, x2]) Tryz.func310 rfl (by kernel_rfl) (of_decide_eq_true rfl) (B := d_slices_Insert_string_string x0 x1 x2 h K) (by kernel_rfl) hd
def d_slices_Insert_uint32_uint32_6 (x1 v2 v15 x0 : Value) (h19 : Heap) (K : Value → Heap → Prop) : Prop := ov (binV BinOp.add 2 false x1 v2) fun v20 => ov (slV (some (none, 1)) v15 (some v20) none) fun v21 => ov (slV (some (none, 1)) x0 (some x1) none) fun v22 => vvM P (Builtin.copy_ #[ty_Sl_uint32, ty_Sl_uint32] ty_int #[v21, v22]) h19 fun v23 h24 => K v15 h24
def d_slices_Insert_uint32_uint32_5 (v15 x1 x2 : Value) (h16 : Heap) (v2 x0 : Value) (K : Value → Heap → Prop) : Prop := ov (slV (some (none, 1)) v15 (some x1) none) fun v17 => vvM P (Builtin.copy_ #[ty_Sl_uint32, ty_Sl_uint32] ty_int #[v17, x2]) h16 fun v18 h19 => d_slices_Insert_uint32_uint32_6 x1 v2 v15 x0 h19 K
def d_slices_Insert_uint32_uint32_4 (x0 x1 v4 v2 : Value) (h10 : Heap) (x2 : Value) (K : Value → Heap → Prop) : Prop := ov (slV (some (none, 1)) x0 none (some x1)) fun v12 => ov (binV BinOp.add 2 false v4 v2) fun v13 => ov (binV BinOp.sub 2 false v13 x1) fun v14 => vvM P (Builtin.append_ #[ty_Sl_uint32, ty_int] ty_Sl_uint32 #[v12, v14]) h10 fun v15 h16 => d_slices_Insert_uint32_uint32_5 v15 x1 x2 h16 v2 x0 K
def d_slices_Insert_uint32_uint32_9 (x1 v2 v26 : Value) (h30 : Heap) (x2 : Value) (K : Value → Heap → Prop) : Prop := ov (binV BinOp.add 2 false x1 v2) fun v32 => ov (slV (some (none, 1)) v26 (some v32) none) fun v33 => ov (slV (some (none, 1)) v26 (some x1) none) fun v34 => vvM P (Builtin.copy_ #[ty_Sl_uint32, ty_Sl_uint32] ty_int #[v33, v34]) h30 fun v35 h36 => ov (slV (some (none, 1)) v26 (some x1) none) fun v37 => vvM P (Builtin.copy_ #[ty_Sl_uint32, ty_Sl_uint32] ty_int #[v37, x2]) h36 fun v38 h39 => K v26 h39
def d_slices_Insert_uint32_uint32_10 (v26 v4 x2 : Value) (h30 : Heap) (x1 v2 : Value) (K : Value → Heap → Prop) : Prop := ov (slV (some (none, 1)) v26 (some v4) none) fun v40 => vvM P (Builtin.copy_ #[ty_Sl_uint32, ty_Sl_uint32] ty_int #[v40, x2]) h30 fun v41 h42 => ov (slV (some (none, 1)) v26 (some x1) none) fun v43 => callM P fn_slices_rotateRight_uint32 #[v43, v2] h42 fun v44 h45 => K v26 h45
def d_slices_Insert_uint32_uint32_8 (v29 x1 v2 v26 : Value) (h30 : Heap) (x2 : Value) (K : Value → Heap → Prop) (v4 : Value) : Prop := ov (unV UnOp.not v29) fun v31 => cdM v31 (d_slices_Insert_uint32_uint32_9 x1 v2 v26 h30 x2 K) (d_slices_Insert_uint32_uint32_10 v26 v4 x2 h30 x1 v2 K)
def d_slices_Insert_uint32_uint32_7 (v4 v2 x0 x1 x2 : Value) (h10 : Heap) (K : Value → Heap → Prop) : Prop := ov (binV BinOp.add 2 false v4 v2) fun v25 => ov (slV (some (none, 1)) x0 none (some v25)) fun v26 => ov (binV BinOp.add 2 false x1 v2) fun v27 => ov (slV (some (none, 1)) v26 (some v27) none) fun v28 => nxM P (callFunc fn_slices_overlaps_uint32 #[x2, v28]) h10 fun v29 h30 => d_slices_Insert_uint32_uint32_8 v29 x1 v2 v26 h30 x2 K v4
def d_slices_Insert_uint32_uint32_3 (v8 v9 x0 x1 v4 v2 : Value) (h10 : Heap) (x2 : Value) (K : Value → Heap → Prop) : Prop := ov (binV BinOp.gtr 2 false v8 v9) fun v11 => cdM v11 (d_slices_Insert_uint32_uint32_4 x0 x1 v4 v2 h10 x2 K) (d_slices_Insert_uint32_uint32_7 v4 v2 x0 x1 x2 h10 K)
def d_slices_Insert_uint32_uint32_2 (v4 v2 x0 : Value) (h : Heap) (x1 x2 : Value) (K : Value → Heap → Prop) : Prop := ov (binV BinOp.add 2 false v4 v2) fun v8 => vvM P (Builtin.cap_ #[ty_Sl_uint32] ty_int #[x0]) h fun v9 h10 => d_slices_Insert_uint32_uint32_3 v8 v9 x0 x1 v4 v2 h10 x2 K
def d_slices_Insert_uint32_uint32_1 (x0 x1 x2 : Value) (h : Heap) (K : Value → Heap → Prop) (v2 : Value) : Prop := ov (lnV 7 x0) fun v4 => ov (binV BinOp.eql 2 false x1 v4) fun v5 => cdM v5 (vvM P (Builtin.append_ #[ty_Sl_uint32, ty_Sl_uint32] ty_Sl_uint32 #[x0, x2]) h fun v6 h7 => K v6 h7) (d_slices_Insert_uint32_uint32_2 v4 v2 x0 h x1 x2 K)
def d_slices_Insert_uint32_uint32 (x0 x1 x2 : Value) (h : Heap) (K : Value → Heap → Prop) : Prop := ov (slV (some (none, 1)) x0 (some x1) none) fun v1 => ov (lnV 7 x2) fun v2 => ov (binV BinOp.eql 2 true v2 (Value.int IntKind.i64 0)) fun v3 => cdM v3 (K x0 h) (d_slices_Insert_uint32_uint32_1 x0 x1 x2 h K v2)
theorem e_slices_Insert_uint32_uint32 {x0 x1 x2 : Value} {h : Heap} {K : Value → Heap → Prop} (hd : d_slices_Insert_uint32_uint32 x0 x1 x2 h K) : callM P fn_slices_Insert_uint32_uint32 #[x0, x1, x2] h K :=
  call_of good mixed (fn := Tryz.f311) (args := [x0, x1, x2]) Tryz.func311 rfl (by kernel_rfl) (of_decide_eq_true rfl) (B := d_slices_Insert_uint32_uint32 x0 x1 x2 h K) (by kernel_rfl) hd
def d_ring_Ring_api_Event_All (x0 : Value) (h : Heap) (K : Value → Heap → Prop) : Prop := nwM (some x0.cells) ty_Ptr_ring_Ring_doorman_api_Event h fun v1 h2 => ov ((some (.func (Fn.func fn_ring_Ring_api_Event_All_c1) #[] #[v1]) : Option Value)) fun v3 => K v3 h2
theorem e_ring_Ring_api_Event_All {x0 : Value} {h : Heap} {K : Value → Heap → Prop} (hd : d_ring_Ring_api_Event_All x0 h K) : callM P fn_ring_Ring_api_Event_All #[x0] h K :=
  call_of good mixed (fn := Tryz.f315) (args := [x0]) Tryz.func315 rfl (by kernel_rfl) (of_decide_eq_true rfl) (B := d_ring_Ring_api_Event_All x0 h K) (by kernel_rfl) hd
def d_cmp_Less_string_1 (v1 x1 : Value) (h2 : Heap) (x0 : Value) (K : Value → Heap → Prop) : Prop := gM (isB v1 true) (fun k5 => k5 x1 h2) h2 fun v3 h4 => gM (isB v1 true) (fun k8 => callM P fn_cmp_isNaN_string #[v3] h4 fun v9 h10 => k8 v9 h10) h4 fun v6 h7 => gM (isB v1 true) (fun k13 => ov (unV UnOp.not v6) fun v14 => k13 v14 h7) h7 fun v11 h12 => ov (pkV v1 v11 (Value.bool false)) fun v15 => gM (isB v15 false) (fun k18 => k18 x0 h12) h12 fun v16 h17 => gM (isB v15 false) (fun k21 => k21 x1 h17) h17 fun v19 h20 => gM (isB v15 false) (fun k24 => ov (binV BinOp.lss 3 false v16 v19) fun v25 => k24 v25 h20) h20 fun v22 h23 => ov (pkV v15 (Value.bool true) v22) fun v26 => K v26 h23
def d_cmp_Less_string (x0 x1 : Value) (h : Heap) (K : Value → Heap → Prop) : Prop := callM P fn_cmp_isNaN_string #[x0] h fun v1 h2 => d_cmp_Less_string_1 v1 x1 h2 x0 K
theorem e_cmp_Less_string {x0 x1 : Value} {h : Heap} {K : Value → Heap → Prop} (hd : d_cmp_Less_string x0 x1 h K) : callM P fn_cmp_Less_string #[x0, x1] h K :=
  call_of good mixed (fn := Tryz.f316) (args := [x0, x1]) Tryz.func316 rfl (by kernel_rfl) (of_decide_eq_true rfl) (B := d_cmp_Less_string x0 x1 h K) (by kernel_rfl) hd
def d_slices_isNaN_string (x0 : Value) (h : Heap) (K : Value → Heap → Prop) : Prop := ov (binV BinOp.neq 3 false x0 x0) fun v1 => K v1 h
theorem e_slices_isNaN_string {x0 : Value} {h : Heap} {K : Value → Heap → Prop} (hd : d_slices_isNaN_string x0 h K) : callM P fn_slices_isNaN_string #[x0] h K :=
  call_of good mixed (fn := Tryz.f317) (args := [x0]) Tryz.func317 rfl (by kernel_rfl) (of_decide_eq_true rfl) (B := d_slices_isNaN_string x0 h K) (by kernel_rfl) hd
def d_ring_Ring_api_Event_All_c1_4 (s6 : Env) (q8 : Post) (m : List Nat) (v9 v10 v11 v12 v15 v16 v18 : Value) (h17 : Heap) : Prop := ov (binV BinOp.add 2 true (s6 10) (Value.int IntKind.i64 1)) fun v19 => q8 .normal m (puts s6 [(11, v9), (12, v10), (13, v11), (4, v12), (14, (s6 0)), (15, v15), (16, v16), (17, v18), (18, v19), (10, v19)]) h17
def d_ring_Ring_api_Event_All_c1_3 (v16 : Value) (q8 : Post) (m : List Nat) (s6 : Env) (v9 v10 v11 v12 v15 : Value) (h17 : Heap) : Prop := ov (unV UnOp.not v16) fun v18 => cdM v18 (q8 .ret m (puts s6 [(11, v9), (12, v10), (13, v11), (4, v12), (14, (s6 0)), (15, v15), (16, v16), (17, v18)]) h17) (d_ring_Ring_api_Event_All_c1_4 s6 q8 m v9 v10 v11 v12 v15 v16 v18 h17)
def d_ring_Ring_api_Event_All_c1_2 (s6 : Env) (h7 : Heap) (q8 : Post) (m : List Nat) (v9 : Value) : Prop := ov (iaV (some (none, 8)) (s6 8) (s6 10)) fun v10 => ov (ldV (some (some 8)) v10 h7) fun v11 => nwM (zc P ty_api_Event) ty_api_Event h7 fun v12 h13 => stM (some 8) v12 v11 h13 fun h14 => ov (ldV (some (some 8)) v12 h14) fun v15 => nxM P (do let d ← Deferred.ofValue (s6 0) #[v15] ; invoke d.target d.args) h14 fun v16 h17 => d_ring_Ring_api_Event_All_c1_3 v16 q8 m s6 v9 v10 v11 v12 v15 h17
def d_ring_Ring_api_Event_All_c1_1 (s6 : Env) (h7 : Heap) (q8 : Post) (m : List Nat) : Prop := ov (binV BinOp.lss 2 false (s6 10) (s6 9)) fun v9 => cdM v9 (d_ring_Ring_api_Event_All_c1_2 s6 h7 q8 m v9) (q8 (.exit 0) m (puts s6 [(11, v9)]) h7)
def d_ring_Ring_api_Event_All_c1 (x0 x1 : Value) (h : Heap) (K : Value → Heap → Prop) : Prop := ov (ldV (some none) x1 h) fun v1 => ov (ncV v1) fun v2 => ov (faV (some 1) v2) fun v3 => ov (ldV (some none) v3 h) fun v4 => ov (lnV 7 v4) fun v5 => loopM (fun m s6 h7 q8 => d_ring_Ring_api_Event_All_c1_1 s6 h7 q8 m) [] (puts (envOf [x0, x1]) [(5, v1), (6, v2), (7, v3), (8, v4), (9, v5), (10, (Value.int IntKind.i64 0))]) h (blkM 0 (retM P [] K))
theorem e_ring_Ring_api_Event_All_c1 {x0 x1 : Value} {h : Heap} {K : Value → Heap → Prop} (hd : d_ring_Ring_api_Event_All_c1 x0 x1 h K) : callM P fn_ring_Ring_api_Event_All_c1 #[x0, x1] h K :=
  call_of good mixed (fn := Tryz.f331) (args := [x0, x1]) Tryz.func331 rfl (by kernel_rfl) (of_decide_eq_true rfl) (B := d_ring_Ring_api_Event_All_c1 x0 x1 h K) (by kernel_rfl) hd
def d_cmp_isNaN_string (x0 : Value) (h : Heap) (K : Value → Heap → Prop) : Prop := ov (binV BinOp.neq 3 false x0 x0) fun v1 => K v1 h
theorem e_cmp_isNaN_string {x0 : Value} {h : Heap} {K : Value → Heap → Prop} (hd : d_cmp_isNaN_string x0 h K) : callM P fn_cmp_isNaN_string #[x0] h K :=
  call_of good mixed (fn := Tryz.f332) (args := [x0]) Tryz.func332 rfl (by kernel_rfl) (of_decide_eq_true rfl) (B := d_cmp_isNaN_string x0 h K) (by kernel_rfl) hd
end Go.Proofs.YtcnphhhcknhhaaaGreat
namespace Go.Proofs.YtcnphhhcknhhaaaGreat
open Go Go.Den Go.MapKept
set_option linter.unusedSimpArgs false
set_option linter.unusedVariables false
set_option maxRecDepth 20000
def ringC (r : Ring) (lv : Value) : List Value := [.int .i64 r.room, lv, .bool r.lost]
def RingR (T : Tags) (h : Heap) (g : Tag) (p : Nat) (r : Ring) : Prop :=
  ∃ lv, h p = some (.cells (ringC r lv).toArray ty_ring_Ring_doorman_api_Event (0, 0)) ∧ T p = g ++ [0] ∧ Rw T h (g ++ [1]) 8 ty_api_Event lv r.l.length (r.l.flatMap evC)
theorem RingR.kp {U : Tag → Prop} {T T' : Tags} {h h' : Heap} {g : Tag} {p : Nat} {r : Ring} (x : RingR T h g p r) (k : Kp U T h T' h') (o : Off U g) : RingR T' h' g p r := by
  obtain ⟨lv, h1, h2, h3⟩ := x
  obtain ⟨h4, h5⟩ := k.at h1 h2 (o.at _)
  exact ⟨lv, h4, h5, h3.kp k (o.at _)⟩
def feedG (kv vv : Value) (q : Nat → Value) : Nat → Value
  | 0 => kv
  | 1 => vv
  | k + 2 => q k
def feedC (kv vv : Value) (q : Nat → Value) : List Value := (List.range 10).map (feedG kv vv q)
abbrev ptr (b : Nat) : Value := .pointer (some ⟨b, 0, none⟩)
def FeedR (T : Tags) (h : Heap) (g : Tag) (p : Nat) (f : Feed) : Prop :=
  ∃ (kv vv : Value) (q : Nat → Nat), h p = some (.cells (feedC kv vv fun j => ptr (q j)).toArray ty_feed_Feed (0, 0)) ∧ T p = g ++ [0] ∧ Sl 1 StrR (fz T h) kv (f.ws.map (·.1)) ∧ Sl 1 MaskR (fz T h) vv (f.ws.map (·.2)) ∧
    (∀ j, j < 8 → RingR T h (g ++ [1, j]) (q j) (f.qs j)) ∧ Sn kv ∧ Sn vv
theorem FeedR.kp {U : Tag → Prop} {T T' : Tags} {h h' : Heap} {g : Tag} {p : Nat} {f : Feed} (x : FeedR T h g p f) (k : Kp U T h T' h') (o : Off U g) (n : ¬ U []) : FeedR T' h' g p f := by
  obtain ⟨kv, vv, q, h1, h2, h3, h4, h5, h8⟩ := x
  obtain ⟨h6, h7⟩ := k.at h1 h2 (o.at _)
  exact ⟨kv, vv, q, h6, h7, h3.ext (@StrR.ext) (k.ext n), h4.ext (@MaskR.ext) (k.ext n), fun j hj => (h5 j hj).kp k (o.app _), h8⟩
/-- A stripe's values: what was published, the book, the feed. -/
structure SV where
  sk : Value
  sv : Value
  bk : Value
  bv : Value
  fp : Nat
def strC (x : Strp) (y : SV) : List Value := [.int .i64 x.who, .int .u64 x.v, .int .u64 x.bound, y.sk, y.sv, y.bk, y.bv, ptr y.fp]
def StrpR (T : Tags) (h : Heap) (g : Tag) (x : Strp) (y : SV) : Prop := BookR (fz T h) y.sk y.sv x.snap ∧ BookR (fz T h) y.bk y.bv x.book ∧ FeedR T h g y.fp x.feed
theorem StrpR.kp {U : Tag → Prop} {T T' : Tags} {h h' : Heap} {g : Tag} {x : Strp} {y : SV} (r : StrpR T h g x y) (k : Kp U T h T' h') (o : Off U g) (n : ¬ U []) : StrpR T' h' g x y :=
  ⟨r.1.ext (k.ext n), r.2.1.ext (k.ext n), r.2.2.kp k o n⟩
def hallC (H : Hall) (sv av : Value) : List Value := [.int .i64 H.c.stripes, .int .i64 H.c.sessions, .int .i64 H.c.queue, .int .i64 H.c.watches, .int .i64 H.c.retries, .int .u64 H.c.epochs, .int .u64 H.c.start,
  .int .u64 H.t.now, .int .u64 H.t.seq, .bool H.t.closed, sv, av]
structure HallX (T : Tags) (h : Heap) (g : Tag) (p : Nat) (H : Hall) (sv av : Value) (Y : Nat → SV) : Prop where
  hp : h p = some (.cells (hallC H sv av).toArray ty_hall_Hall (0, 0))
  tp : T p = g ++ [0]
  st : Rw T h (g ++ [1]) 8 ty_hall_stripe sv H.n (seqF H.n fun i => strC (H.ss i) (Y i))
  ac : Rw T h (g ++ [2]) 3 ty_api_Act av H.acts.length (H.acts.flatMap actC)
  sr : ∀ i, i < H.n → StrpR T h (g ++ [3, i]) (H.ss i) (Y i)
def HallR (T : Tags) (h : Heap) (g : Tag) (p : Nat) (H : Hall) : Prop := ∃ sv av Y, HallX T h g p H sv av Y
theorem HallR.kp {U : Tag → Prop} {T T' : Tags} {h h' : Heap} {g : Tag} {p : Nat} {H : Hall} (x : HallR T h g p H) (k : Kp U T h T' h') (o : Off U g) (n : ¬ U []) : HallR T' h' g p H := by
  obtain ⟨sv, av, Y, x⟩ := x
  obtain ⟨h1, h2⟩ := k.at x.hp x.tp (o.at _)
  exact ⟨sv, av, Y, h1, h2, x.st.kp k (o.at _), x.ac.kp k (o.at _), fun i hi => (x.sr i hi).kp k (o.app _) n⟩
theorem bsAct : bsI P ty_Sl_api_Act = some (ty_api_Act, 3, #[.int .i64 0, .int .i64 0, .int .i64 0]) := by kernel_rfl
theorem unSlAct : P.underlying ty_Sl_api_Act = some (.slice ty_api_Act) := by kernel_rfl
theorem apAct : apC P ty_api_Act = some (3, 24, 3) := by kernel_rfl
theorem bdAct (a b c : Int) : bdV (binf P ty_api_Act) [(0, .int .i64 a), (1, .int .i64 b), (2, .int .i64 c)] = some (.agg #[.int .i64 a, .int .i64 b, .int .i64 c]) := by kernel_rfl
theorem zcTime : zc P ty_api_Time = some #[.int .u64 0, .int .u64 0, .bool false] := by kernel_rfl
theorem zcCfg : zc P ty_api_Config = some #[.int .i64 0, .int .i64 0, .int .i64 0, .int .i64 0, .int .i64 0, .int .u64 0, .int .u64 0] := by kernel_rfl
theorem bdTime (a : Int) : bdV (binf P ty_api_Time) [(0, .int .u64 a)] = some (.agg #[.int .u64 a, .int .u64 0, .bool false]) := by kernel_rfl
theorem bdHall (a b c d e f g t s : Int) (k : Bool) : bdV (binf P ty_hall_Hall) [(0, .agg #[.int .i64 a, .int .i64 b, .int .i64 c, .int .i64 d, .int .i64 e, .int .u64 f, .int .u64 g]), (1, .agg #[.int .u64 t, .int .u64 s, .bool k])] =
  some (.agg #[.int .i64 a, .int .i64 b, .int .i64 c, .int .i64 d, .int .i64 e, .int .u64 f, .int .u64 g, .int .u64 t, .int .u64 s, .bool k, .slice none 0 0, .slice none 0 0]) := by kernel_rfl
theorem bdStripe (v b : Int) (fp : Option Addr) : bdV (binf P ty_hall_stripe) [(1, .agg #[.int .u64 v, .int .u64 b]), (4, .pointer fp)] =
  some (.agg #[.int .i64 0, .int .u64 v, .int .u64 b, .slice none 0 0, .slice none 0 0, .slice none 0 0, .slice none 0 0, .pointer fp]) := by kernel_rfl
theorem bsStripe : bsI P ty_Sl_hall_stripe = some (ty_hall_stripe, 8, #[.int .i64 0, .int .u64 0, .int .u64 0, .slice none 0 0, .slice none 0 0, .slice none 0 0, .slice none 0 0, .pointer none]) := by kernel_rfl
theorem unSlStripe : P.underlying ty_Sl_hall_stripe = some (.slice ty_hall_stripe) := by kernel_rfl
theorem apStripe : apC P ty_hall_stripe = some (8, 128, 8) := by kernel_rfl
theorem bdFeed : bdV (binf P ty_feed_Feed) [] = some (.agg #[.slice none 0 0, .slice none 0 0, .pointer none, .pointer none, .pointer none, .pointer none, .pointer none, .pointer none, .pointer none, .pointer none]) := by kernel_rfl
theorem bdRing (n : Int) : bdV (binf P ty_ring_Ring_doorman_api_Event) [(0, .int .i64 n)] = some (.agg #[.int .i64 n, .slice none 0 0, .bool false]) := by kernel_rfl
theorem bdCell (n : Int) : bdV (binf P ty_cell_Cell) [(1, .int .u64 n)] = some (.agg #[.int .u64 0, .int .u64 n]) := by kernel_rfl
theorem zcCell : zc P ty_cell_Cell = some #[.int .u64 0, .int .u64 0] := by kernel_rfl
theorem zcLatch : zc P ty_latch_Latch = some #[.int .i64 0] := by kernel_rfl
theorem bdLatch (n : Int) : bdV (binf P ty_latch_Latch) [(0, .int .i64 n)] = some (.agg #[.int .i64 n]) := by kernel_rfl
theorem bdLatch0 : bdV (binf P ty_latch_Latch) [] = some (.agg #[.int .i64 0]) := by kernel_rfl
theorem within_ok (n lo hi : Int) {h : Heap} {K : Value → Heap → Prop} (hk : K (.bool (decide (lo ≤ n ∧ n ≤ hi))) h) : callM P fn_model_within #[.int .i64 n, .int .i64 lo, .int .i64 hi] h K := by
  apply e_model_within
  unfold d_model_within
  by_cases h1 : lo ≤ n <;> simpa [h1] using hk
theorem place_ok (s w : Int) {h : Heap} {K : Value → Heap → Prop} (hs : 0 ≤ s ∧ s < 1000 ∧ 0 ≤ w ∧ w < 10) (hk : K (.int .i64 (4 * s + w)) h) : callM P fn_hall_Place #[.int .i64 s, .int .i64 w] h K := by
  apply e_hall_Place
  unfold d_hall_Place
  simp only [bin_mul, bin_add, ov_s, wrap64_id (n := 4 * s) (by omega) (by omega), wrap64_id (n := 4 * s + w) (by omega) (by omega)]
  exact hk
end Go.Proofs.YtcnphhhcknhhaaaGreat
namespace Go.Proofs.YtcnphhhcknhhaaaGreat
open Go Go.Den Go.MapKept
set_option linter.unusedSimpArgs false
set_option linter.unusedVariables false
set_option maxRecDepth 20000
theorem hashRight_ok (s : ByteArray) {h : Heap} {K : Value → Heap → Prop} (hk : K (.bool (nameB s)) h) : callM P fn_hash_Right #[.string s] h K := by
  apply e_hash_Right
  unfold d_hash_Right
  have : nameB s = (!decide (s = ⟨#[]⟩) && decide ((s.size : Int) ≤ 16)) := by
    unfold nameB; by_cases h0 : s.size = 0
    · rw [(str_empty s).2 h0]; rfl
    · have : ¬ s = ⟨#[]⟩ := fun e => h0 ((str_empty s).1 e)
      rw [Bool.eq_iff_iff]; simp [this]; omega
  rw [this] at hk
  simp +contextual -implicitDefEqProofs [-Bool.decide_eq_true]
  exact hk
theorem sessRight_ok (a b c : Int) {h : Heap} {K : Value → Heap → Prop} (hk : K (.bool (decide (0 ≤ a ∧ a ≤ 255 ∧ 1 ≤ b ∧ b ≤ 9 ∧ 0 ≤ c ∧ c ≤ 9))) h) : callM P fn_sess_Right #[.int .i64 a, .int .i64 b, .int .i64 c] h K := by
  apply e_sess_Right
  unfold d_sess_Right
  simp +contextual -implicitDefEqProofs
  simpa [Bool.decide_and, and_assoc, Bool.and_assoc] using hk
theorem modRight_ok (c : Cfg) {h : Heap} {K : Value → Heap → Prop} (hk : ∀ h', Ext h h' → K (.bool (rightB c)) h') : callM P fn_model_Right #[.agg (cfgC c).toArray] h K := by
  apply e_model_Right
  unfold d_model_Right
  refine nw_agg fun v1 h2 n2 e2 c2 => ?_
  simp only [cfgC] at c2
  simp only [faV_p, ov_s, ldV_c, cel_of c2, Nat.zero_add, List.getElem?_toArray, List.getElem?_cons_zero]
  refine within_ok _ _ _ ?_
  unfold d_model_Right_1
  simp +contextual -implicitDefEqProofs [cel_of c2]
  refine gM_call0 (a := .bool (decide (1 ≤ c.sessions ∧ c.sessions ≤ 8))) (fun hc K' hk' => within_ok _ _ _ hk') ?_
  simp +contextual -implicitDefEqProofs [cel_of c2]
  refine gM_call0 (a := .bool (decide (1 ≤ c.queue ∧ c.queue ≤ 16))) (fun hc K' hk' => within_ok _ _ _ hk') ?_
  simp +contextual -implicitDefEqProofs [cel_of c2]
  refine gM_call0 (a := .bool (decide (1 ≤ c.watches ∧ c.watches ≤ 8))) (fun hc K' hk' => within_ok _ _ _ hk') ?_
  simp +contextual -implicitDefEqProofs [cel_of c2]
  refine gM_call0 (a := .bool (decide (0 ≤ c.retries ∧ c.retries ≤ 4))) (fun hc K' hk' => within_ok _ _ _ hk') ?_
  simp +contextual -implicitDefEqProofs [cel_of c2]
  refine kb (hk h2 e2) ?_
  rw [Bool.eq_iff_iff]; simp [rightB]; omega
theorem refRight_ok (c : Cfg) {h : Heap} {K : Value → Heap → Prop} (hk : ∀ h', Ext h h' → K (.bool (rightB c)) h') : callM P fn_doormanref10_Right #[.agg (cfgC c).toArray] h K := by
  apply e_doormanref10_Right
  unfold d_doormanref10_Right
  refine nw_agg fun v1 h2 n2 e2 c2 => ?_
  simp only [cfgC] at c2
  simp +contextual -implicitDefEqProofs [cel_of c2]
  have := hk h2 e2
  refine kb this ?_
  rw [Bool.eq_iff_iff]; simp [rightB]; omega
end Go.Proofs.YtcnphhhcknhhaaaGreat
namespace Go.Den
open Go
set_option linter.unusedVariables false
def fnvX (h b : Int) : Int := IntKind.u64.wrap (BitVec.ofInt 64 h ^^^ BitVec.ofInt 64 b).toNat
def fnvStep (h b : Int) : Int := IntKind.u64.wrap (fnvX h b * 1099511628211)
def byteAt (s : ByteArray) (i : Nat) : Int := match s[i]? with
  | some b => b.toNat
  | none => 0
def fnvTo (s : ByteArray) : Nat → Int
  | 0 => 14695981039346656037
  | i + 1 => fnvStep (fnvTo s i) (byteAt s i)
def fnv (s : ByteArray) : Int := fnvTo s s.size
theorem wrapU_rng (n : Int) : 0 ≤ IntKind.u64.wrap n ∧ IntKind.u64.wrap n ≤ 18446744073709551615 := by
  simp only [IntKind.wrap, IntKind.bits, IntKind.signed]
  simp
  omega
theorem wrapU_id {n : Int} (h0 : 0 ≤ n) (h1 : n ≤ 18446744073709551615) : IntKind.u64.wrap n = n := by
  simp only [IntKind.wrap, IntKind.bits, IntKind.signed]
  simp
  omega
theorem andNot1 (b : Int) (hb : U64 b) : IntKind.u64.wrap (BitVec.ofInt 64 b &&& ~~~BitVec.ofInt 64 1).toNat = evn b := by
  obtain ⟨n, rfl⟩ : ∃ n : Nat, b = n := ⟨b.toNat, by have := hb.1; omega⟩
  have hn : n < 18446744073709551616 := by have := hb.2; omega
  have e : (BitVec.ofInt 64 n &&& ~~~BitVec.ofInt 64 1).toNat = n / 2 * 2 := by
    rw [BitVec.toNat_and]
    have h0 : (BitVec.ofInt 64 (n : Int)).toNat = n := by simp; omega
    have h1 : (~~~BitVec.ofInt 64 1).toNat = (2 ^ 63 - 1) * 2 ^ 1 := by rfl
    rw [h0, h1]
    apply Nat.eq_of_testBit_eq
    intro i
    rw [Nat.testBit_and, Nat.testBit_mul_two_pow, Nat.testBit_two_pow_sub_one, show n / 2 * 2 = (n / 2) * 2 ^ 1 by omega, Nat.testBit_mul_two_pow, Nat.testBit_div_two]
    by_cases h : 1 ≤ i
    · rw [show i - 1 + 1 = i by omega]
      by_cases h2 : i - 1 < 63
      · simp [h, h2]
      · have : n.testBit i = false := Nat.testBit_lt_two_pow (Nat.lt_of_lt_of_le hn (by rw [show 18446744073709551616 = 2 ^ 64 by rfl]; exact Nat.pow_le_pow_right (by omega) (by omega)))
        simp [this]
    · simp [h]
  rw [e, wrapU_id (by omega) (by omega)]
  unfold evn; omega
theorem bin_andNot1 (t : Nat) (c : Bool) {b : Int} (hb : U64 b) : binV .andNot t c (.int .u64 b) (.int .u64 1) = some (.int .u64 (evn b)) := by
  have : binV .andNot t c (.int .u64 b) (.int .u64 1) = some (.int .u64 (IntKind.u64.wrap (BitVec.ofInt 64 b &&& ~~~BitVec.ofInt 64 1).toNat)) := rfl
  rw [this, andNot1 b hb]
theorem bin_fnvX (t : Nat) (c : Bool) (a b : Int) : binV .xor t c (.int .u64 a) (.int .u64 b) = some (.int .u64 (fnvX a b)) := rfl
theorem fnv_rng (s : ByteArray) : 0 ≤ fnv s ∧ fnv s ≤ 18446744073709551615 := by
  unfold fnv
  cases s.size with
  | zero => simp [fnvTo]
  | succ n => exact wrapU_rng _
def stripeOf (s : ByteArray) (n : Int) : Int := if n < 1 then 0 else fnv s % n
def inS (users : List ByteArray) (n : Int) (s : Nat) : Bool := users.any fun u => decide (stripeOf u n = s)
def stripesOf (users : List ByteArray) (n : Int) : List Nat := (List.range 8).filter (inS users n)
def late (now until_ : Int) : Bool := decide (until_ ≤ now)
def better (a b : Sess) : Bool := decide (b.pr < a.pr) || (decide (a.pr = b.pr) && decide (a.id < b.id))
/-- The best of the sessions that live, and how many they are. -/
def ofStep (now : Int) (x : Sess × Nat) (s : Sess) : Sess × Nat := if late now s.un then x else (if x.2 = 0 || better s x.1 then s else x.1, x.2 + 1)
def ofAcc (l : List Sess) (now : Int) : Sess × Nat := l.foldl (ofStep now) (⟨0, 0, 0, 0⟩, 0)
def presOf (l : List Sess) (now : Int) : Pres := ⟨(ofAcc l now).1.st, (ofAcc l now).1.pr, (ofAcc l now).2⟩
def ent0 : Ent := ⟨[], ⟨0, 0, 0⟩⟩
def entOf : Book → ByteArray → Ent
  | [], _ => ent0
  | (k, e) :: r, u => if k = u then e else entOf r u
def presB (b : Book) (u : ByteArray) (now : Int) : Pres := presOf (entOf b u).ss now
structure RP where
  who : Int
  users : List ByteArray
  of : Int
  ss : List Nat
  ph : Int
  at_ : Nat
  tries : Int
  ep : Nat → Int
  valid : Bool
  spent : Bool
  seen : Int → Option Book
  t : Tm
  looked : Int
  placed : Int
  err : Int
  vals : List Pres
def RP.k (p : RP) : Nat := p.ss.length
def RP.s (p : RP) : Nat := p.ss.getD p.at_ 0
def RP.begin (p : RP) : RP := { p with ph := 0, at_ := 0, ep := fun _ => 0, valid := true, spent := false, seen := fun _ => none }
def RP.tell (p : RP) (u : ByteArray) : Pres := presB ((p.seen (stripeOf u p.of)).getD []) u p.t.now
def RP.answer (p : RP) : RP := if p.t.closed then { p with placed := p.looked, err := 5, vals := [] } else { p with placed := p.looked, vals := p.vals ++ p.users.map p.tell }
def RP.next (p : RP) (ph : Int) : RP := if p.at_ + 1 < p.k then { p with at_ := p.at_ + 1 } else { p with ph := ph, at_ := 0 }
def RP.last (p : RP) : Bool := !decide (p.at_ + 1 < p.k)
def RP.judge (p : RP) : RP :=
  if p.t.closed || p.valid then { p.answer with ph := 8 }
  else if p.spent || decide (p.tries = 0) then { p with ph := 4 }
  else RP.begin { p with tries := p.tries - 1 }
def RP.enabled (p : RP) (H : Hall) : Bool := !decide (p.ph = 8) && (!decide (p.ph = 4) || decide ((H.ss p.s).who = 0))
def RP.waits (r : RP) : Int := if r.ph = 4 then r.s else -1
def epset (f : Nat → Int) (i : Nat) (v : Int) : Nat → Int := fun k => if k = i then v else f k
def seenset (f : Int → Option Book) (i : Int) (v : Book) : Int → Option Book := fun k => if k = i then some v else f k
def validB (a b bound : Int) : Bool := decide (a = b) && (decide (a % 2 = 0) && decide (a < evn bound))
/-- A step that may be done. -/
def RP.go (p : RP) (H : Hall) (n : Int) : RP × Hall :=
  if p.ph = 0 then (RP.next { p with ep := epset p.ep p.at_ (H.ss p.s).v, spent := p.spent || decide (evn H.c.epochs ≤ (H.ss p.s).v) } 1, H.epoch p.who p.s)
  else if p.ph = 1 then (RP.next { p with seen := seenset p.seen p.s (H.ss p.s).snap } 2, H.snap p.who p.s)
  else if p.ph = 2 then ({ p with t := H.t, looked := n, ph := 3 }, H.look p.who)
  else if p.ph = 5 then ({ p with t := H.t, looked := n, ph := 6, placed := n }, H.look p.who)
  else if p.ph = 3 then
    let q : RP := { p with valid := p.valid && validB (p.ep p.at_) (H.ss p.s).v H.c.epochs }
    (if q.last then (q.next 8).judge else q.next 8, H.epoch p.who p.s)
  else if p.ph = 4 then (p.next 5, H.lock p.who p.s)
  else if p.ph = 6 then (RP.next { p with seen := seenset p.seen p.s (H.ss p.s).book } 7, H.read p.who p.s)
  else (if p.last then (p.next 8).answer else p.next 8, H.unlock p.who p.s)
def RP.step (p : RP) (H : Hall) (n : Int) : RP × Hall :=
  if p.enabled H = false then (p, H) else if p.ss = [] then ({ p with err := 1, vals := [], placed := n, ph := 8 }, H) else p.go H n
def rp0 (H : Hall) (who : Int) (x : OpD) : RP :=
  let us := if badB x then [] else usersOf x
  RP.begin ⟨who, us, H.c.stripes, stripesOf us H.c.stripes, 0, 0, H.c.retries, fun _ => 0, false, false, fun _ => none, ⟨0, 0, false⟩, 0, -1, 0, []⟩
structure RP.Ok (p : RP) (n : Nat) : Prop where
  ss : ∀ s ∈ p.ss, s < n
  n8 : n ≤ 8
  nd : p.ss.Nodup
  kk : p.ss.length ≤ 8
  at_ : p.ph ≠ 8 → p.ss ≠ [] → p.at_ < p.k
  at2 : p.ph = 2 ∨ p.ph = 5 → p.at_ = 0
  us : p.users.length ≤ 8
  ph : 0 ≤ p.ph ∧ p.ph ≤ 8
  tr : 0 ≤ p.tries ∧ p.tries ≤ 4
  vn : p.ph ≠ 8 → p.vals = []
  so : ∀ u ∈ p.users, stripeOf u p.of < n
end Go.Den
namespace Go.Proofs.YtcnphhhcknhhaaaGreat
open Go Go.Den Go.MapKept
set_option linter.unusedSimpArgs false
set_option linter.unusedVariables false
set_option maxRecDepth 20000
theorem st_byte {s : ByteArray} {i : Nat} (hi : i < s.size) {k : IntKind} : stV (.string s) (.int k i) = some (.int .u8 (byteAt s i)) := by
  have : s[i]? = some s[i] := by simp [hi]
  simp -implicitDefEqProofs [stV, byteAt, this]
theorem byte_rng (s : ByteArray) (i : Nat) : 0 ≤ byteAt s i ∧ byteAt s i ≤ 255 := by
  unfold byteAt
  split
  · rename_i b _; have := b.toNat_lt; omega
  · omega
theorem hashOf_ok (s : ByteArray) (hs : s.size ≤ maxLen) {h : Heap} {K : Value → Heap → Prop} (hk : K (.int .u64 (fnv s)) h) : callM P fn_hash_Of #[.string s] h K := by
  apply e_hash_Of
  unfold d_hash_Of
  rw [seqM_eq]
  unfold d_hash_Of_1
  simp -implicitDefEqProofs only [lnV_t, ov_s]
  refine loop_on [0, 5, 6] (fun t h' => h' = h ∧ ∃ i : Nat, i ≤ s.size ∧ t 7 = .int .i64 i ∧ t 3 = .int .u64 (fnvTo s i)) (fun t _ => (s.size - num (t 7)).toNat) ⟨rfl, 0, by omega, rfl, rfl⟩ ?_
  rintro t h1 hf ⟨rfl, i, hi, t7, t3⟩
  have t0 : t 0 = .string s := by simpa using hf 0 (by simp)
  have t5 : t 5 = .string s := by simpa using hf 5 (by simp)
  have t6 : t 6 = .int .i64 s.size := by simpa using hf 6 (by simp)
  unfold maxLen at hs
  unfold d_hash_Of_2
  simp -implicitDefEqProofs only [t7, t6, bin_lss, ov_s, cd_b]
  refine ⟨fun hc => ?_, fun hc => ?_⟩
  · have hlt : i < s.size := by have : ((i : Int) < s.size) := by simpa using hc
                                omega
    have hb := byte_rng s i
    unfold d_hash_Of_3
    have hw : IntKind.i64.wrap ((i : Int) + 1) = i + 1 := wrap64_id (by omega) (by omega)
    simp -implicitDefEqProofs [t0, t7, t3, st_byte hlt, wrapU_id (n := byteAt s i) (by omega) (by omega), bin_fnvX, hw, t5, t6]
    exact ⟨⟨i + 1, by omega, by simp, by simp [fnvTo, fnvStep]⟩, by omega⟩
  · have : i = s.size := by have : ¬ ((i : Int) < s.size) := by simpa using hc
                            omega
    subst this
    simp -implicitDefEqProofs [t3]
    exact hk
theorem stripe_ok (s : ByteArray) (n : Int) (hn : n ≤ 1000) (hs : s.size ≤ maxLen) {h : Heap} {K : Value → Heap → Prop} (hk : K (.int .i64 (stripeOf s n)) h) : callM P fn_hash_Stripe #[.string s, .int .i64 n] h K := by
  apply e_hash_Stripe
  unfold d_hash_Stripe
  simp -implicitDefEqProofs only [bin_lss, ov_s, cd_b]
  refine ⟨fun hc => ?_, fun hc => ?_⟩
  · have : n < 1 := by simpa using hc
    simpa [stripeOf, this] using hk
  · have hn1 : ¬ n < 1 := by simpa using hc
    unfold d_hash_Stripe_1
    refine hashOf_ok s hs ?_
    have hf := fnv_rng s
    have hm : (fnv s).tmod n = fnv s % n := Int.tmod_eq_emod_of_nonneg hf.1
    have hl := Int.emod_nonneg (fnv s) (show n ≠ 0 by omega)
    have hu := Int.emod_lt_of_pos (fnv s) (show 0 < n by omega)
    simp -implicitDefEqProofs [wrapU_id (n := n) (by omega) (by omega), show n ≠ 0 by omega, hm, wrap64_id (n := fnv s % n) (by omega) (by omega)]
    simpa [stripeOf, hn1] using hk
def cellC (v b : Int) : List Value := [.int .u64 v, .int .u64 b]
theorem cellNew_ok (b : Int) (hb : U64 b) {h : Heap} {K : Value → Heap → Prop} (hk : ∀ h', Ext h h' → K (.agg (cellC 0 (evn b)).toArray) h') : callM P fn_cell_New #[.int .u64 b] h K := by
  apply e_cell_New
  unfold d_cell_New
  simp -implicitDefEqProofs only [zcCell, nwM_s, bin_andNot1 _ _ hb, ov_s, bdCell]
  intro v1 n1
  simp -implicitDefEqProofs [stm_upd, ld_same, cel_same, over]
  exact hk _ (Ext.upd n1 _)
theorem lfree_ok (w : Int) {h : Heap} {K : Value → Heap → Prop} (hk : ∀ h', Ext h h' → K (.bool (decide (w = 0))) h') : callM P fn_latch_Latch_Free #[.agg #[.int .i64 w]] h K := by
  apply e_latch_Latch_Free
  unfold d_latch_Latch_Free
  simp -implicitDefEqProofs only [nwM_s, cells_agg]
  intro v1 n1
  simp -implicitDefEqProofs [cel_same]
  exact hk _ (Ext.upd n1 _)
theorem lowner_ok (w : Int) (hw : -1000000 ≤ w ∧ w ≤ 1000000) {h : Heap} {K : Value → Heap → Prop} (hk : ∀ h', Ext h h' → K (.int .i64 (w - 1)) h') : callM P fn_latch_Latch_Owner #[.agg #[.int .i64 w]] h K := by
  apply e_latch_Latch_Owner
  unfold d_latch_Latch_Owner
  simp -implicitDefEqProofs only [nwM_s, cells_agg]
  intro v1 n1
  simp -implicitDefEqProofs [cel_same, wrap64_id (n := w - 1) (by omega) (by omega)]
  exact hk _ (Ext.upd n1 _)
theorem ltake_ok (w who : Int) (hw : -1000 ≤ who ∧ who ≤ 1000000) {h : Heap} {K : Value → Heap → Prop} (hk : ∀ h', Ext h h' → K (.tuple #[.agg #[.int .i64 (if canTake w who then who + 1 else w)], .bool (canTake w who)]) h') : callM P fn_latch_Latch_Take #[.agg #[.int .i64 w], .int .i64 who] h K := by
  apply e_latch_Latch_Take
  unfold d_latch_Latch_Take
  refine nw_agg fun v1 h1 n1 e1 c1 => ?_
  rw [zcLatch]
  refine nw_intro fun v3 h2 n3 e3 c3 => ?_
  have hne := ne_fresh c1 n3
  have c1 := e3 _ _ c1
  have n3 := fresh_of e1 n3
  have e0 := e1.trans e3
  unfold d_latch_Latch_Take_1 d_latch_Latch_Take_2
  by_cases hw0 : who < 0
  · simp -implicitDefEqProofs [hw0, ld_at c1, cel_of c1, stm_at c1, ld_at c3, cel_of c3, stm_at c3, stm_upd, ld_same, cel_same, over]
    exact kv (hk _ (ext_upd n3 e0)) (by simp [canTake, show ¬ 0 ≤ who by omega])
  · simp -implicitDefEqProofs [hw0, ld_at c1, cel_of c1, stm_at c1, stm_upd, ld_same, cel_same, over]
    refine lfree_ok w fun h4 e5 => ?_
    have c1 := e5 _ _ c1
    have c3 := e5 _ _ c3
    have e0 := e0.trans e5
    by_cases hw : w = 0
    · simp -implicitDefEqProofs [hw, ld_at c3, cel_of c3, stm_at c3, stm_upd, ld_same, cel_same, over, bdLatch, wrap64_id (n := who + 1) (by omega) (by omega)]
      exact kv (hk _ (ext_upd n3 e0)) (by simp [canTake, hw, show 0 ≤ who by omega])
    · simp -implicitDefEqProofs [hw, ld_at c1, cel_of c1, stm_at c1, ld_at c3, cel_of c3, stm_at c3, stm_upd, ld_same, cel_same, over]
      exact kv (hk _ (ext_upd n3 e0)) (by simp [canTake, hw])
theorem lgive_ok (w who : Int) (hw : -1000000 ≤ w ∧ w ≤ 1000000) {h : Heap} {K : Value → Heap → Prop} (hk : ∀ h', Ext h h' → K (.tuple #[.agg #[.int .i64 (if canGive w who then 0 else w)], .bool (canGive w who)]) h') : callM P fn_latch_Latch_Give #[.agg #[.int .i64 w], .int .i64 who] h K := by
  apply e_latch_Latch_Give
  unfold d_latch_Latch_Give
  refine nw_agg fun v1 h1 n1 e1 c1 => ?_
  rw [zcLatch]
  refine nw_intro fun v3 h2 n3 e3 c3 => ?_
  have hne := ne_fresh c1 n3
  have c1 := e3 _ _ c1
  have n3 := fresh_of e1 n3
  have e0 := e1.trans e3
  simp -implicitDefEqProofs [ld_at c1, cel_of c1, stm_at c1, stm_upd, ld_same, cel_same, over]
  refine lfree_ok w fun h4 e5 => ?_
  have c1 := e5 _ _ c1
  have c3 := e5 _ _ c3
  have e0 := e0.trans e5
  unfold d_latch_Latch_Give_1 d_latch_Latch_Give_2 d_latch_Latch_Give_3
  by_cases hw0 : w = 0
  · simp -implicitDefEqProofs [hw0, ld_at c1, cel_of c1, stm_at c1, ld_at c3, cel_of c3, stm_at c3, stm_upd, ld_same, cel_same, over]
    exact kv (hk _ (ext_upd n3 e0)) (by simp [canGive, hw0])
  · simp -implicitDefEqProofs [hw0, ld_at c1, cel_of c1, stm_at c1, stm_upd, ld_same, cel_same, over]
    refine lowner_ok w hw fun h4 e5 => ?_
    have c1 := e5 _ _ c1
    have c3 := e5 _ _ c3
    have e0 := e0.trans e5
    by_cases hg : w - 1 = who
    · simp -implicitDefEqProofs [hg, ld_at c3, cel_of c3, stm_at c3, stm_upd, ld_same, cel_same, over, bdLatch0]
      exact kv (hk _ (ext_upd n3 e0)) (by simp [canGive, hw0, hg])
    · simp -implicitDefEqProofs [hg, ld_at c1, cel_of c1, stm_at c1, ld_at c3, cel_of c3, stm_at c3, stm_upd, ld_same, cel_same, over]
      exact kv (hk _ (ext_upd n3 e0)) (by simp [canGive, hg])
end Go.Proofs.YtcnphhhcknhhaaaGreat
namespace Go.Proofs.YtcnphhhcknhhaaaGreat
open Go Go.Den Go.MapKept
set_option linter.unusedSimpArgs false
set_option linter.unusedVariables false
set_option maxRecDepth 20000
theorem ringNew_ok (room : Int) {T : Tags} {h : Heap} (w : Wf T h) {g : Tag} (gg : Gd g) {K : Value → Heap → Prop} (hk : ∀ T' h' p, Only (pre g) T h T' h' → RingR T' h' g p (ring0 room) → K (ptr p) h') : callM P fn_ring_New_api_Event #[.int .i64 room] h K := by
  apply e_ring_New_api_Event
  unfold d_ring_New_api_Event
  refine vv_max ?_
  simp -implicitDefEqProofs only [bdRing, ov_s, nwM_s]
  intro p n
  exact hk (tset T p (g ++ [0])) _ p (Only.new _ w n) ⟨_, upd_same' _ _ _, tset_same _ _ _, Rw.nil _ _ _ _ _⟩
theorem ia_arr {n p o i : Nat} {k : IntKind} (hi : i < n) : iaV (some (some n, 1)) (.pointer (some ⟨p, o, none⟩)) (.int k i) = some (.pointer (some ⟨p, o + i, none⟩)) := by
  have h1 : (0 : Int) ≤ i ∧ (i : Int) < n := by omega
  simp -implicitDefEqProofs [iaV, h1]
theorem feed_over {kv vv : Value} {q : Nat → Value} {j : Nat} {x : Value} (hj : j < 8) : over (feedC kv vv q).toArray (2 + j) [x] = (feedC kv vv fun k => if k = j then x else q k).toArray := by
  unfold feedC
  rw [over_map1 (by omega)]
  congr 1
  apply List.map_congr_left
  intro k _
  match k with
  | 0 => simp [feedG]; omega
  | 1 => simp [feedG]; omega
  | k + 2 => simp only [feedG]; by_cases h : k = j
             · subst h; rw [if_pos (by omega), if_pos rfl]
             · rw [if_neg (by omega), if_neg h]
theorem feedC_len (kv vv : Value) (q : Nat → Value) : (feedC kv vv q).length = 10 := by simp [feedC]
theorem feedC_congr {kv vv : Value} {q q' : Nat → Value} (h : ∀ k, k < 8 → q k = q' k) : feedC kv vv q = feedC kv vv q' := by
  unfold feedC
  apply List.map_congr_left
  intro k hk
  match k with
  | 0 => rfl
  | 1 => rfl
  | k + 2 => simp only [feedG]; exact h k (by have := List.mem_range.1 hk; omega)
def FeedNewI (T : Tags) (h : Heap) (g : Tag) (p : Nat) (room : Int) (v : Value) (h' : Heap) : Prop := ∃ (T' : Tags) (j : Nat) (q : Nat → Nat), Only (pre g) T h T' h' ∧ h' p = some (.cells (feedC (.slice none 0 0) (.slice none 0 0) fun k => if k < j then ptr (q k) else .pointer none).toArray ty_feed_Feed (0, 0)) ∧ T' p = g ++ [0] ∧
      (∀ k, k < j → RingR T' h' (g ++ [1, k]) (q k) (ring0 room)) ∧ j ≤ 8 ∧ v = .int .i64 j
theorem feedNew_ok (room : Int) {T : Tags} {h : Heap} (w : Wf T h) {g : Tag} (gg : Gd g) {K : Value → Heap → Prop} (hk : ∀ T' h' p, Only (pre g) T h T' h' → FeedR T' h' g p (feed0 room) → K (ptr p) h') : callM P fn_feed_New #[.int .i64 room] h K := by
  apply e_feed_New
  unfold d_feed_New
  simp -implicitDefEqProofs only [bdFeed, ov_s, nwM_s]
  intro p n
  rw [seqM_eq]
  unfold d_feed_New_1
  refine loop_on [0, 3] (fun s h' => FeedNewI T h g p room (s 7) h') (fun s _ => (8 - num (s 7)).toNat)
    ⟨tset T p (g ++ [0]), 0, fun _ => 0, Only.new _ w n, upd_same' _ _ _, tset_same _ _ _, fun k hk => by omega, by omega, rfl⟩ ?_
  rintro s h1 hf ⟨T1, j, q, o1, hp, tp, hr, hj, s7⟩
  have s0 : s 0 = .int .i64 room := by simpa using hf 0 (by simp)
  have s3 : s 3 = ptr p := by simpa using hf 3 (by simp)
  unfold d_feed_New_2
  simp -implicitDefEqProofs only [s7, bin_lss, ov_s, cd_b]
  refine ⟨fun hc => ?_, fun hc => ?_⟩
  · have hlt : j < 8 := by have : ((j : Int) < 8) := by simpa using hc
                           omega
    unfold d_feed_New_3
    simp -implicitDefEqProofs only [s0, s3, ptr, ncV_p, ov_s, faV_p]
    refine ringNew_ok room o1.wf (gg.app [1, j]) fun T2 h2 p2 o2 r2 => ?_
    unfold d_feed_New_4
    have hp2 := o2.k.at hp tp (not_pre (by simp))
    simp -implicitDefEqProofs only [s7, Nat.zero_add, ia_arr hlt, ov_s, ptr]
    rw [stm_at hp2.1 (by simp) (by simp [feedC_len]; omega) (by simp)]
    simp -implicitDefEqProofs only [cells_p, feed_over hlt]
    have hw : IntKind.i64.wrap ((j : Int) + 1) = j + 1 := wrap64_id (by omega) (by omega)
    simp -implicitDefEqProofs [s7, s0, s3, hw]
    have o3 : Only (fun t => t = g ++ [0]) T2 h2 T2 (upd h2 p (.cells (feedC (.slice none 0 0) (.slice none 0 0) fun k => if k = j then ptr p2 else if k < j then ptr (q k) else .pointer none).toArray ty_feed_Feed (0, 0))) := Only.upd o2.wf hp2.1 hp2.2
    refine ⟨?_, by omega⟩
    refine ⟨T2, j + 1, fun k => if k = j then p2 else q k, (o1.trans (o2.mono fun t => pre_trans)).st hp2.1 (by rw [hp2.2]; exact pre_app g _), ?_, hp2.2, fun k hk => ?_, by omega, by simp⟩
    · rw [upd_same']
      congr 3
      apply feedC_congr
      intro k hk
      by_cases e : k = j
      · subst e; simp [ptr]
      · simp -implicitDefEqProofs only [if_neg e, ptr]; by_cases hkj : k < j
        · rw [if_pos hkj, if_pos (by omega)]
        · rw [if_neg hkj, if_neg (by omega)]
    · by_cases e : k = j
      · subst e; simp only [if_true]
        exact r2.kp o3.k (off_eq (by simp))
      · simp -implicitDefEqProofs only [if_neg e]
        exact ((hr k (by omega)).kp o2.k (off_pre (by simp; omega) (by simp; omega))).kp o3.k (off_eq (by simp))
  · have : j = 8 := by have : ¬ ((j : Int) < 8) := by simpa using hc
                       omega
    subst this
    simp -implicitDefEqProofs [s3]
    refine hk T1 h1 p o1 ⟨.slice none 0 0, .slice none 0 0, q, ?_, tp, .inl ⟨rfl, _, _, rfl⟩, .inl ⟨rfl, _, _, rfl⟩, fun k hk => hr k hk, Sn.nil, Sn.nil⟩
    rw [hp]
    congr 3
end Go.Proofs.YtcnphhhcknhhaaaGreat
namespace Go.Proofs.YtcnphhhcknhhaaaGreat
open Go Go.Den Go.MapKept
set_option linter.unusedSimpArgs false
set_option linter.unusedVariables false
set_option maxRecDepth 20000
/-- The table's own blocks: itself, and the row of acts. -/
def U02 (g t : Tag) : Prop := t = g ++ [0] ∨ t = g ++ [2]
/-- And the row of stripes. -/
def U012 (g t : Tag) : Prop := t = g ++ [0] ∨ t = g ++ [1] ∨ t = g ++ [2]
theorem U02.up {g t : Tag} (h : U02 g t) : U012 g t := h.elim .inl fun h => .inr (.inr h)
theorem U012.pre {g t : Tag} (h : U012 g t) : Den.pre g t := by rcases h with rfl | rfl | rfl <;> exact pre_app _ _
theorem U02.one (g : Tag) : ¬ U02 g (g ++ [1]) := by rintro (h | h) <;> exact ne_tag (by simp) h
theorem U012.nil (g : Tag) : ¬ U012 g [] := by rintro (h | h | h) <;> simp at h
theorem U012.off (g : Tag) (i : Nat) : Off (U012 g) (g ++ [3, i]) := fun t ht => by
  rintro (h | h | h)
  · exact off_eq (by simp) t ht h
  · exact off_eq (by simp) t ht h
  · exact off_eq (by simp) t ht h
theorem did_ok (who kind place : Int) {T : Tags} {h : Heap} {g : Tag} {p : Nat} {H : Hall} (w : Wf T h) (gg : Gd g) {sv av : Value} {Y : Nat → SV} (x : HallX T h g p H sv av Y) (hl : H.acts.length < 1000000) {K : Value → Heap → Prop}
    (hk : ∀ T' h' av', Only (U02 g) T h T' h' → HallX T' h' g p (H.did who kind place) sv av' Y → K (.tuple #[]) h') : callM P fn_hall_Hall_did #[ptr p, .int .i64 who, .int .i64 kind, .int .i64 place] h K := by
  apply e_hall_Hall_did
  unfold d_hall_Hall_did
  have hp := x.hp
  simp -implicitDefEqProofs only [hallC] at hp
  simp -implicitDefEqProofs [cel_of hp, bdAct]
  refine Rw.app bsAct unSlAct apAct (by omega) (by simp) (by simp) w x.ac (by unfold maxLen; omega) (by omega) (by omega) (app_ne _ _) fun a av' T1 h1 o1 r1 => ?_
  have hp1 := o1.k.at x.hp x.tp (ne_tag (by simp))
  have ho := r1.one
  rw [stm_at hp1.1 (by simp [ho.2]) (by simp [hallC]) (by simp [ho.1, ho.2])]
  have o2 : Only (U02 g) T h T1 (upd h1 p (.cells (over (hallC H sv av).toArray 11 av'.cells.toList) ty_hall_Hall (0, 0))) :=
    (o1.mono fun t e => .inr e).trans (Only.upd o1.wf hp1.1 (.inl hp1.2))
  refine hk T1 _ av' o2 ⟨?_, hp1.2, x.st.kp o2.k (U02.one g), ?_, fun i hi => (x.sr i hi).kp (o2.mono fun t => U02.up).k (U012.off g i) (U012.nil g)⟩
  · rw [upd_same']; simp [ho.2, hallC, over, Hall.did]
  · have o3 : Only (fun t => t = g ++ [0]) T1 h1 T1 (upd h1 p (.cells (over (hallC H sv av).toArray 11 av'.cells.toList) ty_hall_Hall (0, 0))) := Only.upd o1.wf hp1.1 hp1.2
    have := r1.kp o3.k (ne_tag (by simp))
    simpa [Hall.did, actC] using this
def HallNewI (T : Tags) (h : Heap) (g : Tag) (p : Nat) (c : Cfg) (v : Value) (h' : Heap) : Prop :=
  ∃ (T' : Tags) (i : Nat), Only (pre g) T h T' h' ∧ HallR T' h' g p (hall0 c i) ∧ i ≤ c.stripes.toNat ∧ v = .int .i64 i
theorem hallNew_ok (c : Cfg) (cw : CfgW c) {T : Tags} {h : Heap} (w : Wf T h) {g : Tag} (gg : Gd g) {K : Value → Heap → Prop}
    (hk1 : rightB c = true → ∀ T' h' p, Only (pre g) T h T' h' → HallR T' h' g p (hall0 c c.stripes.toNat) → K (.tuple #[ptr p, .int .i64 0]) h')
    (hk2 : rightB c = false → ∀ h', Ext h h' → K (.tuple #[.pointer none, .int .i64 1]) h') : callM P fn_hall_New #[.agg (cfgC c).toArray] h K := by
  apply e_hall_New
  unfold d_hall_New
  refine nw_agg fun v1 h1 n1 e1 c1 => ?_
  have c1' := c1
  simp -implicitDefEqProofs only [cfgC] at c1
  simp -implicitDefEqProofs [ld_at c1, cel_of c1, stm_at c1, stm_upd, ld_same, cel_same, over]
  have ec : Value.agg #[.int .i64 c.stripes, .int .i64 c.sessions, .int .i64 c.queue, .int .i64 c.watches, .int .i64 c.retries, .int .u64 c.epochs, .int .u64 c.start] = .agg (cfgC c).toArray := rfl
  rw [ec]
  refine modRight_ok c fun h2 e2 => ?_
  have c1 := e2 _ _ c1
  have e0 := e1.trans e2
  unfold d_hall_New_1
  simp -implicitDefEqProofs only [unV_n, ov_s, cd_b]
  refine ⟨fun hr => hk2 (by simpa using hr) _ e0, fun hr => ?_⟩
  have hr : rightB c = true := by simpa using hr
  have hn : 1 ≤ c.stripes ∧ c.stripes ≤ 8 := by simp [rightB] at hr; omega
  unfold d_hall_New_2
  simp -implicitDefEqProofs [ld_at c1, cel_of c1, stm_at c1, stm_upd, ld_same, cel_same, over, bdTime, bdHall]
  have w2 := w.ext e0
  refine nw_tag w2 (g ++ [0]) fun p T3 h3 n3 o3 t3 c3 => ?_
  rw [seqM_eq]
  unfold d_hall_New_3
  have b1 : h2 v1 = _ ∧ T v1 = [] := ⟨c1, w v1 n1⟩
  have b1 := o3.see b1 (not_non _)
  have c1 := b1.1
  simp -implicitDefEqProofs [ld_at c1, cel_of c1, stm_at c1, stm_upd, ld_same, cel_same, over]
  have o0 : Only (pre g) T h T3 h3 := (Only.of_ext w e0).up o3 non_up
  have x0 : HallR T3 h3 g p (hall0 c 0) := ⟨.slice none 0 0, .slice none 0 0, fun _ => ⟨.slice none 0 0, .slice none 0 0, .slice none 0 0, .slice none 0 0, 0⟩, c3, t3, Rw.nil _ _ _ _ _, Rw.nil _ _ _ _ _, fun i hi => by simp [hall0] at hi⟩
  refine loop_on [1, 4, 15] (fun s h' => HallNewI T3 h3 g p c (s 16) h') (fun s _ => (c.stripes.toNat - num (s 16)).toNat) ⟨T3, 0, Only.refl o3.wf, x0, by omega, rfl⟩ ?_
  rintro s h4 hf ⟨T4, i, o4, x4, hi, s16⟩
  have s1 : s 1 = ptr v1 := by simpa using hf 1 (by simp)
  have s4 : s 4 = ptr p := by simpa using hf 4 (by simp)
  have s15 : s 15 = .int .i64 c.stripes := by simpa using hf 15 (by simp)
  have b1 := o4.see b1 gg.nil
  have c1 := b1.1
  unfold d_hall_New_4
  simp -implicitDefEqProofs only [s16, s15, bin_lss, ov_s, cd_b]
  refine ⟨fun hc => ?_, fun hc => ?_⟩
  rotate_left
  · have : i = c.stripes.toNat := by have : ¬ ((i : Int) < c.stripes) := by simpa using hc
                                     omega
    subst this
    simp -implicitDefEqProofs [s4]
    exact hk1 hr T4 h4 p (o0.trans o4) x4
  have hlt : i < c.stripes.toNat := by have : ((i : Int) < c.stripes) := by simpa using hc
                                       omega
  obtain ⟨sv, av, Y, x⟩ := x4
  have bp : h4 p = _ ∧ T4 p = _ := ⟨x.hp, x.tp⟩
  simp -implicitDefEqProofs only [hallC] at bp
  have cp := bp.1
  unfold d_hall_New_5
  simp -implicitDefEqProofs [s1, s4, ld_at c1, cel_of c1, stm_at c1, ld_at cp, cel_of cp, stm_at cp, stm_upd, ld_same, cel_same, over]
  refine cellNew_ok _ cw.u1 fun h5 e5 => ?_
  have w4 := o4.wf
  have o5 : Only non T4 h4 T4 h5 := Only.of_ext w4 e5
  have c1 := e5 _ _ c1
  have bp := o5.see bp (not_non _)
  have cp := bp.1
  unfold d_hall_New_6
  simp -implicitDefEqProofs [s1, s4, ld_at c1, cel_of c1, stm_at c1, ld_at cp, cel_of cp, stm_at cp, stm_upd, ld_same, cel_same, over]
  refine feedNew_ok _ o5.wf (gg.app [3, i]) fun T6 h6 fp o6 r6 => ?_
  have bp := o6.see bp (not_pre (by simp))
  have cp := bp.1
  simp -implicitDefEqProofs [ld_at cp, cel_of cp, stm_at cp, stm_upd, ld_same, cel_same, over, cellC, bdStripe]
  refine bs_one bsStripe (by simp) (by omega) fun sb h7 n7 e7 c7 => ?_
  have o7 : Only non T6 h6 T6 h7 := Only.of_ext o6.wf e7
  have bp := o7.see bp (not_non _)
  have cp := bp.1
  have r7 := r6.kp o7.k (Off.non _) (not_non _)
  refine ⟨by simp [ld_at cp, cel_of cp, stm_at cp, stm_upd, ld_same, cel_same, over], ?_⟩
  have st4 : Rw T6 h6 (g ++ [1]) 8 ty_hall_stripe sv i _ := (x.st.kp o5.k (not_non _)).kp o6.k (not_pre (by simp))
  have st7 := st4.kp o7.k (not_non _)
  refine Rw.app1 (m := 1) (news := _) unSlStripe apStripe (by omega) o7.wf st7 (cels_one c7 (by simp)) (by simp) (by unfold maxLen; omega) (by omega) fun sv' T8 h8 o8 st8 => ?_
  have bp := o8.see bp (ne_tag (by simp))
  have cp := bp.1
  have ho := st8.one
  have hw : IntKind.i64.wrap ((i : Int) + 1) = i + 1 := wrap64_id (by omega) (by omega)
  simp -implicitDefEqProofs [ld_at cp, cel_of cp, stm_at cp, stm_upd, ld_same, cel_same, over, ho.1, ho.2, s16, s15, s1, s4, hw]
  refine ⟨?_, by omega⟩
  have o9 := fun o' => Only.upd (U := fun t => t = g ++ [0]) (o' := o') o8.wf bp.1 bp.2
  refine ⟨T8, i + 1, ((((o4.up o5 non_up).up o6 fun t => pre_trans).up o7 non_up).up o8 fun t e => e ▸ pre_app _ _).up (o9 _) fun t e => e ▸ pre_app _ _,
    ⟨sv', av, fun k => if k = i then ⟨.slice none 0 0, .slice none 0 0, .slice none 0 0, .slice none 0 0, fp⟩ else Y k, upd_same' _ _ _, bp.2, ?_, ?_, fun k hk => ?_⟩, by omega, by simp⟩
  · have := st8.kp (o9 (.cells #[.int .i64 c.stripes, .int .i64 c.sessions, .int .i64 c.queue, .int .i64 c.watches, .int .i64 c.retries, .int .u64 c.epochs, .int .u64 c.start, .int .u64 c.start, .int .u64 0, .bool false, sv', av] ty_hall_Hall (0, 0))).k (ne_tag (by simp))
    simp -implicitDefEqProofs only [hall0]
    rw [seqF_succ]
    have e1 : seqF i (fun k => strC (strp0 c) (if k = i then ⟨.slice none 0 0, .slice none 0 0, .slice none 0 0, .slice none 0 0, fp⟩ else Y k)) = seqF i fun k => strC (strp0 c) (Y k) := seqF_congr fun k hk => by rw [if_neg (by omega)]
    rw [e1]
    simpa [hall0, strC, strp0] using this
  · exact ((((x.ac.kp o5.k (not_non _)).kp o6.k (not_pre (by simp))).kp o7.k (not_non _)).kp o8.k (ne_tag (by simp))).kp (o9 _).k (ne_tag (by simp))
  · have f9 := (o9 (.cells #[.int .i64 c.stripes, .int .i64 c.sessions, .int .i64 c.queue, .int .i64 c.watches, .int .i64 c.retries, .int .u64 c.epochs, .int .u64 c.start, .int .u64 c.start, .int .u64 0, .bool false, sv', av] ty_hall_Hall (0, 0))).k
    have a8 : ∀ k, Off (fun t => t = g ++ [1]) (g ++ [3, k]) := fun k => off_eq (by simp)
    have a9 : ∀ k, Off (fun t => t = g ++ [0]) (g ++ [3, k]) := fun k => off_eq (by simp)
    by_cases hki : k = i
    · subst hki
      simp -implicitDefEqProofs only [if_true]
      have := (r7.kp o8.k (a8 _) (by simp)).kp f9 (a9 _) (by simp)
      exact ⟨BookR.nil _, BookR.nil _, this⟩
    · simp -implicitDefEqProofs only [if_neg hki]
      have hki' : k < i := by simp [hall0] at hk; omega
      exact ((((((x.sr k hki').kp o5.k (Off.non _) (not_non _))).kp o6.k (off_pre (by simp; omega) (by simp; omega)) ((gg.app _).nil)).kp o7.k (Off.non _) (not_non _)).kp o8.k (a8 _) (by simp)).kp f9 (a9 _) (by simp)
end Go.Proofs.YtcnphhhcknhhaaaGreat
namespace Go.Proofs.YtcnphhhcknhhaaaGreat
open Go Go.Den Go.MapKept
set_option linter.unusedSimpArgs false
set_option linter.unusedVariables false
set_option maxRecDepth 20000
theorem HallR.up {T T' : Tags} {h h' : Heap} {g : Tag} {p : Nat} {H : Hall} {U : Tag → Prop} (x : HallR T h g p H) (o : Only U T h T' h') (f : Off U g) (n : ¬ U []) : HallR T' h' g p H := x.kp o.k f n
theorem strC_len (X : Strp) (y : SV) : (strC X y).length = 8 := rfl
/-- A stripe's values, as they are read. -/
theorem HallX.lds {T : Tags} {h : Heap} {g : Tag} {p : Nat} {H : Hall} {sv av : Value} {Y : Nat → SV} (x : HallX T h g p H sv av Y) {s : Nat} (hs : s < H.n) {k : IntKind} : ∃ b o, rowOf sv = some b ∧ h b = some o ∧ T b = g ++ [1] ∧
    iaV (some (none, 8)) sv (.int k s) = some (.pointer (some ⟨b, s * 8, none⟩)) ∧
    ldV (some (some 1)) (.pointer (some ⟨b, s * 8, none⟩)) h = some (.agg #[.int .i64 (H.ss s).who]) ∧
    ldV (some (some 2)) (.pointer (some ⟨b, s * 8 + 1, none⟩)) h = some (.agg (cellC (H.ss s).v (H.ss s).bound).toArray) ∧
    ldV (some (some 2)) (.pointer (some ⟨b, s * 8 + 3, none⟩)) h = some (.agg #[(Y s).sk, (Y s).sv]) ∧
    ldV (some (some 2)) (.pointer (some ⟨b, s * 8 + 5, none⟩)) h = some (.agg #[(Y s).bk, (Y s).bv]) ∧
    cel h b (s * 8 + 7) = some (ptr (Y s).fp) ∧
    ldV (some (some 8)) (.pointer (some ⟨b, s * 8, none⟩)) h = some (.agg (strC (H.ss s) (Y s)).toArray) := by
  obtain ⟨b, h1, h2⟩ := x.st.1.ia (k := k) hs
  obtain ⟨o, ho⟩ := x.st.1.lt b h1
  have hc : ∀ off m, off + m ≤ 8 → cels h b (s * 8 + off) m = some (((strC (H.ss s) (Y s)).drop off).take m) := fun off m hm => by
    rw [x.st.1.cels h1 (o := s * 8 + off) (m := m) (by have : (s + 1) * 8 ≤ H.n * 8 := Nat.mul_le_mul_right _ hs; omega)]
    have := seqF_at (F := fun i => strC (H.ss i) (Y i)) (sz := 8) (fun i _ => strC_len _ _) hs
    rw [← this, List.drop_take, List.take_take, List.drop_drop, Nat.min_eq_left (by omega)]
  refine ⟨b, o, h1, ho, x.st.2 b h1, h2, ?_, ?_, ?_, ?_, ?_, ?_⟩
  · have := hc 0 1 (by omega); rw [Nat.add_zero] at this; simp [ldV, this, strC]
  · simp -implicitDefEqProofs [ldV, hc 1 2 (by omega), strC, cellC]
  · simp -implicitDefEqProofs [ldV, hc 3 2 (by omega), strC]
  · simp -implicitDefEqProofs [ldV, hc 5 2 (by omega), strC]
  · have := hc 7 1 (by omega)
    obtain ⟨h3, h4⟩ := cels_get this
    have := h4 0 (by simp [strC])
    simpa [strC] using this
  · have := hc 0 8 (by omega); rw [Nat.add_zero] at this; simp [ldV, this, strC]
/-- A stripe's part is written. -/
theorem HallX.stw {T : Tags} {h : Heap} {g : Tag} {p : Nat} {H : Hall} {sv av : Value} {Y : Nat → SV} (x : HallX T h g p H sv av Y) (w : Wf T h) {s b : Nat} (hs : s < H.n) (hb : rowOf sv = some b) {off m o : Nat} {v : Value} {X' : Strp} {y' : SV}
    (eo : o = s * 8 + off) (hm : v.cells.size = m) (ho : off + m ≤ 8) (h1 : v.cells.toList.all (fun u => u.oneCell') = true) (hc : spl (strC (H.ss s) (Y s)) off v.cells.toList = strC X' y') (hr : StrpR T h (g ++ [3, s]) X' y') {K : Heap → Prop}
    (hk : ∀ h', Only (fun t => t = g ++ [1]) T h T h' → HallX T h' g p (H.put s X') sv av (fun k => if k = s then y' else Y k) → K h') : stM (some m) (.pointer (some ⟨b, o, none⟩)) v h K := by
  subst eo
  have tb := x.st.2 b hb
  refine x.st.1.st hb hm (by have : (s + 1) * 8 ≤ H.n * 8 := Nat.mul_le_mul_right _ hs; omega) (List.all_eq_true.1 h1) fun h' hk' hrow => ?_
  obtain ⟨ob, hob⟩ := x.st.1.lt b hb
  obtain ⟨ob', hob'⟩ := hrow.lt b hb
  have e : h' = upd h b ob' := upd_of hk' hob'
  have o1 : Only (fun t => t = g ++ [1]) T h T h' := by rw [e]; exact Only.upd w hob tb
  have off3 : ∀ i, Off (fun t => t = g ++ [1]) (g ++ [3, i]) := fun i => off_eq (by simp)
  refine hk h' o1 ⟨(o1.k.at x.hp x.tp (ne_tag (by simp))).1, x.tp, ⟨?_, x.st.2⟩, x.ac.kp o1.k (ne_tag (by simp)), fun i hi => ?_⟩
  · rw [seqF_spl (fun i _ => strC_len _ _) hs (by rw [Array.length_toList]; omega)] at hrow
    have : seqF H.n (fset (fun i => strC (H.ss i) (Y i)) s (spl (strC (H.ss s) (Y s)) off v.cells.toList)) = seqF (H.put s X').n fun i => strC ((H.put s X').ss i) (if i = s then y' else Y i) := by
      refine seqF_congr fun i hi => ?_
      simp -implicitDefEqProofs only [fset, Hall.put, sput]
      by_cases his : i = s
      · subst his; simp only [if_true]; exact hc
      · simp -implicitDefEqProofs only [if_neg his]
    rw [this] at hrow
    exact hrow
  · simp -implicitDefEqProofs only [Hall.put, sput]
    by_cases his : i = s
    · subst his; simp only [if_true]; exact hr.kp o1.k (off3 _) (by simp)
    · simp -implicitDefEqProofs only [if_neg his]; exact (x.sr i hi).kp o1.k (off3 _) (by simp)
theorem lc_ne (g : Tag) (gg : Gd g) (s : Tag) : ¬ (lc = g ++ s) := by obtain ⟨k, r, rfl⟩ := gg; simp
theorem lc_U02 {g : Tag} (gg : Gd g) : ¬ U02 g lc := by rintro (h | h) <;> exact lc_ne g gg _ h
theorem U02.pre {g t : Tag} (h : U02 g t) : Den.pre g t := h.up.pre
/-- A local variable is written. -/
theorem Only.lst {T : Tags} {h : Heap} {b : Nat} {o o' : Obj} (w : Wf T h) (e : h b = some o ∧ T b = lc) : Only (fun t => t = lc) T h T (upd h b o') := Only.upd w e.1 e.2
theorem HallR.lst {T : Tags} {h : Heap} {g : Tag} {p : Nat} {H : Hall} (x : HallR T h g p H) (gg : Gd g) {b : Nat} {o o' : Obj} (w : Wf T h) (e : h b = some o ∧ T b = lc) : HallR T (upd h b o') g p H :=
  x.kp (Only.lst w e).k gg.off (by simp)
theorem look_ok (who : Int) {T : Tags} {h : Heap} {g : Tag} {p : Nat} {H : Hall} (w : Wf T h) (gg : Gd g) (x : HallR T h g p H) (hl : H.acts.length < 1000000) {K : Value → Heap → Prop}
    (hk : ∀ T' h', Only (pre g) T h T' h' → HallR T' h' g p (H.look who) → K (.agg (tmC H.t).toArray) h') : callM P fn_hall_Hall_Look #[ptr p, .int .i64 who] h K := by
  apply e_hall_Hall_Look
  unfold d_hall_Hall_Look
  rw [zcTime]
  refine nw_tag w lc fun v1 T1 h1 n1 o1 t1 c1 => ?_
  obtain ⟨sv, av, Y, x1⟩ := x.up o1 (Off.non _) (not_non _)
  have b1 : h1 v1 = _ ∧ T1 v1 = lc := ⟨c1, t1⟩
  refine did_ok who 3 0 o1.wf gg x1 hl fun T2 h2 av2 o2 x2 => ?_
  have b1 := o2.see b1 (lc_U02 gg)
  have c1 := b1.1
  have cp := x2.hp
  simp -implicitDefEqProofs only [hallC] at cp
  unfold d_hall_Hall_Look_1
  simp -implicitDefEqProofs [ld_at c1, cel_of c1, stm_at c1, ld_at cp, cel_of cp, stm_at cp, stm_upd, ld_same, cel_same, over]
  exact hk T2 _ (((o1.mono fun _ => non_up _).up o2 fun _ => U02.pre).own n1 b1.1) (HallR.lst ⟨sv, av2, Y, x2⟩ gg o2.wf b1)
end Go.Proofs.YtcnphhhcknhhaaaGreat
namespace Go.Proofs.YtcnphhhcknhhaaaGreat
open Go Go.Den Go.MapKept
set_option linter.unusedSimpArgs false
set_option linter.unusedVariables false
set_option maxRecDepth 20000
theorem eq_pre {g s t : Tag} (h : t = g ++ s) : pre g t := h ▸ pre_app _ _
theorem free_ok {s : Nat} {T : Tags} {h : Heap} {g : Tag} {p : Nat} {H : Hall} (x : HallR T h g p H) (hs : s < H.n) {K : Value → Heap → Prop}
    (hk : ∀ h', Ext h h' → K (.bool (decide ((H.ss s).who = 0))) h') : callM P fn_hall_Hall_Free #[ptr p, .int .i64 s] h K := by
  apply e_hall_Hall_Free
  unfold d_hall_Hall_Free
  obtain ⟨sv, av, Y, x2⟩ := x
  have cp := x2.hp
  simp -implicitDefEqProofs only [hallC] at cp
  obtain ⟨b, ob, rb, hb1, tb, ia, l1, l2, l3, l4, l5, l6⟩ := x2.lds (s := s) (k := .i64) hs
  simp -implicitDefEqProofs [ld_at cp, cel_of cp, stm_at cp, stm_upd, ld_same, cel_same, over, ia, l1]
  exact lfree_ok _ hk
theorem hstripe_ok (u : ByteArray) (hu : u.size ≤ maxLen) {T : Tags} {h : Heap} {g : Tag} {p : Nat} {H : Hall} (x : HallR T h g p H) (hc : H.c.stripes ≤ 8) {K : Value → Heap → Prop}
    (hk : K (.int .i64 (stripeOf u H.c.stripes)) h) : callM P fn_hall_Hall_Stripe #[ptr p, .string u] h K := by
  apply e_hall_Hall_Stripe
  unfold d_hall_Hall_Stripe
  obtain ⟨sv, av, Y, x2⟩ := x
  have cp := x2.hp
  simp -implicitDefEqProofs only [hallC] at cp
  simp -implicitDefEqProofs [ld_at cp, cel_of cp, stm_at cp, stm_upd, ld_same, cel_same, over]
  exact stripe_ok u _ (by omega) hu hk
theorem config_ok {T : Tags} {h : Heap} {g : Tag} {p : Nat} {H : Hall} (x : HallR T h g p H) {K : Value → Heap → Prop}
    (hk : ∀ h', Ext h h' → K (.agg (cfgC H.c).toArray) h') : callM P fn_hall_Hall_Config #[ptr p] h K := by
  apply e_hall_Hall_Config
  unfold d_hall_Hall_Config
  obtain ⟨sv, av, Y, x2⟩ := x
  rw [zcCfg]
  simp -implicitDefEqProofs only [nwM_s]
  intro v1 n1
  have hne := ne_fresh x2.hp n1
  have cp := x2.hp
  simp -implicitDefEqProofs only [hallC] at cp
  simp -implicitDefEqProofs [ld_at cp, cel_of cp, stm_at cp, stm_skip hne, stm_skip (Ne.symm hne), ld_skip hne, ld_skip (Ne.symm hne), cel_skip hne, cel_skip (Ne.symm hne), stm_upd, ld_same, cel_same, over]
  exact kv (hk _ (Ext.upd n1 _)) rfl
theorem lock_ok (who : Int) {s : Nat} {T : Tags} {h : Heap} {g : Tag} {p : Nat} {H : Hall} (w : Wf T h) (gg : Gd g) (x : HallR T h g p H) (hs : s < H.n) (h8 : H.n ≤ 8) (hl : H.acts.length < 1000000) (hw : -1000 ≤ who ∧ who ≤ 1000000) {K : Value → Heap → Prop}
    (hk : ∀ T' h', Only (pre g) T h T' h' → HallR T' h' g p (H.lock who s) → K (.bool (canTake (H.ss s).who who)) h') : callM P fn_hall_Hall_Lock #[ptr p, .int .i64 who, .int .i64 s] h K := by
  apply e_hall_Hall_Lock
  unfold d_hall_Hall_Lock
  obtain ⟨sv, av, Y, x⟩ := x
  have cp := x.hp
  simp -implicitDefEqProofs only [hallC] at cp
  obtain ⟨b, ob, rb, hb1, tb, ia, l1, l2, l3, l4, l5, l6⟩ := x.lds (s := s) (k := .i64) hs
  simp -implicitDefEqProofs [ld_at cp, cel_of cp, stm_at cp, stm_upd, ld_same, cel_same, over, ia, l1]
  refine ltake_ok _ _ hw fun h1 e1 => ?_
  have o1 : Only non T h T h1 := Only.of_ext w e1
  unfold d_hall_Hall_Lock_1
  simp -implicitDefEqProofs only [exV_0, exV_1, ov_s, zcLatch]
  refine nw_tag o1.wf lc fun v1 T2 h2 n2 o2 t2 c2 => ?_
  simp -implicitDefEqProofs [ld_at c2, cel_of c2, stm_at c2, stm_upd, ld_same, cel_same, over]
  have n0 : h v1 = none := o1.fresh n2
  have o0 := (o1.trans o2).own (o' := .cells #[.int .i64 (if canTake (H.ss s).who who then who + 1 else (H.ss s).who)] ty_latch_Latch (0, 0)) n0 c2
  have x2 : HallX T2 (upd h2 v1 (.cells #[.int .i64 (if canTake (H.ss s).who who then who + 1 else (H.ss s).who)] ty_latch_Latch (0, 0))) g p H sv av Y :=
    ⟨(o0.k.at x.hp x.tp (not_non _)).1, (o0.k.at x.hp x.tp (not_non _)).2, x.st.kp o0.k (not_non _), x.ac.kp o0.k (not_non _), fun i hi => (x.sr i hi).kp o0.k (Off.non _) (not_non _)⟩
  rw [seqM_eq]
  unfold d_hall_Hall_Lock_2
  cases hc : canTake (H.ss s).who who with
  | false =>
    simp -implicitDefEqProofs only [hc] at x2 o0
    unfold d_hall_Hall_Lock_6
    simp -implicitDefEqProofs
    exact kb (hk T2 _ (o0.mono non_up) (by simp only [Hall.lock, hc]; exact ⟨sv, av, Y, x2⟩)) hc
  | true =>
    simp -implicitDefEqProofs only [hc, if_true] at x2 o0 ⊢
    have b1 : (upd h2 v1 (.cells #[.int .i64 (who + 1)] ty_latch_Latch (0, 0))) v1 = _ ∧ T2 v1 = lc := ⟨upd_same' _ _ _, t2⟩
    simp -implicitDefEqProofs only [cd_b, true_implies]
    refine ⟨?_, fun hx => by cases hx⟩
    unfold d_hall_Hall_Lock_3
    refine place_ok s 1 (by omega) ?_
    unfold d_hall_Hall_Lock_4
    refine did_ok who 5 _ o0.wf gg x2 hl fun T3 h3 av3 o3 x3 => ?_
    have b1 := o3.see b1 (lc_U02 gg)
    have c1 := b1.1
    have cp := x3.hp
    simp -implicitDefEqProofs only [hallC] at cp
    obtain ⟨b, ob, rb, hb1, tb, ia, l1, l2, l3, l4, l5, l6⟩ := x3.lds (s := s) (k := .i64) hs
    unfold d_hall_Hall_Lock_5
    simp -implicitDefEqProofs [ld_at cp, cel_of cp, stm_at cp, ld_at c1, cel_of c1, stm_at c1, stm_upd, ld_same, cel_same, over, ia]
    refine x3.stw o3.wf (off := 0) (X' := { H.ss s with who := who + 1 }) (y' := Y s) hs rb rfl (by rfl) (by omega) (by simp) (by simp [spl, strC, Hall.did]) (x3.sr s hs) fun h4 o4 x4 => ?_
    exact kb (hk T3 h4 (((o0.mono non_up).up o3 fun _ => U02.pre).up o4 fun t => eq_pre) (by simp only [Hall.lock, hc]; exact ⟨sv, av3, _, x4⟩)) hc
theorem unlock_ok (who : Int) {s : Nat} {T : Tags} {h : Heap} {g : Tag} {p : Nat} {H : Hall} (w : Wf T h) (gg : Gd g) (x : HallR T h g p H) (hs : s < H.n) (h8 : H.n ≤ 8) (hl : H.acts.length < 1000000) (hw : -1000000 ≤ (H.ss s).who ∧ (H.ss s).who ≤ 1000000) {K : Value → Heap → Prop}
    (hk : ∀ T' h', Only (pre g) T h T' h' → HallR T' h' g p (H.unlock who s) → K (.bool (canGive (H.ss s).who who)) h') : callM P fn_hall_Hall_Unlock #[ptr p, .int .i64 who, .int .i64 s] h K := by
  apply e_hall_Hall_Unlock
  unfold d_hall_Hall_Unlock
  obtain ⟨sv, av, Y, x⟩ := x
  have cp := x.hp
  simp -implicitDefEqProofs only [hallC] at cp
  obtain ⟨b, ob, rb, hb1, tb, ia, l1, l2, l3, l4, l5, l6⟩ := x.lds (s := s) (k := .i64) hs
  simp -implicitDefEqProofs [ld_at cp, cel_of cp, stm_at cp, stm_upd, ld_same, cel_same, over, ia, l1]
  refine lgive_ok _ _ hw fun h1 e1 => ?_
  have o1 : Only non T h T h1 := Only.of_ext w e1
  unfold d_hall_Hall_Unlock_1
  simp -implicitDefEqProofs only [exV_0, exV_1, ov_s, zcLatch]
  refine nw_tag o1.wf lc fun v1 T2 h2 n2 o2 t2 c2 => ?_
  simp -implicitDefEqProofs [ld_at c2, cel_of c2, stm_at c2, stm_upd, ld_same, cel_same, over]
  have n0 : h v1 = none := o1.fresh n2
  have o0 := (o1.trans o2).own (o' := .cells #[.int .i64 (if canGive (H.ss s).who who then 0 else (H.ss s).who)] ty_latch_Latch (0, 0)) n0 c2
  have x2 : HallX T2 (upd h2 v1 (.cells #[.int .i64 (if canGive (H.ss s).who who then 0 else (H.ss s).who)] ty_latch_Latch (0, 0))) g p H sv av Y :=
    ⟨(o0.k.at x.hp x.tp (not_non _)).1, (o0.k.at x.hp x.tp (not_non _)).2, x.st.kp o0.k (not_non _), x.ac.kp o0.k (not_non _), fun i hi => (x.sr i hi).kp o0.k (Off.non _) (not_non _)⟩
  rw [seqM_eq]
  unfold d_hall_Hall_Unlock_2
  cases hc : canGive (H.ss s).who who with
  | false =>
    simp -implicitDefEqProofs only [hc] at x2 o0
    unfold d_hall_Hall_Unlock_6
    simp -implicitDefEqProofs
    exact kb (hk T2 _ (o0.mono non_up) (by simp only [Hall.unlock, hc]; exact ⟨sv, av, Y, x2⟩)) hc
  | true =>
    simp -implicitDefEqProofs only [hc, if_true] at x2 o0 ⊢
    have b1 : (upd h2 v1 (.cells #[.int .i64 0] ty_latch_Latch (0, 0))) v1 = _ ∧ T2 v1 = lc := ⟨upd_same' _ _ _, t2⟩
    simp -implicitDefEqProofs only [cd_b, true_implies]
    refine ⟨?_, fun hx => by cases hx⟩
    unfold d_hall_Hall_Unlock_3
    refine place_ok s 1 (by omega) ?_
    unfold d_hall_Hall_Unlock_4
    refine did_ok who 6 _ o0.wf gg x2 hl fun T3 h3 av3 o3 x3 => ?_
    have b1 := o3.see b1 (lc_U02 gg)
    have c1 := b1.1
    have cp := x3.hp
    simp -implicitDefEqProofs only [hallC] at cp
    obtain ⟨b, ob, rb, hb1, tb, ia, l1, l2, l3, l4, l5, l6⟩ := x3.lds (s := s) (k := .i64) hs
    unfold d_hall_Hall_Unlock_5
    simp -implicitDefEqProofs [ld_at cp, cel_of cp, stm_at cp, ld_at c1, cel_of c1, stm_at c1, stm_upd, ld_same, cel_same, over, ia]
    refine x3.stw o3.wf (off := 0) (X' := { H.ss s with who := 0 }) (y' := Y s) hs rb rfl (by rfl) (by omega) (by simp) (by simp [spl, strC, Hall.did]) (x3.sr s hs) fun h4 o4 x4 => ?_
    exact kb (hk T3 h4 (((o0.mono non_up).up o3 fun _ => U02.pre).up o4 fun t => eq_pre) (by simp only [Hall.unlock, hc]; exact ⟨sv, av3, _, x4⟩)) hc
end Go.Proofs.YtcnphhhcknhhaaaGreat
namespace Go.Den
open Go
set_option linter.unusedVariables false
variable {P : Program} {g : Nat → Bool}
/-- A function that goes through a list: what it is handed is called once for each element, until it says no. -/
def It (P : Program) (gf : FuncId) (lb : Array Value) (xs : List (Array Value)) (hA : Heap) : Prop :=
  ∀ (yv : Value) (I : Nat → Heap → Prop) (S : Heap → Prop) (h : Heap) (K : Value → Heap → Prop), (∀ i h', I i h' → Ext hA h') → (∀ i h' h'', I i h' → Ext h' h'' → I i h'') → I 0 h →
    (∀ i (hi : i < xs.length) h' (K' : Value → Heap → Prop), I i h' → (∀ h'', I (i + 1) h'' → K' (.bool true) h'') → (∀ h'', S h'' → K' (.bool false) h'') →
      nxM P (do let d ← Deferred.ofValue yv xs[i]; invoke d.target d.args) h' K') →
    (∀ v h', I xs.length h' → K v h') → (∀ v h', S h' → K v h') → callM P gf (#[yv] ++ lb) h K
theorem getD_fold {ps : List Tmp} : ∀ {xs : List Value} {tmps : Array Value} {s : Env}, (∀ i, tmps.getD i undef = s i) → (ps.all fun t => Nat.blt t tmps.size) = true →
    (∀ i, ((ps.zip xs).foldl (fun tmps (x : Tmp × Value) => tmps.setIfInBounds x.1 x.2) tmps).getD i undef = puts s (ps.zip xs) i) ∧ ((ps.zip xs).foldl (fun tmps (x : Tmp × Value) => tmps.setIfInBounds x.1 x.2) tmps).size = tmps.size := by
  induction ps with
  | nil => intro xs tmps s hs _; exact ⟨by simpa using hs, by simp⟩
  | cons p ps ih =>
    intro xs tmps s hs hp
    cases xs with
    | nil => exact ⟨by simpa using hs, by simp⟩
    | cons x xs =>
      simp only [List.all_cons, Bool.and_eq_true, Nat.blt_eq] at hp
      simp only [List.zip_cons_cons, List.foldl_cons, puts]
      have h1 : ∀ i, (tmps.setIfInBounds p x).getD i undef = put s p x i := fun i => by
        by_cases hi : i = p
        · subst hi
          simp [put, hp.1]
        · have := hs i
          simp only [Array.getD_eq_getD_getElem?] at this ⊢
          rw [Array.getElem?_setIfInBounds_ne (Ne.symm hi), this]
          have : Nat.beq i p = false := by cases hh : Nat.beq i p with
            | false => rfl
            | true => exact absurd (Nat.eq_of_beq_eq_true hh) hi
          simp [put, this]
      obtain ⟨h2, h3⟩ := ih (xs := xs) h1 (by simpa using hp.2)
      exact ⟨h2, by rw [h3]; simp⟩
theorem keep_upd {h : Heap} {l : Nat} {o : Obj} : Keep (some l) h (upd h l o) := fun b x e n => by rw [upd_ne (fun hb => n (by rw [hb]))]; exact e
theorem round_of_den2 (hg : GoodP P g) (hm : P.follows .mixedOrders = true) {l : Nat} {fn : FuncId} {tmps : Array Value} {zas bd : Code} {s : Env} {h : Heap} {K : Value → Heap → Prop}
    (hs : ∀ i, tmps.getD i undef = s i) (hf : (fits tmps.size zas && fits tmps.size bd && nrf zas && nrf bd) = true) {QA : Post} (hd : den P g zas [] s h QA)
    (hQA : ∀ m2 s2 h2, QA .normal m2 s2 h2 → ∃ r : Loop, h2 l = some (.loop r) ∧ r.state = .ready ∧ ∃ QB : Post, den P g bd m2 s2 (upd h2 l (.loop { r with state := .busy })) QB ∧ ∀ e m4 s4 h4, QB e m4 s4 h4 → endM l K e m4 s4 h4)
    (hQN : ∀ e m2 s2 h2, e ≠ .normal → ¬ QA e m2 s2 h2) : roundM P l fn tmps zas bd h K := by
  intro w hw
  subst hw
  simp only [Bool.and_eq_true] at hf
  obtain ⟨⟨⟨f1, f2⟩, f3⟩, f4⟩ := hf
  refine roundIn_of_wpIn (F := Fence.wide) trivial (wpIn_mono (den_sound hg hm (n := tmps.size) (r := some l) zas [] s _ _ w (.inr f3) f1 ⟨rfl, hs, rfl⟩ hd) ?_)
  intro e a' w' hq
  cases e with
  | normal =>
    obtain ⟨m', s', hR', ho, hq⟩ := hq
    obtain ⟨r, hl, hst, QB, hb, hQB⟩ := hQA _ _ _ hq
    have hl' : w'.heap[l]? = some (.loop r) := hl
    refine ⟨_, run_beginRound hl' hst, ?_⟩
    rw [← abs_putObj hl'] at hb
    have ho2 : Okw w (w'.putObj l (.loop { r with state := .busy })) := ho.trans ⟨rfl, rfl, rfl, by simp [World.putObj]⟩
    refine wpIn_mono (den_sound hg hm (n := tmps.size) (r := some l) bd m' s' _ _ _ (.inr f4) f2 hR' hb) ?_
    intro e2 a2 w2 hq2
    cases e2 with
    | normal =>
      obtain ⟨m2, s2, hR2, ho3, hq2⟩ := hq2
      obtain ⟨r2, hl2, hk⟩ := hQB _ _ _ _ hq2
      have hl2' : w2.heap[l]? = some (.loop r2) := hl2
      refine ⟨_, _, run_endRound none hl2', _, rfl, (ho2.trans ho3).trans ⟨rfl, rfl, rfl, by simp [World.putObj]⟩, ?_⟩
      rw [abs_putObj hl2']; exact hk
    | ret =>
      obtain ⟨m2, s2, hR2, ho3, hq2⟩ := hq2
      obtain ⟨r2, hl2, hk⟩ := hQB _ _ _ _ hq2
      have hl2' : w2.heap[l]? = some (.loop r2) := hl2
      refine ⟨_, _, run_endRound (some .ret) hl2', _, rfl, (ho2.trans ho3).trans ⟨rfl, rfl, rfl, by simp [World.putObj]⟩, ?_⟩
      rw [abs_putObj hl2']; exact hk
    | exit id =>
      obtain ⟨m2, s2, hR2, ho3, hq2⟩ := hq2
      obtain ⟨r2, hl2, hk⟩ := hQB _ _ _ _ hq2
      have hl2' : w2.heap[l]? = some (.loop r2) := hl2
      refine ⟨_, _, run_endRound (some (.exit id)) hl2', _, rfl, (ho2.trans ho3).trans ⟨rfl, rfl, rfl, by simp [World.putObj]⟩, ?_⟩
      rw [abs_putObj hl2']; exact hk
    | goto t => obtain ⟨m2, s2, hR2, ho3, hq2⟩ := hq2; obtain ⟨r2, hl2, hk⟩ := hQB _ _ _ _ hq2; exact hk.elim
    | panic c => exact hq2.elim
    | outgrown => exact hq2.elim
  | goto t => obtain ⟨_, _, _, _, hk⟩ := hq; exact (hQN _ _ _ _ (by simp) hk).elim
  | ret => obtain ⟨_, _, _, _, hk⟩ := hq; exact (hQN _ _ _ _ (by simp) hk).elim
  | exit id => obtain ⟨_, _, _, _, hk⟩ := hq; exact (hQN _ _ _ _ (by simp) hk).elim
  | panic c => exact hq.elim
  | outgrown => exact hq.elim
@[simp] theorem retM_1 {P : Program} {rs : List ResultVar} {R : Value → Heap → Prop} {b : Nat} {s : Env} {h : Heap} : retM P rs R .ret [b] s h = (h b = some (.deferred (some [])) ∧ resL P s (upd h b (.deferred none)) rs (fun l => R (tupV l) (upd h b (.deferred none)))) := rfl
end Go.Den
namespace Go.Proofs.YtcnphhhcknhhaaaGreat
open Go Go.Den Go.MapKept
set_option linter.unusedSimpArgs false
set_option linter.unusedVariables false
set_option maxRecDepth 20000
theorem zcInt : zc P ty_int = some #[.int .i64 0] := by kernel_rfl
end Go.Proofs.YtcnphhhcknhhaaaGreat
