/- Which two acts race first, and how many come ahead of each, are the answers of the document: the given statement RaceFindsSaid, for every input. No condition. -/
import Derived.Test.YtfeglbniahebaaaRows
import Derived.Test.YtfeglbniahebaaaRaceD
import Derived.WalkKit
import Derived.ChangeOld
import Derived.ShutString
set_option linter.unusedSimpArgs false
set_option linter.unusedVariables false
namespace Go.Proofs.Ytfeglbniahebaaa
open Go Go.Den
theorem rd30 : Rdr P 30 ActR := fun enc W base spare held fuel cs x h => by
  have hl : cs.length = 3 := (struct_fields (P := P) Try.underlying30 h).1.trans (by kernel_rfl)
  obtain ⟨_, _, h0⟩ := struct_field (P := P) Try.underlying30 h 0 3 0 1 (by kernel_rfl)
  obtain ⟨_, _, h1⟩ := struct_field (P := P) Try.underlying30 h 1 3 1 1 (by kernel_rfl)
  obtain ⟨_, _, h2⟩ := struct_field (P := P) Try.underlying30 h 2 3 2 1 (by kernel_rfl)
  obtain ⟨a, e0, _⟩ := DataW.trod_int Try.underlying3 h0
  obtain ⟨b, e1, _⟩ := DataW.trod_int Try.underlying3 h1
  obtain ⟨c, e2, _⟩ := DataW.trod_int Try.underlying3 h2
  match cs, hl with
  | [x0, x1, x2], _ =>
    simp at e0 e1 e2
    exact ⟨⟨a, b, c⟩, by simp [ActR, actC, e0, e1, e2]⟩
end Go.Proofs.Ytfeglbniahebaaa

namespace Go.Proofs.Ytfeglbniahebaaa
open Go Go.Den
open Go.ChangeShapes Go.WideShapes Go.ChangeAt Go.RowKit
set_option linter.unusedVariables false
set_option linter.unusedSimpArgs false
namespace raceFinds
theorem own : ownKnob Try.prog.godebug = none := by kernel_rfl
theorem laidOut : laidOutB Try.prog = true := by kernel_rfl
set_option maxRecDepth 100000 in
theorem lifted (os : Os) (started : os.Started) (H : Type) (enc : TypeId × Value → H) :
    ReturnsInHanded {} Try.checked os 6 .any (Rows.raceFindsSpec.pre6 enc Try.prog Try.f6 Rows.raceFindsRow.domain false) (Rows.raceFindsSpec.post enc Try.prog Try.f6 false true false false) := by
  refine returnsInHanded_of_change_sized (C := Try.checked) own started (by kernel_rfl) Try.func6
    (ChangeSpec.witness6 (enc := enc) (C := Try.checked) false ⟨#[], #[.slice none 0 0], []⟩ 8 (by kernel_rfl) (by kernel_rfl) (by kernel_rfl) (by kernel_rfl)) ?_
  intro W base args ds gs before hval0 hW hcnd hsz0 _
  have hval : ∀ (j : Nat) t v, Try.f6.params[j]? = some t → args[j]? = some v → Value.okWide Try.prog W .any base t v := hval0
  have hW' := hW
  obtain ⟨p, q, hA0, hV, rfl, hfz, hnd⟩ := hW
  have hA : DataW.TrodAll enc Try.prog W 0 (fun _ => true) true Try.f6.params.toList args.toList ds p := hA0
  rw [Try.params6] at hA hval
  obtain ⟨v0, vs0, d0, ds0, p0, q0, hargs, rfl, rfl, h0, r0⟩ := trodAll_cons hA
  obtain ⟨rfl, rfl, rfl⟩ := trodAll_nil r0
  obtain rfl : args = #[v0] := by cases args; simp_all
  obtain ⟨rfl, rfl⟩ := trodVars_none hV
  obtain ⟨b0, len0, cap0, rfl⟩ := okWide_slice Try.underlying22 (hval 0 22 v0 rfl rfl)
  have k0 := h0
  have lt0 : ∀ x ∈ p0, x.block < W.heap.size := by obtain ⟨m, hm⟩ := k0; exact DataW.trod_lt m _ _ _ hm
  obtain ⟨fu0, hf0⟩ := h0
  obtain ⟨a0, x0, hx0, s0⟩ := (Rdr.slice (P := P) (sz := 3) Try.underlying22 (by kernel_rfl) (by decide) rd30) enc W _ _ _ _ _ _ hf0
  obtain rfl : Value.slice b0 len0 cap0 = x0 := by simpa [Value.cells] using hx0
  refine (calls_of_callM (P := P) (finds_ok _ s0 (fun h' he => ⟨rfl, he⟩))).mono fun e W' ⟨he, bel⟩ => ?_
  subst he
  exact ⟨_, rfl, _, _, _, [], _, [], hW', trodAll_mk1 (shut_bool Try.underlying4 _), (trodAll_cons_mk (Below.trod laidOut (by kernel_rfl) (of_decide_eq_true (by kernel_rfl)) k0 bel lt0) trodAll_mk0), rfl, bel.frame _, fun h => by cases h⟩
theorem over : Rows.raceFindsRow.holds Try.pinned (OpenSpec.ofChange Rows.raceFindsSpec) :=
  OpenClaim.holds_of_wide 6 Try.f6 rfl rfl rfl rfl rfl rfl rfl ⟨rfl, rfl, rfl, rfl, rfl⟩ rfl rfl rfl rfl rfl (by kernel_rfl) Try.func6 (by kernel_rfl)
    (of_decide_eq_true (by kernel_rfl)) (by unfold Func.isWrapper; first | (rw [if_pos (by decide +kernel)]; kernel_rfl) | (rw [if_neg (by decide +kernel)]; exact ⟨rfl, rfl⟩))
    (fun os started H enc _ => lifted os started H enc)
end raceFinds
theorem raceFinds_holds : Rows.RaceFindsSaid := raceFinds.over
#print axioms raceFinds_holds
end Go.Proofs.Ytfeglbniahebaaa
