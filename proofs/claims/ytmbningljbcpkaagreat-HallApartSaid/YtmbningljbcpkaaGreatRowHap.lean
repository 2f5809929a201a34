/- What is done at one stripe leaves all others as they were. -/
import Derived.Test.YtmbningljbcpkaaGreatRows
import Derived.WalkKit
import Derived.ChangeOld
import Derived.ShutString
import Derived.ChangeMaps5
import Derived.Test.YtmbningljbcpkaaGreatHap6
namespace Go.Proofs.YtmbningljbcpkaaGreat
open Go Go.Den
open Go.ChangeShapes Go.WideShapes Go.ChangeAt Go.RowKit Go.ChangeMaps
set_option linter.unusedVariables false
set_option linter.unusedSimpArgs false
namespace hallApart
theorem own : ownKnob Tryz.prog.godebug = none := pf_own
theorem laidOut : laidOutB Tryz.prog = true := pf_laid
set_option maxRecDepth 100000 in
theorem lifted (os : Os) (started : os.Started) (H : Type) (enc : TypeId × Value → H) :
  ReturnsInHanded {} Tryz.checked os 5 .any (Rows.hallApartSpec.pre6 enc Tryz.prog Tryz.f5 Rows.hallApartRow.domain false) (Rows.hallApartSpec.post enc Tryz.prog Tryz.f5 false true false false) := by
 refine returnsInHanded_of_change_sized (C := Tryz.checked) own started (by kernel_rfl) Tryz.func5
  (ChangeSpec.witness6 (enc := enc) (C := Tryz.checked) false ⟨#[], #[.slice none 0 0], []⟩ 8 (by kernel_rfl) (by kernel_rfl) (by kernel_rfl) (by kernel_rfl)) ?_
 intro W base args ds gs before hval0 hW hcnd hsz0 _
 have hval : ∀ (j : Nat) t v, Tryz.f5.params[j]? = some t → args[j]? = some v → Value.okWide Tryz.prog W .any base t v := hval0
 have hW' := hW
 obtain ⟨p, q, hA0, hV, rfl, hfz, hnd⟩ := hW
 have hA : DataW.TrodAll enc Tryz.prog W 0 (fun _ => true) true Tryz.f5.params.toList args.toList ds p := hA0
 rw [Tryz.params5] at hA hval
 obtain ⟨v0, vs0, d0, ds0, p0, q0, hargs, rfl, rfl, h0, r0⟩ := trodAll_cons hA
 obtain ⟨rfl, rfl, rfl⟩ := trodAll_nil r0
 obtain rfl : args = #[v0] := by cases args; simp_all
 obtain ⟨rfl, rfl⟩ := trodVars_none hV
 obtain ⟨b0, len0, cap0, rfl⟩ := okWide_slice Tryz.underlying22 (hval 0 22 v0 rfl rfl)
 have k0 := h0
 have lt0 : ∀ x ∈ p0, x.block < W.heap.size := by obtain ⟨m, hm⟩ := k0; exact DataW.trod_lt m _ _ _ hm
 obtain ⟨fu0, hf0⟩ := h0
 obtain ⟨a0, x0, hx0, s0⟩ := (Rdr.slice (P := P) (sz := 14) Tryz.underlying22 (by kernel_rfl) (by decide) rdrStp) enc W _ _ _ _ _ _ hf0
 obtain rfl : Value.slice b0 len0 cap0 = x0 := by simpa [Value.cells] using hx0
 refine (calls_of_callM (P := P) (hallApart_row s0 (fun h' he => ⟨rfl, he⟩))).mono fun e W' ⟨he, bel⟩ => ?_
 subst he
 exact ⟨_, rfl, _, _, _, [], _, [], hW', trodAll_mk1 (shut_bool Tryz.underlying4 _), (trodAll_cons_mk (Below.trod laidOut (by kernel_rfl) (of_decide_eq_true (by kernel_rfl)) k0 bel lt0) trodAll_mk0), rfl, bel.frame _, fun h => by cases h⟩
theorem fa : (Rows.hallApartRow.inPlace == Tryz.pinned.checked.prog.inPlace 5) = true := by kernel_rfl
theorem fb : (Rows.hallApartRow.unfollowed == Tryz.pinned.checked.prog.unfollowed 5) = true := by kernel_rfl
theorem fc : (Rows.hallApartRow.recurses == Tryz.pinned.checked.prog.recurses 5) = true := by kernel_rfl
theorem fd : (Rows.hallApartRow.named == Tryz.pinned.checked.prog.varsNamed 5) = true := by kernel_rfl
theorem closed : joinedFacts Tryz.pinned.checked.prog 5 Tryz.f5 Rows.hallApartSpec Rows.hallApartRow = true :=
 joined_of (by kernel_rfl) pf_laid pf_maps (by kernel_rfl) (by kernel_rfl) (by kernel_rfl) pf_stops (by kernel_rfl) pf_knobs fa fb fc fd (by kernel_rfl) (by kernel_rfl) (by kernel_rfl) (by kernel_rfl) (by kernel_rfl) (by kernel_rfl) (by kernel_rfl) (by kernel_rfl) (by kernel_rfl) (by kernel_rfl) (by kernel_rfl) pf_heard pf_may rfl pf_lifts pf_make rfl (by kernel_rfl) (by kernel_rfl) (by kernel_rfl) (by kernel_rfl)
theorem over : Rows.hallApartRow.holds Tryz.pinned (OpenSpec.ofChange Rows.hallApartSpec) :=
 OpenClaim.holds_of_wide 5 Tryz.f5 rfl rfl rfl rfl rfl rfl rfl ⟨rfl, rfl, rfl, rfl, rfl⟩ rfl rfl rfl rfl rfl (by kernel_rfl) Tryz.func5 closed
  (of_decide_eq_true (by kernel_rfl)) (by unfold Func.isWrapper; first | (rw [if_pos (by decide +kernel)]; kernel_rfl) | (rw [if_neg (by decide +kernel)]; exact ⟨rfl, rfl⟩))
  (fun os started H enc _ => lifted os started H enc)
end hallApart
theorem hallApart_holds : Rows.HallApartSaid := hallApart.over
#print axioms hallApart_holds
end Go.Proofs.YtmbningljbcpkaaGreat
