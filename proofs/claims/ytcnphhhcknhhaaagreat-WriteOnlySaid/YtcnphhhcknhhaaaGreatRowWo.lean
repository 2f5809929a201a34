/- Nothing but the right call moves a writing: for every list of at most 8 short writings and every list of at most 300 steps WriteOnly answers true. -/
import Derived.Test.YtcnphhhcknhhaaaGreatRows
import Derived.WalkKit
import Derived.ChangeOld
import Derived.ShutString
import Derived.ChangeMaps5
import Derived.Test.YtcnphhhcknhhaaaGreatWo5
namespace Go.Proofs.YtcnphhhcknhhaaaGreat
open Go Go.Den
open Go.ChangeShapes Go.WideShapes Go.ChangeAt Go.RowKit Go.ChangeMaps
set_option linter.unusedVariables false
set_option linter.unusedSimpArgs false
namespace writeOnly
theorem own : ownKnob Tryz.prog.godebug = none := pf_own
theorem laidOut : laidOutB Tryz.prog = true := pf_laid
set_option maxRecDepth 100000 in
theorem lifted (os : Os) (started : os.Started) (H : Type) (enc : TypeId × Value → H) :
  ReturnsInHanded {} Tryz.checked os 6 .any (Rows.writeOnlySpec.pre6 enc Tryz.prog Tryz.f6 Rows.writeOnlyRow.domain false) (Rows.writeOnlySpec.post enc Tryz.prog Tryz.f6 false true false false) := by
 refine returnsInHanded_of_change_sized (C := Tryz.checked) own started (by kernel_rfl) Tryz.func6
  (ChangeSpec.witness6 (enc := enc) (C := Tryz.checked) false ⟨#[], #[.slice none 0 0, .slice none 0 0], []⟩ 8 (by kernel_rfl) (by kernel_rfl) (by kernel_rfl) (by kernel_rfl)) ?_
 intro W base args ds gs before hval0 hW hcnd hsz0 _
 have hval : ∀ (j : Nat) t v, Tryz.f6.params[j]? = some t → args[j]? = some v → Value.okWide Tryz.prog W .any base t v := hval0
 have hW' := hW
 obtain ⟨p, q, hA0, hV, rfl, hfz, hnd⟩ := hW
 have hA : DataW.TrodAll enc Tryz.prog W 0 (fun _ => true) true Tryz.f6.params.toList args.toList ds p := hA0
 rw [Tryz.params6] at hA hval
 obtain ⟨v0, vs0, d0, ds0, p0, q0, hargs, rfl, rfl, h0, r0⟩ := trodAll_cons hA
 obtain ⟨v1, vs1, d1, ds1, p1, q1, rfl, rfl, rfl, h1, r1⟩ := trodAll_cons r0
 obtain ⟨rfl, rfl, rfl⟩ := trodAll_nil r1
 obtain rfl : args = #[v0, v1] := by cases args; simp_all
 obtain ⟨rfl, rfl⟩ := trodVars_none hV
 obtain ⟨b0, len0, cap0, rfl⟩ := okWide_slice Tryz.underlying40 (hval 0 40 v0 rfl rfl)
 have k0 := h0
 have lt0 : ∀ x ∈ p0, x.block < W.heap.size := by obtain ⟨m, hm⟩ := k0; exact DataW.trod_lt m _ _ _ hm
 obtain ⟨fu0, hf0⟩ := h0
 obtain ⟨a0, x0, hx0, s0⟩ := (Rdr.slice (P := P) (sz := 7) Tryz.underlying40 (by kernel_rfl) (by decide) rdrOp) enc W _ _ _ _ _ _ hf0
 obtain rfl : Value.slice b0 len0 cap0 = x0 := by simpa [Value.cells] using hx0
 obtain ⟨b1, len1, cap1, rfl⟩ := okWide_slice Tryz.underlying42 (hval 1 42 v1 rfl rfl)
 have k1 := h1
 have lt1 : ∀ x ∈ p1, x.block < W.heap.size := by obtain ⟨m, hm⟩ := k1; exact DataW.trod_lt m _ _ _ hm
 obtain ⟨fu1, hf1⟩ := h1
 obtain ⟨a1, x1, hx1, s1⟩ := (Rdr.slice (P := P) (sz := 1) Tryz.underlying42 (by kernel_rfl) (by decide) (Rdr.int (P := P) Tryz.underlying5)) enc W _ _ _ _ _ _ hf1
 obtain rfl : Value.slice b1 len1 cap1 = x1 := by simpa [Value.cells] using hx1
 refine (calls_of_callM (P := P) (writeOnly_row s0 s1 (fun h' he => ⟨rfl, he⟩))).mono fun e W' ⟨he, bel⟩ => ?_
 subst he
 exact ⟨_, rfl, _, _, _, [], _, [], hW', trodAll_mk1 (shut_bool Tryz.underlying4 _), (trodAll_cons_mk (Below.trod laidOut (by kernel_rfl) (of_decide_eq_true (by kernel_rfl)) k0 bel lt0) (trodAll_cons_mk (Below.trod laidOut (by kernel_rfl) (of_decide_eq_true (by kernel_rfl)) k1 bel lt1) trodAll_mk0)), rfl, bel.frame _, fun h => by cases h⟩
theorem fa : (Rows.writeOnlyRow.inPlace == Tryz.pinned.checked.prog.inPlace 6) = true := by kernel_rfl
theorem fb : (Rows.writeOnlyRow.unfollowed == Tryz.pinned.checked.prog.unfollowed 6) = true := by kernel_rfl
theorem fc : (Rows.writeOnlyRow.recurses == Tryz.pinned.checked.prog.recurses 6) = true := by kernel_rfl
theorem fd : (Rows.writeOnlyRow.named == Tryz.pinned.checked.prog.varsNamed 6) = true := by kernel_rfl
theorem closed : joinedFacts Tryz.pinned.checked.prog 6 Tryz.f6 Rows.writeOnlySpec Rows.writeOnlyRow = true :=
 joined_of (by kernel_rfl) pf_laid pf_maps (by kernel_rfl) (by kernel_rfl) (by kernel_rfl) pf_stops (by kernel_rfl) pf_knobs fa fb fc fd (by kernel_rfl) (by kernel_rfl) (by kernel_rfl) (by kernel_rfl) (by kernel_rfl) (by kernel_rfl) (by kernel_rfl) (by kernel_rfl) (by kernel_rfl) (by kernel_rfl) (by kernel_rfl) pf_heard pf_may rfl pf_lifts pf_make rfl (by kernel_rfl) (by kernel_rfl) (by kernel_rfl) (by kernel_rfl)
theorem over : Rows.writeOnlyRow.holds Tryz.pinned (OpenSpec.ofChange Rows.writeOnlySpec) :=
 OpenClaim.holds_of_wide 6 Tryz.f6 rfl rfl rfl rfl rfl rfl rfl ⟨rfl, rfl, rfl, rfl, rfl⟩ rfl rfl rfl rfl rfl (by kernel_rfl) Tryz.func6 closed
  (of_decide_eq_true (by kernel_rfl)) (by unfold Func.isWrapper; first | (rw [if_pos (by decide +kernel)]; kernel_rfl) | (rw [if_neg (by decide +kernel)]; exact ⟨rfl, rfl⟩))
  (fun os started H enc _ => lifted os started H enc)
end writeOnly
theorem writeOnly_holds : Rows.WriteOnlySaid := writeOnly.over
#print axioms writeOnly_holds
end Go.Proofs.YtcnphhhcknhhaaaGreat
