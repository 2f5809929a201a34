/- Whatever processes write, whatever the turns, each step does what the document says. -/
import Derived.Test.YtmbningljbcpkaaGreatRows
import Derived.WalkKit
import Derived.ChangeOld
import Derived.ShutString
import Derived.ChangeMaps5
import Derived.Test.YtmbningljbcpkaaGreatWpl7
namespace Go.Proofs.YtmbningljbcpkaaGreat
open Go Go.Den
open Go.ChangeShapes Go.WideShapes Go.ChangeAt Go.RowKit Go.ChangeMaps
set_option linter.unusedVariables false
set_option linter.unusedSimpArgs false
namespace writePlays
theorem own : ownKnob Tryz.prog.godebug = none := pf_own
theorem laidOut : laidOutB Tryz.prog = true := pf_laid
set_option maxRecDepth 100000 in
theorem lifted (os : Os) (started : os.Started) (H : Type) (enc : TypeId × Value → H) :
  ReturnsInHanded {} Tryz.checked os 7 .any (Rows.writePlaysSpec.pre6 enc Tryz.prog Tryz.f7 Rows.writePlaysRow.domain false) (Rows.writePlaysSpec.post enc Tryz.prog Tryz.f7 false true false false) := by
 refine returnsInHanded_of_change_sized (C := Tryz.checked) own started (by kernel_rfl) Tryz.func7
  (ChangeSpec.witness6 (enc := enc) (C := Tryz.checked) false ⟨#[], #[.agg #[.int .i64 0, .int .i64 0, .int .i64 0, .int .i64 0, .int .i64 0, .int .u64 0, .int .u64 0], .slice none 0 0, .slice none 0 0], []⟩ 8 (by kernel_rfl) (by kernel_rfl) (by kernel_rfl) (by kernel_rfl)) ?_
 intro W base args ds gs before hval0 hW hcnd hsz0 _
 have hval : ∀ (j : Nat) t v, Tryz.f7.params[j]? = some t → args[j]? = some v → Value.okWide Tryz.prog W .any base t v := hval0
 have hW' := hW
 obtain ⟨p, q, hA0, hV, rfl, hfz, hnd⟩ := hW
 have hA : DataW.TrodAll enc Tryz.prog W 0 (fun _ => true) true Tryz.f7.params.toList args.toList ds p := hA0
 rw [Tryz.params7] at hA hval
 obtain ⟨v0, vs0, d0, ds0, p0, q0, hargs, rfl, rfl, h0, r0⟩ := trodAll_cons hA
 obtain ⟨v1, vs1, d1, ds1, p1, q1, rfl, rfl, rfl, h1, r1⟩ := trodAll_cons r0
 obtain ⟨v2, vs2, d2, ds2, p2, q2, rfl, rfl, rfl, h2, r2⟩ := trodAll_cons r1
 obtain ⟨rfl, rfl, rfl⟩ := trodAll_nil r2
 obtain rfl : args = #[v0, v1, v2] := by cases args; simp_all
 obtain ⟨rfl, rfl⟩ := trodVars_none hV
 obtain ⟨b0, rfl, sz0⟩ := okWide_struct Tryz.underlying27 (hval 0 27 v0 rfl rfl)
 have k0 := h0
 have lt0 : ∀ x ∈ p0, x.block < W.heap.size := by obtain ⟨m, hm⟩ := k0; exact DataW.trod_lt m _ _ _ hm
 obtain ⟨fu0, hf0⟩ := h0
 obtain ⟨a0, s0⟩ := (rdrCfg) enc W _ _ _ _ _ _ hf0
 obtain ⟨b1, len1, cap1, rfl⟩ := okWide_slice Tryz.underlying75 (hval 1 75 v1 rfl rfl)
 have k1 := h1
 have lt1 : ∀ x ∈ p1, x.block < W.heap.size := by obtain ⟨m, hm⟩ := k1; exact DataW.trod_lt m _ _ _ hm
 obtain ⟨fu1, hf1⟩ := h1
 obtain ⟨a1, x1, hx1, s1⟩ := (Rdr.slice (P := P) (sz := 7) Tryz.underlying75 (by kernel_rfl) (by decide) rdrOp) enc W _ _ _ _ _ _ hf1
 obtain rfl : Value.slice b1 len1 cap1 = x1 := by simpa [Value.cells] using hx1
 obtain ⟨b2, len2, cap2, rfl⟩ := okWide_slice Tryz.underlying76 (hval 2 76 v2 rfl rfl)
 have k2 := h2
 have lt2 : ∀ x ∈ p2, x.block < W.heap.size := by obtain ⟨m, hm⟩ := k2; exact DataW.trod_lt m _ _ _ hm
 obtain ⟨fu2, hf2⟩ := h2
 obtain ⟨a2, x2, hx2, s2⟩ := (Rdr.slice (P := P) (sz := 1) Tryz.underlying76 (by kernel_rfl) (by decide) (Rdr.int (P := P) Tryz.underlying5)) enc W _ _ _ _ _ _ hf2
 obtain rfl : Value.slice b2 len2 cap2 = x2 := by simpa [Value.cells] using hx2
 refine (calls_of_callM (P := P) (writePlays_row s0 s1 s2 (fun h' he => ⟨rfl, he⟩))).mono fun e W' ⟨he, bel⟩ => ?_
 subst he
 exact ⟨_, rfl, _, _, _, [], _, [], hW', trodAll_mk1 (shut_bool Tryz.underlying4 _), (trodAll_cons_mk (Below.trod laidOut (by kernel_rfl) (of_decide_eq_true (by kernel_rfl)) k0 bel lt0) (trodAll_cons_mk (Below.trod laidOut (by kernel_rfl) (of_decide_eq_true (by kernel_rfl)) k1 bel lt1) (trodAll_cons_mk (Below.trod laidOut (by kernel_rfl) (of_decide_eq_true (by kernel_rfl)) k2 bel lt2) trodAll_mk0))), rfl, bel.frame _, fun h => by cases h⟩
theorem fa : (Rows.writePlaysRow.inPlace == Tryz.pinned.checked.prog.inPlace 7) = true := by kernel_rfl
theorem fb : (Rows.writePlaysRow.unfollowed == Tryz.pinned.checked.prog.unfollowed 7) = true := by kernel_rfl
theorem fc : (Rows.writePlaysRow.recurses == Tryz.pinned.checked.prog.recurses 7) = true := by kernel_rfl
theorem fd : (Rows.writePlaysRow.named == Tryz.pinned.checked.prog.varsNamed 7) = true := by kernel_rfl
theorem closed : joinedFacts Tryz.pinned.checked.prog 7 Tryz.f7 Rows.writePlaysSpec Rows.writePlaysRow = true :=
 joined_of (by kernel_rfl) pf_laid pf_maps (by kernel_rfl) (by kernel_rfl) (by kernel_rfl) pf_stops (by kernel_rfl) pf_knobs fa fb fc fd (by kernel_rfl) (by kernel_rfl) (by kernel_rfl) (by kernel_rfl) (by kernel_rfl) (by kernel_rfl) (by kernel_rfl) (by kernel_rfl) (by kernel_rfl) (by kernel_rfl) (by kernel_rfl) pf_heard pf_may rfl pf_lifts pf_make rfl (by kernel_rfl) (by kernel_rfl) (by kernel_rfl) (by kernel_rfl)
theorem over : Rows.writePlaysRow.holds Tryz.pinned (OpenSpec.ofChange Rows.writePlaysSpec) :=
 OpenClaim.holds_of_wide 7 Tryz.f7 rfl rfl rfl rfl rfl rfl rfl ⟨rfl, rfl, rfl, rfl, rfl⟩ rfl rfl rfl rfl rfl (by kernel_rfl) Tryz.func7 closed
  (of_decide_eq_true (by kernel_rfl)) (by unfold Func.isWrapper; first | (rw [if_pos (by decide +kernel)]; kernel_rfl) | (rw [if_neg (by decide +kernel)]; exact ⟨rfl, rfl⟩))
  (fun os started H enc _ => lifted os started H enc)
end writePlays
theorem writePlays_holds : Rows.WritePlaysSaid := writePlays.over
#print axioms writePlays_holds
end Go.Proofs.YtmbningljbcpkaaGreat
