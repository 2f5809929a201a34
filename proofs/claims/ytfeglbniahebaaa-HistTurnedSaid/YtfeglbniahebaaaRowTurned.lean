/- Neighbours of an order may be turned about where neither comes ahead: the given statement HistTurnedSaid, for every input. No condition. -/
import Derived.Test.YtfeglbniahebaaaRows
import Derived.Test.YtfeglbniahebaaaHisD
import Derived.WalkKit
import Derived.ChangeOld
import Derived.ShutString
set_option linter.unusedSimpArgs false
set_option linter.unusedVariables false
namespace Go.Proofs.Ytfeglbniahebaaa
open Go Go.Den
set_option linter.unusedSimpArgs false
set_option linter.unusedVariables false
@[simp] theorem one_i (k : IntKind) (n : Int) : (Value.int k n).oneCell' = true := rfl
@[simp] theorem one_s (s : ByteArray) : (Value.string s).oneCell' = true := rfl
@[simp] theorem one_b (b : Bool) : (Value.bool b).oneCell' = true := rfl
theorem one_sl {t e : TypeId} {H : Type} {enc : TypeId × Value → H} {W : World} {base : Nat} {spare : Nat → Bool} {held : Bool} {fuel : Nat} {cs : List Value} {x : DataW H × List MemPlace} (ht : P.underlying t = some (.slice e)) (h : DataW.trod enc P W base spare held fuel t cs = some x) : ∃ v, cs = [v] ∧ v.oneCell' = true := by
  rcases Deep.open_slice ht h with ⟨rfl, _⟩ | ⟨a, len, cap, m, n, D, Pl, rfl, _⟩
  · exact ⟨_, rfl, rfl⟩
  · exact ⟨_, rfl, rfl⟩
theorem rdOp {H : Type} {enc : TypeId × Value → H} {W : World} {base : Nat} {spare : Nat → Bool} {held : Bool} {fuel : Nat} {cs : List Value} {x : DataW H × List MemPlace} (h : DataW.trod enc P W base spare held fuel 48 cs = some x) :
    cs.length = 7 ∧ ∀ u ∈ cs, u.oneCell' = true := by
  have hl : cs.length = 7 := (struct_fields (P := P) Try.underlying48 h).1.trans (by kernel_rfl)
  obtain ⟨_, _, h0⟩ := struct_field (P := P) Try.underlying48 h 0 3 0 1 (by kernel_rfl)
  obtain ⟨_, _, h1⟩ := struct_field (P := P) Try.underlying48 h 1 9 1 1 (by kernel_rfl)
  obtain ⟨_, _, h2⟩ := struct_field (P := P) Try.underlying48 h 2 3 2 1 (by kernel_rfl)
  obtain ⟨_, _, h3⟩ := struct_field (P := P) Try.underlying48 h 3 3 3 1 (by kernel_rfl)
  obtain ⟨_, _, h4⟩ := struct_field (P := P) Try.underlying48 h 4 3 4 1 (by kernel_rfl)
  obtain ⟨_, _, h5⟩ := struct_field (P := P) Try.underlying48 h 5 45 5 1 (by kernel_rfl)
  obtain ⟨_, _, h6⟩ := struct_field (P := P) Try.underlying48 h 6 46 6 1 (by kernel_rfl)
  obtain ⟨a, e0, _⟩ := DataW.trod_int Try.underlying3 h0
  obtain ⟨s, e1, _⟩ := Rdr.str (P := P) Try.underlying9 _ _ _ _ _ _ _ _ h1
  obtain ⟨b, e2, _⟩ := DataW.trod_int Try.underlying3 h2
  obtain ⟨c, e3, _⟩ := DataW.trod_int Try.underlying3 h3
  obtain ⟨d, e4, _⟩ := DataW.trod_int Try.underlying3 h4
  obtain ⟨t, e5, _⟩ := DataW.trod_int Try.underlying45 h5
  obtain ⟨v, e6, hv⟩ := one_sl Try.underlying46 h6
  match cs, hl with
  | [x0, x1, x2, x3, x4, x5, x6], _ =>
    simp at e0 e1 e2 e3 e4 e5 e6
    exact ⟨rfl, by simp [e0, e1, e2, e3, e4, e5, e6, hv]⟩
theorem rdReply {H : Type} {enc : TypeId × Value → H} {W : World} {base : Nat} {spare : Nat → Bool} {held : Bool} {fuel : Nat} {cs : List Value} {x : DataW H × List MemPlace} (h : DataW.trod enc P W base spare held fuel 53 cs = some x) :
    cs.length = 4 ∧ ∀ u ∈ cs, u.oneCell' = true := by
  have hl : cs.length = 4 := (struct_fields (P := P) Try.underlying53 h).1.trans (by kernel_rfl)
  obtain ⟨_, _, h0⟩ := struct_field (P := P) Try.underlying53 h 0 49 0 1 (by kernel_rfl)
  obtain ⟨_, _, h1⟩ := struct_field (P := P) Try.underlying53 h 1 50 1 1 (by kernel_rfl)
  obtain ⟨_, _, h2⟩ := struct_field (P := P) Try.underlying53 h 2 51 2 1 (by kernel_rfl)
  obtain ⟨_, _, h3⟩ := struct_field (P := P) Try.underlying53 h 3 4 3 1 (by kernel_rfl)
  obtain ⟨a, e0, _⟩ := DataW.trod_int Try.underlying49 h0
  obtain ⟨v, e1, hv⟩ := one_sl Try.underlying50 h1
  obtain ⟨w, e2, hw⟩ := one_sl Try.underlying51 h2
  obtain ⟨d, e3, _⟩ := DataW.trod_bool Try.underlying4 h3
  match cs, hl with
  | [x0, x1, x2, x3], _ =>
    simp at e0 e1 e2 e3
    exact ⟨rfl, by simp [e0, e1, e2, e3, hv, hw]⟩
theorem rdCall : Rdr P 55 CallR := fun enc W base spare held fuel cs x h => by
  have hl : cs.length = 18 := (struct_fields (P := P) Try.underlying55 h).1.trans (by kernel_rfl)
  obtain ⟨_, _, h0⟩ := struct_field (P := P) Try.underlying55 h 0 3 0 1 (by kernel_rfl)
  obtain ⟨_, _, h1⟩ := struct_field (P := P) Try.underlying55 h 1 3 1 1 (by kernel_rfl)
  obtain ⟨_, _, h2⟩ := struct_field (P := P) Try.underlying55 h 2 48 2 7 (by kernel_rfl)
  obtain ⟨_, _, h3⟩ := struct_field (P := P) Try.underlying55 h 3 3 9 1 (by kernel_rfl)
  obtain ⟨_, _, h4⟩ := struct_field (P := P) Try.underlying55 h 4 45 10 1 (by kernel_rfl)
  obtain ⟨_, _, h5⟩ := struct_field (P := P) Try.underlying55 h 5 3 11 1 (by kernel_rfl)
  obtain ⟨_, _, h6⟩ := struct_field (P := P) Try.underlying55 h 6 3 12 1 (by kernel_rfl)
  obtain ⟨_, _, h7⟩ := struct_field (P := P) Try.underlying55 h 7 3 13 1 (by kernel_rfl)
  obtain ⟨_, _, h8⟩ := struct_field (P := P) Try.underlying55 h 8 53 14 4 (by kernel_rfl)
  obtain ⟨a, e0, _⟩ := DataW.trod_int Try.underlying3 h0
  obtain ⟨b, e1, _⟩ := DataW.trod_int Try.underlying3 h1
  obtain ⟨_, e2⟩ := rdOp h2
  obtain ⟨c, e3, _⟩ := DataW.trod_int Try.underlying3 h3
  obtain ⟨d, e4, _⟩ := DataW.trod_int Try.underlying45 h4
  obtain ⟨p, e5, _⟩ := DataW.trod_int Try.underlying3 h5
  obtain ⟨q, e6, _⟩ := DataW.trod_int Try.underlying3 h6
  obtain ⟨r, e7, _⟩ := DataW.trod_int Try.underlying3 h7
  obtain ⟨_, e8⟩ := rdReply h8
  match cs, hl with
  | [x0, x1, x2, x3, x4, x5, x6, x7, x8, x9, x10, x11, x12, x13, x14, x15, x16, x17], _ =>
    simp at e0 e1 e2 e3 e4 e5 e6 e7 e8
    obtain ⟨a1, a2, a3, a4, a5, a6, a7⟩ := e2
    obtain ⟨c1, c2, c3, c4⟩ := e8
    refine ⟨⟨_, a, p, q, r⟩, rfl, rfl, by simp [e0], by simp [e5], by simp [e6], by simp [e7], ?_⟩
    simp [e0, e1, e3, e4, e5, e6, e7, a1, a2, a3, a4, a5, a6, a7, c1, c2, c3, c4]
theorem chain_row {a b c : HC} {x y z : Array Value} {h : Heap} (ha : CallR h x.toList a) (hb : CallR h y.toList b) (hc : CallR h z.toList c) {K : Value → Heap → Prop} (hk : ∀ h', Ext h h' → K (.bool true) h') : callM P fn_doormanlaw20_HistChain #[.agg x, .agg y, .agg z] h K := by
  obtain ⟨e1, h1⟩ := ha
  obtain ⟨e2, h2⟩ := hb
  obtain ⟨e3, h3⟩ := hc
  have g1 : x = a.cs.toArray := by rw [← e1]
  have g2 : y = b.cs.toArray := by rw [← e2]
  have g3 : z = c.cs.toArray := by rw [← e3]
  rw [g1, g2, g3]
  exact chain_ok h1 h2 h3 hk
end Go.Proofs.Ytfeglbniahebaaa

namespace Go.Proofs.Ytfeglbniahebaaa
open Go Go.Den
open Go.ChangeShapes Go.WideShapes Go.ChangeAt Go.RowKit
set_option linter.unusedVariables false
set_option linter.unusedSimpArgs false
namespace histTurned
theorem own : ownKnob Try.prog.godebug = none := by kernel_rfl
theorem laidOut : laidOutB Try.prog = true := by kernel_rfl
set_option maxRecDepth 100000 in
theorem lifted (os : Os) (started : os.Started) (H : Type) (enc : TypeId × Value → H) :
    ReturnsInHanded {} Try.checked os 11 .any (Rows.histTurnedSpec.pre6 enc Try.prog Try.f11 Rows.histTurnedRow.domain false) (Rows.histTurnedSpec.post enc Try.prog Try.f11 false true false false) := by
  refine returnsInHanded_of_change_sized (C := Try.checked) own started (by kernel_rfl) Try.func11
    (ChangeSpec.witness6 (enc := enc) (C := Try.checked) false ⟨#[], #[.slice none 0 0, .int .u8 0], []⟩ 8 (by kernel_rfl) (by kernel_rfl) (by kernel_rfl) (by kernel_rfl)) ?_
  intro W base args ds gs before hval0 hW hcnd hsz0 _
  have hval : ∀ (j : Nat) t v, Try.f11.params[j]? = some t → args[j]? = some v → Value.okWide Try.prog W .any base t v := hval0
  have hW' := hW
  obtain ⟨p, q, hA0, hV, rfl, hfz, hnd⟩ := hW
  have hA : DataW.TrodAll enc Try.prog W 0 (fun _ => true) true Try.f11.params.toList args.toList ds p := hA0
  rw [Try.params11] at hA hval
  obtain ⟨v0, vs0, d0, ds0, p0, q0, hargs, rfl, rfl, h0, r0⟩ := trodAll_cons hA
  obtain ⟨v1, vs1, d1, ds1, p1, q1, rfl, rfl, rfl, h1, r1⟩ := trodAll_cons r0
  obtain ⟨rfl, rfl, rfl⟩ := trodAll_nil r1
  obtain rfl : args = #[v0, v1] := by cases args; simp_all
  obtain ⟨rfl, rfl⟩ := trodVars_none hV
  obtain ⟨b0, len0, cap0, rfl⟩ := okWide_slice Try.underlying43 (hval 0 43 v0 rfl rfl)
  have k0 := h0
  have lt0 : ∀ x ∈ p0, x.block < W.heap.size := by obtain ⟨m, hm⟩ := k0; exact DataW.trod_lt m _ _ _ hm
  obtain ⟨fu0, hf0⟩ := h0
  obtain ⟨a0, x0, hx0, s0⟩ := (Rdr.slice (P := P) (sz := 18) Try.underlying43 (by kernel_rfl) (by decide) rdCall) enc W _ _ _ _ _ _ hf0
  obtain rfl : Value.slice b0 len0 cap0 = x0 := by simpa [Value.cells] using hx0
  obtain ⟨a1, rfl, rfl, rfl, w1⟩ := open_int Try.underlying5 (hval 1 5 v1 rfl rfl) h1
  refine (calls_of_callM (P := P) (turned_ok (wf_u8 w1) s0 (fun h' he => ⟨rfl, he⟩))).mono fun e W' ⟨he, bel⟩ => ?_
  subst he
  exact ⟨_, rfl, _, _, _, [], _, [], hW', trodAll_mk1 (shut_bool Try.underlying4 _), (trodAll_cons_mk (Below.trod laidOut (by kernel_rfl) (of_decide_eq_true (by kernel_rfl)) k0 bel lt0) (trodAll_cons_mk (shut_int Try.underlying5 w1) trodAll_mk0)), rfl, bel.frame _, fun h => by cases h⟩
theorem over : Rows.histTurnedRow.holds Try.pinned (OpenSpec.ofChange Rows.histTurnedSpec) :=
  OpenClaim.holds_of_wide 11 Try.f11 rfl rfl rfl rfl rfl rfl rfl ⟨rfl, rfl, rfl, rfl, rfl⟩ rfl rfl rfl rfl rfl (by kernel_rfl) Try.func11 (by kernel_rfl)
    (of_decide_eq_true (by kernel_rfl)) (by unfold Func.isWrapper; first | (rw [if_pos (by decide +kernel)]; kernel_rfl) | (rw [if_neg (by decide +kernel)]; exact ⟨rfl, rfl⟩))
    (fun os started H enc _ => lifted os started H enc)
end histTurned
theorem histTurned_holds : Rows.HistTurnedSaid := histTurned.over
#print axioms histTurned_holds
end Go.Proofs.Ytfeglbniahebaaa
