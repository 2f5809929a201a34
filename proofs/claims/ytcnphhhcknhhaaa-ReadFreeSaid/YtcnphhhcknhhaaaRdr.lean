/- How sizes and ops lie in memory, as arguments. No condition beyond the hypotheses that each theorem states. -/
import Derived.Test.YtcnphhhcknhhaaaTxt
import Derived.Test.YtcnphhhcknhhaaaTab
set_option linter.unusedSimpArgs false
set_option linter.unusedVariables false
namespace Go.Proofs.Ytcnphhhcknhhaaa
open Go Go.Den
set_option linter.unusedSimpArgs false
set_option linter.unusedVariables false
def CfgR (_ : Heap) (c : List Value) (x : Cfg) : Prop := c = cfgC x ∧ CfgW x
theorem rdrCfg : Rdr P 24 CfgR := fun enc W base spare held fuel cs x h => by
  have hl : cs.length = 7 := (struct_fields (P := P) Try.underlying24 h).1.trans (by kernel_rfl)
  obtain ⟨_, _, h0⟩ := struct_field (P := P) Try.underlying24 h 0 3 0 1 (by kernel_rfl)
  obtain ⟨_, _, h1⟩ := struct_field (P := P) Try.underlying24 h 1 3 1 1 (by kernel_rfl)
  obtain ⟨_, _, h2⟩ := struct_field (P := P) Try.underlying24 h 2 3 2 1 (by kernel_rfl)
  obtain ⟨_, _, h3⟩ := struct_field (P := P) Try.underlying24 h 3 3 3 1 (by kernel_rfl)
  obtain ⟨_, _, h4⟩ := struct_field (P := P) Try.underlying24 h 4 3 4 1 (by kernel_rfl)
  obtain ⟨_, _, h5⟩ := struct_field (P := P) Try.underlying24 h 5 22 5 1 (by kernel_rfl)
  obtain ⟨_, _, h6⟩ := struct_field (P := P) Try.underlying24 h 6 22 6 1 (by kernel_rfl)
  obtain ⟨a0, e0, _, w0⟩ := DataW.trod_int Try.underlying3 h0
  obtain ⟨a1, e1, _, w1⟩ := DataW.trod_int Try.underlying3 h1
  obtain ⟨a2, e2, _, w2⟩ := DataW.trod_int Try.underlying3 h2
  obtain ⟨a3, e3, _, w3⟩ := DataW.trod_int Try.underlying3 h3
  obtain ⟨a4, e4, _, w4⟩ := DataW.trod_int Try.underlying3 h4
  obtain ⟨a5, e5, _, w5⟩ := DataW.trod_int Try.underlying22 h5
  obtain ⟨a6, e6, _, w6⟩ := DataW.trod_int Try.underlying22 h6
  match cs, hl with
  | [x0, x1, x2, x3, x4, x5, x6], _ =>
    simp at e0 e1 e2 e3 e4 e5 e6
    exact ⟨⟨a0, a1, a2, a3, a4, a5, a6⟩, by simp [cfgC, e0, e1, e2, e3, e4, e5, e6], ⟨wf_i64 w0, wf_i64 w1, wf_i64 w2, wf_i64 w3, wf_i64 w4, wf_u64 w5, wf_u64 w6⟩⟩
theorem rdrOp : Rdr P 27 OpR := fun enc W base spare held fuel cs x h => by
  have hl : cs.length = 7 := (struct_fields (P := P) Try.underlying27 h).1.trans (by kernel_rfl)
  obtain ⟨_, _, h0⟩ := struct_field (P := P) Try.underlying27 h 0 3 0 1 (by kernel_rfl)
  obtain ⟨_, _, h1⟩ := struct_field (P := P) Try.underlying27 h 1 9 1 1 (by kernel_rfl)
  obtain ⟨_, _, h2⟩ := struct_field (P := P) Try.underlying27 h 2 3 2 1 (by kernel_rfl)
  obtain ⟨_, _, h3⟩ := struct_field (P := P) Try.underlying27 h 3 3 3 1 (by kernel_rfl)
  obtain ⟨_, _, h4⟩ := struct_field (P := P) Try.underlying27 h 4 3 4 1 (by kernel_rfl)
  obtain ⟨_, _, h5⟩ := struct_field (P := P) Try.underlying27 h 5 22 5 1 (by kernel_rfl)
  obtain ⟨_, _, h6⟩ := struct_field (P := P) Try.underlying27 h 6 25 6 1 (by kernel_rfl)
  obtain ⟨a0, e0, _, w0⟩ := DataW.trod_int Try.underlying3 h0
  obtain ⟨a1, e1, w1⟩ := Rdr.str (P := P) Try.underlying9 _ _ _ _ _ _ _ _ h1
  obtain ⟨a2, e2, _, w2⟩ := DataW.trod_int Try.underlying3 h2
  obtain ⟨a3, e3, _, w3⟩ := DataW.trod_int Try.underlying3 h3
  obtain ⟨a4, e4, _, w4⟩ := DataW.trod_int Try.underlying3 h4
  obtain ⟨a5, e5, _, w5⟩ := DataW.trod_int Try.underlying22 h5
  obtain ⟨u, v, e6, hv⟩ := Rdr.slice (P := P) (sz := 1) Try.underlying25 (by kernel_rfl) (by decide) (Rdr.str (P := P) Try.underlying9) _ _ _ _ _ _ _ _ h6
  match cs, hl with
  | [x0, x1, x2, x3, x4, x5, x6], _ =>
    simp at e0 e1 e2 e3 e4 e5 e6
    exact ⟨⟨a0, a1, a2, a3, a4, a5, u⟩, v, by simp [opC, e0, e1, e2, e3, e4, e5, e6], hv, ⟨wf_i64 w0, wf_i64 w2, wf_i64 w3, wf_i64 w4, wf_u64 w5, w1⟩⟩
end Go.Proofs.Ytcnphhhcknhhaaa
