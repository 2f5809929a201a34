/- Guarded operations whose value is only known where they are done. No condition beyond the hypotheses that each theorem states. -/
import Derived.Test.YtihdfnhnholooaaDen
set_option linter.unusedSimpArgs false
set_option linter.unusedVariables false
/-! DEN, part M: guarded operations whose value is only known where they are done; places of a slice. -/
namespace Go.Den
open Go
theorem gM_k {c : Bool} {a : Value} {h : Heap} {K : Value → Heap → Prop} (hk : ∀ u, (c = true → u = a) → K u h) : gM c (fun k => k a h) h K := by
  cases c
  · exact hk _ (fun h => by cases h)
  · exact hk _ (fun _ => rfl)
theorem gM_ov {c : Bool} {x : Option Value} {a : Value} {h : Heap} {K : Value → Heap → Prop} (hx : c = true → x = some a) (hk : ∀ u, (c = true → u = a) → K u h) : gM c (fun k => ov x fun v => k v h) h K := by
  cases c
  · exact hk _ (fun h => by cases h)
  · show ov x (fun v => K v h)
    rw [hx rfl]; exact hk _ (fun _ => rfl)
theorem gM_call {c : Bool} {A : (Value → Heap → Prop) → Prop} {h : Heap} {K : Value → Heap → Prop} {a : Value} (hA : c = true → ∀ K' : Value → Heap → Prop, (∀ h', Ext h h' → K' a h') → A K') (hk : ∀ u h', Ext h h' → (c = true → u = a) → K u h') : gM c A h K := by
  cases c
  · exact hk _ _ (Ext.refl h) (fun h => by cases h)
  · exact hA rfl _ (fun h' he => hk _ _ he (fun _ => rfl))
end Go.Den
