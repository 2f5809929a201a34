/- Vector clocks know just what comes ahead: the plain law, and what follows for the first two acts that race. No condition beyond the hypotheses that each theorem states. -/
import Derived.Test.YtfeglbniahebaaaRace
set_option linter.unusedSimpArgs false
set_option linter.unusedVariables false
namespace Go.Proofs.Ytfeglbniahebaaa
open Go Go.Den Go.MapKept
set_option linter.unusedSimpArgs false
set_option linter.unusedVariables false
/-! Who comes ahead of whom, and what is known: the plain law. -/
def rowR (xs : List Act) (j : Nat) : Nat → Bool := arow xs (atab xs j) j j
theorem atab_row (xs : List Act) : ∀ (n j i : Nat), j < n → atab xs n j i = rowR xs j i
  | n + 1, j, i, h => by
    unfold atab
    by_cases e : j = n
    · subst e; simp [rowR]
    · simp [e]; exact atab_row xs n j i (by omega)
theorem arow_spec (xs : List Act) (out : Nat → Nat → Bool) (j : Nat) : ∀ (m i : Nat), arow xs out j m i = true ↔ ∃ k, k < m ∧ edgeB (act xs k) (act xs j) = true ∧ (i = k ∨ (i < k ∧ out k i = true))
  | 0, i => by simp [arow]
  | m + 1, i => by
    have ih := arow_spec xs out j m
    unfold arow
    by_cases he : edgeB (act xs m) (act xs j) = true
    · simp only [he, if_true]
      unfold mixH
      by_cases h1 : i = m
      · subst h1
        simp only [if_true, true_iff]
        exact ⟨i, by omega, he, .inl rfl⟩
      · rw [if_neg h1]
        by_cases h2 : i < m
        · simp only [h2, if_true, Bool.or_eq_true, ih]
          constructor
          · rintro (⟨k, a, b, c⟩ | h)
            · exact ⟨k, by omega, b, c⟩
            · exact ⟨m, by omega, he, .inr ⟨h2, h⟩⟩
          · rintro ⟨k, a, b, c⟩
            by_cases e : k = m
            · subst e
              rcases c with c | c
              · omega
              · exact .inr c.2
            · exact .inl ⟨k, by omega, b, c⟩
        · rw [if_neg h2, ih]
          constructor
          · rintro ⟨k, a, b, c⟩; exact ⟨k, by omega, b, c⟩
          · rintro ⟨k, a, b, c⟩; rcases c with c | c <;> omega
    · simp only [he, Bool.false_eq_true, if_false, ih]
      constructor
      · rintro ⟨k, a, b, c⟩; exact ⟨k, by omega, b, c⟩
      · rintro ⟨k, a, b, c⟩
        by_cases e : k = m
        · subst e; exact absurd b he
        · exact ⟨k, by omega, b, c⟩
theorem rowR_spec (xs : List Act) (j i : Nat) : rowR xs j i = true ↔ ∃ k, k < j ∧ edgeB (act xs k) (act xs j) = true ∧ (i = k ∨ (i < k ∧ rowR xs k i = true)) := by
  unfold rowR
  rw [arow_spec]
  constructor
  · rintro ⟨k, a, b, c⟩; exact ⟨k, a, b, c.imp_right fun ⟨d, e⟩ => ⟨d, by rw [atab_row xs j k i a] at e; exact e⟩⟩
  · rintro ⟨k, a, b, c⟩; exact ⟨k, a, b, c.imp_right fun ⟨d, e⟩ => ⟨d, by rw [atab_row xs j k i a]; exact e⟩⟩
theorem rowR_lt {xs : List Act} {j i : Nat} (h : rowR xs j i = true) : i < j := by
  obtain ⟨k, a, b, c⟩ := (rowR_spec xs j i).1 h
  omega
theorem edge_cnt {a b : Act} (h : edgeB a b = true) : cntB a = true ∧ cntB b = true := by
  simp only [edgeB, Bool.and_eq_true] at h
  exact h.1
theorem rowR_cnt {xs : List Act} : ∀ {j i : Nat}, rowR xs j i = true → cntB (act xs i) = true ∧ cntB (act xs j) = true := by
  intro j
  induction j using Nat.strongRecOn with
  | _ j ih =>
    intro i h
    obtain ⟨k, a, b, c⟩ := (rowR_spec xs j i).1 h
    have := edge_cnt b
    rcases c with rfl | c
    · exact this
    · exact ⟨(ih k a c.2).1, this.2⟩
/-- How many acts of a process there are among the first. -/
def cOf (xs : List Act) : Nat → Int → Int
  | 0, _ => 0
  | i + 1, v => cOf xs i v + (if cntB (act xs i) = true ∧ (act xs i).who = v then 1 else 0)
theorem cOf_s (xs : List Act) (v : Int) (i : Nat) : cOf xs (i + 1) v = cOf xs i v + (if cntB (act xs i) = true ∧ (act xs i).who = v then 1 else 0) := rfl
theorem cOf_mono (xs : List Act) (v : Int) {i : Nat} : ∀ {j : Nat}, i ≤ j → cOf xs i v ≤ cOf xs j v := by
  intro j
  induction j with
  | zero => intro h; have : i = 0 := by omega
            subst this; exact Int.le_refl _
  | succ j ih =>
    intro h
    by_cases e : i = j + 1
    · subst e; exact Int.le_refl _
    · have := ih (by omega)
      rw [cOf_s]; split <;> omega
theorem cOf_nn (xs : List Act) (v : Int) (i : Nat) : 0 ≤ cOf xs i v := cOf_mono xs v (Nat.zero_le i)
theorem cOf_le (xs : List Act) (v : Int) : ∀ i : Nat, cOf xs i v ≤ i
  | 0 => by simp [cOf]
  | i + 1 => by have := cOf_le xs v i; unfold cOf; split <;> omega
def rel (a : Act) : Prop := a.kind = 4 ∨ a.kind = 6
def acq (a : Act) : Prop := a.kind = 3 ∨ a.kind = 5 ∨ a.kind = 4
instance (a : Act) : Decidable (rel a) := by unfold rel; infer_instance
instance (a : Act) : Decidable (acq a) := by unfold acq; infer_instance
def ownO (xs : List Act) (k : Nat) : Int := cOf xs k (act xs k).who + 1
theorem ownO_le {xs : List Act} {k i : Nat} (hk : k < i) (hc : cntB (act xs k) = true) : ownO xs k ≤ cOf xs i (act xs k).who := by
  have h1 := cOf_mono xs (act xs k).who (show k + 1 ≤ i by omega)
  have h2 : cOf xs (k + 1) (act xs k).who = cOf xs k (act xs k).who + 1 := by simp [cOf, hc]
  unfold ownO; omega
structure VI (xs : List Act) (i : Nat) : Prop where
  lo : ∀ w, w < 10 → ∀ v, v < 10 → 0 ≤ (vst xs i).kn w v ∧ (vst xs i).kn w v ≤ cOf xs i v
  me : ∀ w, w < 10 → (vst xs i).kn w w = cOf xs i w
  lf : ∀ p v, v < 10 → 0 ≤ got (vst xs i).left p v ∧ got (vst xs i).left p v ≤ cOf xs i v
  kn : ∀ k, k < i → cntB (act xs k) = true → ∀ w, w < 10 → (ownO xs k ≤ (vst xs i).kn w (act xs k).who.toNat ↔ ∃ j, j < i ∧ cntB (act xs j) = true ∧ (act xs j).who = w ∧ (k = j ∨ rowR xs j k = true))
  le : ∀ k, k < i → cntB (act xs k) = true → ∀ p, (ownO xs k ≤ got (vst xs i).left p (act xs k).who.toNat ↔ ∃ j, j < i ∧ cntB (act xs j) = true ∧ rel (act xs j) ∧ (act xs j).place = p ∧ (k = j ∨ rowR xs j k = true))
theorem edge_iff {a b : Act} (ha : cntB a = true) (hb : cntB b = true) : edgeB a b = true ↔ a.who = b.who ∨ (a.place = b.place ∧ rel a ∧ acq b) := by
  simp only [edgeB, ha, hb, Bool.and_eq_true, Bool.or_eq_true, decide_eq_true_eq, rel, acq]
  constructor
  · rintro ⟨_, h | ⟨⟨h1, h2⟩, h3⟩⟩
    · exact .inl h
    · exact .inr ⟨h1, h2, by omega⟩
  · rintro (h | ⟨h1, h2, h3⟩)
    · exact ⟨⟨trivial, trivial⟩, .inl h⟩
    · exact ⟨⟨trivial, trivial⟩, .inr ⟨⟨h1, h2⟩, by omega⟩⟩
theorem got_lset (L : Left) (p q : Int) (c : Clk) (v : Nat) : got (lset L p c) q v = if q = p then c v else got L q v := by
  unfold got lset
  by_cases h : q = p <;> simp [h]
set_option maxHeartbeats 1000000 in
theorem VI.step {xs : List Act} {i : Nat} (hi : i < 1000) (h : VI xs i) : VI xs (i + 1) := by
  by_cases hct : cntB (act xs i) = true
  rotate_left
  · have hcf : cntB (act xs i) = false := by simpa using hct
    have e1 : vst xs (i + 1) = vst xs i := by simp [vst, vstep, hcf]
    have e2 : ∀ v, cOf xs (i + 1) v = cOf xs i v := fun v => by simp [cOf, hcf]
    refine ⟨fun w hw v hv => by rw [e1, e2]; exact h.lo w hw v hv, fun w hw => by rw [e1, e2]; exact h.me w hw, fun p v hv => by rw [e1, e2]; exact h.lf p v hv, fun k hk hc w hw => ?_, fun k hk hc p => ?_⟩
    · have hki : k < i := by
        rcases Nat.lt_or_ge k i with h1 | h1
        · exact h1
        · have : k = i := by omega
          subst this; rw [hcf] at hc; cases hc
      rw [e1, h.kn k hki hc w hw]
      constructor
      · rintro ⟨j, a, b⟩; exact ⟨j, by omega, b⟩
      · rintro ⟨j, a, b, c⟩
        refine ⟨j, ?_, b, c⟩
        rcases Nat.lt_or_ge j i with h1 | h1
        · exact h1
        · have : j = i := by omega
          subst this; rw [hcf] at b; cases b
    · have hki : k < i := by
        rcases Nat.lt_or_ge k i with h1 | h1
        · exact h1
        · have : k = i := by omega
          subst this; rw [hcf] at hc; cases hc
      rw [e1, h.le k hki hc p]
      constructor
      · rintro ⟨j, a, b⟩; exact ⟨j, by omega, b⟩
      · rintro ⟨j, a, b, c⟩
        refine ⟨j, ?_, b, c⟩
        rcases Nat.lt_or_ge j i with h1 | h1
        · exact h1
        · have : j = i := by omega
          subst this; rw [hcf] at b; cases b
  have hrg := who_rng hct
  obtain ⟨w0, hw0⟩ : ∃ w : Nat, (act xs i).who = w := ⟨(act xs i).who.toNat, by omega⟩
  have hwn : (act xs i).who.toNat = w0 := by omega
  have hw9 : w0 < 10 := by omega
  obtain ⟨ek, el⟩ := vst_s hct
  rw [hwn] at ek el
  have hme := h.me w0 hw9
  have hcl := cOf_le xs w0 i
  have hcn := cOf_nn xs w0 i
  have hwr : IntKind.i64.wrap ((vst xs i).kn w0 w0 + 1) = cOf xs i w0 + 1 := by rw [hme]; exact wrap64_id (by omega) (by omega)
  have c1 : cOf xs (i + 1) w0 = cOf xs i w0 + 1 := by simp [cOf, hct, hw0]
  have c2 : ∀ v : Int, v ≠ w0 → cOf xs (i + 1) v = cOf xs i v := fun v hv => by simp [cOf, hw0, Ne.symm hv]
  have c3 : ∀ v : Int, cOf xs i v ≤ cOf xs (i + 1) v := fun v => cOf_mono xs v (by omega)
  have hb1 : ∀ v, bump (vst xs i).kn w0 w0 v = if v = w0 then cOf xs i w0 + 1 else (vst xs i).kn w0 v := fun v => by
    unfold bump kset cset1; simp only [if_true, hwr]
  have hb2 : ∀ w v, w ≠ w0 → bump (vst xs i).kn w0 w v = (vst xs i).kn w v := fun w v hw => by
    unfold bump kset; simp [hw]
  -- what it knows then
  have hkn1 : ∀ w, w ≠ w0 → ∀ v, (vst xs (i + 1)).kn w v = (vst xs i).kn w v := fun w hw v => by
    rw [ek]; unfold mvK
    split
    · rw [show kset (bump (vst xs i).kn w0) w0 _ w = bump (vst xs i).kn w0 w by simp [kset, hw]]; exact hb2 w v hw
    · exact hb2 w v hw
  have hkn2 : ∀ v, (vst xs (i + 1)).kn w0 v = if acq (act xs i) then max (bump (vst xs i).kn w0 w0 v) (got (vst xs i).left (act xs i).place v) else bump (vst xs i).kn w0 w0 v := fun v => by
    rw [ek]; unfold mvK
    by_cases ha : acq (act xs i)
    · rw [if_pos ha, if_pos (show _ ∨ _ from ha)]; simp [kset, joinL]
    · rw [if_neg ha, if_neg (show ¬ (_ ∨ _) from ha)]
  have hlf1 : ∀ p v, got (vst xs (i + 1)).left p v = if rel (act xs i) ∧ p = (act xs i).place then max (bump (vst xs i).kn w0 w0 v) (got (vst xs i).left (act xs i).place v) else got (vst xs i).left p v := fun p v => by
    rw [el]; unfold mvL rel
    by_cases hr : (act xs i).kind = 4 ∨ (act xs i).kind = 6
    · rw [if_pos hr, got_lset]
      by_cases hp : p = (act xs i).place
      · rw [if_pos hp, if_pos ⟨hr, hp⟩]; rfl
      · rw [if_neg hp, if_neg (fun e => hp e.2)]
    · rw [if_neg hr, if_neg (fun e => hr e.1)]
  have hbb : ∀ v, v < 10 → 0 ≤ bump (vst xs i).kn w0 w0 v ∧ bump (vst xs i).kn w0 w0 v ≤ cOf xs (i + 1) v := fun v hv => by
    rw [hb1]
    split
    · rename_i e; subst e; rw [c1]; omega
    · have := h.lo w0 hw9 v hv
      have := c3 v
      omega
  have hown : ownO xs i = cOf xs i w0 + 1 := by unfold ownO; rw [hw0]
  -- own k, against what is known anew
  have hkb : ∀ k, k < i → cntB (act xs k) = true → (ownO xs k ≤ bump (vst xs i).kn w0 w0 (act xs k).who.toNat ↔ ∃ j, j < i ∧ cntB (act xs j) = true ∧ (act xs j).who = w0 ∧ (k = j ∨ rowR xs j k = true)) := fun k hk hc => by
    have hkr := who_rng hc
    rw [hb1]
    split
    · rename_i e
      have he : (act xs k).who = w0 := by omega
      have := ownO_le hk hc
      rw [he] at this
      constructor
      · intro _; exact ⟨k, hk, hc, he, .inl rfl⟩
      · intro _; omega
    · exact h.kn k hk hc w0 hw9
  have hrow : ∀ k, k < i → cntB (act xs k) = true → (rowR xs i k = true ↔ ownO xs k ≤ (vst xs (i + 1)).kn w0 (act xs k).who.toNat) := fun k hk hc => by
    rw [hkn2, rowR_spec]
    have hl := h.le k hk hc (act xs i).place
    have hb := hkb k hk hc
    have key : (∃ k', k' < i ∧ edgeB (act xs k') (act xs i) = true ∧ (k = k' ∨ k < k' ∧ rowR xs k' k = true)) ↔ (∃ j, j < i ∧ cntB (act xs j) = true ∧ (act xs j).who = w0 ∧ (k = j ∨ rowR xs j k = true)) ∨ (acq (act xs i) ∧ ∃ j, j < i ∧ cntB (act xs j) = true ∧ rel (act xs j) ∧ (act xs j).place = (act xs i).place ∧ (k = j ∨ rowR xs j k = true)) := by
      constructor
      · rintro ⟨j, a, b, c⟩
        have hcj := (edge_cnt b).1
        have hc' : k = j ∨ rowR xs j k = true := c.imp_right And.right
        rcases (edge_iff hcj hct).1 b with e | ⟨e1, e2, e3⟩
        · exact .inl ⟨j, a, hcj, by rw [e, hw0], hc'⟩
        · exact .inr ⟨e3, j, a, hcj, e2, e1, hc'⟩
      · rintro (⟨j, a, b, c, d⟩ | ⟨q, j, a, b, c, e, d⟩)
        · exact ⟨j, a, (edge_iff b hct).2 (.inl (by rw [c, hw0])), d.imp_right fun x => ⟨rowR_lt x, x⟩⟩
        · exact ⟨j, a, (edge_iff b hct).2 (.inr ⟨e, c, q⟩), d.imp_right fun x => ⟨rowR_lt x, x⟩⟩
    rw [key]
    by_cases ha : acq (act xs i)
    · rw [if_pos ha, ← hb, ← hl]
      simp only [ha, true_and]
      omega
    · rw [if_neg ha, ← hb]
      simp [ha]
  have hkn3 : ∀ k, k < i → cntB (act xs k) = true → (ownO xs k ≤ (vst xs (i + 1)).kn w0 (act xs k).who.toNat ↔ ∃ j, j < i + 1 ∧ cntB (act xs j) = true ∧ (act xs j).who = w0 ∧ (k = j ∨ rowR xs j k = true)) := fun k hk hc => by
    rw [← hrow k hk hc]
    constructor
    · intro hr; exact ⟨i, by omega, hct, hw0, .inr hr⟩
    · rintro ⟨j, a, b, c, d⟩
      by_cases e : j = i
      · subst e; rcases d with d | d
        · omega
        · exact d
      · exact (rowR_spec xs i k).2 ⟨j, by omega, (edge_iff b hct).2 (.inl (by rw [c, hw0])), d.imp_right fun x => ⟨rowR_lt x, x⟩⟩
  refine ⟨fun w hw v hv => ?_, fun w hw => ?_, fun p v hv => ?_, fun k hk hc w hw => ?_, fun k hk hc p => ?_⟩
  · by_cases e : w = w0
    · subst e
      rw [hkn2]
      have := hbb v hv
      have h2 := h.lf (act xs i).place v hv
      have := c3 v
      split <;> omega
    · rw [hkn1 w e]
      have := h.lo w hw v hv
      have := c3 v
      omega
  · by_cases e : w = w0
    · subst e
      rw [hkn2, c1, hb1]
      have h2 := h.lf (act xs i).place w hw
      simp only [if_true]
      split <;> omega
    · rw [hkn1 w e, c2 w (by omega)]; exact h.me w hw
  · rw [hlf1]
    have := hbb v hv
    have h2 := h.lf (act xs i).place v hv
    have h3 := h.lf p v hv
    have := c3 v
    split <;> omega
  · by_cases e : w = w0
    · subst e
      by_cases ek' : k = i
      · subst ek'
        have : ownO xs k ≤ (vst xs (k + 1)).kn w (act xs k).who.toNat := by
          rw [hwn, hkn2, hb1, hown]; simp only [if_true]; split <;> omega
        exact ⟨fun _ => ⟨k, by omega, hct, hw0, .inl rfl⟩, fun _ => this⟩
      · exact hkn3 k (by omega) hc
    · rw [hkn1 w e]
      by_cases ek' : k = i
      · subst ek'
        have h1 := h.lo w hw w0 hw9
        rw [hwn, hown]
        constructor
        · intro h2; omega
        · rintro ⟨j, a, b, c, d⟩
          exfalso
          rcases d with d | d
          · subst d; omega
          · have := rowR_lt d; omega
      · rw [h.kn k (by omega) hc w hw]
        constructor
        · rintro ⟨j, a, b⟩; exact ⟨j, by omega, b⟩
        · rintro ⟨j, a, b, c, d⟩
          refine ⟨j, ?_, b, c, d⟩
          rcases Nat.lt_or_ge j i with h1 | h1
          · exact h1
          · have : j = i := by omega
            subst this; omega
  · rw [hlf1]
    have hkr := who_rng hc
    by_cases hp : rel (act xs i) ∧ p = (act xs i).place
    · rw [if_pos hp]
      obtain ⟨hr, rfl⟩ := hp
      by_cases ek' : k = i
      · subst ek'
        rw [hwn, hb1, hown]
        constructor
        · intro _; exact ⟨k, by omega, hct, hr, rfl, .inl rfl⟩
        · intro _; simp only [if_true]; omega
      · have hki : k < i := by omega
        have hl := h.le k hki hc (act xs i).place
        have hb := hkb k hki hc
        constructor
        · intro hle
          rcases (show ownO xs k ≤ bump (vst xs i).kn w0 w0 (act xs k).who.toNat ∨ ownO xs k ≤ got (vst xs i).left (act xs i).place (act xs k).who.toNat by omega) with h1 | h1
          · obtain ⟨j, a, b, c, d⟩ := hb.1 h1
            exact ⟨i, by omega, hct, hr, rfl, .inr ((rowR_spec xs i k).2 ⟨j, a, (edge_iff b hct).2 (.inl (by rw [c, hw0])), d.imp_right fun x => ⟨rowR_lt x, x⟩⟩)⟩
          · obtain ⟨j, a, b⟩ := hl.1 h1
            exact ⟨j, by omega, b⟩
        · rintro ⟨j, a, b, c, e, d⟩
          by_cases ej : j = i
          · subst ej
            rcases d with d | d
            · omega
            · have := (hrow k hki hc).1 d
              rw [hkn2] at this
              split at this <;> omega
          · have := hl.2 ⟨j, by omega, b, c, e, d⟩
            omega
    · rw [if_neg hp]
      by_cases ek' : k = i
      · subst ek'
        have h1 := h.lf p w0 hw9
        rw [hwn, hown]
        constructor
        · intro h2; omega
        · rintro ⟨j, a, b, c, e, d⟩
          exfalso
          rcases d with d | d
          · subst d; exact hp ⟨c, e.symm⟩
          · have := rowR_lt d; omega
      · rw [h.le k (by omega) hc p]
        constructor
        · rintro ⟨j, a, b⟩; exact ⟨j, by omega, b⟩
        · rintro ⟨j, a, b, c, e, d⟩
          refine ⟨j, ?_, b, c, e, d⟩
          rcases Nat.lt_or_ge j i with h1 | h1
          · exact h1
          · have : j = i := by omega
            subst this; exact absurd ⟨c, e.symm⟩ hp
theorem VI.all (xs : List Act) : ∀ i, i ≤ 1000 → VI xs i
  | 0, _ => ⟨fun w _ v _ => by simp [vst, cOf], fun w _ => by simp [vst, cOf], fun p v _ => by simp [vst, cOf, got], fun k hk => by omega, fun k hk => by omega⟩
  | i + 1, h => (VI.all xs i (by omega)).step (by omega)
end Go.Proofs.Ytfeglbniahebaaa

namespace Go.Proofs.Ytfeglbniahebaaa
open Go Go.Den Go.MapKept
set_option linter.unusedSimpArgs false
set_option linter.unusedVariables false
/-- What a process knows of a process behind an act. -/
def KN (xs : List Act) (j : Nat) (v : Nat) : Int := (vst xs (j + 1)).kn (act xs j).who.toNat v
theorem ownAt_eq {xs : List Act} {k : Nat} (hk : k < 1000) (hc : cntB (act xs k) = true) : ownAt xs k = ownO xs k := by
  have hr := who_rng hc
  have hv := VI.all xs k (by omega)
  have h1 := hv.me (act xs k).who.toNat (by omega)
  have h2 := cOf_le xs (act xs k).who k
  have h3 := cOf_nn xs (act xs k).who k
  unfold ownAt ownO
  rw [if_pos hc, h1, show (((act xs k).who.toNat : Nat) : Int) = (act xs k).who by omega]
  exact wrap64_id (by omega) (by omega)
theorem row_iff {xs : List Act} {j k : Nat} (hj : j < 1000) (hk : k < j) (hcj : cntB (act xs j) = true) (hck : cntB (act xs k) = true) : rowR xs j k = true ↔ ownAt xs k ≤ KN xs j (act xs k).who.toNat := by
  have hr := who_rng hcj
  have hv := VI.all xs (j + 1) (by omega)
  rw [ownAt_eq (by omega) hck]
  have := hv.kn k (by omega) hck (act xs j).who.toNat (by omega)
  unfold KN
  rw [this]
  constructor
  · intro h; exact ⟨j, by omega, hcj, by omega, .inr h⟩
  · rintro ⟨j', a, b, c, d⟩
    by_cases e : j' = j
    · subst e; rcases d with d | d
      · omega
      · exact d
    · exact (rowR_spec xs j k).2 ⟨j', by omega, (edge_iff b hcj).2 (.inl (by omega)), d.imp_right fun x => ⟨rowR_lt x, x⟩⟩
theorem findR_ref {xs : List Act} (hl : xs.length ≤ 1000) {k i : Nat} (hk : k < i) (hi : i < xs.length) : findR xs k i = refR xs k i := by
  have hat : atab xs xs.length i k = rowR xs i k := atab_row xs _ _ _ hi
  cases hci : cntB (act xs i) with
  | false => simp [findR, refR, racesB, hci]
  | true =>
    cases hck : cntB (act xs k) with
    | false => simp [findR, refR, racesB, hck]
    | true =>
      have h1 := row_iff (by omega) hk hci hck
      have h2 : rowR xs i k = decide (ownAt xs k ≤ KN xs i (act xs k).who.toNat) := by
        cases hh : rowR xs i k
        · have : ¬ (ownAt xs k ≤ KN xs i (act xs k).who.toNat) := fun h => by rw [h1.2 h] at hh; cases hh
          simp [this]
        · simp [h1.1 hh]
      simp only [findR, refR, racesB, hci, hck, hat, h2, confB, plainB, KN, Bool.true_and]
      by_cases hp1 : (act xs k).kind = 1 ∨ (act xs k).kind = 2
      · by_cases hp2 : (act xs i).kind = 1 ∨ (act xs i).kind = 2
        · have hw : IntKind.i64.wrap ((act xs k).kind + (act xs i).kind) = (act xs k).kind + (act xs i).kind := wrap64_id (by omega) (by omega)
          rw [hw]
          have e1 : (decide ((act xs k).kind = 1) || decide ((act xs k).kind = 2)) = true := by simpa using hp1
          have e2 : (decide ((act xs i).kind = 1) || decide ((act xs i).kind = 2)) = true := by simpa using hp2
          have e3 : (decide ((act xs i).kind = 2) || decide ((act xs k).kind = 2)) = decide (2 < (act xs k).kind + (act xs i).kind) := by
            by_cases q : 2 < (act xs k).kind + (act xs i).kind
            · have : (act xs i).kind = 2 ∨ (act xs k).kind = 2 := by omega
              simpa [q] using this
            · have : ¬ (act xs i).kind = 2 ∧ ¬ (act xs k).kind = 2 := by omega
              simp [q, this]
          have e4 : ∀ a b : Int, decide (a < b) = !decide (b ≤ a) := fun a b => by
            by_cases q : b ≤ a
            · simp [q]
            · simp [q]; omega
          rw [e1, e2, e3, e4 ((vst xs (i + 1)).kn (act xs i).who.toNat (act xs k).who.toNat)]
          generalize decide ((act xs k).who = (act xs i).who) = A
          generalize decide ((act xs k).place = (act xs i).place) = B
          generalize decide (2 < (act xs k).kind + (act xs i).kind) = C
          by_cases q : ownAt xs k ≤ (vst xs (i + 1)).kn (act xs i).who.toNat (act xs k).who.toNat
          · cases A <;> cases B <;> cases C <;> simp [q]
          · cases A <;> cases B <;> cases C <;> simp [q]
        · have e2 : (decide ((act xs i).kind = 1) || decide ((act xs i).kind = 2)) = false := by simpa using hp2
          simp [e2]
      · have e1 : (decide ((act xs k).kind = 1) || decide ((act xs k).kind = 2)) = false := by simpa using hp1
        simp [e1]
theorem IsFirst.congr {R S : Nat → Nat → Bool} {n : Nat} {o : Option (Nat × Nat)} (h : IsFirst R n o) (e : ∀ j, j < n → ∀ i, i < j → R i j = S i j) : IsFirst S n o := by
  match o, h with
  | some (i, j), ⟨a, b, c, d, f⟩ => exact ⟨a, b, by rw [← e j b i a]; exact c, fun i' hi' => by rw [← e j b i' (by omega)]; exact d i' hi', fun j' hj' i' hi' => by rw [← e j' (by omega) i' hi']; exact f j' hj' i' hi'⟩
  | none, h => exact fun j hj i hi => by rw [← e j hj i hi]; exact h j hj i hi
theorem IsFirst.uniq {R : Nat → Nat → Bool} {n : Nat} {o o' : Option (Nat × Nat)} (h : IsFirst R n o) (h' : IsFirst R n o') : o = o' := by
  match o, o', h, h' with
  | none, none, _, _ => rfl
  | none, some (i, j), h, ⟨a, b, c, _⟩ => rw [h j b i a] at c; cases c
  | some (i, j), none, ⟨a, b, c, _⟩, h => rw [h j b i a] at c; cases c
  | some (i, j), some (i', j'), ⟨a, b, c, d, e⟩, ⟨a', b', c', d', e'⟩ =>
    have hj : j = j' := by
      rcases Nat.lt_trichotomy j j' with h | h | h
      · rw [e' j h i a] at c; cases c
      · exact h
      · rw [e j' h i' a'] at c'; cases c'
    subst hj
    have hi : i = i' := by
      rcases Nat.lt_trichotomy i i' with h | h | h
      · rw [d' i h] at c; cases c
      · exact h
      · rw [d i' h] at c'; cases c'
    subst hi; rfl
/-- Of acts that agree on a front all that is known there is the same. -/
theorem vst_congr {xs ys : List Act} : ∀ {i : Nat}, (∀ k, k < i → act xs k = act ys k) → vst xs i = vst ys i
  | 0, _ => rfl
  | i + 1, h => by
    have ih := vst_congr (xs := xs) (ys := ys) (i := i) fun k hk => h k (by omega)
    simp only [vst, vstep, ih, h i (by omega)]
theorem ownAt_congr {xs ys : List Act} {k : Nat} (h : ∀ j, j < k + 1 → act xs j = act ys j) : ownAt xs k = ownAt ys k := by
  unfold ownAt
  rw [vst_congr (xs := xs) (ys := ys) (i := k) fun j hj => h j (by omega), h k (by omega)]
theorem findR_congr {xs ys : List Act} {k i : Nat} (hk : k < i) (h : ∀ j, j < i + 1 → act xs j = act ys j) : findR xs k i = findR ys k i := by
  unfold findR confB
  rw [vst_congr (xs := xs) (ys := ys) (i := i + 1) h, ownAt_congr (xs := xs) (ys := ys) (k := k) fun j hj => h j (by omega), h i (by omega), h k (by omega)]
theorem act_append {xs ys : List Act} {k : Nat} (hk : k < xs.length) : act (xs ++ ys) k = act xs k := by simp [act, List.getElem?_append_left hk]
theorem act_take {xs : List Act} {m k : Nat} (hk : k < m) : act (xs.take m) k = act xs k := by simp [act, List.getElem?_take_of_lt hk]
end Go.Proofs.Ytfeglbniahebaaa

namespace Go.Proofs.Ytfeglbniahebaaa
open Go Go.Den Go.MapKept
set_option linter.unusedSimpArgs false
set_option linter.unusedVariables false
theorem bsAct : bsI P ty_Sl_api_Act = some (ty_api_Act, 3, #[.int .i64 0, .int .i64 0, .int .i64 0]) := by kernel_rfl
theorem apAct : apC P ty_api_Act = some (3, 24, 3) := by kernel_rfl
theorem unAct : P.underlying ty_Sl_api_Act = some (.slice ty_api_Act) := by kernel_rfl
theorem bdAct (a b c : Int) : bdV (binf P ty_api_Act) [(0, .int .i64 a), (1, .int .i64 b), (2, .int .i64 c)] = some (.agg (actC ⟨a, b, c⟩).toArray) := by kernel_rfl
theorem actC_len (a : Act) : (actC a).length = 3 := rfl
theorem actC_one (a : Act) : ∀ u ∈ actC a, u.oneCell' = true := by simp [actC, Value.oneCell']
theorem fill2 (a b : Act) : Instr.fill (fun i => some (i * 3, 3)) (zrow #[.int .i64 0, .int .i64 0, .int .i64 0] (2 * 3)) [(0, .agg (actC a).toArray), (1, .agg (actC b).toArray)] = some ([a, b].flatMap actC).toArray := by kernel_rfl
theorem fill3 (a b c : Act) : Instr.fill (fun i => some (i * 3, 3)) (zrow #[.int .i64 0, .int .i64 0, .int .i64 0] (3 * 3)) [(0, .agg (actC a).toArray), (1, .agg (actC b).toArray), (2, .agg (actC c).toArray)] = some ([a, b, c].flatMap actC).toArray := by kernel_rfl
theorem acts_row {h : Heap} {b : Nat} {xs : List Act} (hb : h b = some (.cells (xs.flatMap actC).toArray ty_api_Act (0, 0))) (hl : xs.length ≤ maxLen) : Row 3 ty_api_Act h (.slice (some ⟨b, 0, none⟩) xs.length xs.length) xs.length (xs.flatMap actC) := by
  have e : (xs.flatMap actC).length = xs.length * 3 := by
    clear hb hl
    induction xs with
    | nil => rfl
    | cons x xs ih => rw [List.flatMap_cons, List.length_append, ih, actC_len, List.length_cons]; omega
  exact ⟨e, .inr ⟨b, xs.length, _, rfl, hb, Nat.le_refl _, hl, by simpa using e, by rw [List.take_of_length_le (by simp only [e]; exact Nat.le_refl _)]⟩⟩
theorem rowA_sl {h : Heap} {v : Value} {xs : List Act} (r : Row 3 ty_api_Act h v xs.length (xs.flatMap actC)) : Sl 3 ActR h v xs := Row.sl (R := ActR) actC_len (fun _ => rfl) r
theorem bs_act2 (a b : Act) {h : Heap} {K : Value → Heap → Prop} (hk : ∀ v h', Ext h h' → Row 3 ty_api_Act h' v 2 ([a, b].flatMap actC) → K v h') : bsM (bsI P ty_Sl_api_Act) 2 [(0, .agg (actC a).toArray), (1, .agg (actC b).toArray)] h K := by
  rw [bsAct]; simp only [bsM]; rw [fill2]
  exact ⟨by omega, fun q hq => hk _ _ (Ext.upd hq _) (acts_row (xs := [a, b]) (upd_same _ _ _) (by simp [maxLen]))⟩
theorem bs_act3 (a b c : Act) {h : Heap} {K : Value → Heap → Prop} (hk : ∀ v h', Ext h h' → Row 3 ty_api_Act h' v 3 ([a, b, c].flatMap actC) → K v h') : bsM (bsI P ty_Sl_api_Act) 3 [(0, .agg (actC a).toArray), (1, .agg (actC b).toArray), (2, .agg (actC c).toArray)] h K := by
  rw [bsAct]; simp only [bsM]; rw [fill3]
  exact ⟨by omega, fun q hq => hk _ _ (Ext.upd hq _) (acts_row (xs := [a, b, c]) (upd_same _ _ _) (by simp [maxLen]))⟩
/-- What Find answers, kept in a box. -/
theorem pair_box {o : Option (Nat × Nat)} {h : Heap} {K : Value → Value → Heap → Prop}
    (hk : ∀ b h', h b = none → Ext h h' → h' b = some (.cells #[.int .i64 (match o with | some p => p.1 | none => 0), .int .i64 (match o with | some p => p.2 | none => 0)] ty_race_Pair (0, 0)) → K (.bool o.isSome) (.pointer (some ⟨b, 0, none⟩)) h') :
    ov (exV (oPair o) 0) fun v => ov (exV (oPair o) 1) fun u => nwM (zc P ty_race_Pair) ty_race_Pair h fun p h' => stM (some 2) p v h' fun h'' => K u p h'' := by
  rw [zcPair]
  cases o with
  | none => simp only [oPair, exV_0, exV_1, ov_s]; exact nw_st rfl rfl (by simp [Value.cells, Value.oneCell']) fun b h' h1 h2 h3 => hk b h' h1 h2 h3
  | some p => obtain ⟨i, j⟩ := p; simp only [oPair, exV_0, exV_1, ov_s]; exact nw_st rfl rfl (by simp [Value.cells, Value.oneCell']) fun b h' h1 h2 h3 => hk b h' h1 h2 h3
theorem oPair_1 (o : Option (Nat × Nat)) : exV (oPair o) 1 = some (.bool o.isSome) := by cases o <;> rfl
theorem awake_first : IsFirst (findR [⟨0, 2, 4⟩, ⟨1, 2, 4⟩]) 2 (some (0, 1)) := by
  refine ⟨by omega, by omega, by decide, fun i' hi' => by omega, fun j' hj' i' hi' => by omega⟩
theorem awake_ok {h : Heap} {K : Value → Heap → Prop} (hk : ∀ h', Ext h h' → K (.bool true) h') : callM P fn_doormanlaw22_awake #[] h K := by
  apply c_doormanlaw22_awake
  unfold b_doormanlaw22_awake
  simp only [bdAct, ov_s]
  refine bs_act2 _ _ fun v h1 he1 hr => ?_
  refine find_ok [⟨0, 2, 4⟩, ⟨1, 2, 4⟩] (by simp) (rowA_sl hr) fun h2 o he2 ho => ?_
  have := ho.uniq awake_first
  subst this
  simp only [oPair, exV_0, exV_1, ov_s, zcPair]
  refine nw_st rfl rfl (by simp [Value.cells, Value.oneCell']) fun b h3 hb he3 hc3 => ?_
  simp +contextual -implicitDefEqProofs [cel_of hc3, Value.cells]
  exact hk _ (he1.trans (he2.trans he3))
/-- The guard that all laws begin with. -/
theorem few_ok {xs : List Act} {x : Value} {h : Heap} {K : Prop} (hx : Sl 3 ActR h x xs) (h1 : xs.length ≤ 120 → K) (h2 : 120 < xs.length → K) : K := by
  rcases Nat.lt_or_ge 120 xs.length with h | h
  · exact h2 h
  · exact h1 h
end Go.Proofs.Ytfeglbniahebaaa
