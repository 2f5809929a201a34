/- Contract of the law RaceKnows. No condition beyond the hypotheses that each theorem states. -/
import Derived.Test.YtfeglbniahebaaaRaceB
set_option linter.unusedSimpArgs false
set_option linter.unusedVariables false
namespace Go.Proofs.Ytfeglbniahebaaa
open Go Go.Den Go.MapKept
set_option linter.unusedSimpArgs false
set_option linter.unusedVariables false
theorem kn_mono {xs : List Act} {i : Nat} (hi : i < 1000) {w v : Nat} (hw : w < 10) : (vst xs i).kn w v ≤ (vst xs (i + 1)).kn w v := by
  by_cases hct : cntB (act xs i) = true
  · have hrg := who_rng hct
    obtain ⟨ek, el⟩ := vst_s hct
    have hv := VI.all xs i (by omega)
    have hme := hv.me (act xs i).who.toNat (by omega)
    have h1 := cOf_le xs ((act xs i).who.toNat : Nat) i
    have h2 := cOf_nn xs ((act xs i).who.toNat : Nat) i
    have hb : (vst xs i).kn w v ≤ bump (vst xs i).kn (act xs i).who.toNat w v := by
      unfold bump kset cset1
      by_cases e : w = (act xs i).who.toNat
      · subst e
        by_cases e2 : v = (act xs i).who.toNat
        · subst e2
          simp only [if_true]
          rw [hme, wrap64_id (by omega) (by omega)]; omega
        · simp [e2]
      · simp [e]
    rw [ek]
    unfold mvK
    split
    · unfold kset joinL
      split
      · rename_i e; subst e; simp only; omega
      · exact hb
    · exact hb
  · have hcf : cntB (act xs i) = false := by simpa using hct
    have e1 : vst xs (i + 1) = vst xs i := by simp [vst, vstep, hcf]
    rw [e1]; exact Int.le_refl _
theorem kn_other {xs : List Act} {i w : Nat} (hc : cntB (act xs i) = true) (hw : w ≠ (act xs i).who.toNat) : (vst xs (i + 1)).kn w = (vst xs i).kn w := by
  obtain ⟨ek, el⟩ := vst_s hc
  rw [ek]
  unfold mvK
  split <;> simp [kset, bump, hw]
theorem zcHund : zc P ty_10_10_int = some (finC (fun _ _ => 0) []).toArray := by kernel_rfl
theorem zcTen : zc P ty_10_int = some (rowI 10 (fun _ => 0)).toArray := by kernel_rfl
theorem ia_nat {b o n i : Nat} {k : IntKind} (hi : i < n) {sz : Nat} : iaV (some (some n, sz)) (.pointer (some ⟨b, o, none⟩)) (.int k i) = some (.pointer (some ⟨b, o + i * sz, none⟩)) := by
  have : (i : Int) < n := by omega
  simp [iaV, this]
theorem row_st {h : Heap} {b n i : Nat} {k : Clk} {e : TypeId} {x : Int} {K : Heap → Prop} (hb : h b = some (.cells (rowI n k).toArray e (0, 0))) (hi : i < n) (hk : ∀ h', (∀ q, q ≠ b → h' q = h q) → h' b = some (.cells (rowI n (cset1 k i x)).toArray e (0, 0)) → K h') : stM (some 1) (.pointer (some ⟨b, i, none⟩)) (.int .i64 x) h K := by
  refine st_intro hb rfl (by simp [rowI_len]; omega) (by simp [Value.cells, Value.oneCell']) fun h' ho hc => hk h' ho ?_
  rw [hc, ← rowI_set]
  congr 2
  simp [Value.cells, over]
theorem fin_st {h : Heap} {b w v : Nat} {kn : Nat → Clk} {tl : List Value} {e : TypeId} {x : Int} {K : Heap → Prop} (hb : h b = some (.cells (finC kn tl).toArray e (0, 0))) (hw : w < 10) (hv : v < 10) (hk : ∀ h', (∀ q, q ≠ b → h' q = h q) → h' b = some (.cells (finC (kset kn w (cset1 (kn w) v x)) tl).toArray e (0, 0)) → K h') : stM (some 1) (.pointer (some ⟨b, w * 10 + v, none⟩)) (.int .i64 x) h K := by
  refine st_intro hb rfl (by simp [finC_len, Value.cells]; omega) (by simp [Value.cells, Value.oneCell']) fun h' ho hc => hk h' ho ?_
  rw [hc, ← over_fin1 _ _ _ _ _ hw hv]; rfl
theorem finC_congr {kn kn' : Nat → Clk} {tl : List Value} (h : ∀ w v, w < 10 → v < 10 → kn w v = kn' w v) : finC kn tl = finC kn' tl := by
  unfold finC
  congr 1
  refine List.map_congr_left fun j hj => ?_
  rw [List.mem_range] at hj
  rw [h _ _ (by omega) (by omega)]
theorem KnR.len {xs : List Act} {h : Heap} {v : Value} {kv : Nat → Value} (k : KnR xs h v xs.length kv) : lnV 7 v = some (.int .i64 xs.length) := by
  rcases k.1.2 with ⟨rfl, h0⟩ | ⟨g, cap, cur, rfl, _⟩
  · rw [h0]; rfl
  · rfl
theorem Row.lnV {sz : Nat} {e : TypeId} {h : Heap} {v : Value} {n : Nat} {xs : List Value} (r : Row sz e h v n xs) : lnV 7 v = some (.int .i64 n) := by
  rcases r.2 with ⟨rfl, h0⟩ | ⟨g, cap, cur, rfl, _⟩
  · rw [h0]; rfl
  · rfl
set_option maxHeartbeats 4000000 in
theorem knows_ok (xs : List Act) {h : Heap} {v : Value} (x : Sl 3 ActR h v xs) {K : Value → Heap → Prop} (hk : ∀ h', Ext h h' → K (.bool true) h') : callM P fn_doormanlaw22_RaceKnows #[v] h K := by
  apply c_doormanlaw22_RaceKnows
  unfold b_doormanlaw22_RaceKnows
  refine awake_ok fun h1 he1 => ?_
  have hlen := x.len
  simp +contextual -implicitDefEqProofs [hlen]
  refine ⟨fun hbig => awake_ok fun h2 he2 => hk _ (he1.trans he2), fun hsm => ?_⟩
  have hl : xs.length ≤ 120 := by omega
  have mono : ∀ {h' zs w}, Ext h h' → Sl 3 ActR h w zs → Sl 3 ActR h' w zs := fun e z => Sl.ext (R := ActR) (fun _ r => r) e z
  refine known_ok xs (by omega) (mono he1 x) fun h2 kw kv he2 hkn => ?_
  simp only [hkn.len, ov_s, bin_neq, cd_b]
  refine ⟨fun hh => absurd hh (by simp), fun _ => ?_⟩
  rw [zcHund]
  refine nw_intro fun bl h3 hbl he3 hc3 => ?_
  rw [zcTen]
  refine nw_intro fun bo h4 hbo he4 hc4 => ?_
  rw [seqM_eq]
  have hdb : bl ≠ bo := ne_fresh hc3 hbo
  have fbl : h bl = none := fresh_of (he1.trans he2) hbl
  have fbo : h bo = none := fresh_of (he1.trans (he2.trans he3)) hbo
  have hx4 := he1.trans (he2.trans (he3.trans he4))
  refine loop_on [0, 3, 4, 5] (fun s h' => KeepL [bl, bo] h4 h' ∧ ∃ i : Nat, i ≤ xs.length ∧ s 6 = .int .i64 i ∧ h' bl = some (.cells (finC (vst xs i).kn []).toArray ty_10_10_int (0, 0)) ∧ h' bo = some (.cells (rowI 10 (fun w => cOf xs i w)).toArray ty_10_int (0, 0))) (fun s _ => (xs.length - num (s 6)).toNat)
    ⟨fun _ _ e _ => e, 0, by omega, rfl, he4 _ _ hc3, hc4⟩ ?_
  rintro s h5 hf ⟨hk5, i, hi, hs6, hl5, ho5⟩
  have s0 : s 0 = v := by simpa using hf 0 (by simp)
  have s3 : s 3 = kw := by simpa using hf 3 (by simp)
  have s4 : s 4 = .pointer (some ⟨bl, 0, none⟩) := by simpa using hf 4 (by simp)
  have s5 : s 5 = .pointer (some ⟨bo, 0, none⟩) := by simpa using hf 5 (by simp)
  have hw : IntKind.i64.wrap ((i : Int) + 1) = i + 1 := wrap64_id (by omega) (by omega)
  have hxk : ∀ {h'}, KeepL [bl, bo] h4 h' → Ext h h' := fun {h'} k q o e => k _ _ (hx4 _ _ e) (by simp [ne_fresh e fbl, ne_fresh e fbo])
  simp only [s0, hlen, ov_s, hs6, bin_lss, cd_b]
  refine ⟨fun hc => ?_, fun hc => ?_⟩
  rotate_left
  · simp; exact hk h5 (hxk hk5)
  have hlt : i < xs.length := by have : ((i : Int) < xs.length) := by simpa using hc
                                 omega
  refine seq_cut (fun m' s' h' => m' = [] ∧ (∀ k ∈ [0, 3, 4, 5, 6], s' k = s k) ∧ KeepL [bl, bo] h4 h' ∧ h' bl = some (.cells (finC (vst xs (i + 1)).kn []).toArray ty_10_10_int (0, 0)) ∧ h' bo = some (.cells (rowI 10 (fun w => cOf xs (i + 1) w)).toArray ty_10_int (0, 0))) (fun J hJ _ _ => ?_) ?_
  rotate_left
  · rintro m' s' h' ⟨rfl, hf', hk', hl', ho'⟩
    simp [hf' 0 (by simp), hf' 3 (by simp), hf' 4 (by simp), hf' 5 (by simp), hf' 6 (by simp), hs6, hw, s0, s3, s4, s5]
    exact ⟨⟨hk', i + 1, by omega, by simp, hl', ho'⟩, by omega⟩
  obtain ⟨b1, o1, i1, l1⟩ := rowA_at (k := .i64) x hlt
  obtain ⟨l2, l3, l4⟩ := l1 h5 (hxk hk5)
  simp +contextual -implicitDefEqProofs [i1, l2, ldV_c]
  have cnt_iff : cntB (act xs i) = (decide (0 ≤ (act xs i).who) && decide ((act xs i).who ≤ 9)) := rfl
  refine ⟨fun hout => ?_, fun hge hle => ?_⟩
  · have hcf : cntB (act xs i) = false := by
      rw [cnt_iff]; simp; omega
    have e1 : vst xs (i + 1) = vst xs i := by simp [vst, vstep, hcf]
    have e2 : (fun w : Nat => cOf xs (i + 1) w) = fun w : Nat => cOf xs i w := by funext w; simp [cOf, hcf]
    exact hJ _ _ _ ⟨rfl, by simp, hk5, by rw [e1]; exact hl5, by rw [e2]; exact ho5⟩
  have hct : cntB (act xs i) = true := by rw [cnt_iff]; simp; omega
  obtain ⟨w, hw0⟩ : ∃ w : Nat, (act xs i).who = w := ⟨(act xs i).who.toNat, by omega⟩
  have hwn : (act xs i).who.toNat = w := by omega
  have hw9 : w < 10 := by omega
  have hv := VI.all xs (i + 1) (by omega)
  -- the row that is told of this act
  have hkp : ∀ {h'}, KeepL [bl, bo] h4 h' → Ext h2 h' := fun {h'} k q o e => k _ _ (he4 _ _ (he3 _ _ e)) (by simp [ne_fresh e hbl, ne_fresh (he3 _ _ e) hbo])
  obtain ⟨g, g1, g2, g3⟩ := row1_at (k := .i64) (hkn.1.ext (hkp hk5)) hlt
  simp only [hlt, if_true] at g3
  have hrow := (hkn.2 i hlt).1 hct
  simp only [s3, g2, g3, ov_s, ldV_c, Row.lnV hrow, bin_neq, cd_b]
  refine ⟨fun hh => absurd hh (by simp), fun _ => ?_⟩
  have hcw := cOf_le xs (w : Int) i
  have hcn := cOf_nn xs (w : Int) i
  have hw2 : IntKind.i64.wrap (cOf xs i w + 1) = cOf xs i w + 1 := wrap64_id (by omega) (by omega)
  simp only [s5, hw0, ia_nat hw9, ov_s, Nat.zero_add, Nat.mul_one, ldV_c, cel_row ho5 hw9, bin_add, hw2]
  refine row_st ho5 hw9 fun h6 ho6 hc6 => ?_
  have ec : cset1 (fun w : Nat => cOf xs i w) w (cOf xs i w + 1) = fun w : Nat => cOf xs (i + 1) w := by
    funext q
    by_cases e : q = w
    · subst e; simp [cset1, cOf, hct, hw0]
    · have : ¬ (w : Int) = q := by omega
      simp [cset1, e, cOf, hw0, this]
  rw [ec] at hc6
  have hl6 : h6 bl = _ := (ho6 bl hdb).trans hl5
  have hk6 : KeepL [bl, bo] h4 h6 := hk5.trans (KeepL.one ho6 (by simp))
  rw [seqM_eq]
  have hkw : (vst xs (i + 1)).kn w w = cOf xs (i + 1) w := hv.me w hw9
  refine loop_on [0, 3, 4, 5, 6, 7] (fun s' h' => KeepL [bl, bo] h4 h' ∧ ∃ k : Nat, k ≤ 10 ∧ s' 8 = .int .i64 k ∧ h' bl = some (.cells (finC (fun a b => if a = w ∧ b < k then (vst xs (i + 1)).kn a b else (vst xs i).kn a b) []).toArray ty_10_10_int (0, 0)) ∧ h' bo = some (.cells (rowI 10 (fun w => cOf xs (i + 1) w)).toArray ty_10_int (0, 0)))
    (fun s' _ => (10 - num (s' 8)).toNat) ⟨hk6, 0, by omega, rfl, by simpa using hl6, hc6⟩ ?_
  rintro s7 h7 hf7 ⟨hk7, k, hk10, hs8, hl7, ho7⟩
  have t0 : s7 0 = v := by simpa [s0] using hf7 0 (by simp)
  have t3 : s7 3 = kw := by simpa [s3] using hf7 3 (by simp)
  have t4 : s7 4 = .pointer (some ⟨bl, 0, none⟩) := by simpa [s4] using hf7 4 (by simp)
  have t5 : s7 5 = .pointer (some ⟨bo, 0, none⟩) := by simpa [s5] using hf7 5 (by simp)
  have t6 : s7 6 = .int .i64 i := by simpa [hs6] using hf7 6 (by simp)
  have t7 : s7 7 = .int .i64 w := by simpa [hw0] using hf7 7 (by simp)
  obtain ⟨g', g1', g2', g3'⟩ := row1_at (k := .i64) (hkn.1.ext (hkp hk7)) hlt
  simp only [hlt, if_true] at g3'
  simp only [hs8, bin_lss, ov_s, cd_b]
  refine ⟨fun hc8 => ?_, fun hc8 => ?_⟩
  rotate_left
  · have hc' : ¬ ((k : Int) < 10) := by simpa using hc8
    have : k = 10 := by omega
    subst this
    obtain ⟨q, q1, q2, q3⟩ := row1_at (k := .i64) (hrow.ext (hkp hk7)) hw9
    rw [hwn, hkw] at q3
    simp [t3, t6, g2', g3', t7, q2, q3, t5, ia_nat hw9, cel_row ho7 hw9]
    refine hJ _ _ _ ⟨rfl, by simp [t0, t3, t4, t5, t6, s0, s3, s4, s5, hs6], hk7, ?_, ho7⟩
    rw [hl7]
    congr 2
    rw [finC_congr fun a b ha hb => ?_]
    by_cases e : a = w
    · subst e; simp [hb]
    · simp [e, kn_other hct (show a ≠ (act xs i).who.toNat by omega)]
  have hlt8 : k < 10 := by have : ((k : Int) < 10) := by simpa using hc8
                           omega
  have hwk : IntKind.i64.wrap ((k : Int) + 1) = k + 1 := wrap64_id (by omega) (by omega)
  obtain ⟨q, q1, q2, q3⟩ := row1_at (k := .i64) (hrow.ext (hkp hk7)) hlt8
  rw [hwn] at q3
  have hcf := cel_fin hl7 hw9 hlt8
  simp only [Nat.lt_irrefl, and_false, if_false] at hcf
  have m1 : ¬ (vst xs (i + 1)).kn w k < (vst xs i).kn w k := by have := kn_mono (xs := xs) (i := i) (w := w) (v := k) (by omega) hw9; omega
  have m2 : ¬ cOf xs (i + 1) k < (vst xs (i + 1)).kn w k := by have := (hv.lo w hw9 k hlt8).2; omega
  simp +contextual -implicitDefEqProofs [t3, t4, t5, t6, t7, g2', g3', q2, q3, ia_nat hw9, ia_nat hlt8, hcf, cel_row ho7 hlt8, m1, m2]
  refine fin_st hl7 hw9 hlt8 fun h8 ho8 hc8' => ?_
  simp [hs8, hwk, t0, t3, t4, t5, t6, t7, s0, s3, s4, s5, hs6, hw0]
  refine ⟨⟨hk7.trans (KeepL.one ho8 (by simp)), k + 1, by omega, by simp, ?_, by rw [ho8 bo (Ne.symm hdb)]; exact ho7⟩, by omega⟩
  rw [hc8']
  congr 2
  rw [finC_congr fun a b ha hb => ?_]
  by_cases e : a = w
  · subst e
    by_cases e2 : b = k
    · subst e2; simp [kset, cset1]
    · by_cases e3 : b < k
      · simp [kset, cset1, e2, e3, show b < k + 1 by omega]
      · simp [kset, cset1, e2, e3, show ¬ b < k + 1 by omega]
  · simp [kset, e]
end Go.Proofs.Ytfeglbniahebaaa
