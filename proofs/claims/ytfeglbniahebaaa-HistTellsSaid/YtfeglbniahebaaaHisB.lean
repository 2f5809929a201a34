/- Contracts of hist.Respects, hist.Check and of the law HistAny. No condition beyond the hypotheses that each theorem states. -/
import Derived.Test.YtfeglbniahebaaaHis
set_option linter.unusedSimpArgs false
set_option linter.unusedVariables false
namespace Go.Proofs.Ytfeglbniahebaaa
open Go Go.Den Go.MapKept
set_option linter.unusedSimpArgs false
set_option linter.unusedVariables false
def IR (_ : Heap) (c : List Value) (n : Int) : Prop := c = [.int .i64 n]
theorem ir_ext {h h' : Heap} (e : Ext h h') {v : Value} {xs : List Int} (x : Sl 1 IR h v xs) : Sl 1 IR h' v xs := Sl.ext (R := IR) (fun _ r => r) e x
theorem ir_at {h : Heap} {v : Value} {o : List Int} (x : Sl 1 IR h v o) {i : Nat} (hi : i < o.length) {k : IntKind} : ∃ b p, iaV (some (none, 1)) v (.int k i) = some (.pointer (some ⟨b, p, none⟩)) ∧ ∀ h', Ext h h' → cel h' b p = some (.int .i64 o[i]) := by
  obtain ⟨b, p, c, h1, h2, h3⟩ := x.at (k := k) (i := i) (by omega) (by omega)
  refine ⟨b, p, h1, fun h' e => ?_⟩
  have : c = [.int .i64 o[i]] := by rw [show c = [.int .i64 (o[(i : Int).toNat]'(by omega))] from h3]; simp
  subst this
  have := (cels_get (cels_ext e h2)).2 0 (by simp)
  simpa using this
theorem rowN_ir {h : Heap} {v : Value} {l : List Nat} (r : RowN h v l) : Sl 1 IR h v (l.map fun k : Nat => (k : Int)) := by
  have e : (l.map fun k : Nat => (k : Int)).flatMap (fun n => [Value.int .i64 n]) = intsC l := by
    rw [← flat_intsC, List.flatMap_map]
  have e2 : (l.map fun k : Nat => (k : Int)).length = l.length := by simp
  unfold RowN at r
  rw [← e, ← e2] at r
  exact Row.sl (R := IR) (enc := fun n => [Value.int .i64 n]) (fun _ => rfl) (fun _ => rfl) r
structure Resp (xs : List HC) (o : List Int) : Prop where
  rng : ∀ k (hk : k < o.length), 0 ≤ o[k] ∧ o[k] < xs.length
  dis : ∀ j k (hj : j < o.length) (hk : k < o.length), j < k → o[j] ≠ o[k]
  bef : ∀ j k (hj : j < o.length) (hk : k < o.length), j < k → befB (cl xs o[k].toNat) (cl xs o[j].toNat) = false
  all : ∀ i, i < xs.length → 0 ≤ (cl xs i).e → (i : Int) ∈ o
def inF (o : List Int) (k i : Nat) : Bool := decide ((i : Int) ∈ o.take k)
theorem inF_s (o : List Int) {k : Nat} (hk : k < o.length) (i : Nat) : inF o (k + 1) i = if (i : Int) = o[k] then true else inF o k i := by
  unfold inF
  rw [List.take_add_one, List.getElem?_eq_getElem hk]
  simp only [Option.toList_some, List.mem_append, List.mem_singleton]
  by_cases e : (i : Int) = o[k] <;> simp [e]
theorem mem_take {o : List Int} {k : Nat} {x : Int} (h : x ∈ o.take k) : ∃ j, ∃ hj : j < o.length, j < k ∧ o[j] = x := by
  obtain ⟨j, hj, e⟩ := List.getElem_of_mem h
  rw [List.length_take] at hj
  exact ⟨j, by omega, by omega, by simpa using e⟩
set_option maxHeartbeats 4000000 in
theorem respects_ok {xs : List HC} {o : List Int} (hl : xs.length ≤ 100000) (hol : o.length ≤ 100000) {h : Heap} {v u : Value} (x : Sl 18 CallR h v xs) (y : Sl 1 IR h u o) {K : Value → Heap → Prop} (hk : ∀ h' b, Ext h h' → (b = true ↔ Resp xs o) → K (.bool b) h') :
    callM P fn_hist_Respects #[v, u] h K := by
  apply e_hist_Respects
  unfold d_hist_Respects
  have hlen := x.len
  have hleno := y.len
  simp only [hlen, ov_s]
  refine makeSlice_vv unSlB apB zcB (by omega) (by omega) (by unfold maxLen; omega) fun gi h1 hgi he1 hc1 => ?_
  have hin := made_row (by unfold maxLen; omega) hc1
  generalize hiv : Value.slice (some ⟨gi, 0, none⟩) xs.length xs.length = iv at *
  have hri : rowOf iv = some gi := by rw [← hiv]; rfl
  unfold d_hist_Respects_1
  rw [seqM_eq]
  unfold d_hist_Respects_2
  simp only [hleno, ov_s]
  refine loop_on [0, 1, 5, 17, 18] (fun s h' => Keep (some gi) h1 h' ∧ ∃ k : Nat, k ≤ o.length ∧ s 19 = .int .i64 k ∧ RowB h' iv xs.length (inF o k) ∧ (∀ j (hj : j < o.length), j < k → 0 ≤ o[j] ∧ o[j] < xs.length) ∧
      (∀ i j (hi : i < o.length) (hj : j < o.length), i < j → j < k → o[i] ≠ o[j]) ∧ ∀ i j (hi : i < o.length) (hj : j < o.length), i < k → i < j → 0 ≤ o[j] → o[j] < xs.length → befB (cl xs o[j].toNat) (cl xs o[i].toNat) = false) (fun s _ => (o.length - num (s 19)).toNat)
    ⟨fun _ _ e _ => e, 0, by omega, rfl, row1_congr hin fun k _ => by simp [inF], fun j _ hj => by omega, fun i j _ _ _ hj => by omega, fun i j _ _ hi => by omega⟩ ?_
  rintro s h2 hf ⟨hk2, k, hko, s19, hr, hrng, hdis, hbef⟩
  have s0 : s 0 = v := by simpa using hf 0 (by simp)
  have s1 : s 1 = u := by simpa using hf 1 (by simp)
  have s5 : s 5 = iv := by simpa using hf 5 (by simp)
  have s17 : s 17 = u := by simpa using hf 17 (by simp)
  have s18 : s 18 = .int .i64 o.length := by simpa using hf 18 (by simp)
  have hx2 : Ext h h2 := he1.keep hk2 (fun b e => by cases e; exact hgi)
  have hw : IntKind.i64.wrap ((k : Int) + 1) = (k + 1 : Nat) := by rw [i64w (by omega) (by omega)]; omega
  unfold d_hist_Respects_3
  simp only [s19, s18, bin_lss, ov_s, cd_b]
  refine ⟨fun hc => ?_, fun hc => ?_⟩
  rotate_left
  · have : k = o.length := by have : ¬ ((k : Int) < o.length) := by simpa using hc
                              omega
    subst this
    simp only [lpM_e, blkM_e, if_true, thenM_n]
    unfold d_hist_Respects_12
    rw [seqM_eq]
    unfold d_hist_Respects_13
    simp only [puts_env, lk, Nat.reduceEqDiff, if_false, Option.getD_none, s0, hlen, ov_s]
    refine loop_on [1, 71, 72] (fun s' h' => Ext h2 h' ∧ ∃ i : Nat, i ≤ xs.length ∧ s' 73 = .int .i64 i ∧ ∀ j, j < i → 0 ≤ (cl xs j).e → (j : Int) ∈ o) (fun s' _ => (xs.length - num (s' 73)).toNat) ⟨Ext.refl _, 0, by omega, by simp, fun j hj => by omega⟩ ?_
    rintro t h3 hft ⟨he3, i, hi, t73, hall⟩
    have t1 : t 1 = u := by simpa [s1] using hft 1 (by simp)
    have t71 : t 71 = v := by simpa [s0] using hft 71 (by simp)
    have t72 : t 72 = .int .i64 xs.length := by simpa using hft 72 (by simp)
    have wi : IntKind.i64.wrap ((i : Int) + 1) = i + 1 := i64w (by omega) (by omega)
    unfold d_hist_Respects_14
    simp only [t72, t73, bin_lss, ov_s, cd_b]
    refine ⟨fun hc3 => ?_, fun hc3 => ?_⟩
    rotate_left
    · have : i = xs.length := by have : ¬ ((i : Int) < xs.length) := by simpa using hc3
                                 omega
      subst this
      simp
      have := hk h3 true (hx2.trans he3) ⟨fun _ => ⟨fun k hk' => hrng k hk' hk', fun i j hi hj hij => hdis i j hi hj hij hj, fun i j hi hj hij => hbef i j hi hj hi hij (hrng j hj hj).1 (hrng j hj hj).2, hall⟩, fun _ => rfl⟩
      simpa using this
    have hlt : i < xs.length := by have : ((i : Int) < xs.length) := by simpa using hc3
                                   omega
    unfold d_hist_Respects_15
    refine seq_cut (fun m' s' h' => m' = [] ∧ Ext h2 h' ∧ (∀ k ∈ [1, 71, 72, 73], s' k = t k) ∧ (0 ≤ (cl xs i).e → (i : Int) ∈ o)) (fun J hJ _ hJr => ?_) ?_
    rotate_left
    · rintro m' s' h' ⟨rfl, hx', hf', hin'⟩
      simp [hf' 1 (by simp), hf' 71 (by simp), hf' 72 (by simp), hf' 73 (by simp), t73, wi, t1, t71, t72, s0, s1]
      refine ⟨⟨hx', i + 1, by omega, by simp, fun j hj hej => ?_⟩, by omega⟩
      by_cases e : j = i
      · subst e; exact hin' hej
      · exact hall j (by omega) hej
    unfold d_hist_Respects_16
    obtain ⟨hok, b1, o1, i1, l1⟩ := call_at (k := .i64) x hlt
    simp only [t71, t73, i1, ov_s, (l1 _ (hx2.trans he3)).1]
    refine box_call hok fun b h4 hb he4 hc4 => ?_
    obtain ⟨_, _, _, q3⟩ := hok.get hc4
    simp only [faV_p, ov_s, ldV_c, Nat.zero_add, q3, bin_lss, cd_b]
    have hx4 := (hx2.trans he3).trans he4
    refine ⟨fun hneg => ?_, fun hneg => ?_⟩
    · have : (cl xs i).e < 0 := by simpa using hneg
      exact hJ _ _ _ ⟨rfl, he3.trans he4, by simp, fun h => by omega⟩
    unfold d_hist_Respects_17
    rw [seqM_eq]
    unfold d_hist_Respects_18
    simp only [t1, hleno, ov_s]
    refine loop_on [1, 10, 71, 72, 73, 81, 82] (fun s' h' => h' = h4 ∧ ∃ j : Nat, j ≤ o.length ∧ s' 83 = .int .i64 j ∧ ∀ q (hq : q < o.length), q < j → o[q] ≠ i) (fun s' _ => (o.length - num (s' 83)).toNat) ⟨rfl, 0, by omega, by simp, fun q _ hq => by omega⟩ ?_
    rintro w h5 hfw ⟨rfl, j, hj, w83, hno⟩
    have w1 : w 1 = u := by simpa [t1] using hfw 1 (by simp)
    have w10 : w 10 = .int .i64 i := by simpa [t73] using hfw 10 (by simp)
    have w71 : w 71 = v := by simpa [t71] using hfw 71 (by simp)
    have w72 : w 72 = .int .i64 xs.length := by simpa [t72] using hfw 72 (by simp)
    have w73 : w 73 = .int .i64 i := by simpa [t73] using hfw 73 (by simp)
    have w81 : w 81 = u := by simpa [t1] using hfw 81 (by simp)
    have w82 : w 82 = .int .i64 o.length := by simpa using hfw 82 (by simp)
    have wj : IntKind.i64.wrap ((j : Int) + 1) = j + 1 := i64w (by omega) (by omega)
    unfold d_hist_Respects_19
    simp only [w82, w83, bin_lss, ov_s, cd_b]
    refine ⟨fun hc5 => ?_, fun hc5 => ?_⟩
    · have hjo : j < o.length := by have : ((j : Int) < o.length) := by simpa using hc5
                                    omega
      obtain ⟨b2, p2, i2, l2⟩ := ir_at (k := .i64) y hjo
      unfold d_hist_Respects_20
      simp only [w81, w83, w10, i2, ov_s, ldV_c, l2 _ hx4, bin_eql, cd_b]
      refine ⟨fun heq => ?_, fun hne => ?_⟩
      · have heq' : o[j] = i := by simpa using heq
        simp
        exact hJ _ _ _ ⟨rfl, he3.trans he4, by simp [w1, w71, w72, w73, t1, t71, t72, t73], fun _ => by rw [← heq']; exact List.getElem_mem hjo⟩
      · have hne' : ¬ o[j] = i := by simpa using hne
        unfold d_hist_Respects_21
        simp [w83, wj, w1, w10, w71, w72, w73, w81, w82, t1, t71, t72, t73]
        refine ⟨⟨j + 1, by omega, by simp, fun q hq hqj => ?_⟩, by omega⟩
        by_cases e : q = j
        · subst e; exact hne'
        · exact hno q hq (by omega)
    · have : j = o.length := by have : ¬ ((j : Int) < o.length) := by simpa using hc5
                                omega
      subst this
      simp
      rw [hJr]
      have := hk h5 false hx4 ⟨fun h => (by cases h), fun hR => by
        have hei : 0 ≤ (cl xs i).e := by have : ¬ (cl xs i).e < 0 := by simpa using hneg
                                         omega
        obtain ⟨q, hq, e⟩ := List.getElem_of_mem (hR.all i hlt hei)
        exact absurd e (hno q hq hq)⟩
      simpa using this
  have hlt : k < o.length := by have : ((k : Int) < o.length) := by simpa using hc
                                omega
  unfold d_hist_Respects_4
  refine seq_cut (fun m' s' h' => m' = [] ∧ (∀ q ∈ [0, 1, 5, 17, 18, 19], s' q = s q) ∧ Keep (some gi) h1 h' ∧ RowB h' iv xs.length (inF o (k + 1)) ∧ (0 ≤ o[k] ∧ o[k] < xs.length) ∧
      (∀ j (hj : j < o.length), j < k → o[j] ≠ o[k]) ∧ ∀ j (hj : j < o.length), k < j → 0 ≤ o[j] → o[j] < xs.length → befB (cl xs o[j].toNat) (cl xs o[k].toNat) = false) (fun J hJ _ hJr => ?_) ?_
  rotate_left
  · rintro m' s' h' ⟨rfl, hf', hk', hr', hg', hd', hb'⟩
    simp [hf' 0 (by simp), hf' 1 (by simp), hf' 5 (by simp), hf' 17 (by simp), hf' 18 (by simp), hf' 19 (by simp), s19, hw, s0, s1, s5, s17, s18]
    refine ⟨⟨hk', k + 1, by omega, by omega, hr', fun j hj hjk => ?_, fun i j hi hj hij hjk => ?_, fun i j hi hj hik hij h3 h4 => ?_⟩, by omega⟩
    · by_cases e : j = k
      · subst e; exact hg'
      · exact hrng j hj (by omega)
    · by_cases e : j = k
      · subst e; exact hd' i hi hij
      · exact hdis i j hi hj hij (by omega)
    · by_cases e : i = k
      · subst e; exact hb' j hj hij h3 h4
      · exact hbef i j hi hj (by omega) hij h3 h4
  have notR : ∀ (c : ¬ Resp xs o) (h' : Heap), Ext h h' → K (.bool false) h' := fun c h' e => hk h' false e ⟨fun h => (by cases h), fun hR => absurd hR c⟩
  obtain ⟨b1, p1, i1, l1⟩ := ir_at (k := .i64) y hlt
  have e1 := l1 h2 hx2
  unfold d_hist_Respects_5
  by_cases hout : o[k] < 0 ∨ (xs.length : Int) ≤ o[k]
  · have hR : ¬ Resp xs o := fun hR => by have := hR.rng k hlt; omega
    have hb : (decide (o[k] < 0) || decide ((xs.length : Int) ≤ o[k])) = true := by simpa using hout
    by_cases hneg : o[k] < 0
    · simp +contextual -implicitDefEqProofs [s17, s19, i1, e1, s0, s5, hlen, hneg]
      unfold d_hist_Respects_6
      rw [hJr]
      simpa using notR hR h2 hx2
    · have hge : (xs.length : Int) ≤ o[k] := by omega
      simp +contextual -implicitDefEqProofs [s17, s19, i1, e1, s0, s5, hlen, hneg, hge]
      unfold d_hist_Respects_6
      rw [hJr]
      simpa using notR hR h2 hx2
  obtain ⟨a, ha⟩ : ∃ a : Nat, o[k] = a := ⟨o[k].toNat, by omega⟩
  have hax : a < xs.length := by omega
  have n1 : ¬ ((a : Int) < 0) := by omega
  have n2 : ¬ (xs.length ≤ a) := by omega
  obtain ⟨g, g1, g2, g3⟩ := rowB_at (k := .i64) hr hax
  have : g = gi := by rw [hri] at g1; cases g1; rfl
  subst this
  rw [ha] at e1
  simp +contextual -implicitDefEqProofs [s17, s19, i1, e1, s0, s5, hlen, n1, n2, g2, g3]
  refine ⟨fun hin' => ?_, fun hin' => ?_⟩
  · have hR : ¬ Resp xs o := fun hR => by
      obtain ⟨j, hj, hjk, e⟩ := mem_take (of_decide_eq_true hin')
      exact hR.dis j k hj hlt hjk (by rw [e, ha])
    unfold d_hist_Respects_6
    rw [hJr]
    simpa using notR hR h2 hx2
  unfold d_hist_Respects_7
  simp only [s5, g2, ov_s]
  refine rowB_st hr g1 hax fun h3 ho3 hr3 => ?_
  have hk3 : Keep (some g) h1 h3 := hk2.trans fun q o' e ne => by rw [ho3 q (fun e' => ne (by rw [e']))]; exact e
  have hx3 : Ext h h3 := he1.keep hk3 (fun b e => by cases e; exact hgi)
  have hr3' : RowB h3 iv xs.length (inF o (k + 1)) := rowB_congr hr3 fun i _ => by
    rw [inF_s o hlt, ha]
    by_cases e : i = a
    · simp [e]
    · rw [if_neg e, if_neg (show ¬ ((i : Int) = a) by omega)]
  have hcutb : ∀ cap, o.length ≤ cap → bnd none o.length cap = some o.length := fun cap _ => rfl
  obtain ⟨w', hw', hs'⟩ := y.cut (lo := some (.int .i64 (k + 1 : Nat))) (hi := none) (L := k + 1) (H := o.length) hcutb (bnd_int (by omega)) (by omega) (by omega)
  rw [List.take_length] at hs'
  have hlw := hs'.len
  rw [List.length_drop] at hlw
  simp only [s19, bin_add, ov_s, hw, s1, hw', hlw]
  refine loop_on [0, 1, 5, 7, 17, 18, 19, 44, 45] (fun s' h' => Ext h3 h' ∧ ∃ j : Nat, j ≤ o.length - (k + 1) ∧ s' 46 = .int .i64 j ∧ ∀ q (hq : q < o.length), k < q → q < k + 1 + j → 0 ≤ o[q] → o[q] < xs.length → befB (cl xs o[q].toNat) (cl xs a) = false) (fun s' _ => ((o.length - (k + 1) : Nat) - num (s' 46)).toNat)
    ⟨Ext.refl _, 0, by omega, by simp, fun q _ h5 h6 => by omega⟩ ?_
  rintro t h4 hft ⟨he4, j, hj, t46, hnb⟩
  have t0 : t 0 = v := by simpa [s0] using hft 0 (by simp)
  have t1 : t 1 = u := by simpa [s1] using hft 1 (by simp)
  have t5 : t 5 = iv := by simpa [s5] using hft 5 (by simp)
  have t7 : t 7 = .int .i64 a := by simpa using hft 7 (by simp)
  have t17 : t 17 = u := by simpa [s17] using hft 17 (by simp)
  have t18 : t 18 = .int .i64 o.length := by simpa [s18] using hft 18 (by simp)
  have t19 : t 19 = .int .i64 k := by simpa [s19] using hft 19 (by simp)
  have t44 : t 44 = w' := by simpa using hft 44 (by simp)
  have t45 : t 45 = .int .i64 (o.length - (k + 1) : Nat) := by have := hft 45 (by simp); simp only [puts_env, lk, Nat.reduceEqDiff, if_false, if_true, Option.getD_some] at this; exact this
  have wj : IntKind.i64.wrap ((j : Int) + 1) = j + 1 := i64w (by omega) (by omega)
  have hx4 : Ext h h4 := hx3.trans he4
  unfold d_hist_Respects_8
  simp only [t45, t46, bin_lss, ov_s, cd_b]
  refine ⟨fun hc4 => ?_, fun hc4 => ?_⟩
  rotate_left
  · have : j = o.length - (k + 1) := by have : ¬ ((j : Int) < (o.length - (k + 1) : Nat)) := by simpa using hc4
                                        omega
    subst this
    simp
    refine hJ _ _ _ ⟨rfl, by simp [t0, t1, t5, t17, t18, t19, s0, s1, s5, s17, s18, s19], hk3.trans (Keep.of_ext he4), hr3'.ext he4, by omega, fun j hj hjk e => ?_, fun q hq hkq h5 h6 => ?_⟩
    · have : ((a : Nat) : Int) ∈ o.take k := by
        rw [← ha, ← e]
        have : o[j] = (o.take k)[j]'(by rw [List.length_take]; omega) := by simp
        rw [this]; exact List.getElem_mem _
      have hin2 : inF o k a = true := decide_eq_true this
      rw [hin'] at hin2; cases hin2
    · rw [ha]; exact hnb q hq hkq (by omega) h5 h6
  have hjl : j < o.length - (k + 1) := by have : ((j : Int) < (o.length - (k + 1) : Nat)) := by simpa using hc4
                                          omega
  obtain ⟨b2, p2, i2, l2⟩ := ir_at (k := .i64) hs' (i := j) (by simpa using hjl)
  have hkj : k + 1 + j < o.length := by omega
  obtain ⟨z, hz⟩ : ∃ z, o[k + 1 + j] = z := ⟨_, rfl⟩
  have e2 : cel h4 b2 p2 = some (.int .i64 z) := by rw [← hz]; simpa using l2 h4 hx4
  unfold d_hist_Respects_9
  have cont : (0 ≤ z → z < xs.length → befB (cl xs z.toNat) (cl xs a) = false) → ∀ q (hq : q < o.length), k < q → q < k + 1 + (j + 1) → 0 ≤ o[q] → o[q] < xs.length → befB (cl xs o[q].toNat) (cl xs a) = false := fun hh q hq h5 h6 h7 h8 => by
    by_cases e : q = k + 1 + j
    · subst e; rw [hz] at h7 h8 ⊢; exact hh h7 h8
    · exact hnb q hq h5 (by omega) h7 h8
  by_cases hin2 : 0 ≤ z ∧ z < xs.length
  · obtain ⟨c, hc'⟩ : ∃ c : Nat, z = c := ⟨z.toNat, by omega⟩
    have hcx : c < xs.length := by omega
    obtain ⟨hokc, b3, o3, i3, l3⟩ := call_at (k := .i64) x hcx
    obtain ⟨hoka, b4, o4, i4, l4⟩ := call_at (k := .i64) x hax
    rw [hc'] at e2
    simp +contextual -implicitDefEqProofs [t44, t46, i2, e2, t0, hlen, hcx, i3, t7, i4, (l3 h4 hx4).1, (l4 h4 hx4).1]
    refine before_ok hokc hoka fun h5 he5 => ?_
    simp
    refine ⟨fun hbt => ?_, fun hbf => ?_⟩
    · have hR : ¬ Resp xs o := fun hR => by
        have := hR.bef k (k + 1 + j) hlt hkj (by omega)
        rw [ha, hz, hc'] at this
        simp at this
        rw [hbt] at this; cases this
      unfold d_hist_Respects_10
      simp
      rw [hJr]
      simpa using notR hR h5 (hx4.trans he5)
    · unfold d_hist_Respects_11
      simp [t46, wj, t0, t1, t5, t7, t17, t18, t19, t44, t45, s0, s1, s5, s17, s18, s19]
      refine ⟨⟨he4.trans he5, j + 1, by omega, by simp, cont fun _ _ => ?_⟩, by omega⟩
      rw [hc']; simpa using hbf
  · by_cases hneg : 0 ≤ z
    · have hge : ¬ z < xs.length := by omega
      simp +contextual -implicitDefEqProofs [t44, t46, i2, e2, t0, hlen, hneg, hge]
      unfold d_hist_Respects_11
      simp [t46, wj, t0, t1, t5, t7, t17, t18, t19, t44, t45, s0, s1, s5, s17, s18, s19]
      exact ⟨⟨he4, j + 1, by omega, by simp, cont fun _ h => absurd h hge⟩, by omega⟩
    · simp +contextual -implicitDefEqProofs [t44, t46, i2, e2, t0, hlen, hneg]
      unfold d_hist_Respects_11
      simp [t46, wj, t0, t1, t5, t7, t17, t18, t19, t44, t45, s0, s1, s5, s17, s18, s19]
      exact ⟨⟨he4, j + 1, by omega, by simp, cont fun h => absurd h hneg⟩, by omega⟩
end Go.Proofs.Ytfeglbniahebaaa

namespace Go.Proofs.Ytfeglbniahebaaa
open Go Go.Den Go.MapKept
set_option linter.unusedSimpArgs false
set_option linter.unusedVariables false
/-- A map from ints, read as a function. -/
def IM (h : Heap) (r : Nat) (g : Int → Option Value) : Prop := ∃ f, MapR (.int .i64) h r f ∧ ∀ n, f (.int .i64 n) = g n
theorem IM.ext {h h' : Heap} {r : Nat} {g : Int → Option Value} (m : IM h r g) (e : Ext h h') : IM h' r g := let ⟨f, a, b⟩ := m; ⟨f, a.ext e, b⟩
theorem IM.of {h h' : Heap} {r : Nat} {g : Int → Option Value} (m : IM h r g) (e : h' r = h r) : IM h' r g := let ⟨f, a, b⟩ := m; ⟨f, a.of e, b⟩
theorem IM.lt {h : Heap} {r : Nat} {g : Int → Option Value} (m : IM h r g) : h r ≠ none := let ⟨f, a, b⟩ := m; let ⟨o, e⟩ := a.lt; by rw [e]; simp
theorem im_make {t kt : TypeId} {z : Value} {h : Heap} {K : Value → Heap → Prop} (hc : mpC P t = some (kt, .int .i64, z)) (hK : ∀ r h', h r = none → Ext h h' → IM h' r (fun _ => none) → K (.map (some r)) h') :
    vvM P (Instr.makeMap t none) h K := makeMap_vv hc fun r h' a b c => hK r h' a b ⟨_, c, fun _ => rfl⟩
theorem im_lk {t kt : TypeId} {z : Value} {h : Heap} {r : Nat} {g : Int → Option Value} {n : Int} {ok : Bool} {K : Value → Prop} (hc : mpC P t = some (kt, .int .i64, z)) (m : IM h r g) (hk : K (lkA z ok (g n))) :
    lkM P (Instr.lookup t (.map (some r)) (.int .i64 n) ok) h K := by
  obtain ⟨f, a, b⟩ := m
  exact lookup_lk hc rfl a (by rw [b]; exact hk)
theorem im_vv {t kt : TypeId} {z : Value} {h : Heap} {r : Nat} {g : Int → Option Value} {n : Int} {ok : Bool} {K : Value → Heap → Prop} (hc : mpC P t = some (kt, .int .i64, z)) (m : IM h r g) (hk : K (lkA z ok (g n)) h) :
    vvM P (Instr.lookup t (.map (some r)) (.int .i64 n) ok) h K := by
  obtain ⟨f, a, b⟩ := m
  exact lookup_vv hc rfl a (by rw [b]; exact hk)
theorem im_up {t kt : TypeId} {z v : Value} {h : Heap} {r : Nat} {g : Int → Option Value} {n : Int} {K : Heap → Prop} (hc : mpC P t = some (kt, .int .i64, z)) (m : IM h r g)
    (hk : ∀ h', (∀ b, b ≠ r → h' b = h b) → IM h' r (fun k => if k = n then some v else g k) → K h') : uM P (Instr.mapUpdate t (.map (some r)) (.int .i64 n) v) h K := by
  obtain ⟨f, a, b⟩ := m
  refine mapUpdate_u hc rfl a fun h' ho hm' => hk h' ho ⟨_, hm', fun k => ?_⟩
  by_cases he : k = n
  · subst he; simp [mset_same]
  · rw [mset_ne _ _ _ (by simpa using he), b]; simp [he]
/-! What Check looks at. -/
def lst (xs : List HC) : Nat → Int → Option Nat
  | 0, _ => none
  | i + 1, w => if w = (cl xs i).w then some i else lst xs i w
def pld (xs : List HC) : Nat → Int → Bool
  | 0, _ => false
  | i + 1, p => if 0 ≤ (cl xs i).p ∧ p = (cl xs i).p then true else pld xs i p
def metB (xs : List HC) (i : Nat) : Bool := match lst xs i (cl xs i).w with
  | some j => !befB (cl xs j) (cl xs i)
  | none => false
def badB (xs : List HC) (i : Nat) : Bool := !rightB (cl xs i) || metB xs i || (decide (0 < i) && decide ((cl xs i).b < (cl xs (i - 1)).b)) || pld xs i (cl xs i).p
def zcs : List Value := [.int .i64 0, .int .i64 0, .int .i64 0, .string ⟨#[]⟩, .int .i64 0, .int .i64 0, .int .i64 0, .int .u64 0, .slice none 0 0, .int .i64 0, .int .u64 0, .int .i64 0, .int .i64 0, .int .i64 0, .int .i64 0, .slice none 0 0, .slice none 0 0, .bool false]
def z0 : HC := ⟨zcs, 0, 0, 0, 0⟩
theorem z0_ok : z0.ok := ⟨rfl, rfl, rfl, rfl, rfl, by simp [z0, zcs, Value.oneCell']⟩
theorem mpC1 : mpC P ty_Map_int_api_Call = some (ty_int, .int .i64, .agg z0.cs.toArray) := by kernel_rfl
theorem mpC2 : mpC P ty_Map_int_bool = some (ty_int, .int .i64, .bool false) := by kernel_rfl
def lstG (xs : List HC) (i : Nat) (w : Int) : Option Value := (lst xs i w).map fun j => .agg (cl xs j).cs.toArray
def pldG (xs : List HC) (i : Nat) (p : Int) : Option Value := if pld xs i p then some (.bool true) else none
def ChkA (xs : List HC) (i : Int) (ok : Bool) : Prop := (ok = true ∧ i = 0 ∧ ∀ k < xs.length, badB xs k = false) ∨ (ok = false ∧ ∃ k : Nat, i = k ∧ k < xs.length ∧ badB xs k = true ∧ ∀ j < k, badB xs j = false)
theorem lst_lt {xs : List HC} : ∀ {i : Nat} {w : Int} {j : Nat}, lst xs i w = some j → j < i
  | 0, _, _, h => by cases h
  | i + 1, w, j, h => by
    unfold lst at h
    split at h
    · cases h; omega
    · have := lst_lt h; omega
theorem nb_and (a b : Bool) : (!a || b) = !(a && !b) := by cases a <;> cases b <;> rfl
theorem check_ok {xs : List HC} (hl : xs.length ≤ 100000) {h : Heap} {v : Value} (x : Sl 18 CallR h v xs) {K : Value → Heap → Prop} (hk : ∀ h' i ok, Ext h h' → ChkA xs i ok → K (.tuple #[.int .i64 i, .bool ok]) h') :
    callM P fn_hist_Check #[v] h K := by
  apply e_hist_Check
  unfold d_hist_Check
  have hlen := x.len
  refine im_make mpC1 fun r1 h1 hr1 he1 hm1 => ?_
  unfold d_hist_Check_1
  refine im_make mpC2 fun r2 h2 hr2 he2 hm2 => ?_
  have hne : r1 ≠ r2 := fun e => by subst e; exact hm1.lt hr2
  have hr2' : h r2 = none := fresh_of he1 hr2
  unfold d_hist_Check_2
  rw [seqM_eq]
  unfold d_hist_Check_3
  simp only [hlen, ov_s]
  refine loop_on [0, 4, 5, 12, 13] (fun s h' => Ext h h' ∧ ∃ i : Nat, i ≤ xs.length ∧ s 14 = .int .i64 i ∧ IM h' r1 (lstG xs i) ∧ IM h' r2 (pldG xs i) ∧ ∀ k < i, badB xs k = false) (fun s _ => (xs.length - num (s 14)).toNat)
    ⟨he1.trans he2, 0, by omega, by simp, hm1.ext he2, hm2, fun j hj => by omega⟩ ?_
  rintro s h3 hf ⟨he3, i, hi, s14, hm1, hm2, hall⟩
  have s0 : s 0 = v := by simpa using hf 0 (by simp)
  have s4 : s 4 = .map (some r1) := by simpa using hf 4 (by simp)
  have s5 : s 5 = .map (some r2) := by simpa using hf 5 (by simp)
  have s12 : s 12 = v := by simpa using hf 12 (by simp)
  have s13 : s 13 = .int .i64 xs.length := by simpa using hf 13 (by simp)
  have wi : IntKind.i64.wrap ((i : Int) + 1) = i + 1 := i64w (by omega) (by omega)
  unfold d_hist_Check_4
  simp only [s13, s14, bin_lss, ov_s, cd_b]
  refine ⟨fun hc => ?_, fun hc => ?_⟩
  rotate_left
  · have : i = xs.length := by have : ¬ ((i : Int) < xs.length) := by simpa using hc
                               omega
    subst this
    simp
    exact hk _ _ _ he3 (.inl ⟨rfl, rfl, hall⟩)
  have hlt : i < xs.length := by have : ((i : Int) < xs.length) := by simpa using hc
                                 omega
  unfold d_hist_Check_5
  refine seq_cut (fun m' s' h' => m' = [] ∧ Ext h h' ∧ (∀ k ∈ [0, 4, 5, 12, 13, 14], s' k = s k) ∧ IM h' r1 (lstG xs (i + 1)) ∧ IM h' r2 (pldG xs (i + 1)) ∧ badB xs i = false) (fun J hJ _ hJr => ?_) ?_
  rotate_left
  · rintro m' s' h' ⟨rfl, hx', hf', g1, g2, hb⟩
    simp [hf' 0 (by simp), hf' 4 (by simp), hf' 5 (by simp), hf' 12 (by simp), hf' 13 (by simp), hf' 14 (by simp), s14, wi, s0, s4, s5, s12, s13]
    refine ⟨⟨hx', i + 1, by omega, by simp, g1, g2, fun j hj => ?_⟩, by omega⟩
    by_cases e : j = i
    · subst e; exact hb
    · exact hall j (by omega)
  unfold d_hist_Check_6
  obtain ⟨hok, b1, o1, i1, l1⟩ := call_at (k := .i64) x hlt
  simp -implicitDefEqProofs only [s12, s14, i1, ov_s, (l1 _ he3).1]
  refine box_call hok fun b h4 hb he4 hc4 => ?_
  obtain ⟨q0, q1, q2, q3⟩ := hok.get hc4
  simp -implicitDefEqProofs only [faV_p, ov_s, ldV_c, Nat.zero_add, q0, s4]
  have hx4 := he3.trans he4
  refine im_vv mpC1 (hm1.ext he4) ?_
  obtain ⟨ww, wasB, hwas, hwok, hmet⟩ : ∃ (ww : HC) (wasB : Bool), lkA (.agg z0.cs.toArray) true (lstG xs i (cl xs i).w) = .tuple #[.agg ww.cs.toArray, .bool wasB] ∧ ww.ok ∧ metB xs i = (wasB && !befB ww (cl xs i)) := by
    unfold lstG metB
    cases hL : lst xs i (cl xs i).w with
    | none => exact ⟨z0, false, rfl, z0_ok, rfl⟩
    | some j => exact ⟨cl xs j, true, rfl, (call_at (k := .i64) x (by have := lst_lt hL; omega)).1, rfl⟩
  rw [hwas]
  unfold d_hist_Check_7
  simp -implicitDefEqProofs only [exV_0, exV_1, ov_s]
  refine box_call hwok fun b2 h5 hb2 he5 hc5 => ?_
  have hx5 := hx4.trans he5
  have hc4' := he5 _ _ hc4
  have d1 : ldV (some (some 18)) (.pointer (some ⟨b, 0, none⟩)) h5 = some (.agg (cl xs i).cs.toArray) := ld_box hc4' hok.sz
  simp -implicitDefEqProofs only [d1, ov_s]
  refine right_ok hok fun h6 he6 => ?_
  have hx6 := hx5.trans he6
  have hc4'' := he6 _ _ hc4'
  have d2 : ldV (some (some 18)) (.pointer (some ⟨b, 0, none⟩)) h6 = some (.agg (cl xs i).cs.toArray) := ld_box hc4'' hok.sz
  have d3 : ldV (some (some 18)) (.pointer (some ⟨b2, 0, none⟩)) h6 = some (.agg ww.cs.toArray) := ld_box (he6 _ _ hc5) hwok.sz
  have fin : ∀ (h7 : Heap), Ext h h7 → badB xs i = true → K (.tuple #[.int .i64 i, .bool false]) h7 := fun h7 e hb => hk _ _ _ e (.inr ⟨rfl, i, rfl, hlt, hb, hall⟩)
  unfold d_hist_Check_8
  have bad9 : ∀ (h7 : Heap) (s' : Env), Ext h h7 → badB xs i = true → s' 2 = .int .i64 i → s' 3 = .bool false → J .ret [] s' h7 := fun h7 s' e hb e2 e3 => by
    rw [hJr]
    have := fin h7 e hb
    simpa [e2, e3] using this
  have wj : IntKind.i64.wrap ((i : Int) - 1) = i - 1 := i64w (by omega) (by omega)
  have hpl : lkA (.bool false) false (pldG xs i (cl xs i).p) = .bool (pld xs i (cl xs i).p) := by
    unfold pldG; cases pld xs i (cl xs i).p <;> rfl
  cases hR : rightB (cl xs i)
  · simp +contextual -implicitDefEqProofs [d1, d2, d3]
    unfold d_hist_Check_9
    exact bad9 _ _ hx6 (by simp [badB, hR]) (by simp [s14]) (by simp)
  simp +contextual -implicitDefEqProofs [d1, d2, d3]
  refine gM_call' (fun _ K' hK' => before_ok hwok hok hK') fun h7 he7 => ?_
  have hx7 := hx6.trans he7
  have hc7 := he7 _ _ hc4''
  have hm17 := hm1.ext (he4.trans (he5.trans (he6.trans he7)))
  have hm27 := hm2.ext (he4.trans (he5.trans (he6.trans he7)))
  have d4 : ldV (some (some 18)) (.pointer (some ⟨b, 0, none⟩)) h7 = some (.agg (cl xs i).cs.toArray) := ld_box (he7 _ _ hc4'') hok.sz
  obtain ⟨t0, t1, t2, t3⟩ := hok.get (he7 _ _ hc4'')
  have fin10 : badB xs i = false → ∀ a0 a1 a2 a3 a4 a5 a6 a7 a8 a9 a10 a11 a12 a13 a14 a15 a16 a17 a18 a19 a20 a21 a22 a23 a24 a25 a26 a27 a28 a29 a30 a31 a32 a33 a34 a35 a36 a37 a38 : Value, d_hist_Check_10 (.pointer (some ⟨b, 0, none⟩)) h7 s J [] a0 a1 a2 a3 a4 a5 a6 a7 a8 a9 a10 a11 a12 a13 a14 a15 a16 a17 a18 a19 a20 a21 a22 a23 a24 a25 a26 a27 a28 a29 a30 a31 a32 a33 a34 a35 a36 a37 a38 := fun hgood a0 a1 a2 a3 a4 a5 a6 a7 a8 a9 a10 a11 a12 a13 a14 a15 a16 a17 a18 a19 a20 a21 a22 a23 a24 a25 a26 a27 a28 a29 a30 a31 a32 a33 a34 a35 a36 a37 a38 => by
    unfold d_hist_Check_10
    simp -implicitDefEqProofs only [faV_p, ov_s, ldV_c, Nat.zero_add, t0, d4, s4]
    refine im_up mpC1 hm17 fun h8 ho8 hm18 => ?_
    have hx8 : Ext h h8 := fun b' o hb' => by
      by_cases e : b' = r1
      · subst e; rw [hr1] at hb'; cases hb'
      · rw [ho8 _ e]; exact hx7 _ _ hb'
    have hne1 : b ≠ r1 := fun e => by
      have h1 := hm1.lt
      rw [← e] at h1; exact h1 hb
    have hne2 : b ≠ r2 := fun e => by
      have h1 := hm2.lt
      rw [← e] at h1; exact h1 hb
    have hc8 : h8 b = _ := (ho8 _ hne1).trans hc7
    obtain ⟨u0, u1, u2, u3⟩ := hok.get hc8
    have hm28 : IM h8 r2 (pldG xs i) := hm27.of (ho8 _ hne.symm)
    have g1 : (fun k => if k = (cl xs i).w then some (Value.agg (cl xs i).cs.toArray) else lstG xs i k) = lstG xs (i + 1) := by
      funext k
      unfold lstG
      by_cases e : k = (cl xs i).w
      · simp [lst, e]
      · simp [lst, e]
    rw [g1] at hm18
    unfold d_hist_Check_11
    simp -implicitDefEqProofs only [faV_p, ov_s, ldV_c, Nat.zero_add, u2, bin_geq, cd_b]
    refine ⟨fun hp => ?_, fun hp => ?_⟩
    · have hp : 0 ≤ (cl xs i).p := by simpa using hp
      unfold d_hist_Check_12
      simp -implicitDefEqProofs only [faV_p, ov_s, ldV_c, Nat.zero_add, u2, s5]
      refine im_up mpC2 hm28 fun h9 ho9 hm29 => ?_
      have hx9 : Ext h h9 := fun b' o hb' => by
        by_cases e : b' = r2
        · subst e; rw [hr2'] at hb'; cases hb'
        · rw [ho9 _ e]; exact hx8 _ _ hb'
      have g2 : (fun k => if k = (cl xs i).p then some (Value.bool true) else pldG xs i k) = pldG xs (i + 1) := by
        funext k
        unfold pldG
        by_cases e : k = (cl xs i).p
        · simp [pld, e, hp]
        · simp [pld, e]
      rw [g2] at hm29
      unfold d_hist_Check_13
      exact hJ _ _ _ ⟨rfl, hx9, by simp, hm18.of (ho9 _ hne), hm29, hgood⟩
    · have hp : ¬ 0 ≤ (cl xs i).p := by simpa using hp
      have g2 : pldG xs i = pldG xs (i + 1) := by
        funext k
        unfold pldG
        simp [pld, hp]
      rw [g2] at hm28
      unfold d_hist_Check_14
      exact hJ _ _ _ ⟨rfl, hx8, by simp, hm18, hm28, hgood⟩
  cases hA : (wasB && !befB ww (cl xs i))
  rotate_left
  · have hA2 : (!wasB || befB ww (cl xs i)) = false := by rw [nb_and, hA]; rfl
    simp +contextual -implicitDefEqProofs [d4, s14, s0, s5, t1, t2, t3, hA, hA2]
    unfold d_hist_Check_9
    exact bad9 _ _ hx7 (by rw [hA] at hmet; simp [badB, hmet]) (by simp [s14]) (by simp)
  have hA2 : (!wasB || befB ww (cl xs i)) = true := by rw [nb_and, hA]; rfl
  by_cases h0 : i = 0
  · subst h0
    simp +contextual -implicitDefEqProofs [d4, s14, s0, s5, t1, t2, t3, hA, hA2]
    refine im_lk mpC2 hm27 ?_
    rw [hpl]
    simp -implicitDefEqProofs only [cd_b]
    refine ⟨fun hb => ?_, fun hb => ?_⟩
    · unfold d_hist_Check_9
      exact bad9 _ _ hx7 (by simp [badB, hb]) (by simp [s14]) (by simp)
    · exact fin10 (by rw [hA] at hmet; simp [badB, hb, hR, hmet]) ..
  obtain ⟨hok', b3, o3, i3, l3⟩ := call_at (k := .i64) (i := i - 1) x (by omega)
  have hi1 : ((i - 1 : Nat) : Int) = (i : Int) - 1 := by omega
  rw [hi1] at i3
  have hpos : 0 < i := by omega
  simp +contextual -implicitDefEqProofs [d4, s14, s0, s5, t1, t2, t3, hA, hA2, hpos, wj, i3, (l3 _ hx7).2.1]
  cases hbg : decide ((cl xs i).b < (cl xs (i - 1)).b)
  · simp -implicitDefEqProofs only [Bool.not_false, gv_t]
    refine im_lk mpC2 hm27 ?_
    rw [hpl]
    simp -implicitDefEqProofs [cd_b]
    refine ⟨fun hb => ?_, fun hb => ?_⟩
    · unfold d_hist_Check_9
      exact bad9 _ _ hx7 (by simp [badB, hb]) (by simp [s14]) (by simp)
    · exact fin10 (by rw [hA] at hmet; simp [badB, hb, hR, hmet, hbg]) ..
  · simp -implicitDefEqProofs [cd_b]
    unfold d_hist_Check_9
    exact bad9 _ _ hx7 (by simp [badB, hbg, hpos]) (by simp [s14]) (by simp)
end Go.Proofs.Ytfeglbniahebaaa

namespace Go.Proofs.Ytfeglbniahebaaa
open Go Go.Den Go.MapKept
set_option linter.unusedSimpArgs false
set_option linter.unusedVariables false
def oI (O : List Nat) : List Int := O.map fun (j : Nat) => (j : Int)
theorem right_of {xs : List HC} {i : Nat} (h : badB xs i = false) : rightB (cl xs i) = true := by
  unfold badB at h
  cases hr : rightB (cl xs i)
  · simp [hr] at h
  · rfl
theorem right_le {c : HC} (h : rightB c = true) : (0 ≤ c.p → c.b ≤ c.p) ∧ (0 ≤ c.e → 0 ≤ c.p ∧ c.p ≤ c.e) := by
  unfold rightB at h
  simp at h
  obtain ⟨⟨_, h1⟩, h2⟩ := h
  exact ⟨fun hp => by omega, fun he => by omega⟩
theorem resp_of {xs : List HC} {O : List Nat} (hO : IsOrd xs O) (hg : ∀ k < xs.length, badB xs k = false) : Resp xs (oI O) := by
  have hm : ∀ k (hk : k < O.length), O[k] < xs.length ∧ 0 ≤ (cl xs O[k]).p := fun k hk => (hO.mem _).1 (List.getElem_mem hk)
  refine ⟨fun k hk => ?_, fun j k hj hk hjk => ?_, fun j k hj hk hjk => ?_, fun i hi he => ?_⟩
  · simp only [oI, List.length_map] at hk
    simp [oI, hm k hk]
  · simp only [oI, List.length_map] at hk hj
    have := (List.pairwise_iff_getElem.1 hO.nodup) j k hj hk hjk
    simp [oI]
    omega
  · simp only [oI, List.length_map] at hk hj
    have hs := (List.pairwise_iff_getElem.1 hO.srt) j k hj hk hjk
    obtain ⟨a1, a2⟩ := hm j hj
    obtain ⟨b1, b2⟩ := hm k hk
    have r1 := right_le (right_of (hg _ a1))
    have r2 := right_le (right_of (hg _ b1))
    have := r1.1 a2
    simp [oI, befB]
    intro he
    have := r2.2 he
    omega
  · have := (right_le (right_of (hg _ hi))).2 he
    simp only [oI, List.mem_map]
    exact ⟨i, (hO.mem _).2 ⟨hi, this.1⟩, rfl⟩
theorem any_ok {xs : List HC} {h : Heap} {v : Value} (x : Sl 18 CallR h v xs) {K : Value → Heap → Prop} (hk : ∀ h', Ext h h' → K (.bool true) h') : callM P fn_doormanlaw20_HistAny #[v] h K := by
  apply e_doormanlaw20_HistAny
  unfold d_doormanlaw20_HistAny
  refine hawake_ok fun h1 he1 => ?_
  unfold d_doormanlaw20_HistAny_1
  refine guard_len x.len (fun hbig => hawake_ok fun h2 he2 => hk _ (he1.trans he2)) fun hsm => ?_
  have hl : xs.length ≤ 80 := by omega
  unfold d_doormanlaw20_HistAny_2
  refine check_ok (by omega) (callS_ext he1 x) fun h2 i ok he2 hA => ?_
  have hx2 := he1.trans he2
  unfold d_doormanlaw20_HistAny_3
  simp -implicitDefEqProofs only [exV_0, exV_1, ov_s, unV_n, cd_b]
  refine ⟨fun _ => hk _ hx2, fun hok => ?_⟩
  have hok : ok = true := by simpa using hok
  have hg : ∀ k < xs.length, badB xs k = false := by
    rcases hA with hA | hA
    · exact hA.2.2
    · rw [hok] at hA; cases hA.1
  refine order_ok (by omega) (callS_ext hx2 x) fun h3 ov' O he3 hr hO _ => ?_
  have hx3 := hx2.trans he3
  have hOl := hO.len
  have htl := takeN_len xs xs.length
  refine respects_ok (by omega) (by simp; omega) (callS_ext hx3 x) (rowN_ir hr) fun h4 b he4 hb => ?_
  have : b = true := hb.2 (resp_of hO hg)
  rw [this]
  exact hk _ (hx3.trans he4)
end Go.Proofs.Ytfeglbniahebaaa
