/- Contracts of the reference Check, Order and Respects and of the law HistTells. No condition beyond the hypotheses that each theorem states. -/
import Derived.Test.YtfeglbniahebaaaHisD
set_option linter.unusedSimpArgs false
set_option linter.unusedVariables false
namespace Go.Proofs.Ytfeglbniahebaaa
open Go Go.Den Go.MapKept
set_option linter.unusedSimpArgs false
set_option linter.unusedVariables false
def RefA (xs : List HC) (w : Int) : Prop := (w = -1 ∧ ∀ k < xs.length, badB xs k = false) ∨ ∃ k : Nat, w = k ∧ k < xs.length ∧ badB xs k = true ∧ ∀ j < k, badB xs j = false
def lastI (xs : List HC) (k : Nat) (w : Int) : Int := match lst xs k w with
  | some j => j
  | none => -1
theorem lastI_s (xs : List HC) (k : Nat) (w : Int) : lastI xs (k + 1) w = if w = (cl xs k).w then (k : Int) else lastI xs k w := by
  by_cases e : w = (cl xs k).w
  · simp [lastI, lst, e]
  · simp [lastI, lst, e]
theorem right_iff {c : HC} : rightB c = true ↔ 0 ≤ c.b ∧ -1 ≤ c.p ∧ -1 ≤ c.e ∧ (0 ≤ c.p → c.b ≤ c.p) ∧ (0 ≤ c.e → 0 ≤ c.p ∧ c.p ≤ c.e) := by
  unfold rightB
  simp
  omega
theorem pld_up {xs : List HC} {p : Int} : ∀ {i k : Nat}, k ≤ i → pld xs k p = true → pld xs i p = true
  | 0, k, h, hp => by obtain rfl : k = 0 := by omega
                      exact hp
  | i + 1, k, h, hp => by
    by_cases e : k = i + 1
    · subst e; exact hp
    · have := pld_up (i := i) (k := k) (by omega) hp
      rw [pld]; split
      · rfl
      · exact this
set_option maxHeartbeats 1000000 in
theorem rcheck_ok {xs : List HC} (hl : xs.length ≤ 100000) {h : Heap} {v : Value} (x : Sl 18 CallR h v xs) {K : Value → Heap → Prop} (hk : ∀ h' w, Ext h h' → RefA xs w → K (.int .i64 w) h') : callM P fn_doormanref20_Check #[v] h K := by
  apply e_doormanref20_Check
  unfold d_doormanref20_Check
  have hlen := x.len
  rw [seqM_eq]
  unfold d_doormanref20_Check_1
  refine loop_on [0] (fun s h' => Ext h h' ∧ ∃ i : Nat, i ≤ xs.length ∧ s 3 = .int .i64 i ∧ ∀ k < i, badB xs k = false) (fun s _ => (xs.length - num (s 3)).toNat) ⟨Ext.refl _, 0, by omega, by simp, fun j hj => by omega⟩ ?_
  rintro s h1 hf ⟨he1, i, hi, s3, hall⟩
  have s0 : s 0 = v := by simpa using hf 0 (by simp)
  have wi : IntKind.i64.wrap ((i : Int) + 1) = i + 1 := i64w (by omega) (by omega)
  unfold d_doormanref20_Check_2
  simp -implicitDefEqProofs only [s0, s3, hlen, bin_lss, ov_s, cd_b]
  refine ⟨fun hc => ?_, fun hc => ?_⟩
  rotate_left
  · have : i = xs.length := by have : ¬ ((i : Int) < xs.length) := by simpa using hc
                               omega
    subst this
    simp
    exact hk _ _ he1 (.inl ⟨rfl, hall⟩)
  have hlt : i < xs.length := by have : ((i : Int) < xs.length) := by simpa using hc
                                 omega
  unfold d_doormanref20_Check_3
  refine seq_cut (fun m' s' h' => m' = [] ∧ Ext h h' ∧ (∀ k ∈ [0, 3], s' k = s k) ∧ badB xs i = false) (fun J hJ _ hJr => ?_) ?_
  rotate_left
  · rintro m' s' h' ⟨rfl, hx', hf', hb⟩
    simp [hf' 0 (by simp), hf' 3 (by simp), s3, wi, s0]
    refine ⟨⟨hx', i + 1, by omega, by simp, fun j hj => ?_⟩, by omega⟩
    by_cases e : j = i
    · subst e; exact hb
    · exact hall j (by omega)
  have fin : ∀ (h7 : Heap) (s' : Env), Ext h h7 → badB xs i = true → s' 2 = .int .i64 i → J .ret [] s' h7 := fun h7 s' e hb e2 => by
    rw [hJr]
    have := hk _ _ e (.inr ⟨i, rfl, hlt, hb, hall⟩)
    simpa [e2] using this
  obtain ⟨hok, b1, o1, i1, l1⟩ := call_at (k := .i64) x hlt
  unfold d_doormanref20_Check_4
  simp -implicitDefEqProofs only [s0, s3, i1, ov_s, (l1 _ he1).1]
  refine box_call hok fun b h2 hb he2 hc2 => ?_
  have hx2 := he1.trans he2
  obtain ⟨q0, q1, q2, q3⟩ := hok.get hc2
  simp +contextual -implicitDefEqProofs [q0, q1, q2, q3]
  refine ⟨fun hw => ?_, ?_⟩
  · unfold d_doormanref20_Check_5
    refine fin _ _ hx2 ?_ (by simp [s3])
    cases hR : rightB (cl xs i)
    · simp [badB, hR]
    · exfalso
      have := right_iff.1 hR
      omega
  intros
  have hR : rightB (cl xs i) = true := right_iff.2 (by omega)
  have hRi := right_iff.1 hR
  unfold d_doormanref20_Check_6
  refine seq_cut (fun m' s' h' => m' = [] ∧ h' = h2 ∧ s' 0 = v ∧ s' 3 = .int .i64 i ∧ s' 4 = .pointer (some ⟨b, 0, none⟩) ∧ s' 5 = .int .i64 (lastI xs i (cl xs i).w) ∧ pld xs i (cl xs i).p = false) (fun J2 hJ2 _ hJ2r => ?_) ?_
  · unfold d_doormanref20_Check_7
    refine loop_on [0, 3, 4] (fun s' h' => h' = h2 ∧ ∃ k : Nat, k ≤ i ∧ s' 6 = .int .i64 k ∧ s' 5 = .int .i64 (lastI xs k (cl xs i).w) ∧ pld xs k (cl xs i).p = false) (fun s' _ => (i - num (s' 6)).toNat) ⟨rfl, 0, by omega, by simp, by simp [lastI, lst], rfl⟩ ?_
    rintro t h3 hft ⟨rfl, k, hki, t6, t5, hpk⟩
    have t0 : t 0 = v := by simpa [s0] using hft 0 (by simp)
    have t3 : t 3 = .int .i64 i := by simpa [s3] using hft 3 (by simp)
    have t4 : t 4 = .pointer (some ⟨b, 0, none⟩) := by simpa using hft 4 (by simp)
    have wk : IntKind.i64.wrap ((k : Int) + 1) = k + 1 := i64w (by omega) (by omega)
    unfold d_doormanref20_Check_8
    simp -implicitDefEqProofs only [t6, t3, bin_lss, ov_s, cd_b]
    refine ⟨fun hc3 => ?_, fun hc3 => ?_⟩
    rotate_left
    · have : k = i := by have : ¬ ((k : Int) < i) := by simpa using hc3
                         omega
      subst this
      simp only [lpM_e, blkM_e, if_true]
      exact hJ2 _ _ _ ⟨rfl, rfl, by simp [t0], by simp [t3], by simp [t4], by simp [t5], hpk⟩
    have hkl : k < i := by have : ((k : Int) < i) := by simpa using hc3
                           omega
    obtain ⟨hokk, b3, o3, i3, l3⟩ := call_at (k := .i64) (i := k) x (by omega)
    obtain ⟨lw, lb, lp, le, lwh⟩ := l3 _ hx2
    unfold d_doormanref20_Check_9
    refine seq_cut (fun m' s' h' => m' = [] ∧ h' = h3 ∧ s' 0 = v ∧ s' 3 = .int .i64 i ∧ s' 4 = .pointer (some ⟨b, 0, none⟩) ∧ s' 6 = .int .i64 k ∧ s' 5 = .int .i64 (lastI xs (k + 1) (cl xs i).w) ∧ pld xs (k + 1) (cl xs i).p = false) (fun J3 hJ3 _ hJ3r => ?_) ?_
    rotate_left
    · rintro m' s' h' ⟨rfl, rfl, g0, g3, g4, g6, g5, gp⟩
      simp [g0, g3, g4, g6, wk, t0, t3, t4, t6, s0, s3]
      exact ⟨⟨k + 1, by omega, by simp, g5, gp⟩, by omega⟩
    unfold d_doormanref20_Check_10
    refine seq_cut (fun m' s' h' => m' = [] ∧ h' = h3 ∧ s' 0 = v ∧ s' 3 = .int .i64 i ∧ s' 4 = .pointer (some ⟨b, 0, none⟩) ∧ s' 6 = .int .i64 k ∧ s' 5 = .int .i64 (lastI xs (k + 1) (cl xs i).w)) (fun J4 hJ4 _ hJ4r => ?_) ?_
    · unfold d_doormanref20_Check_11
      simp -implicitDefEqProofs only [t0, t6, t4, i3, ov_s, faV_p, ldV_c, lwh, Nat.zero_add, q0, bin_eql, cd_b]
      refine ⟨fun hc4 => ?_, fun hc4 => ?_⟩
      · have hw : (cl xs i).w = (cl xs k).w := by have : (cl xs k).w = (cl xs i).w := by simpa using hc4
                                                  exact this.symm
        unfold d_doormanref20_Check_12
        exact hJ4 _ _ _ ⟨rfl, rfl, by simp [t0], by simp [t3], by simp [t4], by simp [t6], by simp [t6, lastI_s, hw]⟩
      · have hw : ¬ (cl xs i).w = (cl xs k).w := fun e => by
          have : ¬ (cl xs k).w = (cl xs i).w := by simpa using hc4
          exact this e.symm
        unfold d_doormanref20_Check_13
        exact hJ4 _ _ _ ⟨rfl, rfl, by simp [t0], by simp [t3], by simp [t4], by simp [t6], by simp [t5, lastI_s, hw]⟩
    · rintro m' s' h' ⟨rfl, rfl, g0, g3, g4, g6, g5⟩
      unfold d_doormanref20_Check_14
      by_cases hp1 : (cl xs i).p = -1
      · simp +contextual -implicitDefEqProofs [g0, g3, g4, g6, i3, lp, q2, hp1]
        unfold d_doormanref20_Check_16
        refine hJ3 _ _ _ ⟨rfl, rfl, by simp [g0], by simp [g3], by simp [g4], by simp [g6], by simp [g5], ?_⟩
        rw [pld, if_neg (by omega)]; exact hpk
      · by_cases hp2 : (cl xs k).p = (cl xs i).p
        · simp +contextual -implicitDefEqProofs [g0, g3, g4, g6, i3, lp, q2, hp1, hp2]
          unfold d_doormanref20_Check_15
          rw [hJ3r]
          simp only [lpM_r, blkM_r, hJ2r]
          refine fin _ _ hx2 ?_ (by simp [g3])
          have : pld xs (k + 1) (cl xs i).p = true := by rw [pld, if_pos ⟨by omega, hp2.symm⟩]
          simp [badB, pld_up (show k + 1 ≤ i by omega) this]
        · simp +contextual -implicitDefEqProofs [g0, g3, g4, g6, i3, lp, q2, hp1, hp2]
          unfold d_doormanref20_Check_16
          refine hJ3 _ _ _ ⟨rfl, rfl, by simp [g0], by simp [g3], by simp [g4], by simp [g6], by simp [g5], ?_⟩
          rw [pld, if_neg (by omega)]; exact hpk
  · rintro m' t h3 ⟨rfl, rfl, t0, t3, t4, t5, hpl⟩
    unfold d_doormanref20_Check_17
    have wj : IntKind.i64.wrap ((i : Int) - 1) = i - 1 := i64w (by omega) (by omega)
    -- the second half: began ahead of the last one
    have half : ∀ (h4 : Heap), Ext h3 h4 → cel h4 b 11 = some (.int .i64 (cl xs i).b) := fun h4 e => (hok.get (e _ _ hc2)).2.1
    have d2 : ldV (some (some 18)) (.pointer (some ⟨b, 0, none⟩)) h3 = some (.agg (cl xs i).cs.toArray) := ld_box hc2 hok.sz
    have prev : 0 < i → ∃ b4 o4, iaV (some (none, 18)) v (.int .i64 ((i : Int) - 1)) = some (.pointer (some ⟨b4, o4, none⟩)) ∧ ∀ h4, Ext h3 h4 → cel h4 b4 (o4 + 11) = some (.int .i64 (cl xs (i - 1)).b) := fun hpos => by
      obtain ⟨_, b4, o4, i4, l4⟩ := call_at (k := .i64) (i := i - 1) x (by omega)
      have hi1 : ((i - 1 : Nat) : Int) = (i : Int) - 1 := by omega
      rw [hi1] at i4
      exact ⟨b4, o4, i4, fun h4 e => (l4 _ (hx2.trans e)).2.1⟩
    cases hL : lst xs i (cl xs i).w with
    | none =>
      have e5 : t 5 = .int .i64 (-1) := by rw [t5]; simp [lastI, hL]
      have hmet : metB xs i = false := by simp [metB, hL]
      by_cases h0 : i = 0
      · subst h0
        simp +contextual -implicitDefEqProofs [e5, t3]
        unfold d_doormanref20_Check_19
        exact hJ _ _ _ ⟨rfl, hx2, by simp [t0, t3, s0, s3], by simp [badB, hR, hmet, hpl]⟩
      · obtain ⟨b4, o4, i4, l4⟩ := prev (by omega)
        have hpos : 0 < i := by omega
        have r1 := half _ (Ext.refl _)
        have r2 := l4 _ (Ext.refl _)
        by_cases hbg : (cl xs i).b < (cl xs (i - 1)).b
        · simp +contextual -implicitDefEqProofs [e5, t0, t3, t4, hpos, wj, i4, r1, r2, hbg]
          unfold d_doormanref20_Check_18
          exact fin _ _ hx2 (by simp [badB, hpos, hbg]) (by simp [t3])
        · simp +contextual -implicitDefEqProofs [e5, t0, t3, t4, hpos, wj, i4, r1, r2, hbg]
          unfold d_doormanref20_Check_19
          exact hJ _ _ _ ⟨rfl, hx2, by simp [t0, t3, s0, s3], by simp [badB, hR, hmet, hpl, hbg]⟩
    | some j =>
      have hj := lst_lt hL
      have e5 : t 5 = .int .i64 (j : Nat) := by rw [t5]; simp [lastI, hL]
      have hmet : metB xs i = !befB (cl xs j) (cl xs i) := by simp [metB, hL]
      obtain ⟨hokj, b5, o5, i5, l5⟩ := call_at (k := .i64) (i := j) x (by omega)
      have hj0 : (0 : Int) ≤ j := by omega
      simp +contextual -implicitDefEqProofs [e5, t0, t4, hj0, i5, (l5 _ hx2).1, d2]
      refine rbefore_ok hokj hok fun h4 he4 => ?_
      have hx4 := hx2.trans he4
      have r1 := half _ he4
      cases hbf : befB (cl xs j) (cl xs i)
      · simp +contextual -implicitDefEqProofs [t3]
        unfold d_doormanref20_Check_18
        exact fin _ _ hx4 (by simp [badB, hmet, hbf]) (by simp [t3])
      · have hpos : 0 < i := by omega
        obtain ⟨b4, o4, i4, l4⟩ := prev hpos
        have r2 := l4 _ he4
        by_cases hbg : (cl xs i).b < (cl xs (i - 1)).b
        · simp +contextual -implicitDefEqProofs [t0, t3, t4, hpos, wj, i4, r1, r2, hbg]
          unfold d_doormanref20_Check_18
          exact fin _ _ hx4 (by simp [badB, hpos, hbg]) (by simp [t3])
        · simp +contextual -implicitDefEqProofs [t0, t3, t4, hpos, wj, i4, r1, r2, hbg]
          unfold d_doormanref20_Check_19
          exact hJ _ _ _ ⟨rfl, hx4, by simp [t0, t3, s0, s3], by simp [badB, hR, hmet, hpl, hbg, hbf]⟩
end Go.Proofs.Ytfeglbniahebaaa

namespace Go.Proofs.Ytfeglbniahebaaa
open Go Go.Den Go.MapKept
set_option linter.unusedSimpArgs false
set_option linter.unusedVariables false
def ahead (xs : List HC) (i j : Nat) : Prop := (cl xs i).p < (cl xs j).p ∨ ((cl xs i).p = (cl xs j).p ∧ i < j)
def cand (xs : List HC) (O : List Nat) (i : Nat) : Prop := i < xs.length ∧ 0 ≤ (cl xs i).p ∧ i ∉ O
structure Part (xs : List HC) (O : List Nat) : Prop where
  mem : ∀ i ∈ O, i < xs.length ∧ 0 ≤ (cl xs i).p
  srt : O.Pairwise (ahead xs)
  low : ∀ x ∈ O, ∀ i, cand xs O i → ahead xs x i
def Best (xs : List HC) (O : List Nat) (c : Nat) (best : Int) : Prop := (best = -1 ∧ ∀ j, c ≤ j → ¬ cand xs O j) ∨ ∃ b : Nat, best = b ∧ c ≤ b ∧ cand xs O b ∧ ∀ j, c ≤ j → cand xs O j → b = j ∨ ahead xs b j
theorem best_skip {xs : List HC} {O : List Nat} {c : Nat} {best : Int} (h : Best xs O (c + 1) best) (hn : ¬ cand xs O c) : Best xs O c best := by
  rcases h with ⟨h1, h2⟩ | ⟨b, h1, h2, h3, h4⟩
  · refine .inl ⟨h1, fun j hj => ?_⟩
    by_cases e : j = c
    · subst e; exact hn
    · exact h2 j (by omega)
  · refine .inr ⟨b, h1, by omega, h3, fun j hj hc => ?_⟩
    by_cases e : j = c
    · subst e; exact absurd hc hn
    · exact h4 j (by omega) hc
theorem best_take {xs : List HC} {O : List Nat} {c : Nat} {best : Int} (h : Best xs O (c + 1) best) (hc : cand xs O c) (hle : ∀ b : Nat, best = b → (cl xs c).p ≤ (cl xs b).p) : Best xs O c c := by
  refine .inr ⟨c, rfl, Nat.le_refl _, hc, fun j hj hcj => ?_⟩
  by_cases e : j = c
  · exact .inl e.symm
  right
  rcases h with ⟨h1, h2⟩ | ⟨b, h1, h2, h3, h4⟩
  · exact absurd hcj (h2 j (by omega))
  · have := hle b h1
    rcases h4 j (by omega) hcj with rfl | h5 | h5
    · unfold ahead; omega
    · unfold ahead; omega
    · unfold ahead; omega
theorem best_keep {xs : List HC} {O : List Nat} {c b : Nat} (h : Best xs O (c + 1) b) (hlt : ¬ (cl xs c).p ≤ (cl xs b).p) : Best xs O c b := by
  rcases h with ⟨h1, h2⟩ | ⟨b', h1, h2, h3, h4⟩
  · omega
  · obtain rfl : b = b' := by omega
    refine .inr ⟨b, rfl, by omega, h3, fun j hj hc => ?_⟩
    by_cases e : j = c
    · subst e; exact .inr (by unfold ahead; omega)
    · exact h4 j (by omega) hc
theorem part_add {xs : List HC} {O : List Nat} {b : Nat} (h : Part xs O) (hb : Best xs O 0 b) : Part xs (O ++ [b]) ∧ cand xs O b := by
  rcases hb with ⟨h1, h2⟩ | ⟨b', h1, h2, h3, h4⟩
  · omega
  · obtain rfl : b = b' := by omega
    refine ⟨⟨fun i hi => ?_, ?_, fun x hx i hc => ?_⟩, h3⟩
    · rcases List.mem_append.1 hi with hi | hi
      · exact h.mem i hi
      · simp at hi; subst hi; exact ⟨h3.1, h3.2.1⟩
    · refine List.pairwise_append.2 ⟨h.srt, by simp, fun x hx y hy => ?_⟩
      simp at hy; subst hy
      exact h.low x hx _ h3
    · have hc' : cand xs O i := ⟨hc.1, hc.2.1, fun e => hc.2.2 (List.mem_append.2 (.inl e))⟩
      rcases List.mem_append.1 hx with hx | hx
      · exact h.low x hx i hc'
      · simp at hx; subst hx
        rcases h4 i (by omega) hc' with rfl | h5
        · exact absurd (List.mem_append.2 (.inr (by simp))) hc.2.2
        · exact h5
theorem part_end {xs : List HC} {O : List Nat} (h : Part xs O) (he : O.length = xs.length ∨ ∀ i, ¬ cand xs O i) : IsOrd xs O := by
  have nd : O.Nodup := h.srt.imp fun {i j} h e => by subst e; unfold ahead at h; omega
  refine ⟨fun i => ⟨h.mem i, fun ⟨h1, h2⟩ => ?_⟩, h.srt⟩
  refine Classical.byContradiction fun hn => ?_
  rcases he with he | he
  · have h3 : (i :: O).Nodup := List.nodup_cons.2 ⟨hn, nd⟩
    have := len_sub h3 (m := List.range xs.length) fun x hx => by
      rcases List.mem_cons.1 hx with rfl | hx
      · simpa using h1
      · simpa using (h.mem x hx).1
    simp at this
    omega
  · exact he i ⟨h1, h2, hn⟩
set_option maxHeartbeats 1000000 in
theorem rorder_ok {xs : List HC} (hl : xs.length ≤ 100000) {h : Heap} {v : Value} (x : Sl 18 CallR h v xs) {K : Value → Heap → Prop} (hk : ∀ h' v' O, Ext h h' → RowN h' v' O → IsOrd xs O → K v' h') : callM P fn_doormanref20_Order #[v] h K := by
  apply e_doormanref20_Order
  unfold d_doormanref20_Order
  have hlen := x.len
  simp -implicitDefEqProofs only [hlen, ov_s]
  refine makeSlice_vv unSlB apB zcB (by omega) (by omega) (by unfold maxLen; omega) fun gi h1 hgi he1 hc1 => ?_
  have hin := made_row (by unfold maxLen; omega) hc1
  generalize hiv : Value.slice (some ⟨gi, 0, none⟩) xs.length xs.length = iv at *
  have hri : rowOf iv = some gi := by rw [← hiv]; rfl
  unfold d_doormanref20_Order_1
  rw [seqM_eq]
  unfold d_doormanref20_Order_2
  refine loop_on [0, 4] (fun s h' => Ext h h' ∧ ∃ (n : Nat) (O : List Nat), n ≤ xs.length ∧ s 5 = .int .i64 n ∧ Part xs O ∧ (O.length = n ∨ ∀ i, ¬ cand xs O i) ∧ O.length ≤ n ∧ RowB h' iv xs.length (fun i => decide (i ∈ O)) ∧ RowN h' (s 3) O ∧ ∀ g, rowOf (s 3) = some g → h g = none ∧ g ≠ gi) (fun s _ => (xs.length - num (s 5)).toNat)
    ⟨he1, 0, [], by omega, by simp, ⟨by simp, by simp, by simp⟩, .inl rfl, Nat.le_refl _, row1_congr hin fun k _ => by simp, ⟨rfl, .inl ⟨by simp, rfl⟩⟩, fun g hg => by simp [rowOf] at hg⟩ ?_
  rintro s h2 hf ⟨he2, n, O, hn, s5, hP, hE, hOn, hrb, hrn, hfr⟩
  have s0 : s 0 = v := by simpa using hf 0 (by simp)
  have s4 : s 4 = iv := by simpa using hf 4 (by simp)
  have wn : IntKind.i64.wrap ((n : Int) + 1) = n + 1 := i64w (by omega) (by omega)
  unfold d_doormanref20_Order_3
  simp -implicitDefEqProofs only [s0, s5, hlen, bin_lss, ov_s, cd_b]
  refine ⟨fun hc => ?_, fun hc => ?_⟩
  rotate_left
  · have : n = xs.length := by have : ¬ ((n : Int) < xs.length) := by simpa using hc
                               omega
    subst this
    simp
    exact hk _ _ _ he2 hrn (part_end hP hE)
  have hlt : n < xs.length := by have : ((n : Int) < xs.length) := by simpa using hc
                                 omega
  unfold d_doormanref20_Order_4
  refine seq_cut (fun m' s' h' => m' = [] ∧ Ext h h' ∧ (∀ k ∈ [0, 4, 5], s' k = s k) ∧ ∃ O' : List Nat, Part xs O' ∧ (O'.length = n + 1 ∨ ∀ i, ¬ cand xs O' i) ∧ O'.length ≤ n + 1 ∧ RowB h' iv xs.length (fun i => decide (i ∈ O')) ∧ RowN h' (s' 3) O' ∧ ∀ g, rowOf (s' 3) = some g → h g = none ∧ g ≠ gi) (fun J hJ _ hJr => ?_) ?_
  rotate_left
  · rintro m' s' h' ⟨rfl, hx', hf', O', a1, a2, a3, a4, a5, a6⟩
    simp [hf' 0 (by simp), hf' 4 (by simp), hf' 5 (by simp), s5, wn, s0, s4]
    exact ⟨⟨hx', n + 1, by omega, by simp, O', a1, a2, a3, a4, a5, a6⟩, by omega⟩
  unfold d_doormanref20_Order_5
  refine seq_cut (fun m' s' h' => m' = [] ∧ h' = h2 ∧ (∀ k ∈ [0, 3, 4, 5], s' k = s k) ∧ ∃ best : Int, s' 6 = .int .i64 best ∧ Best xs O 0 best) (fun J2 hJ2 _ hJ2r => ?_) ?_
  · unfold d_doormanref20_Order_6
    have wl : IntKind.i64.wrap ((xs.length : Int) - 1) = xs.length - 1 := i64w (by omega) (by omega)
    simp -implicitDefEqProofs only [s0, hlen, ov_s, bin_sub, wl]
    refine loop_on [0, 3, 4, 5] (fun s' h' => h' = h2 ∧ ∃ (c : Nat) (best : Int), c ≤ xs.length ∧ s' 7 = .int .i64 ((c : Int) - 1) ∧ s' 6 = .int .i64 best ∧ Best xs O c best) (fun s' _ => (num (s' 7) + 1).toNat)
      ⟨rfl, xs.length, -1, Nat.le_refl _, by simp, by simp, .inl ⟨rfl, fun j hj hc => by have := hc.1; omega⟩⟩ ?_
    rintro t h3 hft ⟨rfl, c, best, hcl, t7, t6, hB⟩
    have t0 : t 0 = v := by simpa [s0] using hft 0 (by simp)
    have t3 : t 3 = s 3 := by simpa using hft 3 (by simp)
    have t4 : t 4 = iv := by simpa [s4] using hft 4 (by simp)
    have t5 : t 5 = .int .i64 n := by simpa [s5] using hft 5 (by simp)
    unfold d_doormanref20_Order_7
    simp -implicitDefEqProofs only [t7, bin_geq, ov_s, cd_b]
    refine ⟨fun hc3 => ?_, fun hc3 => ?_⟩
    rotate_left
    · have : c = 0 := by have : ¬ (0 ≤ (c : Int) - 1) := by simpa using hc3
                         omega
      subst this
      simp only [lpM_e, blkM_e, if_true]
      exact hJ2 _ _ _ ⟨rfl, rfl, by simp [t0, t3, t4, t5, s0, s4, s5], best, by simp [t6], hB⟩
    obtain ⟨j, rfl⟩ : ∃ j, c = j + 1 := ⟨c - 1, by (have q : 0 ≤ (c : Int) - 1 := of_decide_eq_true hc3); omega⟩
    have ej : (((j + 1 : Nat) : Int) - 1) = j := by omega
    rw [ej] at t7
    have wj : IntKind.i64.wrap ((j : Int) - 1) = j - 1 := i64w (by omega) (by omega)
    unfold d_doormanref20_Order_8
    refine seq_cut (fun m' s' h' => m' = [] ∧ h' = h3 ∧ (∀ k ∈ [0, 3, 4, 5, 7], s' k = t k) ∧ ∃ best : Int, s' 6 = .int .i64 best ∧ Best xs O j best) (fun J3 hJ3 _ hJ3r => ?_) ?_
    rotate_left
    · rintro m' s' h' ⟨rfl, rfl, hf', best', e6, hB'⟩
      simp [hf' 0 (by simp), hf' 3 (by simp), hf' 4 (by simp), hf' 5 (by simp), hf' 7 (by simp), t7, wj, t0, t3, t4, t5, s0, s4, s5]
      exact ⟨j, by omega, rfl, best', e6, hB'⟩
    obtain ⟨_, b3, o3, i3, l3⟩ := call_at (k := .i64) (i := j) x (by omega)
    have lp := (l3 _ he2).2.2.1
    obtain ⟨g, g1, g2, g3⟩ := rowB_at (k := .i64) hrb (show j < xs.length by omega)
    have keepS : ∀ (w : Nat → Value) , True := fun _ => trivial
    unfold d_doormanref20_Order_9
    by_cases hp : 0 ≤ (cl xs j).p
    rotate_left
    · simp +contextual -implicitDefEqProofs [t0, t7, t4, i3, lp, hp]
      unfold d_doormanref20_Order_11
      exact hJ3 _ _ _ ⟨rfl, rfl, by simp [t0, t3, t4, t5, t7], best, by simp [t6], best_skip hB fun h => hp h.2.1⟩
    by_cases hO : j ∈ O
    · simp +contextual -implicitDefEqProofs [t0, t7, t4, i3, lp, hp, g2, g3, hO]
      unfold d_doormanref20_Order_11
      exact hJ3 _ _ _ ⟨rfl, rfl, by simp [t0, t3, t4, t5, t7], best, by simp [t6], best_skip hB fun h => h.2.2 hO⟩
    have hcj : cand xs O j := ⟨by omega, hp, hO⟩
    rcases hB with ⟨rfl, hB2⟩ | ⟨b, rfl, hb1, hb2, hb3⟩
    · simp +contextual -implicitDefEqProofs [t0, t7, t4, i3, lp, hp, g2, g3, hO, t6]
      unfold d_doormanref20_Order_10
      exact hJ3 _ _ _ ⟨rfl, rfl, by simp [t0, t3, t4, t5, t7], j, by simp [t7], best_take (.inl ⟨rfl, hB2⟩) hcj fun b e => by omega⟩
    · obtain ⟨_, b4, o4, i4, l4⟩ := call_at (k := .i64) (i := b) x hb2.1
      have lp4 := (l4 _ he2).2.2.1
      have hb0 : ¬ ((b : Int) < 0) := by omega
      by_cases hle : (cl xs j).p ≤ (cl xs b).p
      · simp +contextual -implicitDefEqProofs [t0, t7, t4, i3, lp, hp, g2, g3, hO, t6, i4, lp4, hb0, hle]
        unfold d_doormanref20_Order_10
        exact hJ3 _ _ _ ⟨rfl, rfl, by simp [t0, t3, t4, t5, t7], j, by simp [t7], best_take (.inr ⟨b, rfl, hb1, hb2, hb3⟩) hcj fun b' e => (show b = b' by omega) ▸ hle⟩
      · simp +contextual -implicitDefEqProofs [t0, t7, t4, i3, lp, hp, g2, g3, hO, t6, i4, lp4, hb0, hle]
        unfold d_doormanref20_Order_11
        exact hJ3 _ _ _ ⟨rfl, rfl, by simp [t0, t3, t4, t5, t7], b, by simp [t6], best_keep (.inr ⟨b, rfl, hb1, hb2, hb3⟩) hle⟩
  · rintro m' t h3 ⟨rfl, rfl, ht, best, t6, hB⟩
    have t0 : t 0 = v := (ht 0 (by simp)).trans s0
    have t3 : t 3 = s 3 := ht 3 (by simp)
    have t4 : t 4 = iv := (ht 4 (by simp)).trans s4
    have t5 : t 5 = .int .i64 n := (ht 5 (by simp)).trans s5
    unfold d_doormanref20_Order_12
    simp -implicitDefEqProofs only [t6, bin_geq, ov_s, cd_b]
    refine ⟨fun hc3 => ?_, fun hc3 => ?_⟩
    rotate_left
    · have hbl : ¬ (0 ≤ best) := by simpa using hc3
      have hno : ∀ i, ¬ cand xs O i := by
        rcases hB with ⟨_, hB⟩ | ⟨b, e, _⟩
        · exact fun i => hB i (by omega)
        · omega
      exact hJ _ _ _ ⟨rfl, he2, by simp [t0, t4, t5, s0, s4, s5], O, hP, .inr hno, by omega, hrb, by simpa [t3] using hrn, by simpa [t3] using hfr⟩
    have hbl : 0 ≤ best := by simpa using hc3
    obtain ⟨b, rfl⟩ : ∃ b : Nat, best = b := ⟨best.toNat, by omega⟩
    obtain ⟨hP', hcb⟩ := part_add hP hB
    obtain ⟨g, g1, g2, g3⟩ := rowB_at (k := .i64) hrb hcb.1
    obtain rfl : g = gi := by rw [hri] at g1; exact (Option.some.inj g1).symm
    have hgn : h3 g ≠ none := fun e => by simp [cel, e] at g3
    have hOl : O.length < n + 1 := by omega
    unfold d_doormanref20_Order_13
    simp -implicitDefEqProofs only [t4, t6, g2, ov_s, t3]
    refine rowB_st hrb g1 hcb.1 fun h4 ho4 hrb4 => ?_
    have hk4 : Keep (some g) h3 h4 := fun q o' e ne => by rw [ho4 q (fun e' => ne (by rw [e']))]; exact e
    have hx4 : Ext h h4 := he2.keep hk4 fun b e => by cases e; exact hgi
    have hrn4 : RowN h4 (s 3) O := hrn.keep hk4 (by
      cases hh : rowOf (s 3) with
      | none => exact .inr rfl
      | some q => exact .inl fun e => (hfr q hh).2 (Option.some.inj e))
    have hgn4 : h4 g ≠ none := fun e => by
      obtain ⟨g', q1, q2, q3⟩ := rowB_at (k := .i64) hrb4 hcb.1
      obtain rfl : g' = g := by rw [hri] at q1; exact (Option.some.inj q1).symm
      simp [cel, e] at q3
    refine app_one bsSlI unI apI (by omega) rfl (by simp [Value.cells, Value.oneCell']) hrn4 (by unfold maxLen; omega) (by omega) (by omega) fun a v' h5 hr5 hk5 ha5 => ?_
    have hrb5 : RowB h5 iv xs.length _ := hrb4.keep hk5 (.inl fun e => by
      rw [hri] at e
      exact (hfr g e.symm).2 rfl)
    refine hJ _ _ _ ⟨rfl, hx4.keep hk5 (fun q hq => (hfr q hq).1), by simp [t0, t4, t5, s0, s4, s5], O ++ [b], hP', ?_, by simp; omega, rowB_congr hrb5 fun i hi => ?_, ?_, fun q hq => ?_⟩
    · rcases hE with hE | hE
      · exact .inl (by simp [hE])
      · exact absurd hcb (hE b)
    · by_cases e : i = b
      · simp [e]
      · simp [e]
    · simpa using RowN.app (by simpa [Value.cells] using hr5)
    · simp at hq
      rcases ha5 with ha | ⟨q', hq', hn'⟩
      · rw [ha] at hq; exact hfr q hq
      · rw [hq'] at hq; cases hq
        exact ⟨fresh_of hx4 hn', fun e => by subst e; exact hgn4 hn'⟩
end Go.Proofs.Ytfeglbniahebaaa

namespace Go.Proofs.Ytfeglbniahebaaa
open Go Go.Den Go.MapKept
set_option linter.unusedSimpArgs false
set_option linter.unusedVariables false
set_option maxHeartbeats 1000000 in
theorem rrespects_ok {xs : List HC} {o : List Int} (hl : xs.length ≤ 100000) (hol : o.length ≤ 100000) {h : Heap} {v u : Value} (x : Sl 18 CallR h v xs) (y : Sl 1 IR h u o) {K : Value → Heap → Prop} (hk : ∀ h' b, Ext h h' → (b = true ↔ Resp xs o) → K (.bool b) h') :
    callM P fn_doormanref20_Respects #[v, u] h K := by
  apply e_doormanref20_Respects
  unfold d_doormanref20_Respects
  have hlen := x.len
  have hleno := y.len
  have notR : ∀ (c : ¬ Resp xs o) (h' : Heap), Ext h h' → K (.bool false) h' := fun c h' e => hk h' false e ⟨fun h => (by cases h), fun hR => absurd hR c⟩
  rw [seqM_eq]
  unfold d_doormanref20_Respects_1
  refine loop_on [0, 1] (fun s h' => Ext h h' ∧ ∃ k : Nat, k ≤ o.length ∧ s 5 = .int .i64 k ∧ (∀ j (hj : j < o.length), j < k → 0 ≤ o[j] ∧ o[j] < xs.length) ∧
      (∀ i j (hi : i < o.length) (hj : j < o.length), i < j → j < k → o[i] ≠ o[j] ∧ befB (cl xs o[j].toNat) (cl xs o[i].toNat) = false)) (fun s _ => (o.length - num (s 5)).toNat)
    ⟨Ext.refl _, 0, by omega, by simp, fun j _ hj => by omega, fun i j _ _ _ hj => by omega⟩ ?_
  rintro s h1 hf ⟨he1, k, hko, s5, hrng, hpair⟩
  have s0 : s 0 = v := by simpa using hf 0 (by simp)
  have s1 : s 1 = u := by simpa using hf 1 (by simp)
  have wk : IntKind.i64.wrap ((k : Int) + 1) = k + 1 := i64w (by omega) (by omega)
  unfold d_doormanref20_Respects_2
  simp -implicitDefEqProofs only [s1, s5, hleno, bin_lss, ov_s, cd_b]
  refine ⟨fun hc => ?_, fun hc => ?_⟩
  rotate_left
  · have : k = o.length := by have : ¬ ((k : Int) < o.length) := by simpa using hc
                              omega
    subst this
    simp only [lpM_e, blkM_e, if_true, thenM_n]
    unfold d_doormanref20_Respects_11
    rw [seqM_eq]
    unfold d_doormanref20_Respects_12
    refine loop_on [0, 1] (fun s' h' => h' = h1 ∧ ∃ i : Nat, i ≤ xs.length ∧ s' 7 = .int .i64 i ∧ ∀ j, j < i → 0 ≤ (cl xs j).e → (j : Int) ∈ o) (fun s' _ => (xs.length - num (s' 7)).toNat) ⟨rfl, 0, by omega, by simp, fun j hj => by omega⟩ ?_
    rintro t h2 hft ⟨rfl, i, hi, t7, hall⟩
    have t0 : t 0 = v := by simpa [s0] using hft 0 (by simp)
    have t1 : t 1 = u := by simpa [s1] using hft 1 (by simp)
    have wi : IntKind.i64.wrap ((i : Int) + 1) = i + 1 := i64w (by omega) (by omega)
    unfold d_doormanref20_Respects_13
    simp -implicitDefEqProofs only [t0, t7, hlen, bin_lss, ov_s, cd_b]
    refine ⟨fun hc3 => ?_, fun hc3 => ?_⟩
    rotate_left
    · have : i = xs.length := by have : ¬ ((i : Int) < xs.length) := by simpa using hc3
                                 omega
      subst this
      simp
      have := hk h2 true he1 ⟨fun _ => ⟨fun k hk' => hrng k hk' hk', fun i j hi hj hij => (hpair i j hi hj hij hj).1, fun i j hi hj hij => (hpair i j hi hj hij hj).2, hall⟩, fun _ => rfl⟩
      simpa using this
    have hlt : i < xs.length := by have : ((i : Int) < xs.length) := by simpa using hc3
                                   omega
    unfold d_doormanref20_Respects_14
    refine seq_cut (fun m' s' h' => m' = [] ∧ h' = h2 ∧ (∀ k ∈ [0, 1, 7], s' k = t k) ∧ (0 ≤ (cl xs i).e → (i : Int) ∈ o)) (fun J hJ _ hJr => ?_) ?_
    rotate_left
    · rintro m' s' h' ⟨rfl, rfl, hf', hin'⟩
      simp [hf' 0 (by simp), hf' 1 (by simp), hf' 7 (by simp), t7, wi, t0, t1, s0, s1]
      refine ⟨⟨i + 1, by omega, by simp, fun j hj hej => ?_⟩, by omega⟩
      by_cases e : j = i
      · subst e; exact hin' hej
      · exact hall j (by omega) hej
    unfold d_doormanref20_Respects_15
    refine seq_cut (fun m' s' h' => m' = [] ∧ h' = h2 ∧ (∀ k ∈ [0, 1, 7], s' k = t k) ∧ s' 8 = .bool (decide ((i : Int) ∈ o))) (fun J2 hJ2 _ hJ2r => ?_) ?_
    · unfold d_doormanref20_Respects_16
      refine loop_on [0, 1, 7] (fun s' h' => h' = h2 ∧ ∃ q : Nat, q ≤ o.length ∧ s' 9 = .int .i64 q ∧ s' 8 = .bool (inF o q i)) (fun s' _ => (o.length - num (s' 9)).toNat) ⟨rfl, 0, by omega, by simp, by simp [inF]⟩ ?_
      rintro w h3 hfw ⟨rfl, q, hq, w9, w8⟩
      have w0 : w 0 = v := by simpa [t0] using hfw 0 (by simp)
      have w1 : w 1 = u := by simpa [t1] using hfw 1 (by simp)
      have w7 : w 7 = .int .i64 i := by simpa [t7] using hfw 7 (by simp)
      have wq : IntKind.i64.wrap ((q : Int) + 1) = q + 1 := i64w (by omega) (by omega)
      unfold d_doormanref20_Respects_17
      simp -implicitDefEqProofs only [w1, w9, hleno, bin_lss, ov_s, cd_b]
      refine ⟨fun hc5 => ?_, fun hc5 => ?_⟩
      rotate_left
      · have : q = o.length := by have : ¬ ((q : Int) < o.length) := by simpa using hc5
                                  omega
        subst this
        simp only [lpM_e, blkM_e, if_true]
        exact hJ2 _ _ _ ⟨rfl, rfl, by simp [w0, w1, w7, t0, t1, t7], by simp [w8, inF]⟩
      have hqo : q < o.length := by have : ((q : Int) < o.length) := by simpa using hc5
                                    omega
      obtain ⟨b2, p2, i2, l2⟩ := ir_at (k := .i64) y hqo
      have e2 := l2 _ he1
      unfold d_doormanref20_Respects_18
      cases hin : inF o q i
      · rw [hin] at w8
        simp +contextual -implicitDefEqProofs [w8, w1, w9, w7, i2, e2, wq]
        simp [w0, w1, w7, w9, wq, t0, t1, t7]
        refine ⟨⟨q + 1, by omega, by simp, ?_⟩, by omega⟩
        rw [inF_s o hqo]
        by_cases e : o[q] = (i : Int)
        · simp [e]
        · rw [if_neg (fun h => e h.symm), hin]; simp [e]
      · rw [hin] at w8
        simp +contextual -implicitDefEqProofs [w8, w1, w9, w7, wq]
        simp [w0, w1, w7, w9, wq, t0, t1, t7]
        refine ⟨⟨q + 1, by omega, by simp, ?_⟩, by omega⟩
        rw [inF_s o hqo, hin]; simp
    · rintro m' w h3 ⟨rfl, rfl, hw, w8⟩
      have w0 : w 0 = v := (hw 0 (by simp)).trans t0
      have w1 : w 1 = u := (hw 1 (by simp)).trans t1
      have w7 : w 7 = .int .i64 i := (hw 7 (by simp)).trans t7
      obtain ⟨_, b1, o1, i1, l1⟩ := call_at (k := .i64) x hlt
      have le := (l1 _ he1).2.2.2.1
      unfold d_doormanref20_Respects_19
      by_cases hin : (i : Int) ∈ o
      · simp +contextual -implicitDefEqProofs [w0, w7, i1, le, w8, hin]
        exact hJ _ _ _ ⟨rfl, rfl, by simp [w0, w1, w7, t0, t1, t7], fun _ => hin⟩
      · by_cases hee : 0 ≤ (cl xs i).e
        · simp +contextual -implicitDefEqProofs [w0, w7, i1, le, w8, hin, hee]
          unfold d_doormanref20_Respects_20
          rw [hJr]
          have := notR (fun hR => hin (hR.all i hlt hee)) h3 he1
          simpa using this
        · simp +contextual -implicitDefEqProofs [w0, w7, i1, le, w8, hin, hee]
          exact hJ _ _ _ ⟨rfl, rfl, by simp [w0, w1, w7, t0, t1, t7], fun h => absurd h hee⟩
  have hlt : k < o.length := by have : ((k : Int) < o.length) := by simpa using hc
                                omega
  unfold d_doormanref20_Respects_3
  refine seq_cut (fun m' s' h' => m' = [] ∧ Ext h h' ∧ (∀ q ∈ [0, 1, 5], s' q = s q) ∧ (0 ≤ o[k] ∧ o[k] < xs.length) ∧ ∀ i (hi : i < o.length), i < k → o[i] ≠ o[k] ∧ befB (cl xs o[k].toNat) (cl xs o[i].toNat) = false) (fun J hJ hJe hJr => ?_) ?_
  rotate_left
  · rintro m' s' h' ⟨rfl, hx', hf', hg', hp'⟩
    simp [hf' 0 (by simp), hf' 1 (by simp), hf' 5 (by simp), s5, wk, s0, s1]
    refine ⟨⟨hx', k + 1, by omega, by simp, fun j hj hjk => ?_, fun i j hi hj hij hjk => ?_⟩, by omega⟩
    · by_cases e : j = k
      · subst e; exact hg'
      · exact hrng j hj (by omega)
    · by_cases e : j = k
      · subst e; exact hp' i hi hij
      · exact hpair i j hi hj hij (by omega)
  obtain ⟨b1, p1, i1, l1⟩ := ir_at (k := .i64) y hlt
  have e1 := l1 h1 he1
  unfold d_doormanref20_Respects_4
  by_cases hneg : o[k] < 0
  · have hR : ¬ Resp xs o := fun hR => by have := hR.rng k hlt; omega
    simp +contextual -implicitDefEqProofs [s1, s5, i1, e1, hneg]
    unfold d_doormanref20_Respects_5
    rw [hJr]
    have := notR hR h1 he1
    simpa using this
  by_cases hge : (xs.length : Int) ≤ o[k]
  · have hR : ¬ Resp xs o := fun hR => by have := hR.rng k hlt; omega
    simp +contextual -implicitDefEqProofs [s1, s5, s0, i1, e1, hlen, hneg, hge]
    unfold d_doormanref20_Respects_5
    rw [hJr]
    have := notR hR h1 he1
    simpa using this
  simp +contextual -implicitDefEqProofs [s1, s5, s0, i1, e1, hlen, hneg, hge]
  obtain ⟨a, ha⟩ : ∃ a : Nat, o[k] = a := ⟨o[k].toNat, by omega⟩
  have hax : a < xs.length := by omega
  unfold d_doormanref20_Respects_6
  refine loop_on [0, 1, 5] (fun s' h' => Ext h h' ∧ ∃ j : Nat, j ≤ k ∧ s' 6 = .int .i64 j ∧ ∀ i (hi : i < o.length), i < j → o[i] ≠ o[k] ∧ befB (cl xs o[k].toNat) (cl xs o[i].toNat) = false) (fun s' _ => (k - num (s' 6)).toNat) ⟨he1, 0, by omega, by simp, fun i _ hi => by omega⟩ ?_
  rintro t h2 hft ⟨he2, j, hjk, t6, hd⟩
  have t0 : t 0 = v := by simpa [s0] using hft 0 (by simp)
  have t1 : t 1 = u := by simpa [s1] using hft 1 (by simp)
  have t5 : t 5 = .int .i64 k := by simpa [s5] using hft 5 (by simp)
  have wj : IntKind.i64.wrap ((j : Int) + 1) = j + 1 := i64w (by omega) (by omega)
  unfold d_doormanref20_Respects_7
  simp -implicitDefEqProofs only [t6, t5, bin_lss, ov_s, cd_b]
  refine ⟨fun hc4 => ?_, fun hc4 => ?_⟩
  rotate_left
  · have : j = k := by have : ¬ ((j : Int) < k) := by simpa using hc4
                       omega
    subst this
    simp only [lpM_e, blkM_e, if_true, blkM_n]
    exact hJ _ _ _ ⟨rfl, he2, by simp [t0, t1, t5, s0, s1, s5], by omega, hd⟩
  have hlj : j < k := by have : ((j : Int) < k) := by simpa using hc4
                         omega
  obtain ⟨b3, p3, i3, l3⟩ := ir_at (k := .i64) (i := j) y (by omega)
  have e3 := l3 h2 he2
  have e1' := l1 h2 he2
  rw [ha] at e1'
  obtain ⟨ha1, ha2⟩ := hrng j (by omega) hlj
  obtain ⟨c, hc⟩ : ∃ c : Nat, o[j]'(by omega) = c := ⟨(o[j]'(by omega)).toNat, by omega⟩
  rw [hc] at e3
  obtain ⟨ok1, b4, o4, i4, l4⟩ := call_at (k := .i64) (i := a) x hax
  obtain ⟨ok2, b5, o5, i5, l5⟩ := call_at (k := .i64) (i := c) x (by omega)
  unfold d_doormanref20_Respects_8
  by_cases heq : (c : Int) = a
  · have hR : ¬ Resp xs o := fun hR => hR.dis j k (by omega) hlt hlj (by rw [hc, ha, heq])
    have heq' : c = a := by omega
    simp +contextual -implicitDefEqProofs [t0, t1, t5, t6, i1, e1', i3, e3, heq']
    unfold d_doormanref20_Respects_9
    simp only [lpM_r, blkM_r, hJr]
    have := notR hR h2 he2
    simpa using this
  · have heq' : ¬ c = a := by omega
    simp +contextual -implicitDefEqProofs [t0, t1, t5, t6, i1, e1', i3, e3, heq, heq', i4, i5, (l4 _ he2).1, (l5 _ he2).1]
    refine rbefore_ok ok1 ok2 fun h3 he3 => ?_
    have hx3 := he2.trans he3
    cases hbf : befB (cl xs a) (cl xs c)
    · simp +contextual -implicitDefEqProofs
      unfold d_doormanref20_Respects_10
      simp [t0, t1, t5, t6, wj, s0, s1, s5]
      refine ⟨⟨hx3, j + 1, by omega, by simp, fun i hi hij => ?_⟩, by omega⟩
      by_cases e : i = j
      · subst e
        rw [hc, ha]
        exact ⟨heq, by simpa using hbf⟩
      · exact hd i hi (by omega)
    · have hR : ¬ Resp xs o := fun hR => by
        have := hR.bef j k (by omega) hlt hlj
        rw [hc, ha] at this
        simp [hbf] at this
      simp +contextual -implicitDefEqProofs
      unfold d_doormanref20_Respects_9
      simp only [lpM_r, blkM_r, hJr]
      have := notR hR h3 hx3
      simpa using this
end Go.Proofs.Ytfeglbniahebaaa

namespace Go.Proofs.Ytfeglbniahebaaa
open Go Go.Den
set_option linter.unusedSimpArgs false
set_option linter.unusedVariables false
@[simp] theorem one_i (k : IntKind) (n : Int) : (Value.int k n).oneCell' = true := rfl
@[simp] theorem one_s (s : ByteArray) : (Value.string s).oneCell' = true := rfl
@[simp] theorem one_b (b : Bool) : (Value.bool b).oneCell' = true := rfl
theorem one_sl {t e : TypeId} {H : Type} {enc : TypeId × Value → H} {W : World} {base : Nat} {spare : Nat → Bool} {held : Bool} {fuel : Nat} {cs : List Value} {x : DataW H × List MemPlace} (ht : P.underlying t = some (.slice e)) (h : DataW.trod enc P W base spare held fuel t cs = some x) : ∃ v, cs = [v] ∧ v.oneCell' = true := by
  rcases Deep.open_slice ht h with ⟨rfl, _⟩ | ⟨a, len, cap, m, n, D, Pl, rfl, _⟩
  · exact ⟨_, rfl, rfl⟩
  · exact ⟨_, rfl, rfl⟩
theorem rdOp {H : Type} {enc : TypeId × Value → H} {W : World} {base : Nat} {spare : Nat → Bool} {held : Bool} {fuel : Nat} {cs : List Value} {x : DataW H × List MemPlace} (h : DataW.trod enc P W base spare held fuel 48 cs = some x) :
    cs.length = 7 ∧ ∀ u ∈ cs, u.oneCell' = true := by
  have hl : cs.length = 7 := (struct_fields (P := P) Try.underlying48 h).1.trans (by kernel_rfl)
  obtain ⟨_, _, h0⟩ := struct_field (P := P) Try.underlying48 h 0 3 0 1 (by kernel_rfl)
  obtain ⟨_, _, h1⟩ := struct_field (P := P) Try.underlying48 h 1 9 1 1 (by kernel_rfl)
  obtain ⟨_, _, h2⟩ := struct_field (P := P) Try.underlying48 h 2 3 2 1 (by kernel_rfl)
  obtain ⟨_, _, h3⟩ := struct_field (P := P) Try.underlying48 h 3 3 3 1 (by kernel_rfl)
  obtain ⟨_, _, h4⟩ := struct_field (P := P) Try.underlying48 h 4 3 4 1 (by kernel_rfl)
  obtain ⟨_, _, h5⟩ := struct_field (P := P) Try.underlying48 h 5 45 5 1 (by kernel_rfl)
  obtain ⟨_, _, h6⟩ := struct_field (P := P) Try.underlying48 h 6 46 6 1 (by kernel_rfl)
  obtain ⟨a, e0, _⟩ := DataW.trod_int Try.underlying3 h0
  obtain ⟨s, e1, _⟩ := Rdr.str (P := P) Try.underlying9 _ _ _ _ _ _ _ _ h1
  obtain ⟨b, e2, _⟩ := DataW.trod_int Try.underlying3 h2
  obtain ⟨c, e3, _⟩ := DataW.trod_int Try.underlying3 h3
  obtain ⟨d, e4, _⟩ := DataW.trod_int Try.underlying3 h4
  obtain ⟨t, e5, _⟩ := DataW.trod_int Try.underlying45 h5
  obtain ⟨v, e6, hv⟩ := one_sl Try.underlying46 h6
  match cs, hl with
  | [x0, x1, x2, x3, x4, x5, x6], _ =>
    simp at e0 e1 e2 e3 e4 e5 e6
    exact ⟨rfl, by simp [e0, e1, e2, e3, e4, e5, e6, hv]⟩
theorem rdReply {H : Type} {enc : TypeId × Value → H} {W : World} {base : Nat} {spare : Nat → Bool} {held : Bool} {fuel : Nat} {cs : List Value} {x : DataW H × List MemPlace} (h : DataW.trod enc P W base spare held fuel 53 cs = some x) :
    cs.length = 4 ∧ ∀ u ∈ cs, u.oneCell' = true := by
  have hl : cs.length = 4 := (struct_fields (P := P) Try.underlying53 h).1.trans (by kernel_rfl)
  obtain ⟨_, _, h0⟩ := struct_field (P := P) Try.underlying53 h 0 49 0 1 (by kernel_rfl)
  obtain ⟨_, _, h1⟩ := struct_field (P := P) Try.underlying53 h 1 50 1 1 (by kernel_rfl)
  obtain ⟨_, _, h2⟩ := struct_field (P := P) Try.underlying53 h 2 51 2 1 (by kernel_rfl)
  obtain ⟨_, _, h3⟩ := struct_field (P := P) Try.underlying53 h 3 4 3 1 (by kernel_rfl)
  obtain ⟨a, e0, _⟩ := DataW.trod_int Try.underlying49 h0
  obtain ⟨v, e1, hv⟩ := one_sl Try.underlying50 h1
  obtain ⟨w, e2, hw⟩ := one_sl Try.underlying51 h2
  obtain ⟨d, e3, _⟩ := DataW.trod_bool Try.underlying4 h3
  match cs, hl with
  | [x0, x1, x2, x3], _ =>
    simp at e0 e1 e2 e3
    exact ⟨rfl, by simp [e0, e1, e2, e3, hv, hw]⟩
theorem rdCall : Rdr P 55 CallR := fun enc W base spare held fuel cs x h => by
  have hl : cs.length = 18 := (struct_fields (P := P) Try.underlying55 h).1.trans (by kernel_rfl)
  obtain ⟨_, _, h0⟩ := struct_field (P := P) Try.underlying55 h 0 3 0 1 (by kernel_rfl)
  obtain ⟨_, _, h1⟩ := struct_field (P := P) Try.underlying55 h 1 3 1 1 (by kernel_rfl)
  obtain ⟨_, _, h2⟩ := struct_field (P := P) Try.underlying55 h 2 48 2 7 (by kernel_rfl)
  obtain ⟨_, _, h3⟩ := struct_field (P := P) Try.underlying55 h 3 3 9 1 (by kernel_rfl)
  obtain ⟨_, _, h4⟩ := struct_field (P := P) Try.underlying55 h 4 45 10 1 (by kernel_rfl)
  obtain ⟨_, _, h5⟩ := struct_field (P := P) Try.underlying55 h 5 3 11 1 (by kernel_rfl)
  obtain ⟨_, _, h6⟩ := struct_field (P := P) Try.underlying55 h 6 3 12 1 (by kernel_rfl)
  obtain ⟨_, _, h7⟩ := struct_field (P := P) Try.underlying55 h 7 3 13 1 (by kernel_rfl)
  obtain ⟨_, _, h8⟩ := struct_field (P := P) Try.underlying55 h 8 53 14 4 (by kernel_rfl)
  obtain ⟨a, e0, _⟩ := DataW.trod_int Try.underlying3 h0
  obtain ⟨b, e1, _⟩ := DataW.trod_int Try.underlying3 h1
  obtain ⟨_, e2⟩ := rdOp h2
  obtain ⟨c, e3, _⟩ := DataW.trod_int Try.underlying3 h3
  obtain ⟨d, e4, _⟩ := DataW.trod_int Try.underlying45 h4
  obtain ⟨p, e5, _⟩ := DataW.trod_int Try.underlying3 h5
  obtain ⟨q, e6, _⟩ := DataW.trod_int Try.underlying3 h6
  obtain ⟨r, e7, _⟩ := DataW.trod_int Try.underlying3 h7
  obtain ⟨_, e8⟩ := rdReply h8
  match cs, hl with
  | [x0, x1, x2, x3, x4, x5, x6, x7, x8, x9, x10, x11, x12, x13, x14, x15, x16, x17], _ =>
    simp at e0 e1 e2 e3 e4 e5 e6 e7 e8
    obtain ⟨a1, a2, a3, a4, a5, a6, a7⟩ := e2
    obtain ⟨c1, c2, c3, c4⟩ := e8
    refine ⟨⟨_, a, p, q, r⟩, rfl, rfl, by simp [e0], by simp [e5], by simp [e6], by simp [e7], ?_⟩
    simp [e0, e1, e3, e4, e5, e6, e7, a1, a2, a3, a4, a5, a6, a7, c1, c2, c3, c4]
theorem chain_row {a b c : HC} {x y z : Array Value} {h : Heap} (ha : CallR h x.toList a) (hb : CallR h y.toList b) (hc : CallR h z.toList c) {K : Value → Heap → Prop} (hk : ∀ h', Ext h h' → K (.bool true) h') : callM P fn_doormanlaw20_HistChain #[.agg x, .agg y, .agg z] h K := by
  obtain ⟨e1, h1⟩ := ha
  obtain ⟨e2, h2⟩ := hb
  obtain ⟨e3, h3⟩ := hc
  have g1 : x = a.cs.toArray := by rw [← e1]
  have g2 : y = b.cs.toArray := by rw [← e2]
  have g3 : z = c.cs.toArray := by rw [← e3]
  rw [g1, g2, g3]
  exact chain_ok h1 h2 h3 hk
end Go.Proofs.Ytfeglbniahebaaa

namespace Go.Proofs.Ytfeglbniahebaaa
open Go Go.Den Go.MapKept
set_option linter.unusedSimpArgs false
set_option linter.unusedVariables false
theorem rdI : Rdr P 3 IR := fun enc W base spare held fuel cs x h => by
  obtain ⟨n, e, _⟩ := DataW.trod_int Try.underlying3 h
  exact ⟨n, e⟩
theorem chk_ref {xs : List HC} {i w : Int} {ok : Bool} (a : ChkA xs i ok) (b : RefA xs w) : (ok = true ∧ i = 0 ∧ w = -1) ∨ (ok = false ∧ i = w ∧ 0 ≤ w) := by
  rcases a with ⟨a1, a2, a3⟩ | ⟨a1, k, a2, a3, a4, a5⟩
  · rcases b with ⟨b1, b2⟩ | ⟨j, b2, b3, b4, b5⟩
    · exact .inl ⟨a1, a2, b1⟩
    · rw [a3 j b3] at b4; cases b4
  · rcases b with ⟨b1, b2⟩ | ⟨j, b2, b3, b4, b5⟩
    · rw [b2 k a3] at a4; cases a4
    · refine .inr ⟨a1, ?_, by omega⟩
      rcases Nat.lt_trichotomy k j with h | h | h
      · rw [b5 k h] at a4; cases a4
      · omega
      · rw [a5 j h] at b4; cases b4
set_option maxHeartbeats 1000000 in
theorem tells_ok {xs : List HC} {o : List Int} {h : Heap} {v u : Value} (x : Sl 18 CallR h v xs) (y : Sl 1 IR h u o) {K : Value → Heap → Prop} (hk : ∀ h', Ext h h' → K (.bool true) h') : callM P fn_doormanlaw20_HistTells #[v, u] h K := by
  apply e_doormanlaw20_HistTells
  unfold d_doormanlaw20_HistTells
  have hlen := x.len
  have hleno := y.len
  refine hawake_ok fun h1 he1 => ?_
  unfold d_doormanlaw20_HistTells_1
  have hend : ∀ q (hx : Ext h1 q), callM P fn_doormanlaw20_awake #[] q fun v h => K v h := fun q hx => hawake_ok fun h2 he2 => hk _ ((he1.trans hx).trans he2)
  simp +contextual -implicitDefEqProofs [hlen, hleno]
  refine ⟨fun _ => hend _ (Ext.refl _), fun hsm hsm2 => ?_⟩
  have hl : xs.length ≤ 80 := by omega
  have hlo : o.length ≤ 80 := by omega
  unfold d_doormanlaw20_HistTells_2
  refine check_ok (by omega) (callS_ext he1 x) fun h2 i ok he2 hA => ?_
  have hx2 := he1.trans he2
  unfold d_doormanlaw20_HistTells_3
  simp -implicitDefEqProofs only [exV_0, exV_1, ov_s]
  refine rcheck_ok (by omega) (callS_ext hx2 x) fun h3 w he3 hB => ?_
  have hx3 := hx2.trans he3
  have rest : ∀ a0 a1 a2 a3 a4 a5 a6 a7 a8 a9 a10 a11 a12 a13 a14 a15 a16 a17 a18 a19 a20 a21 a22 a23 a24 a25 a26 a27 a28 a29 : Value, d_doormanlaw20_HistTells_5 v h3 u K a0 a1 a2 a3 a4 a5 a6 a7 a8 a9 a10 a11 a12 a13 a14 a15 a16 a17 a18 a19 a20 a21 a22 a23 a24 a25 a26 a27 a28 a29 := by
    intro a0 a1 a2 a3 a4 a5 a6 a7 a8 a9 a10 a11 a12 a13 a14 a15 a16 a17 a18 a19 a20 a21 a22 a23 a24 a25 a26 a27 a28 a29
    unfold d_doormanlaw20_HistTells_5
    refine order_ok (by omega) (callS_ext hx3 x) fun h4 v4 O he4 hr4 hO _ => ?_
    have hx4 := hx3.trans he4
    unfold d_doormanlaw20_HistTells_6
    refine rorder_ok (by omega) (callS_ext hx4 x) fun h5 v5 O' he5 hr5 hO' => ?_
    have hx5 := hx4.trans he5
    obtain rfl : O = O' := hO.uniq hO'
    have hr4 := hr4.ext he5
    have hl4 := row_lnV hr4
    have hl5 := row_lnV hr5
    have hOl := hO.len
    have htl := takeN_len xs xs.length
    unfold d_doormanlaw20_HistTells_7
    simp +contextual -implicitDefEqProofs [hl4, hl5]
    refine respects_ok (by omega) (by omega) (callS_ext hx5 x) (ir_ext hx5 y) fun h6 b he6 hb => ?_
    have hx6 := hx5.trans he6
    try simp +contextual -implicitDefEqProofs
    refine rrespects_ok (by omega) (by omega) (callS_ext hx6 x) (ir_ext hx6 y) fun h7 b' he7 hb' => ?_
    have hx7 := hx6.trans he7
    obtain rfl : b = b' := by
      have := hb.trans hb'.symm
      cases b <;> cases b' <;> simp at this ⊢
    simp +contextual -implicitDefEqProofs
    have hr4 := (hr4.ext he6).ext he7
    have hr5 := (hr5.ext he6).ext he7
    unfold d_doormanlaw20_HistTells_8
    rw [seqM_eq]
    unfold d_doormanlaw20_HistTells_9
    refine loop_on [0, 8, 9] (fun s h' => h' = h7 ∧ ∃ k : Nat, k ≤ O.length ∧ s 10 = .int .i64 k) (fun s _ => (O.length - num (s 10)).toNat) ⟨rfl, 0, by omega, by simp⟩ ?_
    rintro s h8 hf ⟨rfl, k, hkO, s10⟩
    have s0 : s 0 = v := by simpa using hf 0 (by simp)
    have s8 : s 8 = v4 := by simpa using hf 8 (by simp)
    have s9 : s 9 = v5 := by simpa using hf 9 (by simp)
    have wk : IntKind.i64.wrap ((k : Int) + 1) = k + 1 := i64w (by omega) (by omega)
    unfold d_doormanlaw20_HistTells_10
    simp -implicitDefEqProofs only [s8, s10, hl4, bin_lss, ov_s, cd_b]
    refine ⟨fun hc => ?_, fun hc => ?_⟩
    · have hlt : k < O.length := by have : ((k : Int) < O.length) := by simpa using hc
                                    omega
      obtain ⟨g, g1, g2, g3⟩ := rowN_at (k := .i64) hr4 hlt
      obtain ⟨g', g1', g2', g3'⟩ := rowN_at (k := .i64) hr5 hlt
      unfold d_doormanlaw20_HistTells_11
      simp +contextual -implicitDefEqProofs [s8, s9, s10, g2, g3, g2', g3']
      unfold d_doormanlaw20_HistTells_13
      simp [s0, s8, s9, s10, wk]
      exact ⟨⟨k + 1, by omega, by simp⟩, by omega⟩
    · simp only [lpM_e, blkM_e, if_true, thenM_n]
      unfold d_doormanlaw20_HistTells_14
      rw [seqM_eq]
      unfold d_doormanlaw20_HistTells_15
      refine loop_on [0] (fun t h' => Ext h h' ∧ ∃ k : Nat, 1 ≤ k ∧ k ≤ xs.length + 1 ∧ t 11 = .int .i64 k) (fun t _ => (xs.length + 1 - num (t 11)).toNat) ⟨hx7, 1, by omega, by omega, by simp⟩ ?_
      rintro t h9 hft ⟨he9, q, hq1, hq2, t11⟩
      have t0 : t 0 = v := by simpa [s0] using hft 0 (by simp)
      have wq : IntKind.i64.wrap ((q : Int) + 1) = q + 1 := i64w (by omega) (by omega)
      have wq2 : IntKind.i64.wrap ((q : Int) - 1) = (q - 1 : Nat) := by rw [i64w (by omega) (by omega)]; omega
      unfold d_doormanlaw20_HistTells_16
      simp -implicitDefEqProofs only [t0, t11, hlen, bin_lss, ov_s, cd_b]
      refine ⟨fun hc2 => ?_, fun hc2 => ?_⟩
      · have hlt : q < xs.length := by have : ((q : Int) < xs.length) := by simpa using hc2
                                       omega
        obtain ⟨ok1, b1, o1, i1, l1⟩ := call_at (k := .i64) (i := q - 1) x (by omega)
        obtain ⟨ok2, b2, o2, i2, l2⟩ := call_at (k := .i64) (i := q) x hlt
        unfold d_doormanlaw20_HistTells_17
        simp -implicitDefEqProofs only [t0, t11, bin_sub, wq2, i1, i2, ov_s, (l1 _ he9).1, (l2 _ he9).1]
        refine before_ok ok1 ok2 fun h10 he10 => ?_
        have hx10 := he9.trans he10
        unfold d_doormanlaw20_HistTells_18
        refine ⟨(l1 _ hx10).1, (l2 _ hx10).1, ?_⟩
        refine rbefore_ok ok1 ok2 fun h11 he11 => ?_
        have hx11 := hx10.trans he11
        simp +contextual -implicitDefEqProofs
        unfold d_doormanlaw20_HistTells_20
        simp [t0, t11, wq, s0]
        exact ⟨⟨hx11, q + 1, by omega, by omega, by simp⟩, by omega⟩
      · simp
        exact hk _ he9
  unfold d_doormanlaw20_HistTells_4
  rcases chk_ref hA hB with ⟨rfl, rfl, rfl⟩ | ⟨rfl, rfl, hw⟩
  · simp +contextual -implicitDefEqProofs
    exact rest _ _ _ _ _ _ _ _ _ _ _ _ _ _ _ _ _ _ _ _ _ _ _ _ _ _ _ _ _ _
  · have hw' : ¬ i < 0 := by omega
    simp +contextual -implicitDefEqProofs [hw']
    exact rest _ _ _ _ _ _ _ _ _ _ _ _ _ _ _ _ _ _ _ _ _ _ _ _ _ _ _ _ _ _
end Go.Proofs.Ytfeglbniahebaaa
