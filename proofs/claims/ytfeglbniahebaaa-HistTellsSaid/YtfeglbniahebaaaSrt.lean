/- The contract of the stable sort of the Go library under a comparison that is a total preorder. No condition beyond the hypotheses that each theorem states. -/
import Derived.Test.YtfeglbniahebaaaHTx
set_option linter.unusedSimpArgs false
set_option linter.unusedVariables false
namespace Go.Proofs.Ytfeglbniahebaaa
open Go Go.Den Go.MapKept
set_option linter.unusedSimpArgs false
set_option linter.unusedVariables false
/-- A row of ints, as a function. -/
abbrev RowD (h : Heap) (v : Value) (n : Nat) (D : Nat → Int) : Prop := Row 1 ty_int h v n (seqF n fun k => [.int .i64 (D k)])
theorem rowD_at {h : Heap} {v : Value} {n : Nat} {D : Nat → Int} (r : RowD h v n D) {i : Nat} (hi : i < n) {k : IntKind} : ∃ g, rowOf v = some g ∧ iaV (some (none, 1)) v (.int k i) = some (.pointer (some ⟨g, i, none⟩)) ∧ cel h g i = some (.int .i64 (D i)) := row1_at r hi
theorem rowD_st {h : Heap} {v : Value} {n : Nat} {D : Nat → Int} (r : RowD h v n D) {g i : Nat} (hg : rowOf v = some g) (hi : i < n) {x : Int} {K : Heap → Prop}
    (hk : ∀ h', (∀ k, k ≠ g → h' k = h k) → RowD h' v n (fun k => if k = i then x else D k) → K h') : stM (some 1) (.pointer (some ⟨g, i, none⟩)) (.int .i64 x) h K := by
  refine row1_st r hg hi rfl rfl fun h' ho hr => hk h' ho (row1_congr hr fun k _ => ?_)
  by_cases e : k = i <;> simp [e]
theorem rowD_congr {h : Heap} {v : Value} {n : Nat} {D E : Nat → Int} (r : RowD h v n D) (e : ∀ i, i < n → D i = E i) : RowD h v n E := row1_congr r fun i hi => by rw [e i hi]
/-- Only one block of ints changes; all others stay; what is not there stays away. -/
def Only (g : Option Nat) (h h' : Heap) : Prop := Keep g h h'
/-- A comparison of two ints, by a closure that reads memory that stays. -/
structure Cmp (g : Option Nat) (h0 : Heap) (c : Value) (key : Int → Int) (ok : Int → Prop) : Prop where
  call : ∀ (x y : Int), ok x → ok y → ∀ (h : Heap) (K : Value → Heap → Prop), Keep g h0 h → (∀ h' r, Ext h h' → (r < 0 ↔ key x < key y) → K (.int .i64 r) h') →
    nxM P (do let d ← Deferred.ofValue c #[.int .i64 x, .int .i64 y]; invoke d.target d.args) h K
/-- The first n ints of a row, as a sort finds and leaves them. -/
def swapD (D : Nat → Int) (a b n : Nat) : Nat → Int := fun k => if a ≤ k ∧ k < a + n then D (b + (k - a)) else if b ≤ k ∧ k < b + n then D (a + (k - b)) else D k
theorem i64w {n : Int} (h0 : -4611686018427387904 ≤ n) (h1 : n ≤ 4611686018427387904) : IntKind.i64.wrap n = n := wrap64_id (by omega) (by omega)
theorem row_small {sz : Nat} {e : TypeId} {h : Heap} {v : Value} {n : Nat} {xs : List Value} (r : Row sz e h v n xs) : n ≤ maxLen := by
  rcases r.2 with ⟨_, h0⟩ | ⟨g, cap, cur, _, _, q1, q2, _⟩ <;> omega
set_option maxHeartbeats 1000000 in
theorem swapRange_ok {h : Heap} {v c : Value} {n : Nat} {D : Nat → Int} (r : RowD h v n D) (hn : n ≤ 1000000) {a b m : Nat} (hab : a + m ≤ b) (hb : b + m ≤ n) {K : Value → Heap → Prop}
    (hk : ∀ h', Keep (rowOf v) h h' → RowD h' v n (swapD D a b m) → K (.tuple #[]) h') : callM P fn_slices_swapRangeCmpFunc_int #[v, .int .i64 a, .int .i64 b, .int .i64 m, c] h K := by
  apply e_slices_swapRangeCmpFunc_int
  unfold d_slices_swapRangeCmpFunc_int
  refine loop_on [0, 1, 2, 3] (fun s h' => Keep (rowOf v) h h' ∧ ∃ i : Nat, i ≤ m ∧ s 10 = .int .i64 i ∧ RowD h' v n (swapD D a b i)) (fun s _ => (m - num (s 10)).toNat)
    ⟨fun _ _ e _ => e, 0, by omega, rfl, rowD_congr r fun k _ => ?_⟩ ?_
  · simp [swapD]
    intros; omega
  rintro s h1 hf ⟨hk1, i, hi, hs10, hr⟩
  have s0 : s 0 = v := by simpa using hf 0 (by simp)
  have s1 : s 1 = .int .i64 a := by simpa using hf 1 (by simp)
  have s2 : s 2 = .int .i64 b := by simpa using hf 2 (by simp)
  have s3 : s 3 = .int .i64 m := by simpa using hf 3 (by simp)
  unfold d_slices_swapRangeCmpFunc_int_1
  simp only [hs10, s3, bin_lss, ov_s, cd_b]
  refine ⟨fun hc => ?_, fun hc => ?_⟩
  rotate_left
  · have hc' : ¬ ((i : Int) < m) := by simpa using hc
    have : i = m := by omega
    subst this
    simp; exact hk h1 hk1 hr
  have hlt : i < m := by have : ((i : Int) < m) := by simpa using hc
                         omega
  unfold d_slices_swapRangeCmpFunc_int_2
  have w1 : IntKind.i64.wrap ((a : Int) + i) = (a + i : Nat) := by rw [i64w (by omega) (by omega)]; omega
  have w2 : IntKind.i64.wrap ((b : Int) + i) = (b + i : Nat) := by rw [i64w (by omega) (by omega)]; omega
  have w3 : IntKind.i64.wrap ((i : Int) + 1) = i + 1 := i64w (by omega) (by omega)
  obtain ⟨g, g1, g2, g3⟩ := rowD_at (k := .i64) hr (i := b + i) (by omega)
  obtain ⟨g', g1', g2', g3'⟩ := rowD_at (k := .i64) hr (i := a + i) (by omega)
  have : g' = g := by rw [g1] at g1'; cases g1'; rfl
  subst this
  simp only [s0, s1, s2, hs10, bin_add, ov_s, w1, w2, w3, g2, g3, g2', g3', ldV_c]
  refine rowD_st hr g1 (by omega) fun h2 ho2 hr2 => ?_
  refine rowD_st hr2 g1 (by omega) fun h3 ho3 hr3 => ?_
  simp [s0, s1, s2, s3]
  refine ⟨⟨?_, i + 1, by omega, by simp, rowD_congr hr3 fun k _ => ?_⟩, by rw [hs10]; simp; omega⟩
  · intro q o e ne
    rw [ho3 q (fun e' => ne (by rw [e', g1])), ho2 q (fun e' => ne (by rw [e', g1]))]; exact hk1 q o e ne
  · unfold swapD
    by_cases e1 : k = b + i
    · subst e1
      rw [if_pos rfl, if_neg (by omega), if_neg (by omega), if_neg (by omega), if_pos (by omega)]
      congr 1; omega
    · by_cases e2 : k = a + i
      · subst e2
        rw [if_neg (by omega), if_pos rfl, if_neg (by omega), if_neg (by omega), if_pos (by omega)]
        congr 1; omega
      · rw [if_neg e1, if_neg e2]
        by_cases c1 : a ≤ k ∧ k < a + i
        · rw [if_pos c1, if_pos (by omega)]
        · rw [if_neg c1, if_neg (show ¬ (a ≤ k ∧ k < a + (i + 1)) by omega)]
          by_cases c2 : b ≤ k ∧ k < b + i
          · rw [if_pos c2, if_pos (by omega)]
          · rw [if_neg c2, if_neg (by omega)]
/-- [a, m) and [m, b) change places. -/
def rotD (D : Nat → Int) (a m b : Nat) : Nat → Int := fun k => if a ≤ k ∧ k < a + (b - m) then D (k + (m - a)) else if a + (b - m) ≤ k ∧ k < b then D (k - (b - m)) else D k
theorem rot_end (E : Nat → Int) {i m : Nat} (hi : i ≤ m) (k : Nat) : swapD E (m - i) m i k = rotD E (m - i) m (m + i) k := by
  simp only [swapD, rotD]
  repeat' split
  all_goals first | (exfalso; omega) | (congr 1; omega) | rfl
theorem rot_gt (E : Nat → Int) {i j m : Nat} (hi : i ≤ m) (hj : j < i) (k : Nat) : rotD (swapD E (m - i) m j) (m - (i - j)) m (m + j) k = rotD E (m - i) m (m + j) k := by
  simp only [swapD, rotD]
  repeat' split
  all_goals first | (exfalso; omega) | (congr 1; omega) | rfl
theorem rot_lt (E : Nat → Int) {i j m : Nat} (hi : i ≤ m) (hj : i < j) (k : Nat) : rotD (swapD E (m - i) (m + j - i) i) (m - i) m (m + (j - i)) k = rotD E (m - i) m (m + j) k := by
  simp only [swapD, rotD]
  repeat' split
  all_goals first | (exfalso; omega) | (congr 1; omega) | rfl
set_option maxHeartbeats 1000000 in
theorem rotate_ok {h : Heap} {v c : Value} {n : Nat} {D : Nat → Int} (r : RowD h v n D) (hn : n ≤ 1000000) {a m b : Nat} (ham : a < m) (hmb : m < b) (hb : b ≤ n) {K : Value → Heap → Prop}
    (hk : ∀ h', Keep (rowOf v) h h' → RowD h' v n (rotD D a m b) → K (.tuple #[]) h') : callM P fn_slices_rotateCmpFunc_int #[v, .int .i64 a, .int .i64 m, .int .i64 b, c] h K := by
  apply e_slices_rotateCmpFunc_int
  unfold d_slices_rotateCmpFunc_int
  have w1 : IntKind.i64.wrap ((m : Int) - a) = (m - a : Nat) := by rw [i64w (by omega) (by omega)]; omega
  have w2 : IntKind.i64.wrap ((b : Int) - m) = (b - m : Nat) := by rw [i64w (by omega) (by omega)]; omega
  simp only [bin_sub, ov_s, w1, w2]
  rw [seqM_eq]
  unfold d_slices_rotateCmpFunc_int_1
  refine loop_on [0, 2, 4] (fun s h' => Keep (rowOf v) h h' ∧ ∃ (i j : Nat) (E : Nat → Int), 0 < i ∧ 0 < j ∧ i ≤ m ∧ m + j ≤ n ∧ s 10 = .int .i64 i ∧ s 11 = .int .i64 j ∧ RowD h' v n E ∧ ∀ k, rotD D a m b k = rotD E (m - i) m (m + j) k) (fun s _ => (num (s 10) + num (s 11)).toNat)
    ⟨fun _ _ e _ => e, m - a, b - m, D, by omega, by omega, by omega, by omega, rfl, rfl, r, fun k => by rw [show m - (m - a) = a by omega, show m + (b - m) = b by omega]⟩ ?_
  rintro s h1 hf ⟨hk1, i, j, E, hi0, hj0, him, hjn, hs10, hs11, hr, hE⟩
  have s0 : s 0 = v := by simpa using hf 0 (by simp)
  have s2 : s 2 = .int .i64 m := by simpa using hf 2 (by simp)
  have s4 : s 4 = c := by simpa using hf 4 (by simp)
  unfold d_slices_rotateCmpFunc_int_2
  simp only [hs10, hs11, bin_neq, ov_s, cd_b]
  have w3 : IntKind.i64.wrap ((m : Int) - i) = (m - i : Nat) := by rw [i64w (by omega) (by omega)]; omega
  refine ⟨fun hc => ?_, fun hc => ?_⟩
  rotate_left
  · have hij : i = j := by have : (i : Int) = j := by simpa using hc
                           omega
    subst hij
    simp only [lpM_e, blkM_e, if_true, thenM_n]
    unfold d_slices_rotateCmpFunc_int_8
    simp [hs10, s0, s2, s4, w3]
    refine swapRange_ok hr hn (show m - i + i ≤ m by omega) (by omega) fun h2 hk2 hr2 => ?_
    exact hk h2 (hk1.trans hk2) (rowD_congr hr2 fun k _ => by rw [hE k]; exact rot_end E him k)
  have hne : i ≠ j := by have : ¬ (i : Int) = j := by simpa using hc
                         omega
  unfold d_slices_rotateCmpFunc_int_3
  simp only [hs10, hs11, bin_gtr, ov_s, cd_b]
  refine ⟨fun hg => ?_, fun hg => ?_⟩
  · have hji : j < i := by have : ((j : Int) < i) := by simpa using hg
                           omega
    unfold d_slices_rotateCmpFunc_int_4
    simp only [s0, s2, s4, hs10, hs11, bin_sub, ov_s, w3]
    refine swapRange_ok hr hn (show m - i + j ≤ m by omega) (by omega) fun h2 hk2 hr2 => ?_
    have w4 : IntKind.i64.wrap ((i : Int) - j) = (i - j : Nat) := by rw [i64w (by omega) (by omega)]; omega
    unfold d_slices_rotateCmpFunc_int_5
    simp [w4, hs10, hs11, s0, s2, s4]
    refine ⟨⟨hk1.trans hk2, i - j, by omega, j, by omega, by omega, by omega, by omega, by omega, _, hr2, fun k => ?_⟩, by omega⟩
    rw [hE k, rot_gt E him hji k]
  · have hji : i < j := by have : ¬ ((j : Int) < i) := by simpa using hg
                           omega
    unfold d_slices_rotateCmpFunc_int_6
    have w5 : IntKind.i64.wrap ((m : Int) + j) = (m + j : Nat) := by rw [i64w (by omega) (by omega)]; omega
    have w6 : IntKind.i64.wrap (((m + j : Nat) : Int) - i) = (m + j - i : Nat) := by rw [i64w (by omega) (by omega)]; omega
    simp only [s0, s2, s4, hs10, hs11, bin_sub, bin_add, ov_s, w3, w5, w6]
    refine swapRange_ok hr hn (show m - i + i ≤ m + j - i by omega) (by omega) fun h2 hk2 hr2 => ?_
    have w4 : IntKind.i64.wrap ((j : Int) - i) = (j - i : Nat) := by rw [i64w (by omega) (by omega)]; omega
    unfold d_slices_rotateCmpFunc_int_7
    simp [w4, hs10, hs11, s0, s2, s4]
    refine ⟨⟨hk1.trans hk2, i, by omega, j - i, by omega, by omega, by omega, by omega, by omega, _, hr2, fun k => ?_⟩, by omega⟩
    rw [hE k, rot_lt E him hji k]
end Go.Proofs.Ytfeglbniahebaaa

namespace Go.Proofs.Ytfeglbniahebaaa
open Go Go.Den Go.MapKept
set_option linter.unusedSimpArgs false
set_option linter.unusedVariables false
section
variable (key : Int → Int)
/-- By the key, then by the number. -/
def ltK (x y : Int) : Prop := key x < key y ∨ (key x = key y ∧ x < y)
theorem ltK.trans {x y z : Int} (a : ltK key x y) (b : ltK key y z) : ltK key x z := by unfold ltK at *; omega
def Srt (D : Nat → Int) (a b : Nat) : Prop := ∀ i j, a ≤ i → i < j → j < b → ltK key (D i) (D j)
end
/-- The same numbers on [a, b), perhaps in another order; all others where they were. -/
structure Same (a b : Nat) (D D' : Nat → Int) : Prop where
  to : ∀ k, a ≤ k → k < b → ∃ i, a ≤ i ∧ i < b ∧ D' k = D i
  fro : ∀ k, a ≤ k → k < b → ∃ i, a ≤ i ∧ i < b ∧ D k = D' i
  out : ∀ k, ¬ (a ≤ k ∧ k < b) → D' k = D k
theorem Same.refl (a b : Nat) (D : Nat → Int) : Same a b D D := ⟨fun k h1 h2 => ⟨k, h1, h2, rfl⟩, fun k h1 h2 => ⟨k, h1, h2, rfl⟩, fun _ _ => rfl⟩
theorem Same.trans {a b : Nat} {D E F : Nat → Int} (x : Same a b D E) (y : Same a b E F) : Same a b D F := by
  refine ⟨fun k h1 h2 => ?_, fun k h1 h2 => ?_, fun k h => (y.out k h).trans (x.out k h)⟩
  · obtain ⟨i, a1, a2, a3⟩ := y.to k h1 h2
    obtain ⟨j, b1, b2, b3⟩ := x.to i a1 a2
    exact ⟨j, b1, b2, a3.trans b3⟩
  · obtain ⟨i, a1, a2, a3⟩ := x.fro k h1 h2
    obtain ⟨j, b1, b2, b3⟩ := y.fro i a1 a2
    exact ⟨j, b1, b2, a3.trans b3⟩
theorem Same.wide {a b c d : Nat} {D E : Nat → Int} (x : Same a b D E) (h1 : c ≤ a) (h2 : b ≤ d) : Same c d D E := by
  refine ⟨fun k h3 h4 => ?_, fun k h3 h4 => ?_, fun k h => x.out k fun h' => h ⟨by omega, by omega⟩⟩
  · by_cases h : a ≤ k ∧ k < b
    · obtain ⟨i, a1, a2, a3⟩ := x.to k h.1 h.2; exact ⟨i, by omega, by omega, a3⟩
    · exact ⟨k, h3, h4, x.out k h⟩
  · by_cases h : a ≤ k ∧ k < b
    · obtain ⟨i, a1, a2, a3⟩ := x.fro k h.1 h.2; exact ⟨i, by omega, by omega, a3⟩
    · exact ⟨k, h3, h4, (x.out k h).symm⟩
/-- Two neighbours change places. -/
def swp (D : Nat → Int) (i j : Nat) : Nat → Int := fun k => if k = i then D j else if k = j then D i else D k
theorem Same.swp {a b i j : Nat} (D : Nat → Int) (hi : a ≤ i ∧ i < b) (hj : a ≤ j ∧ j < b) : Same a b D (swp D i j) := by
  refine ⟨fun k h1 h2 => ?_, fun k h1 h2 => ?_, fun k h => ?_⟩
  · unfold Ytfeglbniahebaaa.swp
    by_cases e : k = i
    · exact ⟨j, hj.1, hj.2, by simp [e]⟩
    · by_cases e2 : k = j
      · subst e2; exact ⟨i, hi.1, hi.2, by simp [e]⟩
      · exact ⟨k, h1, h2, by simp [e, e2]⟩
  · unfold Ytfeglbniahebaaa.swp
    by_cases e : k = i
    · subst e
      by_cases e2 : j = k
      · exact ⟨k, h1, h2, by simp [e2]⟩
      · exact ⟨j, hj.1, hj.2, by simp [e2]⟩
    · by_cases e2 : k = j
      · subst e2; exact ⟨i, hi.1, hi.2, by simp⟩
      · exact ⟨k, h1, h2, by simp [e, e2]⟩
  · unfold Ytfeglbniahebaaa.swp
    rw [if_neg (fun e => h ⟨by omega, by omega⟩), if_neg (fun e => h ⟨by omega, by omega⟩)]
/-- A store twice: neighbours change places. -/
theorem swp_st (D : Nat → Int) (i j : Nat) (k : Nat) : (if k = j then D i else if k = i then D j else D k) = swp D i j k := by
  unfold swp
  by_cases e : k = i <;> by_cases e2 : k = j <;> simp_all
set_option maxHeartbeats 2000000 in
theorem insertion_ok {key : Int → Int} {ok : Int → Prop} {h0 h : Heap} {v c : Value} {n : Nat} {D : Nat → Int} (r : RowD h v n D) (hn : n ≤ 1000000) (hc : Cmp (rowOf v) h0 c key ok) (h0k : Keep (rowOf v) h0 h)
    (hok : ∀ k, k < n → ok (D k)) {a b : Nat} (hab : a < b) (hb : b ≤ n) (hinc : ∀ p q, a ≤ p → p < q → q < b → D p < D q) {K : Value → Heap → Prop}
    (hk : ∀ h' D', Keep (rowOf v) h h' → RowD h' v n D' → Srt key D' a b → Same a b D D' → K (.tuple #[]) h') : callM P fn_slices_insertionSortCmpFunc_int #[v, .int .i64 a, .int .i64 b, c] h K := by
  apply e_slices_insertionSortCmpFunc_int
  unfold d_slices_insertionSortCmpFunc_int
  have w1 : IntKind.i64.wrap ((a : Int) + 1) = (a + 1 : Nat) := by rw [i64w (by omega) (by omega)]; omega
  simp only [bin_add, ov_s, w1]
  refine loop_on [0, 1, 2, 3] (fun s h' => Keep (rowOf v) h h' ∧ ∃ (i : Nat) (E : Nat → Int), a + 1 ≤ i ∧ i ≤ b ∧ s 8 = .int .i64 i ∧ RowD h' v n E ∧ Srt key E a i ∧ Same a i D E) (fun s _ => (b - num (s 8)).toNat)
    ⟨fun _ _ e _ => e, a + 1, D, by omega, by omega, rfl, r, fun i j h1 h2 h3 => by omega, Same.refl _ _ _⟩ ?_
  rintro s h1 hf ⟨hk1, i, E, hai, hib, hs8, hr, hsrt, hsm⟩
  have s0 : s 0 = v := by simpa using hf 0 (by simp)
  have s1 : s 1 = .int .i64 a := by simpa using hf 1 (by simp)
  have s2 : s 2 = .int .i64 b := by simpa using hf 2 (by simp)
  have s3 : s 3 = c := by simpa using hf 3 (by simp)
  have wi : IntKind.i64.wrap ((i : Int) + 1) = i + 1 := i64w (by omega) (by omega)
  unfold d_slices_insertionSortCmpFunc_int_1
  simp only [hs8, s2, bin_lss, ov_s, cd_b]
  refine ⟨fun hcc => ?_, fun hcc => ?_⟩
  rotate_left
  · have hc' : ¬ ((i : Int) < b) := by simpa using hcc
    have : i = b := by omega
    subst this
    simp; exact hk h1 E hk1 hr hsrt hsm
  have hlt : i < b := by have : ((i : Int) < b) := by simpa using hcc
                         omega
  unfold d_slices_insertionSortCmpFunc_int_2
  refine seq_cut (fun m' s' h' => m' = [] ∧ (∀ k ∈ [0, 1, 2, 3, 8], s' k = s k) ∧ Keep (rowOf v) h h' ∧ ∃ E, RowD h' v n E ∧ Srt key E a (i + 1) ∧ Same a (i + 1) D E) (fun J hJ _ _ => ?_) ?_
  rotate_left
  · rintro m' s' h' ⟨rfl, hf', hk', E', hr', hs', hsm'⟩
    simp [hf' 0 (by simp), hf' 1 (by simp), hf' 2 (by simp), hf' 3 (by simp), hf' 8 (by simp), hs8, wi, s0, s1, s2, s3]
    exact ⟨⟨hk', i + 1, by omega, by omega, by simp, E', hr', hs', hsm'⟩, by omega⟩
  unfold d_slices_insertionSortCmpFunc_int_3
  have hEi : E i = D i := hsm.out i (by omega)
  have hEo : ∀ k, i ≤ k → E k = D k := fun k hki => hsm.out k (by omega)
  have hlow : ∀ p, a ≤ p → p < i → E p < D i := fun p h1 h2 => by
    obtain ⟨q, q1, q2, q3⟩ := hsm.to p h1 h2
    rw [q3]; exact hinc q i q1 (by omega) hlt
  refine loop_on [0, 1, 2, 3, 8] (fun s' h' => Keep (rowOf v) h h' ∧ ∃ (j : Nat) (F : Nat → Int), a ≤ j ∧ j ≤ i ∧ s' 9 = .int .i64 j ∧ RowD h' v n F ∧ Same a (i + 1) D F ∧ F j = D i ∧ (∀ p, a ≤ p → p < j → F p < D i) ∧
      (∀ p q, a ≤ p → p < q → q ≤ i → p ≠ j → q ≠ j → ltK key (F p) (F q)) ∧ ∀ q, j < q → q ≤ i → ltK key (D i) (F q)) (fun s' _ => (num (s' 9)).toNat)
    ⟨hk1, i, E, by omega, by omega, by simp [hs8], hr, hsm.wide (by omega) (by omega), hEi, hlow, fun p q h1 h2 h3 h4 h5 => hsrt p q h1 h2 (by omega), fun q h1 h2 => by omega⟩ ?_
  rintro t h2 hft ⟨hk2, j, F, haj, hji, ht9, hr2, hsm2, hFj, hFlow, hFs, hFgt⟩
  have t0 : t 0 = v := by simpa [s0] using hft 0 (by simp)
  have t1 : t 1 = .int .i64 a := by simpa [s1] using hft 1 (by simp)
  have t2 : t 2 = .int .i64 b := by simpa [s2] using hft 2 (by simp)
  have t3 : t 3 = c := by simpa [s3] using hft 3 (by simp)
  have t8 : t 8 = .int .i64 i := by simpa [hs8] using hft 8 (by simp)
  unfold d_slices_insertionSortCmpFunc_int_4
  have fin : (j = a ∨ key (F (j - 1)) ≤ key (D i)) → Srt key F a (i + 1) := fun hcase => by
    intro p q h3 h4 h5
    by_cases e1 : p = j
    · subst e1; rw [hFj]; exact hFgt q h4 (by omega)
    · by_cases e2 : q = j
      · subst e2
        have hpq : key (F (q - 1)) ≤ key (D i) := by rcases hcase with h | h; omega; exact h
        have h6 := hFlow (q - 1) (by omega) (by omega)
        have h7 : ltK key (F (q - 1)) (F q) := by rw [hFj]; unfold ltK; omega
        by_cases e3 : p = q - 1
        · subst e3; exact h7
        · exact (hFs p (q - 1) h3 (by omega) (by omega) e1 (by omega)).trans key h7
      · exact hFs p q h3 h4 (by omega) e1 e2
  simp only [ht9, t1, bin_gtr, ov_s]
  by_cases hja : a < j
  rotate_left
  · simp [hja]
    unfold d_slices_insertionSortCmpFunc_int_6
    simp
    exact hJ _ _ _ ⟨rfl, by simp [t0, t1, t2, t3, t8, s0, s1, s2, s3, hs8], hk2, F, hr2, fin (.inl (by omega)), hsm2⟩
  have wj : IntKind.i64.wrap ((j : Int) - 1) = (j - 1 : Nat) := by rw [i64w (by omega) (by omega)]; omega
  obtain ⟨g, g1, g2, g3⟩ := rowD_at (k := .i64) hr2 (i := j) (by omega)
  obtain ⟨g', g1', g2', g3'⟩ := rowD_at (k := .i64) hr2 (i := j - 1) (by omega)
  have : g' = g := by rw [g1] at g1'; cases g1'; rfl
  subst this
  simp [hja, t0, t3, g2, g3, wj, g2', g3']
  have ok' : ∀ k, a ≤ k → k < i + 1 → ok (F k) := fun k h1 h2 => by
    obtain ⟨q, q1, q2, q3⟩ := hsm2.to k h1 h2
    rw [q3]; exact hok q (by omega)
  refine hc.call _ _ (ok' j (by omega) (by omega)) (ok' (j - 1) (by omega) (by omega)) h2 _ (h0k.trans hk2) fun h3 rr he3 hrr => ?_
  have hk3 : Keep (rowOf v) h h3 := hk2.trans (Keep.of_ext he3)
  have hr3 := hr2.ext he3
  simp
  refine ⟨fun hneg => ?_, fun hneg => ?_⟩
  rotate_left
  · have : ¬ key (F j) < key (F (j - 1)) := fun h => by have := hrr.2 h; omega
    rw [hFj] at this
    unfold d_slices_insertionSortCmpFunc_int_6
    simp
    exact hJ _ _ _ ⟨rfl, by simp [t0, t1, t2, t3, t8, s0, s1, s2, s3, hs8], hk3, F, hr3, fin (.inr (by omega)), hsm2⟩
  have hlt2 := hrr.1 hneg
  rw [hFj] at hlt2
  unfold d_slices_insertionSortCmpFunc_int_5
  obtain ⟨g4, u1, u2, u3⟩ := rowD_at (k := .i64) hr3 (i := j) (by omega)
  obtain ⟨g5, v1, v2, v3⟩ := rowD_at (k := .i64) hr3 (i := j - 1) (by omega)
  have : g4 = g' := by rw [g1] at u1; cases u1; rfl
  subst this
  have : g5 = g4 := by rw [g1] at v1; cases v1; rfl
  subst this
  simp only [ht9, t0, bin_sub, ov_s, wj, u2, u3, v2, v3, ldV_c]
  refine rowD_st hr3 g1 (by omega) fun h4 ho4 hr4 => ?_
  refine rowD_st hr4 g1 (by omega) fun h5 ho5 hr5 => ?_
  have hr5' : RowD h5 v n (swp F j (j - 1)) := rowD_congr hr5 fun k _ => swp_st F j (j - 1) k
  have hk5 : Keep (rowOf v) h h5 := fun q o e ne => by
    rw [ho5 q (fun e' => ne (by rw [e', g1])), ho4 q (fun e' => ne (by rw [e', g1]))]; exact hk3 q o e ne
  have sj1 : swp F j (j - 1) (j - 1) = D i := by unfold swp; rw [if_neg (by omega), if_pos rfl, hFj]
  have sj : swp F j (j - 1) j = F (j - 1) := by unfold swp; rw [if_pos rfl]
  have so : ∀ k, k ≠ j → k ≠ j - 1 → swp F j (j - 1) k = F k := fun k h1 h2 => by unfold swp; rw [if_neg h1, if_neg h2]
  simp [t0, t1, t2, t3, t8, s0, s1, s2, s3, hs8]
  refine ⟨⟨hk5, j - 1, by omega, by omega, by rfl, _, hr5', hsm2.trans (Same.swp F ⟨by omega, by omega⟩ ⟨by omega, by omega⟩), sj1, fun p h6 h7 => ?_, fun p q h6 h7 h8 h9 h10 => ?_, fun q h6 h7 => ?_⟩, by rw [ht9]; simp; omega⟩
  · rw [so p (by omega) (by omega)]; exact hFlow p h6 (by omega)
  · by_cases e1 : p = j
    · subst e1
      rw [sj, so q (by omega) h10]
      exact hFs (p - 1) q (by omega) (by omega) h8 (by omega) (by omega)
    · by_cases e2 : q = j
      · subst e2
        rw [sj, so p e1 h9]
        exact hFs p (q - 1) h6 (by omega) (by omega) e1 (by omega)
      · rw [so p e1 h9, so q e2 h10]; exact hFs p q h6 h7 h8 e1 e2
  · by_cases e1 : q = j
    · subst e1
      rw [sj]; exact .inl hlt2
    · rw [so q e1 (by omega)]; exact hFgt q (by omega) h7
end Go.Proofs.Ytfeglbniahebaaa

namespace Go.Proofs.Ytfeglbniahebaaa
open Go Go.Den Go.MapKept
set_option linter.unusedSimpArgs false
set_option linter.unusedVariables false
theorem u64w {n : Int} (h0 : 0 ≤ n) (h1 : n ≤ 4611686018427387904) : IntKind.u64.wrap n = n := by
  simp only [IntKind.wrap, IntKind.bits, IntKind.signed]
  simp
  omega
theorem bin_shr1 (t : Nat) (c : Bool) (a : Int) : binV .shr t c (.int .u64 a) (.int .u64 1) = some (.int .u64 (a.fdiv 2)) := by
  simp [binV, intV, IntKind.bits]
theorem mid_eq {i j : Nat} (h : i + j ≤ 2000000) : IntKind.i64.wrap ((i : Int) + j) = ((i + j : Nat) : Int) ∧ IntKind.u64.wrap ((i + j : Nat) : Int) = ((i + j : Nat) : Int) ∧ (((i + j : Nat) : Int)).fdiv 2 = (((i + j) / 2 : Nat) : Int) ∧ IntKind.i64.wrap (((i + j) / 2 : Nat) : Int) = (((i + j) / 2 : Nat) : Int) := by
  refine ⟨by rw [i64w (by omega) (by omega)]; omega, u64w (by omega) (by omega), ?_, i64w (by omega) (by omega)⟩
  rw [Int.fdiv_eq_ediv_of_nonneg _ (by omega)]; omega
/-- One moved up to another's place. -/
def shl (D : Nat → Int) (a k : Nat) : Nat → Int := fun p => if a ≤ p ∧ p < k then D (p + 1) else if p = k then D a else D p
def shr (D : Nat → Int) (k m : Nat) : Nat → Int := fun p => if k < p ∧ p ≤ m then D (p - 1) else if p = k then D m else D p
theorem shl_step (D : Nat → Int) {a k : Nat} (h : a ≤ k) (p : Nat) : swp (shl D a k) k (k + 1) p = shl D a (k + 1) p := by
  simp only [swp, shl]
  repeat' split
  all_goals first | (exfalso; omega) | (congr 1 <;> omega) | contradiction | (exfalso; exact (by assumption : ¬ True) trivial) | rfl
theorem shr_step (D : Nat → Int) {k m : Nat} (h0 : 0 < k) (h : k ≤ m) (p : Nat) : swp (shr D k m) k (k - 1) p = shr D (k - 1) m p := by
  simp only [swp, shr]
  repeat' split
  all_goals first | (exfalso; omega) | (congr 1 <;> omega) | contradiction | (exfalso; exact (by assumption : ¬ True) trivial) | rfl
theorem Same.congr {a b : Nat} {D E F : Nat → Int} (x : Same a b D E) (e : ∀ k, E k = F k) : Same a b D F := by
  have : E = F := funext e
  subst this; exact x
theorem shl_same (D : Nat → Int) {a k b : Nat} (h : a ≤ k) (hk : k < b) : Same a b D (shl D a k) := by
  induction k with
  | zero => have : a = 0 := by omega
            subst this
            exact (Same.refl _ _ _).congr fun p => by simp only [shl]; repeat' split
                                                      all_goals first | (exfalso; omega) | (congr 1 <;> omega) | contradiction | (exfalso; exact (by assumption : ¬ True) trivial) | rfl
  | succ k ih =>
    by_cases e : a = k + 1
    · exact (Same.refl _ _ _).congr fun p => by simp only [shl]; repeat' split
                                                all_goals first | (exfalso; omega) | (congr 1 <;> omega) | contradiction | (exfalso; exact (by assumption : ¬ True) trivial) | rfl
    · exact ((ih (by omega) (by omega)).trans (Same.swp _ (i := k) (j := k + 1) ⟨by omega, by omega⟩ ⟨by omega, by omega⟩)).congr fun p => shl_step D (by omega) p
theorem rotD_same (D : Nat → Int) {a s m e b : Nat} (h1 : a ≤ s) (h2 : s ≤ m) (h3 : m ≤ e) (h4 : e ≤ b) : Same a b D (rotD D s m e) := by
  refine ⟨fun k k1 k2 => ?_, fun k k1 k2 => ?_, fun k k1 => ?_⟩
  · unfold rotD
    split
    · exact ⟨_, by omega, by omega, rfl⟩
    · split
      · exact ⟨_, by omega, by omega, rfl⟩
      · exact ⟨k, k1, k2, rfl⟩
  · by_cases c1 : s ≤ k ∧ k < m
    · refine ⟨k + (e - m), by omega, by omega, ?_⟩
      unfold rotD; rw [if_neg (by omega), if_pos (by omega)]; congr 1; omega
    · by_cases c2 : m ≤ k ∧ k < e
      · refine ⟨k - (m - s), by omega, by omega, ?_⟩
        unfold rotD; rw [if_pos (by omega)]; congr 1; omega
      · refine ⟨k, k1, k2, ?_⟩
        unfold rotD; rw [if_neg (by omega), if_neg (by omega)]
  · unfold rotD; rw [if_neg (by omega), if_neg (by omega)]
theorem shr_same (D : Nat → Int) {a k m b : Nat} (h : a ≤ k) (hk : k ≤ m) (hm : m < b) : Same a b D (shr D k m) :=
  (rotD_same D (s := k) (m := m) (e := m + 1) h hk (by omega) (by omega)).congr fun p => by
    simp only [shr, rotD]
    repeat' split
    all_goals first | (exfalso; omega) | (congr 1 <;> omega) | contradiction | (exfalso; exact (by assumption : ¬ True) trivial) | rfl
section
variable {key : Int → Int} {D : Nat → Int} {a m b : Nat}
theorem Srt.key_le (h : Srt key D a b) {i j : Nat} (h1 : a ≤ i) (h2 : i ≤ j) (h3 : j < b) : key (D i) ≤ key (D j) := by
  by_cases e : i = j
  · subst e; exact Int.le_refl _
  · have := h i j h1 (by omega) h3; unfold ltK at this; omega
theorem one_left (hs : Srt key D m b) (hm : m = a + 1) (idx : ∀ q, m ≤ q → q < b → D a < D q) {i : Nat} (h1 : m ≤ i) (h2 : i ≤ b) (hl : ∀ q, m ≤ q → q < i → key (D q) < key (D a)) (hg : ∀ q, i ≤ q → q < b → ¬ key (D q) < key (D a)) : Srt key (shl D a (i - 1)) a b := by
  subst hm
  intro p q hp hpq hq
  simp only [shl]
  repeat' split
  all_goals first | (exfalso; omega) | skip
  · exact hs _ _ (by omega) (by omega) (by omega)
  · exact .inl (hl _ (by omega) (by omega))
  · exact hs _ _ (by omega) (by omega) (by omega)
  · have h3 := hg q (by omega) hq
    have h4 := idx q (by omega) hq
    unfold ltK; omega
  · exact hs _ _ (by omega) (by omega) (by omega)
theorem one_right (hs : Srt key D a m) (hm : b = m + 1) (idx : ∀ p, a ≤ p → p < m → D p < D m) {i : Nat} (h1 : a ≤ i) (h2 : i ≤ m) (hl : ∀ q, a ≤ q → q < i → ¬ key (D m) < key (D q)) (hg : ∀ q, i ≤ q → q < m → key (D m) < key (D q)) : Srt key (shr D i m) a b := by
  subst hm
  intro p q hp hpq hq
  simp only [shr]
  repeat' split
  all_goals first | (exfalso; omega) | skip
  · exact hs _ _ (by omega) (by omega) (by omega)
  · exact .inl (hg _ (by omega) (by omega))
  · exact hs _ _ (by omega) (by omega) (by omega)
  · have h3 := hl p hp (by omega)
    have h4 := idx p hp (by omega)
    unfold ltK; omega
  · exact hs _ _ (by omega) (by omega) (by omega)
theorem cross (hl : Srt key D a m) (hr : Srt key D m b) (idx : ∀ p q, a ≤ p → p < m → m ≤ q → q < b → D p < D q) {mid s e : Nat} (hmid : mid = (a + b) / 2) (ham : a < m) (hmb : m < b) (he : e = mid + m - s)
    (hs1 : a ≤ s) (hs2 : mid + m ≤ s + b) (hs3 : s ≤ m) (hs4 : s ≤ mid)
    (hlo : s = a ∨ s + b = mid + m ∨ ¬ key (D e) < key (D (s - 1))) (hhi : s = m ∨ s = mid ∨ key (D (e - 1)) < key (D s)) :
    ∀ p q, a ≤ p → p < mid → mid ≤ q → q < b → ltK key (rotD D s m e p) (rotD D s m e q) := by
  intro p q p1 p2 q1 q2
  have hem : m ≤ e := by omega
  have heb : e ≤ b := by omega
  simp only [rotD]
  repeat' split
  all_goals first | (exfalso; omega) | skip
  · -- right, left
    rcases hhi with h | h | h
    · omega
    · omega
    · have h1 := hr.key_le (i := p + (m - s)) (j := e - 1) (by omega) (by omega) (by omega)
      have h2 := hl.key_le (i := s) (j := q - (e - m)) (by omega) (by omega) (by omega)
      left; omega
  · exact hr _ _ (by omega) (by omega) (by omega)
  · exact hl _ _ (by omega) (by omega) (by omega)
  · rcases hlo with h | h | h
    · omega
    · omega
    · have h1 := hl.key_le (i := p) (j := s - 1) (by omega) (by omega) (by omega)
      have h2 := hr.key_le (i := e) (j := q) (by omega) (by omega) (by omega)
      have h3 := idx p q p1 (by omega) (by omega) q2
      unfold ltK; omega
end
end Go.Proofs.Ytfeglbniahebaaa

namespace Go.Proofs.Ytfeglbniahebaaa
open Go Go.Den Go.MapKept
set_option linter.unusedSimpArgs false
set_option linter.unusedVariables false
theorem rowD_two {h : Heap} {v : Value} {n : Nat} {D : Nat → Int} (r : RowD h v n D) {i j : Nat} (hi : i < n) (hj : j < n) : ∃ g, rowOf v = some g ∧ iaV (some (none, 1)) v (.int .i64 i) = some (.pointer (some ⟨g, i, none⟩)) ∧ cel h g i = some (.int .i64 (D i)) ∧
    iaV (some (none, 1)) v (.int .i64 j) = some (.pointer (some ⟨g, j, none⟩)) ∧ cel h g j = some (.int .i64 (D j)) := by
  obtain ⟨g, a, b, c⟩ := rowD_at (k := .i64) r hi
  obtain ⟨g', a', b', c'⟩ := rowD_at (k := .i64) r hj
  have : g' = g := by rw [a] at a'; cases a'; rfl
  subst this
  exact ⟨g', a, b, c, b', c'⟩
theorem keep2 {v : Value} {g : Nat} {h h1 h2 h3 : Heap} (hg : rowOf v = some g) (k : Keep (rowOf v) h h1) (a : ∀ k, k ≠ g → h2 k = h1 k) (b : ∀ k, k ≠ g → h3 k = h2 k) : Keep (rowOf v) h h3 := fun q o e ne => by
  rw [b q (fun e' => ne (by rw [e', hg])), a q (fun e' => ne (by rw [e', hg]))]; exact k q o e ne
/-- What a merge is asked, and what it leaves. -/
structure Mrg (key : Int → Int) (D : Nat → Int) (a m b : Nat) : Prop where
  l : Srt key D a m
  r : Srt key D m b
  idx : ∀ p q, a ≤ p → p < m → m ≤ q → q < b → D p < D q
set_option maxHeartbeats 4000000 in
theorem sym_left {key : Int → Int} {ok : Int → Prop} {h0 h : Heap} {v c : Value} {n : Nat} {D : Nat → Int} (r : RowD h v n D) (hn : n ≤ 1000000) (hc : Cmp (rowOf v) h0 c key ok) (h0k : Keep (rowOf v) h0 h)
    (hok : ∀ k, k < n → ok (D k)) {a m b : Nat} (hm : m = a + 1) (hmb : m < b) (hb : b ≤ n) (hg : Mrg key D a m b) {K : Value → Heap → Prop} {s2f : List Nat → Env → Heap → Prop}
    (hk : ∀ h' D', Keep (rowOf v) h h' → RowD h' v n D' → Srt key D' a b → Same a b D D' → K (.tuple #[]) h') {v4 v5 : Value} :
    d_slices_symMergeCmpFunc_int_2 v (.int .i64 a) (.int .i64 m) (.int .i64 b) c v4 v5 h (thenM s2f (retM P [] K)) := by
  unfold d_slices_symMergeCmpFunc_int_2
  rw [seqM_eq]
  unfold d_slices_symMergeCmpFunc_int_3
  refine loop_on [0, 1, 4] (fun s h' => Keep (rowOf v) h h' ∧ RowD h' v n D ∧ ∃ i j : Nat, m ≤ i ∧ i ≤ j ∧ j ≤ b ∧ s 10 = .int .i64 i ∧ s 11 = .int .i64 j ∧ (∀ q, m ≤ q → q < i → key (D q) < key (D a)) ∧ ∀ q, j ≤ q → q < b → ¬ key (D q) < key (D a))
    (fun s _ => (num (s 11) - num (s 10)).toNat) ⟨fun _ _ e _ => e, r, m, b, by omega, by omega, by omega, rfl, rfl, fun q h1 h2 => by omega, fun q h1 h2 => by omega⟩ ?_
  rintro s h1 hf ⟨hk1, hr, i, j, hmi, hij, hjb, hs10, hs11, hlo, hhi⟩
  have s0 : s 0 = v := by simpa using hf 0 (by simp)
  have s1 : s 1 = .int .i64 a := by simpa using hf 1 (by simp)
  have s4 : s 4 = c := by simpa using hf 4 (by simp)
  unfold d_slices_symMergeCmpFunc_int_4
  simp only [hs10, hs11, bin_lss, ov_s, cd_b]
  refine ⟨fun hcc => ?_, fun hcc => ?_⟩
  · have hlt : i < j := by have : ((i : Int) < j) := by simpa using hcc
                           omega
    obtain ⟨w1, w2, w3, w4⟩ := mid_eq (i := i) (j := j) (by omega)
    generalize hh : (i + j) / 2 = md at *
    obtain ⟨g, g1, g2, g3, g4, g5⟩ := rowD_two hr (i := md) (j := a) (by omega) (by omega)
    unfold d_slices_symMergeCmpFunc_int_5
    simp only [s0, s1, s4, hs10, hs11, bin_add, ov_s, w1, cvV_i, w2, bin_shr1, w3, w4, g2, g3, g4, g5, ldV_c]
    refine hc.call _ _ (hok _ (by omega)) (hok _ (by omega)) h1 _ (h0k.trans hk1) fun h3 rr he3 hrr => ?_
    have hk3 := hk1.trans (Keep.of_ext (r := rowOf v) he3)
    have wm : IntKind.i64.wrap ((md : Int) + 1) = (md + 1 : Nat) := by rw [i64w (by omega) (by omega)]; omega
    unfold d_slices_symMergeCmpFunc_int_6
    simp only [bin_lss, ov_s, cd_b]
    refine ⟨fun hneg => ?_, fun hneg => ?_⟩
    · have hneg' : rr < 0 := by simpa using hneg
      have hlt2 := hrr.1 hneg'
      unfold d_slices_symMergeCmpFunc_int_7
      simp only [bin_add, ov_s, wm]
      simp [s0, s1, s4, hs10, hs11]
      refine ⟨⟨hk3, hr.ext he3, md + 1, by omega, j, by omega, by omega, by omega, rfl, fun q q1 q2 => ?_, fun q q1 q2 => by have := hhi q q1 q2; omega⟩, by omega⟩
      have := hg.r.key_le (i := q) (j := md) (by omega) (by omega) (by omega); omega
    · have hneg' : ¬ rr < 0 := by simpa using hneg
      have hlt2 : ¬ key (D md) < key (D a) := fun h => hneg' (hrr.2 h)
      unfold d_slices_symMergeCmpFunc_int_8
      simp [s0, s1, s4, hs10, hs11]
      refine ⟨⟨hk3, hr.ext he3, i, by omega, md, by omega, by omega, by omega, rfl, hlo, fun q q1 q2 => ?_⟩, by omega⟩
      have := hg.r.key_le (i := md) (j := q) (by omega) (by omega) (by omega); omega
  have hji : i = j := by have : ¬ ((i : Int) < j) := by simpa using hcc
                         omega
  subst hji
  simp only [lpM_e, blkM_e, if_true, thenM_n]
  unfold d_slices_symMergeCmpFunc_int_9
  rw [seqM_eq]
  unfold d_slices_symMergeCmpFunc_int_10
  have hfin := one_left (key := key) (D := D) (a := a) (m := m) (b := b) hg.r hm (fun q q1 q2 => hg.idx a q (by omega) (by omega) q1 q2) hmi hjb hlo hhi
  refine loop_on [0, 10] (fun s' h' => Keep (rowOf v) h h' ∧ ∃ k : Nat, a ≤ k ∧ k ≤ i - 1 ∧ s' 13 = .int .i64 k ∧ RowD h' v n (shl D a k)) (fun s' _ => (i - 1 - num (s' 13)).toNat)
    ⟨hk1, a, by omega, by omega, by simp [s1], rowD_congr hr fun p _ => by
      simp only [shl]; repeat' split
      all_goals first | (exfalso; omega) | (congr 1 <;> omega) | rfl⟩ ?_
  rintro t h2 hft ⟨hk2, k, hak, hki, ht13, hr2⟩
  have t0 : t 0 = v := by simpa [s0] using hft 0 (by simp)
  have t10 : t 10 = .int .i64 i := by simpa [hs10] using hft 10 (by simp)
  have wi : IntKind.i64.wrap ((i : Int) - 1) = (i - 1 : Nat) := by rw [i64w (by omega) (by omega)]; omega
  unfold d_slices_symMergeCmpFunc_int_11
  simp only [t10, ht13, bin_sub, ov_s, wi, bin_lss, cd_b]
  refine ⟨fun hcc2 => ?_, fun hcc2 => ?_⟩
  rotate_left
  · have : k = i - 1 := by have : ¬ ((k : Int) < (i - 1 : Nat)) := by simpa using hcc2
                           omega
    subst this
    simp
    exact hk h2 _ hk2 hr2 hfin (shl_same D (by omega) (by omega))
  have hlt : k < i - 1 := by have : ((k : Int) < (i - 1 : Nat)) := by simpa using hcc2
                             omega
  have wk : IntKind.i64.wrap ((k : Int) + 1) = (k + 1 : Nat) := by rw [i64w (by omega) (by omega)]; omega
  obtain ⟨g, g1, g2, g3, g4, g5⟩ := rowD_two hr2 (i := k + 1) (j := k) (by omega) (by omega)
  unfold d_slices_symMergeCmpFunc_int_12
  simp only [t0, ht13, bin_add, ov_s, wk, g2, g3, g4, g5, ldV_c]
  refine rowD_st hr2 g1 (by omega) fun h4 ho4 hr4 => ?_
  refine rowD_st hr4 g1 (by omega) fun h5 ho5 hr5 => ?_
  have hr5' : RowD h5 v n (shl D a (k + 1)) := rowD_congr hr5 fun p _ => (swp_st (shl D a k) k (k + 1) p).trans (shl_step D hak p)
  simp [t0, t10, s0, hs10]
  exact ⟨⟨keep2 g1 hk2 ho4 ho5, k + 1, by omega, by omega, by omega, hr5'⟩, by rw [ht13]; simp; omega⟩
set_option maxHeartbeats 4000000 in
theorem sym_right {key : Int → Int} {ok : Int → Prop} {h0 h : Heap} {v c : Value} {n : Nat} {D : Nat → Int} (r : RowD h v n D) (hn : n ≤ 1000000) (hc : Cmp (rowOf v) h0 c key ok) (h0k : Keep (rowOf v) h0 h)
    (hok : ∀ k, k < n → ok (D k)) {a m b : Nat} (ham : a < m) (hm : b = m + 1) (hb : b ≤ n) (hg : Mrg key D a m b) {K : Value → Heap → Prop} {s2f : List Nat → Env → Heap → Prop}
    (hk : ∀ h' D', Keep (rowOf v) h h' → RowD h' v n D' → Srt key D' a b → Same a b D D' → K (.tuple #[]) h') {v47 v48 : Value} {s2 : Env} (e0 : s2 0 = v) (e1 : s2 1 = .int .i64 a) (e2 : s2 2 = .int .i64 m) (e4 : s2 4 = c) :
    d_slices_symMergeCmpFunc_int_15 [] s2 v47 v48 h (thenM s2f (retM P [] K)) := by
  unfold d_slices_symMergeCmpFunc_int_15
  rw [seqM_eq]
  unfold d_slices_symMergeCmpFunc_int_16
  refine loop_on [0, 2, 4] (fun s h' => Keep (rowOf v) h h' ∧ RowD h' v n D ∧ ∃ i j : Nat, a ≤ i ∧ i ≤ j ∧ j ≤ m ∧ s 14 = .int .i64 i ∧ s 15 = .int .i64 j ∧ (∀ q, a ≤ q → q < i → ¬ key (D m) < key (D q)) ∧ ∀ q, j ≤ q → q < m → key (D m) < key (D q))
    (fun s _ => (num (s 15) - num (s 14)).toNat) ⟨fun _ _ e _ => e, r, a, m, by omega, by omega, by omega, by simp [e1], by simp [e2], fun q h1 h2 => by omega, fun q h1 h2 => by omega⟩ ?_
  rintro s h1 hf ⟨hk1, hr, i, j, hmi, hij, hjb, hs10, hs11, hlo, hhi⟩
  have s0 : s 0 = v := by simpa [e0] using hf 0 (by simp)
  have s2' : s 2 = .int .i64 m := by simpa [e2] using hf 2 (by simp)
  have s4 : s 4 = c := by simpa [e4] using hf 4 (by simp)
  unfold d_slices_symMergeCmpFunc_int_17
  simp only [hs10, hs11, bin_lss, ov_s, cd_b]
  refine ⟨fun hcc => ?_, fun hcc => ?_⟩
  · have hlt : i < j := by have : ((i : Int) < j) := by simpa using hcc
                           omega
    obtain ⟨w1, w2, w3, w4⟩ := mid_eq (i := i) (j := j) (by omega)
    generalize hh : (i + j) / 2 = md at *
    obtain ⟨g, g1, g2, g3, g4, g5⟩ := rowD_two hr (i := m) (j := md) (by omega) (by omega)
    unfold d_slices_symMergeCmpFunc_int_18
    simp only [s0, s2', s4, hs10, hs11, bin_add, ov_s, w1, cvV_i, w2, bin_shr1, w3, w4, g2, g3, g4, g5, ldV_c]
    refine hc.call _ _ (hok _ (by omega)) (hok _ (by omega)) h1 _ (h0k.trans hk1) fun h3 rr he3 hrr => ?_
    have hk3 := hk1.trans (Keep.of_ext (r := rowOf v) he3)
    have wm : IntKind.i64.wrap ((md : Int) + 1) = (md + 1 : Nat) := by rw [i64w (by omega) (by omega)]; omega
    unfold d_slices_symMergeCmpFunc_int_19
    simp only [bin_lss, ov_s, unV_n, cd_b]
    refine ⟨fun hneg => ?_, fun hneg => ?_⟩
    · have hneg' : ¬ rr < 0 := by simpa using hneg
      have hlt2 : ¬ key (D m) < key (D md) := fun h => hneg' (hrr.2 h)
      unfold d_slices_symMergeCmpFunc_int_20
      simp only [bin_add, ov_s, wm]
      simp [s0, s2', s4, hs10, hs11, e0, e1, e2, e4]
      refine ⟨⟨hk3, hr.ext he3, md + 1, by omega, j, by omega, by omega, by omega, rfl, fun q q1 q2 => ?_, hhi⟩, by omega⟩
      have := hg.l.key_le (i := q) (j := md) (by omega) (by omega) (by omega); omega
    · have hneg' : rr < 0 := by simpa using hneg
      have hlt2 := hrr.1 hneg'
      unfold d_slices_symMergeCmpFunc_int_21
      simp [s0, s2', s4, hs10, hs11, e0, e1, e2, e4]
      refine ⟨⟨hk3, hr.ext he3, i, by omega, md, by omega, by omega, by omega, rfl, fun q q1 q2 => by have := hlo q q1 q2; omega, fun q q1 q2 => ?_⟩, by omega⟩
      have := hg.l.key_le (i := md) (j := q) (by omega) (by omega) (by omega); omega
  have hji : i = j := by have : ¬ ((i : Int) < j) := by simpa using hcc
                         omega
  subst hji
  simp only [lpM_e, blkM_e, if_true, thenM_n]
  unfold d_slices_symMergeCmpFunc_int_22
  rw [seqM_eq]
  unfold d_slices_symMergeCmpFunc_int_23
  have hfin := one_right (key := key) (D := D) (a := a) (m := m) (b := b) hg.l hm (fun p q1 q2 => hg.idx p m q1 q2 (by omega) (by omega)) hmi hjb hlo hhi
  refine loop_on [0, 14] (fun s' h' => Keep (rowOf v) h h' ∧ ∃ k : Nat, i ≤ k ∧ k ≤ m ∧ s' 17 = .int .i64 k ∧ RowD h' v n (shr D k m)) (fun s' _ => (num (s' 17)).toNat)
    ⟨hk1, m, by omega, by omega, by simp [s2'], rowD_congr hr fun p _ => by
      simp only [shr]; repeat' split
      all_goals first | (exfalso; omega) | (congr 1 <;> omega) | rfl⟩ ?_
  rintro t h2 hft ⟨hk2, k, hak, hki, ht13, hr2⟩
  have t0 : t 0 = v := by simpa [s0] using hft 0 (by simp)
  have t10 : t 14 = .int .i64 i := by simpa [hs10] using hft 14 (by simp)
  unfold d_slices_symMergeCmpFunc_int_24
  simp only [t10, ht13, bin_gtr, ov_s, cd_b]
  refine ⟨fun hcc2 => ?_, fun hcc2 => ?_⟩
  rotate_left
  · have : k = i := by have : ¬ ((i : Int) < k) := by simpa using hcc2
                       omega
    subst this
    simp
    exact hk h2 _ hk2 hr2 hfin (shr_same D (by omega) (by omega) (by omega))
  have hlt : i < k := by have : ((i : Int) < k) := by simpa using hcc2
                         omega
  have wk : IntKind.i64.wrap ((k : Int) - 1) = (k - 1 : Nat) := by rw [i64w (by omega) (by omega)]; omega
  obtain ⟨g, g1, g2, g3, g4, g5⟩ := rowD_two hr2 (i := k - 1) (j := k) (by omega) (by omega)
  unfold d_slices_symMergeCmpFunc_int_25
  simp only [t0, ht13, bin_sub, ov_s, wk, g2, g3, g4, g5, ldV_c]
  refine rowD_st hr2 g1 (by omega) fun h4 ho4 hr4 => ?_
  refine rowD_st hr4 g1 (by omega) fun h5 ho5 hr5 => ?_
  have hr5' : RowD h5 v n (shr D (k - 1) m) := rowD_congr hr5 fun p _ => (swp_st (shr D k m) k (k - 1) p).trans (shr_step D (by omega) hki p)
  simp [t0, t10, s0, hs10]
  exact ⟨⟨keep2 g1 hk2 ho4 ho5, k - 1, by omega, by omega, by omega, hr5'⟩, by rw [ht13]; simp; omega⟩
end Go.Proofs.Ytfeglbniahebaaa

namespace Go.Proofs.Ytfeglbniahebaaa
open Go Go.Den Go.MapKept
set_option linter.unusedSimpArgs false
set_option linter.unusedVariables false
theorem Same.srt_lt {key : Int → Int} {a b mid : Nat} {E F : Nat → Int} (h1 : Same a mid E F) (h2 : Same mid b E F) : True := trivial
theorem two_halves {key : Int → Int} {a mid b : Nat} {E F G : Nat → Int} (ha : a ≤ mid) (hb : mid ≤ b) (s1 : Same a mid E F) (s2 : Same mid b F G) (o1 : Srt key F a mid) (o2 : Srt key G mid b)
    (cr : ∀ p q, a ≤ p → p < mid → mid ≤ q → q < b → ltK key (E p) (E q)) : Srt key G a b ∧ Same a b E G := by
  refine ⟨fun i j h1 h2 h3 => ?_, (s1.wide (Nat.le_refl _) hb).trans (s2.wide ha (Nat.le_refl _))⟩
  have gl : ∀ k, k < mid → G k = F k := fun k hk => s2.out k (by omega)
  have fr : ∀ k, mid ≤ k → F k = E k := fun k hk => s1.out k (by omega)
  by_cases c1 : j < mid
  · rw [gl i (by omega), gl j c1]; exact o1 i j h1 h2 c1
  · by_cases c2 : mid ≤ i
    · exact o2 i j c2 h2 h3
    · rw [gl i (by omega)]
      obtain ⟨p, p1, p2, p3⟩ := s1.to i h1 (by omega)
      obtain ⟨q, q1, q2, q3⟩ := s2.to j (by omega) h3
      rw [p3, q3, fr q q1]
      exact cr p q p1 p2 q1 q2
set_option maxHeartbeats 8000000 in
theorem symMerge_ok {key : Int → Int} {ok : Int → Prop} {h0 : Heap} {v c : Value} {n : Nat} (hn : n ≤ 1000000) (hc : Cmp (rowOf v) h0 c key ok) : ∀ (d : Nat) {a m b : Nat} {h : Heap} {D : Nat → Int}, b - a ≤ d → RowD h v n D → Keep (rowOf v) h0 h →
    (∀ k, k < n → ok (D k)) → a < m → m < b → b ≤ n → Mrg key D a m b → ∀ {K : Value → Heap → Prop},
    (∀ h' D', Keep (rowOf v) h h' → RowD h' v n D' → Srt key D' a b → Same a b D D' → K (.tuple #[]) h') → callM P fn_slices_symMergeCmpFunc_int #[v, .int .i64 a, .int .i64 m, .int .i64 b, c] h K := by
  intro d
  induction d with
  | zero => intro a m b h D h1 _ _ _ h2 h3; omega
  | succ d ih =>
    intro a m b h D hd r h0k hok ham hmb hb hg K hk
    apply e_slices_symMergeCmpFunc_int
    unfold d_slices_symMergeCmpFunc_int
    rw [seqM_eq]
    unfold d_slices_symMergeCmpFunc_int_1
    have w1 : IntKind.i64.wrap ((m : Int) - a) = (m - a : Nat) := by rw [i64w (by omega) (by omega)]; omega
    have w2 : IntKind.i64.wrap ((b : Int) - m) = (b - m : Nat) := by rw [i64w (by omega) (by omega)]; omega
    simp only [bin_sub, ov_s, w1, bin_eql, cd_b]
    refine ⟨fun h1 => ?_, fun h1 => ?_⟩
    · have : m = a + 1 := by have : ((m - a : Nat) : Int) = 1 := by simpa using h1
                             omega
      exact sym_left r hn hc h0k hok this hmb hb hg hk
    have hma : ¬ m = a + 1 := by have : ¬ ((m - a : Nat) : Int) = 1 := by simpa using h1
                                 omega
    simp only [thenM_n]
    unfold d_slices_symMergeCmpFunc_int_13
    rw [seqM_eq]
    unfold d_slices_symMergeCmpFunc_int_14
    simp only [puts_env, lk, Nat.reduceEqDiff, if_false, Option.getD_none, envOf_get, List.getElem?_cons_succ, List.getElem?_cons_zero, Option.getD_some, bin_sub, ov_s, w2, bin_eql, cd_b]
    refine ⟨fun h2 => ?_, fun h2 => ?_⟩
    · have : b = m + 1 := by have : ((b - m : Nat) : Int) = 1 := by simpa using h2
                             omega
      exact sym_right r hn hc h0k hok ham this hb hg hk (by simp) (by simp) (by simp) (by simp)
    have hbm : ¬ b = m + 1 := by have : ¬ ((b - m : Nat) : Int) = 1 := by simpa using h2
                                 omega
    simp only [thenM_n]
    unfold d_slices_symMergeCmpFunc_int_26
    obtain ⟨m1, m2, m3, m4⟩ := mid_eq (i := a) (j := b) (by omega)
    simp only [puts_env, lk, Nat.reduceEqDiff, if_false, Option.getD_none, envOf_get, List.getElem?_cons_succ, List.getElem?_cons_zero, Option.getD_some, bin_add, ov_s, m1, cvV_i, m2, bin_shr1, m3, m4]
    generalize hmid : (a + b) / 2 = mid at *
    have wn : IntKind.i64.wrap ((mid : Int) + m) = (mid + m : Nat) := by rw [i64w (by omega) (by omega)]; omega
    simp only [wn]
    have wns : IntKind.i64.wrap (((mid + m : Nat) : Int) - b) = ((mid + m : Nat) : Int) - b := i64w (by omega) (by omega)
    refine seq_cut (fun m' s' h' => m' = [] ∧ h' = h ∧ s' 0 = v ∧ s' 1 = .int .i64 a ∧ s' 2 = .int .i64 m ∧ s' 3 = .int .i64 b ∧ s' 4 = c ∧ s' 18 = .int .i64 mid ∧ s' 19 = .int .i64 (mid + m : Nat) ∧
      ∃ lo hi : Nat, s' 20 = .int .i64 lo ∧ s' 21 = .int .i64 hi ∧ lo ≤ hi ∧ a ≤ lo ∧ mid + m ≤ lo + b ∧ hi ≤ m ∧ hi ≤ mid ∧ (lo = a ∨ lo + b = mid + m) ∧ (hi = m ∨ hi = mid)) (fun J hJ _ _ => ?_) ?_
    · unfold d_slices_symMergeCmpFunc_int_27
      simp only [puts_env, lk, Nat.reduceEqDiff, if_false, Option.getD_none, envOf_get, List.getElem?_cons_succ, List.getElem?_cons_zero, Option.getD_some, bin_gtr, ov_s, cd_b]
      refine ⟨fun h3 => ?_, fun h3 => ?_⟩
      · have hmm : mid < m := by have : ((mid : Int) < m) := by simpa using h3
                                 omega
        unfold d_slices_symMergeCmpFunc_int_28
        simp only [puts_env, lk, Nat.reduceEqDiff, if_false, Option.getD_none, envOf_get, List.getElem?_cons_succ, List.getElem?_cons_zero, Option.getD_some, bin_sub, ov_s, wns]
        refine hJ _ _ _ ⟨rfl, rfl, by simp, by simp, by simp, by simp, by simp, by simp, by simp, mid + m - b, mid, ?_, by simp, by omega, by omega, by omega, by omega, by omega, .inr (by omega), .inr rfl⟩
        simp; omega
      · have hmm : m ≤ mid := by have : ¬ ((mid : Int) < m) := by simpa using h3
                                 omega
        unfold d_slices_symMergeCmpFunc_int_29
        refine hJ _ _ _ ⟨rfl, rfl, by simp, by simp, by simp, by simp, by simp, by simp, by simp, a, m, by simp, by simp, by omega, by omega, by omega, by omega, by omega, .inl rfl, .inl rfl⟩
    rintro m' s h' ⟨rfl, rfl, s0, s1, s2, s3, s4, s18, s19, lo, hi, s20, s21, hlh, hal, hlb, hhm, hhi, hlo', hhi'⟩
    unfold d_slices_symMergeCmpFunc_int_30
    have wp : IntKind.i64.wrap (((mid + m : Nat) : Int) - 1) = (mid + m - 1 : Nat) := by rw [i64w (by omega) (by omega)]; omega
    simp only [s19, bin_sub, ov_s, wp]
    rw [seqM_eq]
    unfold d_slices_symMergeCmpFunc_int_31
    refine loop_on [0, 1, 2, 3, 4, 18, 19, 22] (fun s' h'' => Ext h' h'' ∧ ∃ i j : Nat, lo ≤ i ∧ i ≤ j ∧ j ≤ hi ∧ s' 20 = .int .i64 i ∧ s' 21 = .int .i64 j ∧ (i = lo ∨ ¬ key (D (mid + m - i)) < key (D (i - 1))) ∧ (j = hi ∨ key (D (mid + m - 1 - j)) < key (D j)))
      (fun s' _ => (num (s' 21) - num (s' 20)).toNat) ⟨Ext.refl _, lo, hi, by omega, by omega, by omega, by simp [s20], by simp [s21], .inl rfl, .inl rfl⟩ ?_
    rintro t h1 hft ⟨he1, i, j, hli, hij, hjh, t20, t21, hilo, hjhi⟩
    have t0 : t 0 = v := by simpa [s0] using hft 0 (by simp)
    have t1 : t 1 = .int .i64 a := by simpa [s1] using hft 1 (by simp)
    have t2 : t 2 = .int .i64 m := by simpa [s2] using hft 2 (by simp)
    have t3 : t 3 = .int .i64 b := by simpa [s3] using hft 3 (by simp)
    have t4 : t 4 = c := by simpa [s4] using hft 4 (by simp)
    have t18 : t 18 = .int .i64 mid := by simpa [s18] using hft 18 (by simp)
    have t19 : t 19 = .int .i64 (mid + m : Nat) := by have := hft 19 (by simp); simp only [puts_env, lk, Nat.reduceEqDiff, if_false, Option.getD_none, s19] at this; exact this
    have t22 : t 22 = .int .i64 (mid + m - 1 : Nat) := by have := hft 22 (by simp); simp only [puts_env, lk, Nat.reduceEqDiff, if_false, if_true, Option.getD_some] at this; exact this
    have hk1 : Keep (rowOf v) h' h1 := Keep.of_ext he1
    have hr1 := r.ext he1
    unfold d_slices_symMergeCmpFunc_int_32
    simp only [t20, t21, bin_lss, ov_s, cd_b]
    refine ⟨fun hcc => ?_, fun hcc => ?_⟩
    · have hlt : i < j := by have : ((i : Int) < j) := by simpa using hcc
                             omega
      obtain ⟨v1, v2, v3, v4⟩ := mid_eq (i := i) (j := j) (by omega)
      generalize hcm : (i + j) / 2 = cm at *
      have wpc : IntKind.i64.wrap (((mid + m - 1 : Nat) : Int) - cm) = (mid + m - 1 - cm : Nat) := by rw [i64w (by omega) (by omega)]; omega
      obtain ⟨g, g1, g2, g3, g4, g5⟩ := rowD_two hr1 (i := mid + m - 1 - cm) (j := cm) (by omega) (by omega)
      unfold d_slices_symMergeCmpFunc_int_33
      simp only [t0, t4, t20, t21, t22, bin_add, bin_sub, ov_s, v1, cvV_i, v2, bin_shr1, v3, v4, wpc, g2, g3, g4, g5, ldV_c]
      refine hc.call _ _ (hok _ (by omega)) (hok _ (by omega)) h1 _ (h0k.trans hk1) fun h3 rr he3 hrr => ?_
      have wm : IntKind.i64.wrap ((cm : Int) + 1) = (cm + 1 : Nat) := by rw [i64w (by omega) (by omega)]; omega
      unfold d_slices_symMergeCmpFunc_int_34
      simp only [bin_lss, ov_s, unV_n, cd_b]
      refine ⟨fun hneg => ?_, fun hneg => ?_⟩
      · have hneg' : ¬ rr < 0 := by simpa using hneg
        have hlt2 : ¬ key (D (mid + m - 1 - cm)) < key (D cm) := fun h => hneg' (hrr.2 h)
        unfold d_slices_symMergeCmpFunc_int_35
        simp only [bin_add, ov_s, wm, lpM_n]
        refine ⟨⟨trivial, by simp [t0, t1, t2, t3, t4, t18, t19, t22, s0, s1, s2, s3, s4, s18, s19], he1.trans he3, cm + 1, j, by omega, by omega, by omega, by simp, by simp [t21], .inr ?_, hjhi⟩, by rw [t20, t21]; simp [t21]; omega⟩
        rw [show mid + m - (cm + 1) = mid + m - 1 - cm by omega, show cm + 1 - 1 = cm by omega]; exact hlt2
      · have hneg' : rr < 0 := by simpa using hneg
        have hlt2 := hrr.1 hneg'
        unfold d_slices_symMergeCmpFunc_int_36
        simp only [lpM_n]
        exact ⟨⟨trivial, by simp [t0, t1, t2, t3, t4, t18, t19, t22, s0, s1, s2, s3, s4, s18, s19], he1.trans he3, i, cm, by omega, by omega, by omega, by simp [t20], by simp, hilo, .inr hlt2⟩, by rw [t20, t21]; simp [t20]; omega⟩
    have hji : i = j := by have : ¬ ((i : Int) < j) := by simpa using hcc
                           omega
    subst hji
    have hcross := cross (key := key) (D := D) (a := a) (m := m) (b := b) hg.l hg.r hg.idx (mid := mid) (s := i) (e := mid + m - i) hmid.symm ham hmb rfl (by omega) (by omega) (by omega) (by omega)
      (by rcases hilo with h | h
          · omega
          · exact .inr (.inr h)) (by rcases hjhi with h | h
                                     · omega
                                     · exact .inr (.inr (by rw [show mid + m - i - 1 = mid + m - 1 - i by omega]; exact h)))
    generalize hE : mid + m - i = e at *
    have he_m : m ≤ e := by omega
    have he_b : e ≤ b := by omega
    have hsD := rotD_same D (a := a) (s := i) (m := m) (e := e) (b := b) (by omega) (by omega) he_m he_b
    simp only [lpM_e, blkM_e, if_true, thenM_n]
    unfold d_slices_symMergeCmpFunc_int_37
    have we : IntKind.i64.wrap (((mid + m : Nat) : Int) - i) = (e : Nat) := by rw [i64w (by omega) (by omega)]; omega
    simp only [puts_env, lk, Nat.reduceEqDiff, if_false, Option.getD_none, t19, t20, bin_sub, ov_s, we]
    have hEo : ∀ k, k < n → ok (rotD D i m e k) := fun k hkn => by
      by_cases c1 : a ≤ k ∧ k < b
      · obtain ⟨q, q1, q2, q3⟩ := hsD.to k c1.1 c1.2
        rw [q3]; exact hok q (by omega)
      · rw [hsD.out k c1]; exact hok k hkn
    refine seq_cut (fun m' s' h'' => m' = [] ∧ s' 0 = v ∧ s' 1 = .int .i64 a ∧ s' 2 = .int .i64 m ∧ s' 3 = .int .i64 b ∧ s' 4 = c ∧ s' 18 = .int .i64 mid ∧ s' 20 = .int .i64 i ∧ s' 24 = .int .i64 e ∧ Keep (rowOf v) h' h'' ∧ RowD h'' v n (rotD D i m e)) (fun J hJ _ _ => ?_) ?_
    · unfold d_slices_symMergeCmpFunc_int_38
      simp only [puts_env, lk, Nat.reduceEqDiff, if_false, Option.getD_none, t20, t2, t0, t4, bin_lss, ov_s, isB_b, beq_true]
      by_cases c1 : i < m
      · have d1 : decide ((i : Int) < m) = true := by simp; omega
        simp only [d1, gM_t, bin_lss, ov_s, pkV_t, cd_b]
        refine ⟨fun h3 => ?_, fun h3 => ?_⟩
        · have hme : m < e := by have : ((m : Int) < e) := by simpa using h3
                                 omega
          unfold d_slices_symMergeCmpFunc_int_39
          simp only [puts_env, lk, Nat.reduceEqDiff, if_false, Option.getD_none, t20, t2, t0, t4]
          refine rotate_ok hr1 hn c1 hme (by omega) fun h3 hk3 hr3 => ?_
          unfold d_slices_symMergeCmpFunc_int_40
          exact hJ _ _ _ ⟨rfl, by simp [t0], by simp [t1], by simp [t2], by simp [t3], by simp [t4], by simp [t18], by simp [t20], by simp, hk1.trans hk3, hr3⟩
        · have hme : m = e := by have : ¬ ((m : Int) < e) := by simpa using h3
                                 omega
          unfold d_slices_symMergeCmpFunc_int_41
          refine hJ _ _ _ ⟨rfl, by simp [t0], by simp [t1], by simp [t2], by simp [t3], by simp [t4], by simp [t18], by simp [t20], by simp, hk1, rowD_congr hr1 fun p _ => ?_⟩
          simp only [rotD]; repeat' split
          all_goals first | (exfalso; omega) | (congr 1 <;> omega) | rfl
      · have d1 : decide ((i : Int) < m) = false := by simp; omega
        simp only [d1, gM_f, pkV_f, ov_s, cd_b]
        refine ⟨fun h3 => (by cases h3), fun _ => ?_⟩
        unfold d_slices_symMergeCmpFunc_int_41
        refine hJ _ _ _ ⟨rfl, by simp [t0], by simp [t1], by simp [t2], by simp [t3], by simp [t4], by simp [t18], by simp [t20], by simp, hk1, rowD_congr hr1 fun p _ => ?_⟩
        simp only [rotD]; repeat' split
        all_goals first | (exfalso; omega) | (congr 1 <;> omega) | rfl
    rintro m' u h2 ⟨rfl, u0, u1, u2, u3, u4, u18, u20, u24, hk2, hr2⟩
    unfold d_slices_symMergeCmpFunc_int_42
    have srtL : ∀ x y, a ≤ x → y ≤ i → Srt key (rotD D i m e) x y := fun x y hx hy p q h3 h4 h5 => by
      have : ∀ k, k < i → rotD D i m e k = D k := fun k hk' => by unfold rotD; rw [if_neg (by omega), if_neg (by omega)]
      rw [this p (by omega), this q (by omega)]; exact hg.l p q (by omega) h4 (by omega)
    have srtM1 : Srt key (rotD D i m e) i mid := fun p q h3 h4 h5 => by
      have : ∀ k, i ≤ k → k < mid → rotD D i m e k = D (k + (m - i)) := fun k h6 h7 => by unfold rotD; rw [if_pos (by omega)]
      rw [this p h3 (by omega), this q (by omega) h5]; exact hg.r _ _ (by omega) (by omega) (by omega)
    have srtM2 : Srt key (rotD D i m e) mid e := fun p q h3 h4 h5 => by
      have : ∀ k, mid ≤ k → k < e → rotD D i m e k = D (k - (e - m)) := fun k h6 h7 => by unfold rotD; rw [if_neg (by omega), if_pos (by omega)]
      rw [this p h3 (by omega), this q (by omega) h5]; exact hg.l _ _ (by omega) (by omega) (by omega)
    have srtR : Srt key (rotD D i m e) e b := fun p q h3 h4 h5 => by
      have : ∀ k, e ≤ k → rotD D i m e k = D k := fun k hk' => by unfold rotD; rw [if_neg (by omega), if_neg (by omega)]
      rw [this p h3, this q (by omega)]; exact hg.r p q (by omega) h4 h5
    have idx1 : ∀ p q, a ≤ p → p < i → i ≤ q → q < mid → rotD D i m e p < rotD D i m e q := fun p q h3 h4 h5 h6 => by
      have e1 : rotD D i m e p = D p := by unfold rotD; rw [if_neg (by omega), if_neg (by omega)]
      have e2 : rotD D i m e q = D (q + (m - i)) := by unfold rotD; rw [if_pos (by omega)]
      rw [e1, e2]; exact hg.idx _ _ (by omega) (by omega) (by omega) (by omega)
    have idx2 : ∀ p q, mid ≤ p → p < e → e ≤ q → q < b → rotD D i m e p < rotD D i m e q := fun p q h3 h4 h5 h6 => by
      have e1 : rotD D i m e p = D (p - (e - m)) := by unfold rotD; rw [if_neg (by omega), if_pos (by omega)]
      have e2 : rotD D i m e q = D q := by unfold rotD; rw [if_neg (by omega), if_neg (by omega)]
      rw [e1, e2]; exact hg.idx _ _ (by omega) (by omega) (by omega) (by omega)
    refine seq_cut (fun m' s' h'' => m' = [] ∧ s' 0 = v ∧ s' 3 = .int .i64 b ∧ s' 4 = c ∧ s' 18 = .int .i64 mid ∧ s' 24 = .int .i64 e ∧ Keep (rowOf v) h' h'' ∧ ∃ F, RowD h'' v n F ∧ Srt key F a mid ∧ Same a mid (rotD D i m e) F) (fun J hJ _ _ => ?_) ?_
    · unfold d_slices_symMergeCmpFunc_int_43
      simp only [u1, u20, u18, u0, u4, bin_lss, ov_s, isB_b, beq_true]
      by_cases c1 : a < i
      · have d1 : decide ((a : Int) < i) = true := by simp; omega
        simp only [d1, gM_t, bin_lss, ov_s, pkV_t, cd_b]
        refine ⟨fun h3 => ?_, fun h3 => ?_⟩
        · have hme : i < mid := by have : ((i : Int) < mid) := by simpa using h3
                                   omega
          unfold d_slices_symMergeCmpFunc_int_44
          simp only [u1, u20, u18, u0, u4]
          refine ih (by omega) hr2 (h0k.trans hk2) hEo c1 hme (by omega) ⟨srtL a i (by omega) (by omega), srtM1, idx1⟩ fun h3 D' hk3 hr3 hs3 hsm3 => ?_
          unfold d_slices_symMergeCmpFunc_int_45
          exact hJ _ _ _ ⟨rfl, by simp [u0], by simp [u3], by simp [u4], by simp [u18], by simp [u24], hk2.trans hk3, D', hr3, hs3, hsm3⟩
        · have hme : i = mid := by have : ¬ ((i : Int) < mid) := by simpa using h3
                                   omega
          exact hJ _ _ _ ⟨rfl, by simp [u0], by simp [u3], by simp [u4], by simp [u18], by simp [u24], hk2, _, hr2, by rw [← hme]; exact srtL a i (by omega) (by omega), Same.refl _ _ _⟩
      · have d1 : decide ((a : Int) < i) = false := by simp; omega
        have hai : a = i := by omega
        simp only [d1, gM_f, pkV_f, ov_s, cd_b]
        refine ⟨fun h3 => (by cases h3), fun _ => ?_⟩
        exact hJ _ _ _ ⟨rfl, by simp [u0], by simp [u3], by simp [u4], by simp [u18], by simp [u24], hk2, _, hr2, by rw [hai]; exact srtM1, Same.refl _ _ _⟩
    rintro m' w h3 ⟨rfl, w0, w3, w4, w18, w24, hk3, F, hr3, hs3, hsm3⟩
    have hFo : ∀ k, k < n → ok (F k) := fun k hkn => by
      by_cases c1 : a ≤ k ∧ k < mid
      · obtain ⟨q, q1, q2, q3⟩ := hsm3.to k c1.1 c1.2
        rw [q3]; exact hEo q (by omega)
      · rw [hsm3.out k c1]; exact hEo k hkn
    have hFr : ∀ k, mid ≤ k → F k = rotD D i m e k := fun k hk' => hsm3.out k (by omega)
    have fin : ∀ G, Same mid b F G → Srt key G mid b → Srt key G a b ∧ Same a b D G := fun G sG oG => by
      obtain ⟨x, y⟩ := two_halves (show a ≤ mid by omega) (show mid ≤ b by omega) hsm3 sG hs3 oG hcross
      exact ⟨x, hsD.trans y⟩
    unfold d_slices_symMergeCmpFunc_int_46
    simp only [w18, w24, w3, w0, w4, bin_lss, ov_s, isB_b, beq_true]
    by_cases c1 : mid < e
    · have d1 : decide ((mid : Int) < e) = true := by simp; omega
      simp only [d1, gM_t, bin_lss, ov_s, pkV_t, cd_b]
      refine ⟨fun h4 => ?_, fun h4 => ?_⟩
      · have hme : e < b := by have : ((e : Int) < b) := by simpa using h4
                               omega
        unfold d_slices_symMergeCmpFunc_int_47
        simp only [w18, w24, w3, w0, w4]
        refine ih (by omega) hr3 (h0k.trans hk3) hFo c1 hme (by omega) ⟨fun p q h5 h6 h7 => by rw [hFr p h5, hFr q (by omega)]; exact srtM2 p q h5 h6 h7, fun p q h5 h6 h7 => by rw [hFr p (by omega), hFr q (by omega)]; exact srtR p q h5 h6 h7,
          fun p q h5 h6 h7 h8 => by rw [hFr p h5, hFr q (by omega)]; exact idx2 p q h5 h6 h7 h8⟩ fun h5 G hk5 hr5 hs5 hsm5 => ?_
        unfold d_slices_symMergeCmpFunc_int_48
        obtain ⟨x, y⟩ := fin G hsm5 hs5
        simp
        exact hk h5 G (hk3.trans hk5) hr5 x y
      · have hme : e = b := by have : ¬ ((e : Int) < b) := by simpa using h4
                               omega
        obtain ⟨x, y⟩ := fin F (Same.refl _ _ _) (fun p q h5 h6 h7 => by rw [hFr p h5, hFr q (by omega)]; exact srtM2 p q h5 h6 (by omega))
        simp
        exact hk h3 F hk3 hr3 x y
    · have d1 : decide ((mid : Int) < e) = false := by simp; omega
      have hme : mid = e := by omega
      simp only [d1, gM_f, pkV_f, ov_s, cd_b]
      refine ⟨fun h4 => (by cases h4), fun _ => ?_⟩
      obtain ⟨x, y⟩ := fin F (Same.refl _ _ _) (fun p q h5 h6 h7 => by rw [hFr p h5, hFr q (by omega)]; exact srtR p q (by omega) h6 h7)
      simp
      exact hk h3 F hk3 hr3 x y
end Go.Proofs.Ytfeglbniahebaaa

namespace Go.Proofs.Ytfeglbniahebaaa
open Go Go.Den Go.MapKept
set_option linter.unusedSimpArgs false
set_option linter.unusedVariables false
theorem insertion_nil {h : Heap} {v c : Value} {n : Nat} (hn : n ≤ 1000000) {K : Value → Heap → Prop} (hk : K (.tuple #[]) h) : callM P fn_slices_insertionSortCmpFunc_int #[v, .int .i64 n, .int .i64 n, c] h K := by
  apply e_slices_insertionSortCmpFunc_int
  unfold d_slices_insertionSortCmpFunc_int
  have w1 : IntKind.i64.wrap ((n : Int) + 1) = (n + 1 : Nat) := by rw [i64w (by omega) (by omega)]; omega
  simp only [bin_add, ov_s, w1]
  refine loop_on [2, 8] (fun s h' => h' = h) (fun _ _ => 0) rfl ?_
  rintro s h1 hf rfl
  have s2 : s 2 = .int .i64 n := by simpa using hf 2 (by simp)
  have s8 : s 8 = .int .i64 (n + 1 : Nat) := by have := hf 8 (by simp); simp only [puts_env, lk, Nat.reduceEqDiff, if_false, if_true, Option.getD_some] at this; exact this
  unfold d_slices_insertionSortCmpFunc_int_1
  simp only [s2, s8, bin_lss, ov_s, cd_b]
  refine ⟨fun hc => ?_, fun hc => ?_⟩
  · have : ((n + 1 : Nat) : Int) < n := by simpa using hc
    omega
  · simp; exact hk
/-- The same numbers there, perhaps in another order. -/
def El (lo hi : Nat) (D E : Nat → Int) : Prop := (∀ k, lo ≤ k → k < hi → ∃ i, lo ≤ i ∧ i < hi ∧ E k = D i) ∧ ∀ k, lo ≤ k → k < hi → ∃ i, lo ≤ i ∧ i < hi ∧ D k = E i
def Gd (key : Int → Int) (D E : Nat → Int) (lo hi : Nat) : Prop := Srt key E lo hi ∧ El lo hi D E
inductive Blks (G : Nat → Nat → Prop) (k n : Nat) : Nat → Prop
  | done {a : Nat} : n ≤ a → Blks G k n a
  | step {a : Nat} : a < n → G a (min (a + k) n) → Blks G k n (a + k) → Blks G k n a
inductive Pre (G : Nat → Nat → Prop) (k n : Nat) : Nat → Prop
  | zero : Pre G k n 0
  | snoc {a : Nat} : Pre G k n a → a + k ≤ n → G a (a + k) → Pre G k n (a + k)
theorem Pre.join {G : Nat → Nat → Prop} {k n : Nat} (hk : 0 < k) : ∀ {a : Nat}, Pre G k n a → Blks G k n a → Blks G k n 0 := by
  intro a p
  induction p with
  | zero => exact id
  | snoc p h g ih => exact fun b => ih (.step (by omega) (by rw [Nat.min_eq_left h]; exact g) b)
theorem Blks.mono {G G' : Nat → Nat → Prop} {k n : Nat} : ∀ {a : Nat}, Blks G k n a → (∀ lo hi, a ≤ lo → hi ≤ n → G lo hi → G' lo hi) → Blks G' k n a := by
  intro a b
  induction b with
  | done h => exact fun _ => .done h
  | step h g _ ih => exact fun f => .step h (f _ _ (Nat.le_refl _) (Nat.min_le_right _ _) g) (ih fun lo hi h1 => f lo hi (by omega))
theorem Pre.mono {G G' : Nat → Nat → Prop} {k n : Nat} : ∀ {a : Nat}, Pre G k n a → (∀ lo hi, hi ≤ a → G lo hi → G' lo hi) → Pre G' k n a := by
  intro a p
  induction p with
  | zero => exact fun _ => .zero
  | snoc p h g ih => exact fun f => .snoc (ih fun lo hi h1 => f lo hi (by omega)) h (f _ _ (Nat.le_refl _) g)
theorem Blks.inv {G : Nat → Nat → Prop} {k n a : Nat} (b : Blks G k n a) (h : a < n) : G a (min (a + k) n) ∧ Blks G k n (a + k) := by
  cases b with
  | done h' => omega
  | step _ g r => exact ⟨g, r⟩
theorem Gd.keep {key : Int → Int} {D E F : Nat → Int} {lo hi : Nat} (g : Gd key D E lo hi) (e : ∀ k, lo ≤ k → k < hi → F k = E k) : Gd key D F lo hi := by
  refine ⟨fun i j h1 h2 h3 => by rw [e i h1 (by omega), e j (by omega) h3]; exact g.1 i j h1 h2 h3, fun k h1 h2 => ?_, fun k h1 h2 => ?_⟩
  · rw [e k h1 h2]; exact g.2.1 k h1 h2
  · obtain ⟨i, i1, i2, i3⟩ := g.2.2 k h1 h2
    exact ⟨i, i1, i2, by rw [e i i1 i2]; exact i3⟩
theorem El.join {D E : Nat → Int} {lo m hi : Nat} (h1 : lo ≤ m) (h2 : m ≤ hi) (x : El lo m D E) (y : El m hi D E) : El lo hi D E := by
  refine ⟨fun k k1 k2 => ?_, fun k k1 k2 => ?_⟩
  · by_cases c : k < m
    · obtain ⟨i, a, b, d⟩ := x.1 k k1 c; exact ⟨i, a, by omega, d⟩
    · obtain ⟨i, a, b, d⟩ := y.1 k (by omega) k2; exact ⟨i, by omega, b, d⟩
  · by_cases c : k < m
    · obtain ⟨i, a, b, d⟩ := x.2 k k1 c; exact ⟨i, a, by omega, d⟩
    · obtain ⟨i, a, b, d⟩ := y.2 k (by omega) k2; exact ⟨i, by omega, b, d⟩
theorem El.same {D E F : Nat → Int} {lo hi : Nat} (x : El lo hi D E) (y : Same lo hi E F) : El lo hi D F := by
  refine ⟨fun k k1 k2 => ?_, fun k k1 k2 => ?_⟩
  · obtain ⟨i, a, b, d⟩ := y.to k k1 k2
    obtain ⟨j, a', b', d'⟩ := x.1 i a b
    exact ⟨j, a', b', d.trans d'⟩
  · obtain ⟨i, a, b, d⟩ := x.2 k k1 k2
    obtain ⟨j, a', b', d'⟩ := y.fro i a b
    exact ⟨j, a', b', d.trans d'⟩
theorem Gd.mrg {key : Int → Int} {D E : Nat → Int} {n lo m hi : Nat} (hinc : ∀ p q, p < q → q < n → D p < D q) (hn : hi ≤ n) (x : Gd key D E lo m) (y : Gd key D E m hi) : Mrg key E lo m hi :=
  ⟨x.1, y.1, fun p q p1 p2 q1 q2 => by
    obtain ⟨i, i1, i2, i3⟩ := x.2.1 p p1 p2
    obtain ⟨j, j1, j2, j3⟩ := y.2.1 q q1 q2
    rw [i3, j3]; exact hinc i j (by omega) (by omega)⟩
theorem okAll {ok : Int → Prop} {n a b : Nat} {D E : Nat → Int} (h : ∀ k, k < n → ok (D k)) (hb : b ≤ n) (s : Same a b D E) : ∀ k, k < n → ok (E k) := fun k hk => by
  by_cases c : a ≤ k ∧ k < b
  · obtain ⟨i, i1, i2, i3⟩ := s.to k c.1 c.2; rw [i3]; exact h i (by omega)
  · rw [s.out k c]; exact h k hk
set_option maxHeartbeats 8000000 in
theorem stable_ok {key : Int → Int} {ok : Int → Prop} {h0 h : Heap} {v c : Value} {n : Nat} {D : Nat → Int} (r : RowD h v n D) (hn : n ≤ 1000000) (hc : Cmp (rowOf v) h0 c key ok) (h0k : Keep (rowOf v) h0 h)
    (hok : ∀ k, k < n → ok (D k)) (hinc : ∀ p q, p < q → q < n → D p < D q) {K : Value → Heap → Prop}
    (hk : ∀ h' D', Keep (rowOf v) h h' → RowD h' v n D' → Gd key D D' 0 n → K (.tuple #[]) h') : callM P fn_slices_stableCmpFunc_int #[v, .int .i64 n, c] h K := by
  apply e_slices_stableCmpFunc_int
  unfold d_slices_stableCmpFunc_int
  rw [seqM_eq]
  unfold d_slices_stableCmpFunc_int_1
  refine loop_on [0, 1, 2, 6] (fun s h' => Keep (rowOf v) h h' ∧ ∃ (a : Nat) (E : Nat → Int), a ≤ n ∧ s 7 = .int .i64 a ∧ s 8 = .int .i64 (a + 20 : Nat) ∧ RowD h' v n E ∧ (∀ k, k < n → ok (E k)) ∧ (∀ k, a ≤ k → E k = D k) ∧ Pre (Gd key D E) 20 n a) (fun s _ => (n - num (s 7)).toNat)
    ⟨fun _ _ e _ => e, 0, D, by omega, rfl, rfl, r, hok, fun _ _ => rfl, .zero⟩ ?_
  rintro s h1 hf ⟨hk1, a, E, han, s7, s8, hr, hEo, hED, hpre⟩
  have s0 : s 0 = v := by simpa using hf 0 (by simp)
  have s1 : s 1 = .int .i64 n := by simpa using hf 1 (by simp)
  have s2 : s 2 = c := by simpa using hf 2 (by simp)
  have s6 : s 6 = .int .i64 (20 : Nat) := by simpa using hf 6 (by simp)
  unfold d_slices_stableCmpFunc_int_2
  simp only [s8, s1, bin_leq, ov_s, cd_b]
  refine ⟨fun hcc => ?_, fun hcc => ?_⟩
  · have hlt : a + 20 ≤ n := by have : ((a + 20 : Nat) : Int) ≤ n := by simpa using hcc
                                omega
    unfold d_slices_stableCmpFunc_int_3
    simp only [s0, s7, s8, s2]
    refine insertion_ok hr hn hc (h0k.trans hk1) hEo (show a < a + 20 by omega) hlt (fun p q p1 p2 p3 => by rw [hED p p1, hED q (by omega)]; exact hinc p q p2 (by omega)) fun h2 E' hk2 hr2 hs2 hsm2 => ?_
    unfold d_slices_stableCmpFunc_int_4
    have w1 : IntKind.i64.wrap (((a + 20 : Nat) : Int) + (20 : Nat)) = (a + 20 + 20 : Nat) := by rw [i64w (by omega) (by omega)]; omega
    simp only [s8, s6, bin_add, ov_s, w1, lpM_n]
    refine ⟨⟨trivial, by simp [s0, s1, s2, s6], hk1.trans hk2, a + 20, E', hlt, by simp, by simp, hr2, okAll hEo hlt hsm2, fun k hk' => (hsm2.out k (by omega)).trans (hED k (by omega)), ?_⟩, ?_⟩
    · have hG : Gd key D E' a (a + 20) := ⟨hs2, El.same (D := D) (E := E) ⟨fun k k1 k2 => ⟨k, k1, k2, hED k k1⟩, fun k k1 k2 => ⟨k, k1, k2, (hED k k1).symm⟩⟩ hsm2⟩
      exact .snoc (hpre.mono fun lo hi h1 g => g.keep fun k k1 k2 => hsm2.out k (by omega)) hlt hG
    · rw [s7]; simp; omega
  have hgt : n < a + 20 := by have : ¬ ((a + 20 : Nat) : Int) ≤ n := by simpa using hcc
                              omega
  simp only [lpM_e, blkM_e, if_true, thenM_n]
  unfold d_slices_stableCmpFunc_int_5
  simp only [puts_env, lk, Nat.reduceEqDiff, if_false, Option.getD_none, s0, s1, s2, s7]
  have stage2 : ∀ h2 E2, Keep (rowOf v) h h2 → RowD h2 v n E2 → (∀ k, k < n → ok (E2 k)) → Blks (Gd key D E2) 20 n 0 → ∀ v11, d_slices_stableCmpFunc_int_6 [] (puts s [(11, .int .i64 (a + 20 : Nat)), (12, .int .i64 n), (13, .bool (decide (((a + 20 : Nat) : Int) ≤ n)))]) v11 h2 K := by
    intro h2 E2 hk2 hr2 hEo2 hB v11
    unfold d_slices_stableCmpFunc_int_6
    refine loop_on [0, 1, 2] (fun s h' => Keep (rowOf v) h h' ∧ ∃ (bs : Nat) (E : Nat → Int), 0 < bs ∧ bs ≤ 4000000 ∧ s 6 = .int .i64 bs ∧ RowD h' v n E ∧ (∀ k, k < n → ok (E k)) ∧ Blks (Gd key D E) bs n 0) (fun s _ => (n - num (s 6)).toNat)
      ⟨hk2, 20, E2, by omega, by omega, by simp [s6], hr2, hEo2, hB⟩ ?_
    rintro t h3 hft ⟨hk3, bs, F, hbs0, hbs, t6, hr3, hFo, hBF⟩
    have t0 : t 0 = v := by simpa [s0] using hft 0 (by simp)
    have t1 : t 1 = .int .i64 n := by simpa [s1] using hft 1 (by simp)
    have t2 : t 2 = c := by simpa [s2] using hft 2 (by simp)
    unfold d_slices_stableCmpFunc_int_7
    simp only [t6, t1, bin_lss, ov_s, cd_b]
    refine ⟨fun hcb => ?_, fun hcb => ?_⟩
    rotate_left
    · have hge : n ≤ bs := by have : ¬ ((bs : Int) < n) := by simpa using hcb
                              omega
      simp
      refine hk h3 F hk3 hr3 ?_
      by_cases hn0 : n = 0
      · exact ⟨fun i j _ _ h => by omega, fun k _ h => by omega, fun k _ h => by omega⟩
      · have := (hBF.inv (by omega)).1
        rwa [Nat.zero_add, Nat.min_eq_right hge] at this
    have hlt : bs < n := by have : ((bs : Int) < n) := by simpa using hcb
                            omega
    unfold d_slices_stableCmpFunc_int_8
    have w2 : IntKind.i64.wrap ((2 : Int) * bs) = (2 * bs : Nat) := by rw [i64w (by omega) (by omega)]; omega
    simp only [t6, bin_mul, ov_s, w2]
    rw [seqM_eq]
    unfold d_slices_stableCmpFunc_int_9
    refine loop_on [0, 1, 2, 6] (fun s h' => Keep (rowOf v) h h' ∧ ∃ (x : Nat) (E : Nat → Int), x ≤ n ∧ s 7 = .int .i64 x ∧ s 8 = .int .i64 (x + 2 * bs : Nat) ∧ RowD h' v n E ∧ (∀ k, k < n → ok (E k)) ∧ Pre (Gd key D E) (2 * bs) n x ∧ Blks (Gd key D E) bs n x) (fun s _ => (n - num (s 7)).toNat)
      ⟨hk3, 0, F, by omega, rfl, by simp, hr3, hFo, .zero, hBF⟩ ?_
    rintro u h4 hfu ⟨hk4, x, E, hxn, u7, u8, hr4, hEo4, hpre4, hB4⟩
    have u0 : u 0 = v := by simpa [t0] using hfu 0 (by simp)
    have u1 : u 1 = .int .i64 n := by simpa [t1] using hfu 1 (by simp)
    have u2 : u 2 = c := by simpa [t2] using hfu 2 (by simp)
    have u6 : u 6 = .int .i64 bs := by simpa [t6] using hfu 6 (by simp)
    unfold d_slices_stableCmpFunc_int_10
    simp only [u8, u1, bin_leq, ov_s, cd_b]
    have wx : IntKind.i64.wrap ((x : Int) + bs) = (x + bs : Nat) := by rw [i64w (by omega) (by omega)]; omega
    refine ⟨fun hcx => ?_, fun hcx => ?_⟩
    · have hle : x + 2 * bs ≤ n := by have : ((x + 2 * bs : Nat) : Int) ≤ n := by simpa using hcx
                                      omega
      obtain ⟨G1, B1⟩ := hB4.inv (by omega)
      obtain ⟨G2, B2⟩ := B1.inv (by omega)
      rw [Nat.min_eq_left (by omega)] at G1
      rw [Nat.min_eq_left (by omega), show x + bs + bs = x + 2 * bs by omega] at G2
      rw [show x + bs + bs = x + 2 * bs by omega] at B2
      unfold d_slices_stableCmpFunc_int_11
      simp only [u7, u6, u0, u2, u8, bin_add, ov_s, wx]
      refine symMerge_ok hn hc (2 * bs) (by omega) hr4 (h0k.trans hk4) hEo4 (by omega) (by omega) hle (Gd.mrg hinc hle G1 G2) fun h5 E' hk5 hr5 hs5 hsm5 => ?_
      unfold d_slices_stableCmpFunc_int_12
      have w4 : IntKind.i64.wrap (((x + 2 * bs : Nat) : Int) + (2 * bs : Nat)) = (x + 2 * bs + 2 * bs : Nat) := by rw [i64w (by omega) (by omega)]; omega
      simp only [u6, u8, bin_mul, ov_s, w2, bin_add, w4, lpM_n]
      refine ⟨⟨trivial, by simp [u0, u1, u2, u6, t0, t1, t2, t6], hk4.trans hk5, x + 2 * bs, E', hle, by simp, by simp, hr5, okAll hEo4 hle hsm5, ?_, ?_⟩, ?_⟩
      · exact .snoc (hpre4.mono fun lo hi h1 g => g.keep fun k k1 k2 => hsm5.out k (by omega)) hle ⟨hs5, (G1.2.join (by omega) (by omega) G2.2).same hsm5⟩
      · exact B2.mono fun lo hi h1 h2 g => g.keep fun k k1 k2 => hsm5.out k (by omega)
      · rw [u7]; simp; omega
    have hgt2 : n < x + 2 * bs := by have : ¬ ((x + 2 * bs : Nat) : Int) ≤ n := by simpa using hcx
                                     omega
    simp only [lpM_e, blkM_e, if_true, thenM_n]
    unfold d_slices_stableCmpFunc_int_13
    refine seq_cut (fun m' s' h' => m' = [] ∧ s' 0 = v ∧ s' 1 = .int .i64 n ∧ s' 2 = c ∧ s' 6 = .int .i64 bs ∧ Keep (rowOf v) h h' ∧ ∃ E, RowD h' v n E ∧ (∀ k, k < n → ok (E k)) ∧ Blks (Gd key D E) (2 * bs) n 0) (fun J hJ _ _ => ?_) ?_
    rotate_left
    · rintro m' w h6 ⟨rfl, w0, w1, w2', w6, hk6, E6, hr6, hEo6, hB6⟩
      have w7 : IntKind.i64.wrap ((bs : Int) * 2) = (bs * 2 : Nat) := by rw [i64w (by omega) (by omega)]; omega
      simp only [w6, bin_mul, ov_s, w7]
      simp [w0, w1, w2', w6, s0, s1, s2, t0, t1, t2]
      exact ⟨⟨hk6, bs * 2, by omega, by omega, by simp, E6, hr6, hEo6, by rw [Nat.mul_comm]; exact hB6⟩, by rw [t6]; simp; omega⟩
    unfold d_slices_stableCmpFunc_int_14
    simp only [puts_env, lk, Nat.reduceEqDiff, if_false, Option.getD_none, u7, u6, u1, bin_add, ov_s, wx, bin_lss, cd_b]
    refine ⟨fun hcm => ?_, fun hcm => ?_⟩
    · have hml : x + bs < n := by have : ((x + bs : Nat) : Int) < n := by simpa using hcm
                                  omega
      obtain ⟨G1, B1⟩ := hB4.inv (by omega)
      obtain ⟨G2, B2⟩ := B1.inv (by omega)
      rw [Nat.min_eq_left (by omega)] at G1
      rw [Nat.min_eq_right (by omega)] at G2
      unfold d_slices_stableCmpFunc_int_15
      simp only [puts_env, lk, Nat.reduceEqDiff, if_false, Option.getD_none, u7, u1, u0, u2]
      refine symMerge_ok hn hc (2 * bs) (by omega) hr4 (h0k.trans hk4) hEo4 (by omega) hml (Nat.le_refl _) (Gd.mrg hinc (Nat.le_refl _) G1 G2) fun h5 E' hk5 hr5 hs5 hsm5 => ?_
      unfold d_slices_stableCmpFunc_int_16
      refine hJ _ _ _ ⟨rfl, by simp [u0], by simp [u1], by simp [u2], by simp [u6], hk4.trans hk5, E', hr5, okAll hEo4 (Nat.le_refl _) hsm5, ?_⟩
      have hp := hpre4.mono (G' := Gd key D E') fun lo hi h1 g => g.keep fun k k1 k2 => hsm5.out k (by omega)
      refine hp.join (by omega) (.step (by omega) ?_ (.done (by omega)))
      rw [Nat.min_eq_right (by omega)]
      exact ⟨hs5, (G1.2.join (by omega) (by omega) G2.2).same hsm5⟩
    · have hml : n ≤ x + bs := by have : ¬ ((x + bs : Nat) : Int) < n := by simpa using hcm
                                  omega
      refine hJ _ _ _ ⟨rfl, by simp [u0], by simp [u1], by simp [u2], by simp [u6], hk4, E, hr4, hEo4, hpre4.join (by omega) ?_⟩
      by_cases hx : x < n
      · obtain ⟨G1, B1⟩ := hB4.inv hx
        rw [Nat.min_eq_right (by omega)] at G1
        exact .step hx (by rw [Nat.min_eq_right (by omega)]; exact G1) (.done (by omega))
      · exact .done (by omega)
  by_cases hlt : a < n
  · refine insertion_ok hr hn hc (h0k.trans hk1) hEo hlt (Nat.le_refl _) (fun p q p1 p2 p3 => by rw [hED p p1, hED q (by omega)]; exact hinc p q p2 p3) fun h2 E' hk2 hr2 hs2 hsm2 => ?_
    refine stage2 h2 E' (hk1.trans hk2) hr2 (okAll hEo (Nat.le_refl _) hsm2) ?_ _
    have hG : Gd key D E' a n := ⟨hs2, El.same (D := D) (E := E) ⟨fun k k1 k2 => ⟨k, k1, k2, hED k k1⟩, fun k k1 k2 => ⟨k, k1, k2, (hED k k1).symm⟩⟩ hsm2⟩
    have hp := hpre.mono (G' := Gd key D E') fun lo hi h1 g => g.keep fun k k1 k2 => hsm2.out k (by omega)
    exact hp.join (by omega) (.step hlt (by rw [Nat.min_eq_right (by omega)]; exact hG) (.done (by omega)))
  · have : a = n := by omega
    subst this
    exact insertion_nil hn (stage2 h1 E hk1 hr hEo (hpre.join (by omega) (.done (Nat.le_refl _))) _)
theorem row_lnV {sz : Nat} {e : TypeId} {h : Heap} {v : Value} {n : Nat} {xs : List Value} (r : Row sz e h v n xs) : lnV 7 v = some (.int .i64 n) := by
  rcases r.2 with ⟨rfl, h0⟩ | ⟨g, cap, cur, rfl, _⟩
  · rw [h0]; rfl
  · rfl
theorem sortStable_ok {key : Int → Int} {ok : Int → Prop} {h : Heap} {v c : Value} {n : Nat} {D : Nat → Int} (r : RowD h v n D) (hn : n ≤ 1000000) (hc : Cmp (rowOf v) h c key ok)
    (hok : ∀ k, k < n → ok (D k)) (hinc : ∀ p q, p < q → q < n → D p < D q) {K : Value → Heap → Prop}
    (hk : ∀ h' D', Keep (rowOf v) h h' → RowD h' v n D' → Gd key D D' 0 n → K (.tuple #[]) h') : callM P fn_slices_SortStableFunc_int_int #[v, c] h K := by
  apply e_slices_SortStableFunc_int_int
  unfold d_slices_SortStableFunc_int_int
  simp only [row_lnV r, ov_s]
  exact stable_ok r hn hc (fun _ _ e _ => e) hok hinc hk
end Go.Proofs.Ytfeglbniahebaaa
