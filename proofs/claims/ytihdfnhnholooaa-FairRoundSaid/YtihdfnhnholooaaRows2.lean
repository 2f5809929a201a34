/- Picks are fair by k just if each window of k of them has everybody among them; contracts of the laws FairRows and FairMore. No condition beyond the hypotheses that each theorem states. -/
import Derived.Test.YtihdfnhnholooaaFair
set_option linter.unusedSimpArgs false
set_option linter.unusedVariables false
namespace Go.Proofs.Ytihdfnhnholooaa
open Go Go.Den
set_option linter.unusedSimpArgs false
/-- How long, at the end of a list, someone was not picked. -/
def gap (c who : Int) (l : List Pick) : Int := (run c who l 0).1
theorem run_fst (c who : Int) (l : List Pick) (most : Int) : (run c who l most).1 = gap c who l := by
  unfold gap run
  suffices ∀ (l : List Pick) (s t : Int × Int), s.1 = t.1 → (l.foldl (stp c who) s).1 = (l.foldl (stp c who) t).1 from this l _ _ rfl
  intro l
  induction l with
  | nil => intro s t h; exact h
  | cons p l ih => intro s t h; exact ih _ _ (by simp [stp, h])
theorem gap_snoc (c who : Int) (l : List Pick) (p : Pick) : gap c who (l ++ [p]) = if isP p c who then 0 else gap c who l + 1 := by
  unfold gap; rw [run_snoc]; simp only [stp]
theorem gap_lt (c who : Int) (m : Nat) (hm : 0 < m) (l : List Pick) : (m : Int) ≤ gap c who l ↔ m ≤ l.length ∧ ∀ p ∈ l.drop (l.length - m), isP p c who = false := by
  obtain ⟨r, rfl⟩ : ∃ r : List Pick, l = r.reverse := ⟨l.reverse, by simp⟩
  induction r generalizing m with
  | nil => simp [gap, run]
  | cons p r ih =>
    rw [List.reverse_cons, gap_snoc]
    have hb := (run_bd c who r.reverse 0).1
    by_cases hp : isP p c who = true
    · simp only [hp, if_true]
      constructor
      · intro h; omega
      · rintro ⟨h1, h2⟩
        have := h2 p (by
          have hd : (r.reverse ++ [p]).drop ((r.reverse ++ [p]).length - m) = (r.reverse.drop (r.length + 1 - m)) ++ [p] := by
            rw [List.drop_append_of_le_length (by simp; omega)]
            simp
          rw [hd]; simp)
        rw [hp] at this; cases this
    · simp only [hp, if_false]
      have hp' : isP p c who = false := by simpa using hp
      by_cases hm1 : m = 1
      · subst hm1
        have hg : 0 ≤ gap c who r.reverse := hb
        constructor
        · intro _
          refine ⟨by simp, fun q hq => ?_⟩
          have : (r.reverse ++ [p]).drop ((r.reverse ++ [p]).length - 1) = [p] := by
            rw [List.drop_append_of_le_length (by simp)]
            simp
          rw [this] at hq
          simp at hq; subst hq; exact hp'
        · intro _; simp; omega
      · obtain ⟨k, rfl⟩ : ∃ k, m = k + 1 := ⟨m - 1, by omega⟩
        have hk := ih k (by omega)
        have e : ((k + 1 : Nat) : Int) ≤ gap c who r.reverse + 1 ↔ (k : Int) ≤ gap c who r.reverse := by omega
        rw [show (if false = true then (0 : Int) else gap c who r.reverse + 1) = gap c who r.reverse + 1 by simp, e, hk]
        have hd : (r.reverse ++ [p]).drop ((r.reverse ++ [p]).length - (k + 1)) = (r.reverse.drop (r.reverse.length - k)) ++ [p] := by
          rw [List.drop_append_of_le_length (by simp)]
          congr 2
          simp
        rw [hd]
        constructor
        · rintro ⟨h1, h2⟩
          refine ⟨by simp at h1 ⊢; omega, fun q hq => ?_⟩
          rcases List.mem_append.1 hq with hq | hq
          · exact h2 q hq
          · simp at hq; subst hq; exact hp'
        · rintro ⟨h1, h2⟩
          exact ⟨by simp at h1 ⊢; omega, fun q hq => h2 q (List.mem_append_left _ hq)⟩
theorem run_lt (c who : Int) (m : Int) (most : Int) (l : List Pick) : (run c who l most).2 < m ↔ most < m ∧ ∀ j, j ≤ l.length → 0 < j → gap c who (l.take j) < m := by
  obtain ⟨r, rfl⟩ : ∃ r : List Pick, l = r.reverse := ⟨l.reverse, by simp⟩
  induction r with
  | nil => simp [run]
  | cons p r ih =>
    rw [List.reverse_cons, run_snoc]
    have e : (stp c who (run c who r.reverse most) p).2 = max (run c who r.reverse most).2 (gap c who (r.reverse ++ [p])) := by
      rw [gap_snoc]; simp only [stp, run_fst]
    rw [e]
    have : max (run c who r.reverse most).2 (gap c who (r.reverse ++ [p])) < m ↔ (run c who r.reverse most).2 < m ∧ gap c who (r.reverse ++ [p]) < m := by omega
    rw [this, ih]
    constructor
    · rintro ⟨⟨h1, h2⟩, h3⟩
      refine ⟨h1, fun j hj h0 => ?_⟩
      by_cases hl : j ≤ r.reverse.length
      · rw [List.take_append_of_le_length hl]; exact h2 j hl h0
      · have : j = (r.reverse ++ [p]).length := by simp at hj hl ⊢; omega
        rw [this, List.take_length]; exact h3
    · rintro ⟨h1, h2⟩
      refine ⟨⟨h1, fun j hj h0 => ?_⟩, ?_⟩
      · have := h2 j (by simp at hj ⊢; omega) h0
        rwa [List.take_append_of_le_length hj] at this
      · have := h2 (r.reverse ++ [p]).length (Nat.le_refl _) (by simp)
        rwa [List.take_length] at this
theorem outer_lt (c : Int) (l : List Pick) (m : Int) (hm : 0 < m) : ∀ k, outer c l k < m ↔ ∀ w : Nat, w < k → ∀ j, j ≤ l.length → 0 < j → gap c w (l.take j) < m
  | 0 => by simp [outer, hm]
  | k + 1 => by
    rw [outer, run_lt, outer_lt c l m hm k]
    constructor
    · rintro ⟨h1, h2⟩ w hw j hj h0
      by_cases e : w = k
      · subst e; exact h2 j hj h0
      · exact h1 w (by omega) j hj h0
    · intro h
      exact ⟨fun w hw => h w (by omega), h k (by omega)⟩
/-- Fair, by windows. -/
theorem fair_iff (l : List Pick) (n m : Nat) (hm : 0 < m) : fairB l n m = true ↔ ∀ w : Nat, w ≤ n → ∀ i, i + m ≤ l.length → ∃ p ∈ (l.drop i).take m, isP p n w = true := by
  have h0 : max (n : Int) 0 = n := by omega
  have hm' : (0 : Int) < m := by omega
  simp only [fairB, hm', decide_true, Bool.true_and, decide_eq_true_eq, longest, h0, Int.toNat_natCast]
  rw [outer_lt n l m hm']
  constructor
  · intro h w hw i hi
    have h1 := h w (by omega) (i + m) hi (by omega)
    have h2 := mt (gap_lt n w m hm (l.take (i + m))).2 (by omega)
    have hl : (l.take (i + m)).length = i + m := by simp; omega
    have hd : (l.take (i + m)).drop ((l.take (i + m)).length - m) = (l.drop i).take m := by
      rw [hl, show i + m - m = i by omega, List.drop_take, show i + m - i = m by omega]
    rw [hd, hl] at h2
    have h3 : ¬ ∀ p ∈ (l.drop i).take m, isP p n w = false := fun h4 => h2 ⟨by omega, h4⟩
    simpa using h3
  · intro h w hw j hj h0
    by_cases hlt : gap n w (l.take j) < m
    · exact hlt
    · exfalso
      have hl : (l.take j).length = j := by simp; omega
      obtain ⟨h1, h2⟩ := (gap_lt n w m hm (l.take j)).1 (by omega)
      rw [hl] at h1 h2
      obtain ⟨p, hp, hq⟩ := h w (by omega) (j - m) (by omega)
      have hd : (l.take j).drop (j - m) = (l.drop (j - m)).take m := by rw [List.drop_take]; congr 1; omega
      rw [hd] at h2
      rw [h2 p hp] at hq; cases hq
end Go.Proofs.Ytihdfnhnholooaa

namespace Go.Proofs.Ytihdfnhnholooaa
open Go Go.Den
set_option linter.unusedSimpArgs false
def winB (l : List Pick) (n m i w : Nat) : Bool := ((l.drop i).take m).any (isP · n w)
def rowsB (l : List Pick) (n m k : Nat) : Bool := (List.range k).all fun i => (List.range (n + 1)).all fun w => winB l n m i w
theorem rows_fair (l : List Pick) (n m : Nat) (hm : 0 < m) : fairB l n m = rowsB l n m (l.length + 1 - m) := by
  rw [Bool.eq_iff_iff, fair_iff l n m hm]
  simp only [rowsB, winB, List.all_eq_true, List.mem_range, List.any_eq_true]
  constructor
  · intro h i hi w hw; exact h w (by omega) i (by omega)
  · intro h w hw i hi; exact h i (by omega) w (by omega)
theorem win_step (l : List Pick) (k j : Nat) (hj : j < l.length) (hkj : k ≤ j) (f : Pick → Bool) : ((l.drop k).take (j + 1 - k)).any f = (((l.drop k).take (j - k)).any f || f l[j]) := by
  have hlt : j - k < (l.drop k).length := by simp; omega
  rw [show j + 1 - k = (j - k) + 1 by omega, List.take_succ_eq_append_getElem hlt, List.any_append]
  simp [show k + (j - k) = j by omega]
def midB (l : List Pick) (n m i w : Nat) : Bool := rowsB l n m i && (List.range w).all fun w => winB l n m i w
theorem midB_0 (l : List Pick) (n m i : Nat) : midB l n m i 0 = rowsB l n m i := by simp [midB]
theorem midB_s (l : List Pick) (n m i w : Nat) : midB l n m i (w + 1) = (midB l n m i w && winB l n m i w) := by simp [midB, List.range_succ, Bool.and_assoc]
theorem midB_n (l : List Pick) (n m i : Nat) : midB l n m i (n + 1) = rowsB l n m (i + 1) := by simp [midB, rowsB, List.range_succ]
def metB (l : List Pick) (n i w j : Nat) : Bool := ((l.drop i).take (j - i)).any (isP · n w)
theorem metB_0 (l : List Pick) (n i w : Nat) : metB l n i w i = false := by simp [metB]
theorem metB_s (l : List Pick) (n i w j : Nat) (hj : j < l.length) (h : i ≤ j) : metB l n i w (j + 1) = (metB l n i w j || isP l[j] n w) := win_step l i j hj h _
theorem metB_m (l : List Pick) (n m i w : Nat) : metB l n i w (i + m) = winB l n m i w := by simp [metB, winB]
theorem mod9 {a : Int} (h0 : 0 ≤ a) (h1 : a ≤ 255) : ∃ n : Nat, IntKind.i64.wrap a = a ∧ a.tmod 9 = n ∧ n ≤ 8 := by
  refine ⟨(a.tmod 9).toNat, wrap64_id (by omega) (by omega), ?_, ?_⟩
  · have := Int.tmod_nonneg 9 h0; omega
  · have h := Int.tmod_lt_of_pos a (show (0 : Int) < 9 by omega); omega
theorem mod20 {a : Int} (h0 : 0 ≤ a) (h1 : a ≤ 255) : ∃ m : Nat, IntKind.i64.wrap a = a ∧ IntKind.i64.wrap (1 + a.tmod 20) = m ∧ 0 < m ∧ m ≤ 20 := by
  have hn := Int.tmod_nonneg 20 h0
  have h := Int.tmod_lt_of_pos a (show (0 : Int) < 20 by omega)
  refine ⟨(1 + a.tmod 20).toNat, wrap64_id (by omega) (by omega), ?_, by omega, by omega⟩
  rw [wrap64_id (by omega) (by omega)]; omega
@[simp] theorem bin_rem9 (t : Nat) (c : Bool) (k : IntKind) (a : Int) : binV .rem t c (.int k a) (.int k 9) = some (.int k (a.tmod 9)) := by simp [binV, intV]
@[simp] theorem bin_rem20 (t : Nat) (c : Bool) (k : IntKind) (a : Int) : binV .rem t c (.int k a) (.int k 20) = some (.int k (a.tmod 20)) := by simp [binV, intV]
set_option maxHeartbeats 1000000 in
theorem rows_ok (x0 : Value) (l : List Pick) (a b : Int) {h : Heap} {K : Value → Heap → Prop} (ha : 0 ≤ a ∧ a ≤ 255) (hb : 0 ≤ b ∧ b ≤ 255) (hx : Sl 3 PickR h x0 l)
    (hk : ∀ h', Ext h h' → K (.bool true) h') : callM P 4 #[x0, .int .u8 a, .int .u8 b] h K := by
  apply c_doormanlaw23_FairRows
  unfold b_doormanlaw23_FairRows
  refine awake_ok fun h1 he1 => ?_
  simp only [unV_n, ov_s, Bool.not_true, isB_b, beq_self_eq_true, gM_t, hx.len, bin_gtr, pkV_f, cd_b, cvV_i]
  refine ⟨fun _ => awake_ok fun h3 he3 => hk _ (he1.trans he3), fun hc => ?_⟩
  have hl : l.length ≤ 200 := by have : ¬ (200 : Int) < l.length := by simpa using hc
                                 omega
  obtain ⟨n, hn1, hn2, hn3⟩ := mod9 ha.1 ha.2
  obtain ⟨m, hm1, hm2, hm0, hm3⟩ := mod20 hb.1 hb.2
  simp only [hn1, hn2, hm1, bin_rem9, bin_rem20, ov_s, bin_add, hm2]
  -- behind the loops
  refine seq_cut (fun mm s h' => mm = [] ∧ Ext h h' ∧ s 0 = x0 ∧ s 7 = .int .i64 n ∧ s 8 = .int .i64 m ∧ s 9 = .bool (rowsB l n m (l.length + 1 - m))) (fun J hJ _ _ => ?_) ?_
  rotate_left
  · rintro mm s h' ⟨rfl, he, hs0, hs7, hs8, hs9⟩
    simp only [hs0, hs7, hs8, hs9]
    refine fair_ok x0 l n m (by omega) (by omega) (hx.ext (@PickR.ext) he) fun h6 he6 => ?_
    rw [rows_fair l n m hm0]
    simp
    exact hk h6 (he.trans he6)
  unfold seqM
  refine loop_intro (fun mm s h' => mm = [] ∧ Ext h h' ∧ ∃ i : Nat, s 0 = x0 ∧ s 7 = .int .i64 n ∧ s 8 = .int .i64 m ∧ s 10 = .int .i64 i ∧ i ≤ l.length + 1 - m ∧ s 9 = .bool (rowsB l n m i))
    (fun s _ => (l.length + 1 - num (s 10)).toNat) ⟨rfl, he1, 0, rfl, rfl, rfl, rfl, by omega, rfl⟩ ?_
  rintro mm s h2 ⟨rfl, he2, i, hs0, hs7, hs8, hs10, hil, hs9⟩
  have hx2 := hx.ext (@PickR.ext) he2
  have hw1 : IntKind.i64.wrap ((i : Int) + m) = i + m := wrap64_id (by omega) (by omega)
  simp only [hs0, hs7, hs8, hs9, hs10, bin_add, hx2.len, bin_leq, ov_s, cd_b, hw1]
  refine ⟨fun hc2 => ?_, fun hc2 => ?_⟩
  rotate_left
  · have : ¬ ((i : Int) + m ≤ l.length) := by simpa using hc2
    have hi : i = l.length + 1 - m := by omega
    subst hi
    simp only [lpM_e, blkM_e, if_true]
    exact hJ _ _ _ ⟨rfl, he2, by simp [hs0], by simp [hs7], by simp [hs8], by simp [hs9]⟩
  have him : i + m ≤ l.length := by have : ((i : Int) + m ≤ l.length) := by simpa using hc2
                                    omega
  refine loop_intro (fun mm s h' => mm = [] ∧ Ext h h' ∧ ∃ w : Nat, s 0 = x0 ∧ s 7 = .int .i64 n ∧ s 8 = .int .i64 m ∧ s 10 = .int .i64 i ∧ s 11 = .int .i64 w ∧ w ≤ n + 1 ∧
    s 9 = .bool (midB l n m i w)) (fun s _ => (n + 1 - num (s 11)).toNat) ⟨rfl, he2, 0, hs0, hs7, hs8, hs10, rfl, by omega, by rw [midB_0]; exact hs9⟩ ?_
  rintro mm t h3 ⟨rfl, he3, w, ht0, ht7, ht8, ht10, ht11, hwn, ht9⟩
  simp only [ht0, ht7, ht8, ht9, ht10, ht11, bin_leq, ov_s, cd_b]
  refine ⟨fun hc3 => ?_, fun hc3 => ?_⟩
  rotate_left
  · have : ¬ (w ≤ n) := by simpa using hc3
    have hw : w = n + 1 := by omega
    subst hw
    have hw2 : IntKind.i64.wrap ((i : Int) + 1) = i + 1 := wrap64_id (by omega) (by omega)
    simp [ht0, ht7, ht8, ht9, ht10, hs10, hw2, he3]
    refine ⟨⟨i + 1, by simp, by omega, ?_⟩, by omega⟩
    rw [midB_n]
  have hwn' : w ≤ n := by simpa using hc3
  refine loop_intro (fun mm s h' => mm = [] ∧ Ext h h' ∧ ∃ j : Nat, s 0 = x0 ∧ s 7 = .int .i64 n ∧ s 8 = .int .i64 m ∧ s 10 = .int .i64 i ∧ s 11 = .int .i64 w ∧ s 13 = .int .i64 j ∧ i ≤ j ∧ j ≤ i + m ∧
    s 9 = .bool (midB l n m i w) ∧ s 12 = .bool (metB l n i w j)) (fun s _ => (i + m - num (s 13)).toNat)
    ⟨rfl, he3, i, ht0, ht7, ht8, ht10, ht11, rfl, by omega, by omega, ht9, by rw [metB_0]; rfl⟩ ?_
  rintro mm u h4 ⟨rfl, he4, j, hu0, hu7, hu8, hu10, hu11, hu13, hij, hjm, hu9, hu12⟩
  have hx4 := hx.ext (@PickR.ext) he4
  simp only [hu0, hu7, hu8, hu9, hu10, hu11, hu12, hu13, bin_add, bin_lss, ov_s, cd_b, hw1]
  refine ⟨fun hc4 => ?_, fun hc4 => ?_⟩
  rotate_left
  · have : ¬ ((j : Int) < i + m) := by simpa using hc4
    have hj : j = i + m := by omega
    subst hj
    have hw2 : IntKind.i64.wrap ((w : Int) + 1) = w + 1 := wrap64_id (by omega) (by omega)
    rw [metB_m] at hu12
    simp only [lpM_e, blkM_e, if_true, thenM_n, puts_lk, lk, Nat.reduceEqDiff, if_false, Option.getD_some, Option.getD_none, hu9, hu12, isB_b, hu11, blkM_n, hu0, hu7, hu8, hu10]
    cases hA : midB l n m i w <;> simp [hA, hu11, hw2, hu0, hu7, hu8, hu10, he4, ht11] <;> refine ⟨⟨w + 1, by simp, by omega, ?_⟩, by omega⟩ <;> rw [midB_s, hA] <;> simp
  have hj : j < l.length := by have : ((j : Int) < i + m) := by simpa using hc4
                               omega
  obtain ⟨pb, po, c, hi, hcs, hR⟩ := hx4.at (k := .i64) (i := j) (by omega) (by omega)
  simp only [Int.toNat_natCast] at hR
  unfold PickR at hR
  subst hR
  obtain ⟨_, hcg⟩ := cels_get hcs
  have l0 : cel h4 pb po = some (.int .i64 l[j].kind) := hcg 0 (by simp [pickC])
  have l1 : cel h4 pb (po + 1) = some (.int .i64 l[j].who) := hcg 1 (by simp [pickC])
  have hst := metB_s l n i w j hj hij
  have hw2 : IntKind.i64.wrap ((j : Int) + 1) = j + 1 := wrap64_id (by omega) (by omega)
  have hc4' : j + 1 ≤ i + m := by have : ((j : Int) < i + m) := by simpa using hc4
                                  omega
  have b1 : (l[j].kind == 0) = decide (l[j].kind = 0) := rfl
  have b2 : (l[j].kind == 1) = decide (l[j].kind = 1) := rfl
  have b3 : (l[j].who == w) = decide (l[j].who = w) := rfl
  have b4 : ((w : Int) == n) = decide ((w : Int) = n) := rfl
  cases hA : metB l n i w j
  · rw [hA] at hst
    simp only [Bool.false_or] at hst
    by_cases c1 : w = n
    · subst c1
      have hp : isP l[j] w w = decide (l[j].kind = 1) := by simp [isP, b2]
      by_cases c2 : l[j].kind = 1
      · simp [hi, l0, l1, c2, hw2, hu0, hu7, hu8, hu9, hu10, hu11, hu13, he4]
        first | refine ⟨⟨j + 1, by simp, by omega, by omega, ?_⟩, by omega⟩ | refine ⟨⟨he4, j + 1, by simp, by omega, by omega, ?_⟩, by omega⟩
        rw [hst, hp]; simp [c2]
      · simp [hi, l0, l1, b2, c2, hw2, hu0, hu7, hu8, hu9, hu10, hu11, hu13, he4]
        first | refine ⟨⟨j + 1, by simp, by omega, by omega, ?_⟩, by omega⟩ | refine ⟨⟨he4, j + 1, by simp, by omega, by omega, ?_⟩, by omega⟩
        rw [hst, hp]; simp [c2]
    · have c1' : w < n := by omega
      have c1'' : ¬ (w : Int) = n := by omega
      have b5 : ((w : Int) == n) = false := by rw [b4]; exact decide_eq_false c1''
      have hp : isP l[j] n w = (decide (l[j].kind = 0) && decide (l[j].who = w)) := by simp [isP, c1'', b1, b3]
      by_cases c2 : l[j].kind = 0
      · by_cases c3 : l[j].who = w
        · simp [hi, l0, l1, c2, c1', c3, b5, hw2, hu0, hu7, hu8, hu9, hu10, hu11, hu13, he4]
          first | refine ⟨⟨j + 1, by simp, by omega, by omega, ?_⟩, by omega⟩ | refine ⟨⟨he4, j + 1, by simp, by omega, by omega, ?_⟩, by omega⟩
          rw [hst, hp]; simp [c2, c3]
        · have b6 : (l[j].who == w) = false := by rw [b3]; exact decide_eq_false c3
          simp [hi, l0, l1, c2, c1', b6, b5, hw2, hu0, hu7, hu8, hu9, hu10, hu11, hu13, he4]
          first | refine ⟨⟨j + 1, by simp, by omega, by omega, ?_⟩, by omega⟩ | refine ⟨⟨he4, j + 1, by simp, by omega, by omega, ?_⟩, by omega⟩
          rw [hst, hp]; simp [c2, c3]
      · have b7 : (l[j].kind == 0) = false := by rw [b1]; exact decide_eq_false c2
        simp [hi, l0, l1, b7, c1', b5, hw2, hu0, hu7, hu8, hu9, hu10, hu11, hu13, he4]
        first | refine ⟨⟨j + 1, by simp, by omega, by omega, ?_⟩, by omega⟩ | refine ⟨⟨he4, j + 1, by simp, by omega, by omega, ?_⟩, by omega⟩
        rw [hst, hp]; simp [c2]
  · rw [hA] at hst
    simp only [Bool.true_or] at hst
    simp [hw2, hu0, hu7, hu8, hu9, hu10, hu11, hu13, he4]
    first | refine ⟨⟨j + 1, by simp, by omega, by omega, ?_⟩, by omega⟩ | refine ⟨⟨he4, j + 1, by simp, by omega, by omega, ?_⟩, by omega⟩
    rw [hst]
end Go.Proofs.Ytihdfnhnholooaa

namespace Go.Proofs.Ytihdfnhnholooaa
open Go Go.Den
set_option linter.unusedSimpArgs false
theorem fair_more (l : List Pick) (n m k : Nat) (hm : 0 < m) (h : fairB l n m = true) : fairB l n ((m : Int) + k) = true := by
  have := (fair_iff l n m hm).1 h
  rw [show ((m : Int) + k) = ((m + k : Nat) : Int) by omega, fair_iff l n (m + k) (by omega)]
  intro w hw i hi
  obtain ⟨p, hp, hq⟩ := this w hw i (by omega)
  exact ⟨p, (List.take_subset_take_left _ (by omega)) hp, hq⟩
theorem fair_less (l : List Pick) (n m : Nat) (hm : 0 < m) (h : fairB l (n + 1 : Nat) m = true) : fairB l n m = true := by
  have := (fair_iff l (n + 1) m hm).1 h
  rw [fair_iff l n m hm]
  intro w hw i hi
  by_cases e : w = n
  · subst e
    obtain ⟨p, hp, hq⟩ := this (w + 1) (by omega) i hi
    exact ⟨p, hp, by simpa [isP] using hq⟩
  · obtain ⟨p, hp, hq⟩ := this w (by omega) i hi
    have e1 : ¬ (w : Int) = n := by omega
    have e2 : ¬ (w : Int) = (n + 1 : Nat) := by omega
    exact ⟨p, hp, by simp only [isP, e2, if_false] at hq; simp only [isP, e1, if_false]; exact hq⟩
theorem fair_take (l : List Pick) (n m a : Nat) (hm : 0 < m) (h : fairB l n m = true) : fairB (l.take a) n m = true := by
  have := (fair_iff l n m hm).1 h
  rw [fair_iff _ n m hm]
  intro w hw i hi
  simp only [List.length_take] at hi
  obtain ⟨p, hp, hq⟩ := this w hw i (by omega)
  refine ⟨p, ?_, hq⟩
  rw [List.drop_take, List.take_take, show min m (a - i) = m by omega]
  exact hp
theorem fair_drop (l : List Pick) (n m a : Nat) (hm : 0 < m) (h : fairB l n m = true) : fairB (l.drop a) n m = true := by
  have := (fair_iff l n m hm).1 h
  rw [fair_iff _ n m hm]
  intro w hw i hi
  simp only [List.length_drop] at hi
  by_cases hal : a ≤ l.length
  · obtain ⟨p, hp, hq⟩ := this w hw (a + i) (by omega)
    refine ⟨p, ?_, hq⟩
    rw [List.drop_drop]
    exact hp
  · omega
theorem mod_len {a : Int} {N : Nat} (h0 : 0 ≤ a) (h1 : a ≤ 255) (hN : N ≤ 300) : ∃ c : Nat, IntKind.i64.wrap a = a ∧ IntKind.i64.wrap ((N : Int) + 1) = N + 1 ∧ (¬ (N : Int) + 1 = 0) ∧ a.tmod (N + 1) = c ∧ c ≤ N := by
  have hn := Int.tmod_nonneg (b := (N : Int) + 1) h0
  have h := Int.tmod_lt_of_pos a (show (0 : Int) < N + 1 by omega)
  exact ⟨(a.tmod (N + 1)).toNat, wrap64_id (by omega) (by omega), wrap64_id (by omega) (by omega), by omega, by omega, by omega⟩
set_option maxHeartbeats 1000000 in
theorem more_ok (x0 : Value) (l : List Pick) (a b c d : Int) {h : Heap} {K : Value → Heap → Prop} (ha : 0 ≤ a ∧ a ≤ 255) (hb : 0 ≤ b ∧ b ≤ 255) (hc : 0 ≤ c ∧ c ≤ 255) (hd : 0 ≤ d ∧ d ≤ 255) (hx : Sl 3 PickR h x0 l)
    (hk : ∀ h', Ext h h' → K (.bool true) h') : callM P 5 #[x0, .int .u8 a, .int .u8 b, .int .u8 c, .int .u8 d] h K := by
  apply c_doormanlaw23_FairMore
  unfold b_doormanlaw23_FairMore
  refine awake_ok fun h1 he1 => ?_
  simp only [unV_n, ov_s, Bool.not_true, isB_b, beq_self_eq_true, gM_t, hx.len, bin_gtr, pkV_f, cd_b, cvV_i]
  refine ⟨fun _ => awake_ok fun h3 he3 => hk _ (he1.trans he3), fun hcc => ?_⟩
  have hl : l.length ≤ 300 := by have : ¬ (300 : Int) < l.length := by simpa using hcc
                                 omega
  obtain ⟨n, hn1, hn2, hn3⟩ := mod9 ha.1 ha.2
  obtain ⟨m, hm1, hm2, hm0, hm3⟩ := mod20 hb.1 hb.2
  obtain ⟨q, hq1, hq2, hq3, hq4, hq5⟩ := mod_len (N := l.length) hd.1 hd.2 hl
  have hc1 : IntKind.i64.wrap c = c := wrap64_id (by omega) (by omega)
  simp only [hn1, hn2, hm1, bin_rem9, bin_rem20, ov_s, bin_add, hm2]
  refine fair_ok x0 l n m (by omega) (by omega) (hx.ext (@PickR.ext) he1) fun h2 he2 => ?_
  have hx2 := hx.ext (@PickR.ext) (he1.trans he2)
  cases hf : fairB l n m
  · have hlo : (m : Int) ≤ longest l n := by
      have hm' : (0 : Int) < m := by omega
      simp only [fairB, hm', decide_true, Bool.true_and, decide_eq_false_iff_not] at hf
      omega
    simp
    refine longest_ok x0 l n (by omega) (by omega) hx2 fun h3 he3 => ?_
    simp [hlo]
    exact hk _ (he1.trans (he2.trans he3))
  · have hrem : binV BinOp.rem 2 false (.int .i64 d) (.int .i64 ((l.length : Int) + 1)) = some (.int .i64 q) := by simp [binV, intV, hq3, hq4]
    have hadd : IntKind.i64.wrap ((m : Int) + c) = m + c := wrap64_id (by omega) (by omega)
    obtain ⟨cn, rfl⟩ := Int.eq_ofNat_of_zero_le hc.1
    simp [hq1, hq2, hc1, hrem, hadd]
    refine fair_ok x0 l n _ (by omega) (by omega) hx2 fun h3 he3 => ?_
    rw [fair_more l n m cn hm0 hf]
    have hx3 := hx2.ext (@PickR.ext) he3
    cases n with
    | zero =>
      simp
      have hE := he3
      have hx4 := hx2.ext (@PickR.ext) hE
      obtain ⟨va, hva, hsa⟩ := hx4.cut (lo := none) (hi := some (.int .i64 q)) (L := 0) (H := q) (fun cap hcap => bnd_int (by omega)) rfl hq5 (by omega)
      simp only [hva, ov_s]
      simp only [List.drop_zero] at hsa
      refine fair_ok va _ (0 : Nat) m (by omega) (by simp; omega) hsa fun h5 he5 => ?_
      rw [fair_take l 0 m q hm0 hf]
      obtain ⟨vb, hvb, hsb⟩ := (hx4.ext (@PickR.ext) he5).cut (lo := some (.int .i64 q)) (hi := none) (L := q) (H := l.length) (fun cap hcap => rfl) (bnd_int hq5) (Nat.le_refl _) hq5
      rw [List.take_length] at hsb
      simp only [pkV_t, ov_s, isB_b, beq_self_eq_true, gM_t, hvb]
      refine fair_ok vb _ (0 : Nat) m (by omega) (by simp; omega) hsb fun h6 he6 => ?_
      rw [fair_drop l 0 m q hm0 hf]
      exact hk h6 (he1.trans (he2.trans (hE.trans (he5.trans he6))))
    | succ n =>
      have h1n : ¬ ((n : Int) + 1 = 0) := by omega
      have e1 : ((n + 1 : Nat) : Int) = n + 1 := by omega
      have h2n : IntKind.i64.wrap ((n : Int) + 1 - 1) = n := by rw [wrap64_id (by omega) (by omega)]; omega
      have h3n : (((n : Int) + 1) == 0) = false := by simpa using h1n
      have hx3 := hx2.ext (@PickR.ext) he3
      have f1 := fair_take l (n + 1) m q hm0 hf
      have f2 := fair_drop l (n + 1) m q hm0 hf
      rw [e1] at f1 f2 ⊢
      simp only [bin_eql, ov_s, h3n, isB_b, beq_self_eq_true, gM_t, bin_sub, h2n]
      refine fair_ok x0 l n m (by omega) (by omega) hx3 fun h4 he4 => ?_
      rw [fair_less l n m hm0 hf]
      simp
      have hE := he3.trans he4
      have hx4 := hx2.ext (@PickR.ext) hE
      obtain ⟨va, hva, hsa⟩ := hx4.cut (lo := none) (hi := some (.int .i64 q)) (L := 0) (H := q) (fun cap hcap => bnd_int (by omega)) rfl hq5 (by omega)
      simp only [hva, ov_s]
      simp only [List.drop_zero] at hsa
      refine fair_ok va _ ((n : Int) + 1) m (by omega) (by simp; omega) hsa fun h5 he5 => ?_
      rw [f1]
      obtain ⟨vb, hvb, hsb⟩ := (hx4.ext (@PickR.ext) he5).cut (lo := some (.int .i64 q)) (hi := none) (L := q) (H := l.length) (fun cap hcap => rfl) (bnd_int hq5) (Nat.le_refl _) hq5
      rw [List.take_length] at hsb
      simp only [pkV_t, ov_s, isB_b, beq_self_eq_true, gM_t, hvb]
      refine fair_ok vb _ ((n : Int) + 1) m (by omega) (by simp; omega) hsb fun h6 he6 => ?_
      rw [f2]
      exact hk h6 (he1.trans (he2.trans (hE.trans (he5.trans he6))))
end Go.Proofs.Ytihdfnhnholooaa
