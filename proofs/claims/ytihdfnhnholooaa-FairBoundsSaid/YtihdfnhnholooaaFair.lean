/- Contracts of fair.Longest, fair.Fair, the reference and the law FairTells over lists of picks. No condition beyond the hypotheses that each theorem states. -/
import Derived.Test.YtihdfnhnholooaaTxt
set_option linter.unusedSimpArgs false
set_option linter.unusedVariables false
namespace Go.Proofs.Ytihdfnhnholooaa
open Go Go.Den
structure Pick where
  kind : Int
  who : Int
  by_ : Int
def pickC (p : Pick) : List Value := [.int .i64 p.kind, .int .i64 p.who, .int .u64 p.by_]
def PickR (_ : Heap) (c : List Value) (p : Pick) : Prop := c = pickC p
def turn (p : Pick) (n : Int) : Int := if p.kind = 0 ∧ 0 ≤ p.who ∧ p.who < n then p.who else if p.kind = 1 then n else -1
theorem turn_ok (p : Pick) (n : Int) {h : Heap} {K : Value → Heap → Prop} (hk : ∀ h', Ext h h' → K (.int .i64 (turn p n)) h') :
    callM P 19 #[.agg (pickC p).toArray, .int .i64 n] h K := by
  apply c_fair_turn
  unfold b_fair_turn
  refine nw_intro fun b h2 hb he hc => ?_
  have hk2 := hk h2 he
  have l0 : cel h2 b 0 = some (.int .i64 p.kind) := by simp [cel, hc, pickC, Value.cells]
  have l1 : cel h2 b 1 = some (.int .i64 p.who) := by simp [cel, hc, pickC, Value.cells]
  unfold turn at hk2
  have b1 : (p.kind == 0) = decide (p.kind = 0) := rfl
  have b2 : (p.kind == 1) = decide (p.kind = 1) := rfl
  by_cases h1 : p.kind = 0
  · by_cases h3 : 0 ≤ p.who
    · by_cases h4 : p.who < n <;> simp [l0, l1, h1, h3, h4] at hk2 ⊢ <;> exact hk2
    · simp [l0, l1, h1, h3] at hk2 ⊢ ; exact hk2
  · by_cases h3 : p.kind = 1 <;> simp [l0, b1, b2, h1, h3] at hk2 ⊢ <;> exact hk2
def isP (p : Pick) (c who : Int) : Bool := if who = c then p.kind == 1 else p.kind == 0 && p.who == who
theorem is_ok (p : Pick) (c who : Int) {h : Heap} {K : Value → Heap → Prop} (hk : ∀ h', Ext h h' → K (.bool (isP p c who)) h') :
    callM P 18 #[.agg (pickC p).toArray, .int .i64 c, .int .i64 who] h K := by
  apply c_doormanref23_is
  unfold b_doormanref23_is
  refine nw_intro fun b h2 hb he hc => ?_
  have hk2 := hk h2 he
  have l0 : cel h2 b 0 = some (.int .i64 p.kind) := by simp [cel, hc, pickC, Value.cells]
  have l1 : cel h2 b 1 = some (.int .i64 p.who) := by simp [cel, hc, pickC, Value.cells]
  unfold isP at hk2
  by_cases h1 : who = c
  · simp [l0, h1] at hk2 ⊢; exact hk2
  · cases h3 : p.kind == 0 <;> simp [l0, l1, h1, h3] at hk2 ⊢ <;> exact hk2
theorem is_turn (p : Pick) {c who : Int} (h0 : 0 ≤ who) (h1 : who ≤ c) : (turn p c == who) = isP p c who := by
  rw [Bool.eq_iff_iff]
  unfold turn isP
  by_cases h : who = c
  · subst h
    simp only [if_true, beq_iff_eq]
    split <;> (try split) <;> omega
  · simp only [h, if_false, beq_iff_eq, Bool.and_eq_true]
    split <;> (try split) <;> omega
/-- One who: (how long not picked by now, the most by now). -/
def stp (c who : Int) (s : Int × Int) (p : Pick) : Int × Int := let n := if isP p c who then 0 else s.1 + 1; (n, max s.2 n)
def run (c who : Int) (l : List Pick) (most : Int) : Int × Int := l.foldl (stp c who) (0, most)
def outer (c : Int) (l : List Pick) : Nat → Int
  | 0 => 0
  | k + 1 => (run c k l (outer c l k)).2
def longest (l : List Pick) (c : Int) : Int := outer (max c 0) l ((max c 0).toNat + 1)
theorem run_snoc (c who : Int) (l : List Pick) (p : Pick) (most : Int) : run c who (l ++ [p]) most = stp c who (run c who l most) p := by simp [run]
theorem run_bd (c who : Int) (l : List Pick) (most : Int) : 0 ≤ (run c who l most).1 ∧ (run c who l most).1 ≤ l.length ∧ most ≤ (run c who l most).2 ∧ (run c who l most).2 ≤ max most l.length := by
  suffices ∀ (l : List Pick) (s : Int × Int), 0 ≤ s.1 → 0 ≤ (l.foldl (stp c who) s).1 ∧ (l.foldl (stp c who) s).1 ≤ s.1 + l.length ∧ s.2 ≤ (l.foldl (stp c who) s).2 ∧ (l.foldl (stp c who) s).2 ≤ max s.2 (s.1 + l.length) by
    have h := this l (0, most) (by simp)
    simp only [run]
    omega
  intro l
  induction l with
  | nil => intro s h; simp; omega
  | cons p l ih =>
    intro s h
    have hn : 0 ≤ (stp c who s p).1 ∧ (stp c who s p).1 ≤ s.1 + 1 ∧ (stp c who s p).2 = max s.2 (stp c who s p).1 := by
      unfold stp
      by_cases hp : isP p c who = true <;> simp [hp] <;> omega
    have := ih (stp c who s p) hn.1
    simp only [List.foldl_cons, List.length_cons]
    omega
theorem outer_bd (c : Int) (l : List Pick) : ∀ k, 0 ≤ outer c l k ∧ outer c l k ≤ l.length
  | 0 => by simp [outer]
  | k + 1 => by
    have h1 := outer_bd c l k
    have h2 := run_bd c k l (outer c l k)
    simp only [outer]
    omega
end Go.Proofs.Ytihdfnhnholooaa

namespace Go.Proofs.Ytihdfnhnholooaa
open Go Go.Den
set_option linter.unusedSimpArgs false
theorem PickR.ext {h h' : Heap} {c : List Value} {x : Pick} (_ : Ext h h') (r : PickR h c x) : PickR h' c x := r
theorem run_take (c who : Int) (l : List Pick) (most : Int) (j : Nat) (hj : j < l.length) : run c who (l.take (j + 1)) most = stp c who (run c who (l.take j) most) l[j] := by
  rw [List.take_succ_eq_append_getElem hj, run_snoc]
theorem zc28 : zc P 28 = some #[.int .i64 0, .int .i64 0, .int .u64 0] := by kernel_rfl
theorem longest_ok (x0 : Value) (l : List Pick) (n : Int) {h : Heap} {K : Value → Heap → Prop} (hn : n ≤ 9223372036854775806) (hl : l.length ≤ 9223372036854775806) (hx : Sl 3 PickR h x0 l)
    (hk : ∀ h', Ext h h' → K (.int .i64 (longest l n)) h') : callM P 10 #[x0, .int .i64 n] h K := by
  apply c_fair_Longest
  unfold b_fair_Longest
  refine vv_max ?_
  have hC : 0 ≤ max n 0 := by omega
  have hC2 : max n 0 ≤ 9223372036854775806 := by omega
  unfold longest at hk
  generalize max n 0 = C at hk hC hC2
  obtain ⟨N, rfl⟩ := Int.eq_ofNat_of_zero_le hC
  simp only [Int.toNat_natCast] at hk
  unfold seqM
  refine loop_intro (fun m s h' => m = [] ∧ Ext h h' ∧ ∃ k : Nat, s 0 = x0 ∧ s 1 = .int .i64 N ∧ s 6 = .int .i64 k ∧ k ≤ N + 1 ∧ s 5 = .int .i64 (outer N l k)) (fun s _ => (N + 1 - num (s 6)).toNat)
    ⟨rfl, Ext.refl h, 0, rfl, rfl, rfl, by omega, rfl⟩ ?_
  rintro m s h1 ⟨rfl, he, k, hs0, hs1, hs6, hkN, hs5⟩
  simp only [hs0, hs1, hs6, hs5, bin_leq, ov_s, cd_b]
  refine ⟨fun hc => ?_, fun hc => ?_⟩
  · have hkN' : k ≤ N := by simpa using hc
    simp only [hx.len, ov_s]
    refine loop_intro (fun m s h' => m = [] ∧ Ext h h' ∧ ∃ j : Nat, s 0 = x0 ∧ s 1 = .int .i64 N ∧ s 6 = .int .i64 k ∧ s 17 = x0 ∧ s 18 = .int .i64 l.length ∧ s 19 = .int .i64 j ∧ j ≤ l.length ∧
      s 7 = .int .i64 (run N k (l.take j) (outer N l k)).1 ∧ s 5 = .int .i64 (run N k (l.take j) (outer N l k)).2) (fun s _ => (l.length - num (s 19)).toNat)
      ⟨rfl, he, 0, hs0, hs1, hs6, rfl, rfl, rfl, by omega, rfl, hs5⟩ ?_
    rintro m t h2 ⟨rfl, he2, j, ht0, ht1, ht6, ht17, ht18, ht19, hjl, ht7, ht5⟩
    simp only [ht0, ht1, ht6, ht17, ht18, ht19, ht5, ht7, bin_lss, ov_s, cd_b]
    refine ⟨fun hc2 => ?_, fun hc2 => ?_⟩
    · have hj : j < l.length := by simpa using hc2
      obtain ⟨b, o, c, hi, hcs, hR⟩ := (hx.ext (@PickR.ext) he2).at (k := .i64) (i := j) (by omega) (by omega)
      simp only [Int.toNat_natCast] at hR
      have hb := run_bd N k (l.take j) (outer N l k)
      have hlt : (l.take j).length ≤ j := by simp; omega
      unfold PickR at hR
      subst hR
      simp only [hi, ov_s, ldV_n hcs, zc28]
      refine new_store rfl rfl (by simp [Value.cells, pickC, Value.oneCell']) fun b3 h3 hb3 he3 hc3 => ?_
      have hcs3 : cels h3 b3 0 3 = some (pickC l[j]) := by simp [cels, cel, hc3, Value.cells, pickC]
      simp only [bin_add, ov_s, ldV_n hcs3]
      refine turn_ok _ _ fun h4 he4 => ?_
      have hit := is_turn l[j] (c := N) (who := k) (by omega) (by omega)
      have hE : Ext h h4 := he2.trans (he3.trans he4)
      have hrt := run_take N k l (outer N l k) j hj
      have hb1 := run_bd N k (l.take (j + 1)) (outer N l k)
      have hlt1 : (l.take (j + 1)).length ≤ j + 1 := by simp; omega
      rw [wrap64_id (by omega) (by omega)]
      simp only [bin_eql, ov_s, cd_b, hit, thenM_n]
      have hmax : max (run N k (l.take j) (outer N l k)).2 (run N k (l.take (j + 1)) (outer N l k)).1 = (run N k (l.take (j + 1)) (outer N l k)).2 := by rw [hrt]; simp [stp]
      refine ⟨fun hp => ?_, fun hp => ?_⟩
      · have hn : (run N k (l.take (j + 1)) (outer N l k)).1 = 0 := by rw [hrt]; simp [stp, hp]
        rw [hn] at hmax
        simp only [puts_lk, lk, Nat.reduceEqDiff, if_false, if_true, Option.getD_some, Option.getD_none, ht5, ht19]
        refine vv_max ?_
        simp only [bin_add, ov_s, thenM_n, lpM_n, puts_lk, lk, Nat.reduceEqDiff, if_false, if_true, Option.getD_some, Option.getD_none, ht0, ht1, ht6, ht17, ht18, ht19, num_int]
        rw [wrap64_id (by omega) (by omega)]
        refine ⟨⟨trivial, hE, j + 1, trivial, trivial, trivial, trivial, trivial, by simp, by omega, by rw [hn], by rw [hmax]⟩, by omega⟩
      · have hn : (run N k (l.take (j + 1)) (outer N l k)).1 = (run N k (l.take j) (outer N l k)).1 + 1 := by rw [hrt]; simp [stp, hp]
        rw [hn] at hmax
        simp only [puts_lk, lk, Nat.reduceEqDiff, if_false, if_true, Option.getD_some, Option.getD_none, ht5, ht19]
        refine vv_max ?_
        simp only [bin_add, ov_s, thenM_n, lpM_n, puts_lk, lk, Nat.reduceEqDiff, if_false, if_true, Option.getD_some, Option.getD_none, ht0, ht1, ht6, ht17, ht18, ht19, num_int]
        rw [wrap64_id (by omega) (by omega)]
        refine ⟨⟨trivial, hE, j + 1, trivial, trivial, trivial, trivial, trivial, by simp, by omega, by rw [hn], by rw [hmax]⟩, by omega⟩
    · have hj : j = l.length := by have : ¬ j < l.length := by simpa using hc2
                                   omega
      subst hj
      simp only [lpM_e, blkM_n, blkM_e, if_true, Nat.reduceEqDiff, if_false, thenM_n, puts_lk, lk, Option.getD_some, Option.getD_none, ht0, ht1, ht5, ht6, bin_add, ov_s, lpM_n, num_int, List.take_length]
      rw [wrap64_id (by omega) (by omega)]
      exact ⟨⟨trivial, he2, k + 1, trivial, trivial, by simp, by omega, rfl⟩, by simp only [hs6, num_int]; omega⟩
  · have hkN' : ¬ k ≤ N := by simpa using hc
    have hkk : k = N + 1 := by omega
    subst hkk
    simp only [lpM_e, blkM_n, blkM_e, if_true, Nat.reduceEqDiff, if_false, thenM_n, puts_lk, lk, Option.getD_some, Option.getD_none, hs5, retM_r, resL_tmp, resL_nil, tupV_1]
    exact hk _ he
end Go.Proofs.Ytihdfnhnholooaa

namespace Go.Proofs.Ytihdfnhnholooaa
open Go Go.Den
set_option linter.unusedSimpArgs false
theorem rlongest_ok (x0 : Value) (l : List Pick) (n : Int) {h : Heap} {K : Value → Heap → Prop} (hn : n ≤ 9223372036854775806) (hl : l.length ≤ 9223372036854775806) (hx : Sl 3 PickR h x0 l)
    (hk : ∀ h', Ext h h' → K (.int .i64 (longest l n)) h') : callM P 9 #[x0, .int .i64 n] h K := by
  apply c_doormanref23_Longest
  unfold b_doormanref23_Longest
  have hC : 0 ≤ max n 0 := by omega
  have hC2 : max n 0 ≤ 9223372036854775806 := by omega
  refine seq_cut (fun m s h' => m = [] ∧ h' = h ∧ s 0 = x0 ∧ s 1 = .int .i64 (max n 0)) (fun J hJ _ _ => ?_) ?_
  · simp only [bin_lss, ov_s, cd_b]
    refine ⟨fun hc => hJ _ _ _ ⟨rfl, rfl, rfl, ?_⟩, fun hc => hJ _ _ _ ⟨rfl, rfl, rfl, ?_⟩⟩
    · have : n < 0 := by simpa using hc
      show Value.int .i64 0 = _
      congr 1; omega
    · have : ¬ n < 0 := by simpa using hc
      show Value.int .i64 n = _
      congr 1; omega
  rintro m s0 h0 ⟨rfl, rfl, hs0, hs1⟩
  unfold longest at hk
  generalize max n 0 = C at hk hC hC2 hs1
  obtain ⟨N, rfl⟩ := Int.eq_ofNat_of_zero_le hC
  simp only [Int.toNat_natCast] at hk
  unfold seqM
  refine loop_intro (fun m s h' => m = [] ∧ Ext h0 h' ∧ ∃ k : Nat, s 0 = x0 ∧ s 1 = .int .i64 N ∧ s 6 = .int .i64 k ∧ k ≤ N + 1 ∧ s 5 = .int .i64 (outer N l k)) (fun s _ => (N + 1 - num (s 6)).toNat)
    ⟨rfl, Ext.refl h0, 0, hs0, hs1, rfl, by omega, rfl⟩ ?_
  rintro m s h1 ⟨rfl, he, k, hs0, hs1, hs6, hkN, hs5⟩
  simp only [hs0, hs1, hs6, hs5, bin_leq, ov_s, cd_b]
  have hob := outer_bd N l k
  refine ⟨fun hc => ?_, fun hc => ?_⟩
  · have hkN' : k ≤ N := by simpa using hc
    refine loop_intro (fun m s h' => m = [] ∧ Ext h0 h' ∧ ∃ j : Nat, s 0 = x0 ∧ s 1 = .int .i64 N ∧ s 6 = .int .i64 k ∧ s 8 = .int .i64 j ∧ j ≤ l.length ∧
      s 7 = .int .i64 (j - (run N k (l.take j) (outer N l k)).1) ∧ s 5 = .int .i64 (run N k (l.take j) (outer N l k)).2) (fun s _ => (l.length - num (s 8)).toNat)
      ⟨rfl, he, 0, hs0, hs1, hs6, rfl, by omega, rfl, hs5⟩ ?_
    rintro m t h2 ⟨rfl, he2, j, ht0, ht1, ht6, ht8, hjl, ht7, ht5⟩
    have hx2 := hx.ext (@PickR.ext) he2
    simp only [ht0, ht1, ht6, ht8, ht5, ht7, hx2.len, bin_lss, ov_s, cd_b]
    have hb := run_bd N k (l.take j) (outer N l k)
    have hlt : (l.take j).length ≤ j := by simp; omega
    refine ⟨fun hc2 => ?_, fun hc2 => ?_⟩
    · have hj : j < l.length := by simpa using hc2
      obtain ⟨b, o, c, hi, hcs, hR⟩ := hx2.at (k := .i64) (i := j) (by omega) (by omega)
      simp only [Int.toNat_natCast] at hR
      unfold PickR at hR
      subst hR
      simp only [hi, ov_s, ldV_n hcs]
      refine is_ok _ _ _ fun h4 he4 => ?_
      have hE : Ext h0 h4 := he2.trans he4
      have hrt := run_take N k l (outer N l k) j hj
      have hb1 := run_bd N k (l.take (j + 1)) (outer N l k)
      have hlt1 : (l.take (j + 1)).length ≤ j + 1 := by simp; omega
      have hmax : max (run N k (l.take j) (outer N l k)).2 (run N k (l.take (j + 1)) (outer N l k)).1 = (run N k (l.take (j + 1)) (outer N l k)).2 := by rw [hrt]; simp [stp]
      simp only [cd_b]
      refine ⟨fun hp => ?_, fun hp => ?_⟩
      · have hn : (run N k (l.take (j + 1)) (outer N l k)).1 = 0 := by rw [hrt]; simp [stp, hp]
        rw [hn] at hmax hb1
        have hw : IntKind.i64.wrap ((j : Int) + 1) = j + 1 := wrap64_id (by omega) (by omega)
        simp only [bin_add, ov_s, hw, thenM_n, puts_lk, lk, Nat.reduceEqDiff, if_false, if_true, Option.getD_some, Option.getD_none, ht8, ht5, bin_sub, bin_gtr, cd_b]
        rw [show ((j : Int) + 1 - (j + 1)) = 0 by omega, wrap64_id (by omega) (by omega)]
        refine ⟨fun h => ?_, fun _ => ?_⟩
        · simp at h; omega
        simp only [blkM_n, thenM_n, lpM_n, puts_lk, lk, Nat.reduceEqDiff, if_false, if_true, Option.getD_some, Option.getD_none, ht0, ht1, ht6, ht8, ht5, num_int, bin_add, ov_s, hw]
        exact ⟨⟨trivial, hE, j + 1, trivial, trivial, trivial, by simp, by omega, by rw [hn]; simp, by rw [← hmax]; congr 1; omega⟩, by omega⟩
      · have hn : (run N k (l.take (j + 1)) (outer N l k)).1 = (run N k (l.take j) (outer N l k)).1 + 1 := by rw [hrt]; simp [stp, hp]
        rw [hn] at hmax hb1
        have hw : IntKind.i64.wrap ((j : Int) + 1) = j + 1 := wrap64_id (by omega) (by omega)
        simp only [bin_add, ov_s, hw, thenM_n, puts_lk, lk, Nat.reduceEqDiff, if_false, if_true, Option.getD_some, Option.getD_none, ht8, ht5, ht7, bin_sub, bin_gtr, cd_b]
        rw [show ((j : Int) + 1 - (j - (run N k (l.take j) (outer N l k)).1)) = (run N k (l.take j) (outer N l k)).1 + 1 by omega, wrap64_id (by omega) (by omega)]
        refine ⟨fun h => ?_, fun h => ?_⟩
        · have h' : (run N k (l.take j) (outer N l k)).2 < (run N k (l.take j) (outer N l k)).1 + 1 := by simpa using h
          simp only [blkM_n, thenM_n, lpM_n, puts_lk, lk, Nat.reduceEqDiff, if_false, if_true, Option.getD_some, Option.getD_none, ht0, ht1, ht6, ht7, ht8, ht5, num_int, bin_add, ov_s, hw]
          exact ⟨⟨trivial, hE, j + 1, trivial, trivial, trivial, by simp, by omega, by rw [hn]; congr 1; simp; omega, by rw [← hmax]; congr 1; omega⟩, by omega⟩
        · have h' : ¬ (run N k (l.take j) (outer N l k)).2 < (run N k (l.take j) (outer N l k)).1 + 1 := by simpa using h
          simp only [blkM_n, thenM_n, lpM_n, puts_lk, lk, Nat.reduceEqDiff, if_false, if_true, Option.getD_some, Option.getD_none, ht0, ht1, ht6, ht7, ht8, ht5, num_int, bin_add, ov_s, hw]
          exact ⟨⟨trivial, hE, j + 1, trivial, trivial, trivial, by simp, by omega, by rw [hn]; congr 1; simp; omega, by rw [← hmax]; congr 1; omega⟩, by omega⟩
    · have hj : j = l.length := by have : ¬ j < l.length := by simpa using hc2
                                   omega
      subst hj
      simp only [lpM_e, blkM_n, blkM_e, if_true, Nat.reduceEqDiff, if_false, thenM_n, puts_lk, lk, Option.getD_some, Option.getD_none, ht0, ht1, ht5, ht6, bin_add, ov_s, lpM_n, num_int, List.take_length]
      rw [wrap64_id (by omega) (by omega)]
      exact ⟨⟨trivial, he2, k + 1, trivial, trivial, by simp, by omega, rfl⟩, by simp only [hs6, num_int]; omega⟩
  · have hkN' : ¬ k ≤ N := by simpa using hc
    have hkk : k = N + 1 := by omega
    subst hkk
    simp only [lpM_e, blkM_n, blkM_e, if_true, Nat.reduceEqDiff, if_false, thenM_n, puts_lk, lk, Option.getD_some, Option.getD_none, hs5, retM_r, resL_tmp, resL_nil, tupV_1]
    exact hk _ he
end Go.Proofs.Ytihdfnhnholooaa

namespace Go.Proofs.Ytihdfnhnholooaa
open Go Go.Den
set_option linter.unusedSimpArgs false
def fairB (l : List Pick) (n k : Int) : Bool := decide (0 < k) && decide (longest l n < k)
theorem fair_ok (x0 : Value) (l : List Pick) (n k : Int) {h : Heap} {K : Value → Heap → Prop} (hn : n ≤ 9223372036854775806) (hl : l.length ≤ 9223372036854775806) (hx : Sl 3 PickR h x0 l)
    (hk : ∀ h', Ext h h' → K (.bool (fairB l n k)) h') : callM P 11 #[x0, .int .i64 n, .int .i64 k] h K := by
  apply c_fair_Fair
  unfold b_fair_Fair
  unfold fairB at hk
  by_cases h1 : 0 < k
  · simp [h1] at hk ⊢
    refine longest_ok x0 l n hn hl hx fun h' he => ?_
    simp
    exact hk h' he
  · simp [h1] at hk ⊢
    exact hk h (Ext.refl h)
theorem binf28 : binf P 28 = some (#[.int .i64 0, .int .i64 0, .int .u64 0], [(0, 1), (1, 1), (2, 1)]) := by kernel_rfl
theorem bsI22 : bsI P 22 = some (28, 3, #[.int .i64 0, .int .i64 0, .int .u64 0]) := by kernel_rfl
def awk : List Pick := [⟨0, 0, 0⟩, ⟨1, 0, 0⟩, ⟨0, 0, 0⟩, ⟨1, 0, 0⟩]
theorem bd0 : bdV (binf P 28) [] = some (.agg #[.int .i64 0, .int .i64 0, .int .u64 0]) := by rw [binf28]; kernel_rfl
theorem bd1 : bdV (binf P 28) [(0, .int .i64 1)] = some (.agg #[.int .i64 1, .int .i64 0, .int .u64 0]) := by rw [binf28]; kernel_rfl
theorem fill4 : Instr.fill (fun i => some (i * 3, 3)) (zrow #[.int .i64 0, .int .i64 0, .int .u64 0] (4 * 3)) [(0, .agg #[.int .i64 0, .int .i64 0, .int .u64 0]), (1, .agg #[.int .i64 1, .int .i64 0, .int .u64 0]), (2, .agg #[.int .i64 0, .int .i64 0, .int .u64 0]), (3, .agg #[.int .i64 1, .int .i64 0, .int .u64 0])] =
    some (awk.flatMap pickC).toArray := by kernel_rfl
theorem awake_ok {h : Heap} {K : Value → Heap → Prop} (hk : ∀ h', Ext h h' → K (.bool true) h') : callM P 8 #[] h K := by
  apply c_doormanlaw23_awake
  unfold b_doormanlaw23_awake
  simp only [bd0, bd1, ov_s, bsM, bsI22, fill4]
  refine ⟨by omega, fun b hb => ?_⟩
  have he := Ext.upd hb (.cells (awk.flatMap pickC).toArray 28 (0, 0))
  have hs := upd_same h b (.cells (awk.flatMap pickC).toArray 28 (0, 0))
  generalize upd h b (.cells (awk.flatMap pickC).toArray 28 (0, 0)) = h1 at he hs
  have hx : Sl 3 PickR h1 (.slice (some ⟨b, 0, none⟩) 4 4) awk := by
    refine .inr ⟨b, 0, 4, rfl, by simp [awk], by decide, fun i hi => ?_⟩
    have hi4 : i < 4 := hi
    refine ⟨_, ?_, rfl⟩
    match i, hi4 with
    | 0, _ => simp [cels, cel, hs, awk, pickC]
    | 1, _ => simp [cels, cel, hs, awk, pickC]
    | 2, _ => simp [cels, cel, hs, awk, pickC]
    | 3, _ => simp [cels, cel, hs, awk, pickC]
  refine fair_ok _ awk 1 2 (by omega) (by simp [awk]) hx fun h2 he2 => ?_
  have f2 : fairB awk 1 2 = true := by decide
  have f1 : fairB awk 1 1 = false := by decide
  have f0 : longest awk 1 = 1 := by decide
  simp only [f2, isB_b, beq_self_eq_true, gM_t]
  refine fair_ok _ awk 1 1 (by omega) (by simp [awk]) (hx.ext (@PickR.ext) he2) fun h3 he3 => ?_
  simp only [f1, unV_n, ov_s, Bool.not_false, isB_b, beq_self_eq_true, gM_t, pkV_t]
  refine longest_ok _ awk 1 (by omega) (by simp [awk]) (hx.ext (@PickR.ext) (he2.trans he3)) fun h4 he4 => ?_
  simp only [f0, bin_eql, ov_s, beq_self_eq_true, pkV_t]
  exact hk h4 (he.trans (he2.trans (he3.trans he4)))
theorem tells_ok (x0 : Value) (l : List Pick) (n k : Int) {h : Heap} {K : Value → Heap → Prop} (hx : Sl 3 PickR h x0 l)
    (hk : ∀ h', Ext h h' → K (.bool true) h') : callM P 3 #[x0, .int .i64 n, .int .i64 k] h K := by
  apply c_doormanlaw23_FairTells
  unfold b_doormanlaw23_FairTells
  refine awake_ok fun h1 he1 => ?_
  simp only [unV_n, ov_s, Bool.not_true, isB_b, beq_self_eq_true, gM_t, hx.len, bin_gtr, pkV_f]
  by_cases h2 : (20000 : Int) < l.length
  · simp [h2]
    exact awake_ok fun h3 he3 => hk _ (he1.trans he3)
  · by_cases h3 : (1000 : Int) < n
    · simp [h2, h3]
      exact awake_ok fun h3 he3 => hk _ (he1.trans he3)
    · simp [h2, h3]
      refine rlongest_ok x0 l n (by omega) (by omega) (hx.ext (@PickR.ext) he1) fun h4 he4 => ?_
      refine longest_ok x0 l n (by omega) (by omega) (hx.ext (@PickR.ext) (he1.trans he4)) fun h5 he5 => ?_
      simp
      refine fair_ok x0 l n k (by omega) (by omega) (hx.ext (@PickR.ext) (he1.trans (he4.trans he5))) fun h6 he6 => ?_
      have hE := hk h6 (he1.trans (he4.trans (he5.trans he6)))
      by_cases h7 : 0 < k
      · simp [h7, fairB]; exact hE
      · simp [h7, fairB]; exact hE
end Go.Proofs.Ytihdfnhnholooaa

namespace Go.Proofs.Ytihdfnhnholooaa
open Go Go.Den
theorem rd28 : Rdr P 28 PickR := fun enc W base spare held fuel cs x h => by
  have hl : cs.length = 3 := (struct_fields (P := P) Try.underlying28 h).1.trans (by kernel_rfl)
  obtain ⟨_, _, h0⟩ := struct_field (P := P) Try.underlying28 h 0 3 0 1 (by kernel_rfl)
  obtain ⟨_, _, h1⟩ := struct_field (P := P) Try.underlying28 h 1 3 1 1 (by kernel_rfl)
  obtain ⟨_, _, h2⟩ := struct_field (P := P) Try.underlying28 h 2 26 2 1 (by kernel_rfl)
  obtain ⟨a, e0, _⟩ := DataW.trod_int Try.underlying3 h0
  obtain ⟨b, e1, _⟩ := DataW.trod_int Try.underlying3 h1
  obtain ⟨c, e2, _⟩ := DataW.trod_int Try.underlying26 h2
  match cs, hl with
  | [x0, x1, x2], _ =>
    simp at e0 e1 e2
    exact ⟨⟨a, b, c⟩, by simp [PickR, pickC, e0, e1, e2]⟩
end Go.Proofs.Ytihdfnhnholooaa
