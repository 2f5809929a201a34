/- Picks of everybody in turn, and those with one left out; the contract of the law FairRound. No condition beyond the hypotheses that each theorem states. -/
import Derived.Test.YtihdfnhnholooaaRows2
import Derived.Test.YtihdfnhnholooaaApp
set_option linter.unusedSimpArgs false
set_option linter.unusedVariables false
namespace Go.Proofs.Ytihdfnhnholooaa
open Go Go.Den
set_option linter.unusedSimpArgs false
def pickOf (k i : Nat) : Pick := if i % (k + 1) = k then ⟨1, 0, 0⟩ else ⟨0, ((i % (k + 1) : Nat) : Int), 0⟩
def turns (k n : Nat) : List Pick := (List.range n).map (pickOf k)
def lessT (k r n : Nat) : List Pick := ((List.range n).filter fun i => !(i % (k + 1) == r)).map (pickOf k)
theorem turns_s (k n : Nat) : turns k (n + 1) = turns k n ++ [pickOf k n] := by simp [turns, List.range_succ]
theorem lessT_s (k r n : Nat) : lessT k r (n + 1) = if n % (k + 1) = r then lessT k r n else lessT k r n ++ [pickOf k n] := by
  unfold lessT
  rw [List.range_succ, List.filter_append]
  by_cases h : n % (k + 1) = r
  · simp [h]
  · simp [h]
theorem isP_pick (k i w : Nat) (hw : w ≤ k) : isP (pickOf k i) k w = decide (i % (k + 1) = w) := by
  have h1 := Nat.mod_lt i (show 0 < k + 1 by omega)
  unfold isP pickOf
  by_cases h : i % (k + 1) = k
  · by_cases h2 : w = k
    · subst h2; simp [h]
    · have : ¬ ((w : Int) = k) := by omega
      have h3 : ¬ (k = w) := by omega
      simp [h, this, h3]
  · by_cases h2 : w = k
    · subst h2; simp [h]
    · have : ¬ ((w : Int) = k) := by omega
      rw [if_neg this, if_neg h]
      rw [Bool.eq_iff_iff]
      simp only [beq_self_eq_true, Bool.true_and, beq_iff_eq, decide_eq_true_eq]
      exact Int.ofNat_inj
theorem round_fair (k n : Nat) : fairB (turns k n) k ((k : Int) + 1) = true := by
  have e : ((k : Int) + 1) = ((k + 1 : Nat) : Int) := by omega
  rw [e, fair_iff _ k (k + 1) (by omega)]
  intro w hw i hi
  simp only [turns, List.length_map, List.length_range] at hi
  have hq : ∃ j, i ≤ j ∧ j < i + (k + 1) ∧ j % (k + 1) = w := by
    have h1 := Nat.mod_lt i (show 0 < k + 1 by omega)
    have h2 := Nat.div_add_mod i (k + 1)
    by_cases hc : i % (k + 1) ≤ w
    · exact ⟨i + (w - i % (k + 1)), by omega, by omega, by
        have : i + (w - i % (k + 1)) = w + (k + 1) * (i / (k + 1)) := by omega
        rw [this, Nat.add_mul_mod_self_left, Nat.mod_eq_of_lt (by omega)]⟩
    · exact ⟨i + (k + 1 + w - i % (k + 1)), by omega, by omega, by
        have : i + (k + 1 + w - i % (k + 1)) = w + (k + 1) * (i / (k + 1) + 1) := by rw [Nat.mul_add]; omega
        rw [this, Nat.add_mul_mod_self_left, Nat.mod_eq_of_lt (by omega)]⟩
  obtain ⟨j, h1, h2, h3⟩ := hq
  refine ⟨pickOf k j, ?_, by rw [isP_pick k j w hw]; simpa using h3⟩
  refine List.mem_iff_getElem.2 ⟨j - i, by simp [turns]; omega, ?_⟩
  simp [turns, show i + (j - i) = j by omega]
theorem less_not (k r n : Nat) (hr : r ≤ k) : ∀ p ∈ lessT k r n, isP p k r = false := by
  intro p hp
  simp only [lessT, List.mem_map, List.mem_filter] at hp
  obtain ⟨i, ⟨_, hi⟩, rfl⟩ := hp
  rw [isP_pick k i r hr]
  simpa using hi
theorem less_long (k r n : Nat) (hr : r ≤ k) : longest (lessT k r n) k = (lessT k r n).length := by
  have hb := (outer_bd k (lessT k r n) (k + 1)).2
  have h0 : max (k : Int) 0 = k := by omega
  simp only [longest, h0, Int.toNat_natCast]
  by_cases hz : (lessT k r n).length = 0
  · have := (outer_bd k (lessT k r n) (k + 1)).1; omega
  · have h1 := mt (outer_lt k (lessT k r n) (lessT k r n).length (by omega) (k + 1)).1
    by_cases hlt : outer k (lessT k r n) (k + 1) < (lessT k r n).length
    · exfalso
      have h2 := (outer_lt k (lessT k r n) (lessT k r n).length (by omega) (k + 1)).1 hlt r (by omega) _ (Nat.le_refl _) (by omega)
      rw [List.take_length] at h2
      have h3 := (gap_lt k r (lessT k r n).length (by omega) (lessT k r n)).2 ⟨Nat.le_refl _, fun p hp => less_not k r n hr p (by simpa using hp)⟩
      omega
    · omega
theorem lessT_len (k r n : Nat) : (lessT k r n).length ≤ n := by
  simp only [lessT, List.length_map]
  exact Nat.le_trans (List.length_filter_le _ _) (by simp)
theorem turns_len (k n : Nat) : (turns k n).length = n := by simp [turns]
theorem mod200 {a : Int} (h0 : 0 ≤ a) (h1 : a ≤ 65535) : ∃ n : Nat, IntKind.i64.wrap a = a ∧ a.tmod 200 = n ∧ n < 200 := by
  have hn := Int.tmod_nonneg 200 h0
  have h := Int.tmod_lt_of_pos a (show (0 : Int) < 200 by omega)
  exact ⟨(a.tmod 200).toNat, wrap64_id (by omega) (by omega), by omega, by omega⟩
@[simp] theorem bin_rem200 (t : Nat) (c : Bool) (k : IntKind) (a : Int) : binV .rem t c (.int k a) (.int k 200) = some (.int k (a.tmod 200)) := by simp [binV, intV]
theorem bin_remN (t : Nat) (c : Bool) (k : IntKind) (a b : Nat) : binV .rem t c (.int k a) (.int k ((b : Int) + 1)) = some (.int k ((a % (b + 1) : Nat) : Int)) := by
  have h : ¬ ((b : Int) + 1 = 0) := by omega
  simp [binV, intV, h]
  rfl
theorem apC28 : apC P 28 = some (3, 24, 3) := by kernel_rfl
theorem bdW (n : Int) : bdV (binf P 28) [(1, .int .i64 n)] = some (.agg #[.int .i64 0, .int .i64 n, .int .u64 0]) := by rw [binf28]; rfl
theorem ldV3 {b : Nat} {e : TypeId} {x0 x1 x2 : Value} {h : Heap} (hb : h b = some (.cells #[x0, x1, x2] e (0, 0))) : ldV (some (some 3)) (.pointer (some ⟨b, 0, none⟩)) h = some (.agg #[x0, x1, x2]) := by
  simp [ldV, cels, cel, hb]
end Go.Proofs.Ytihdfnhnholooaa

namespace Go.Proofs.Ytihdfnhnholooaa
open Go Go.Den
set_option linter.unusedSimpArgs false
theorem pickC_len (p : Pick) : (pickC p).length = 3 := rfl
theorem pickC_one (p : Pick) : ∀ u ∈ (Value.agg #[.int .i64 p.kind, .int .i64 p.who, .int .u64 p.by_]).cells.toList, u.oneCell' = true := by
  intro u hu
  simp [Value.cells] at hu
  rcases hu with rfl | rfl | rfl <;> rfl
theorem app_pick {v : Value} {xs : List Pick} (p : Pick) {h : Heap} {K : Value → Value → Heap → Prop} (hv : Row 3 28 h v xs.length (xs.flatMap pickC)) (hl : xs.length ≤ 100000)
    (hk : ∀ a v' h', Row 3 28 h' v' (xs ++ [p]).length ((xs ++ [p]).flatMap pickC) → Keep (rowOf v) h h' → (rowOf v' = rowOf v ∨ ∃ b, rowOf v' = some b ∧ h b = none) → K a v' h') :
    bsM (bsI P 22) 1 [(0, .agg #[.int .i64 p.kind, .int .i64 p.who, .int .u64 p.by_])] h fun a h' => vvM P (Builtin.append_ #[22, 22] 22 #[v, a]) h' (K a) := by
  refine app_one bsI22 Try.underlying22 apC28 (by omega) rfl (pickC_one p) hv (by unfold maxLen; omega) (by omega) (by omega) fun a v' h' hr hkp ha => hk a v' h' ?_ hkp ha
  simpa [List.flatMap_append, pickC, Value.cells] using hr
theorem rowNil {b : Nat} (h : rowOf (.slice none 0 0) = some b) : False := by cases h
set_option maxHeartbeats 2000000 in
theorem round_ok (a b c : Int) {h : Heap} {K : Value → Heap → Prop} (ha : 0 ≤ a ∧ a ≤ 255) (hb : 0 ≤ b ∧ b ≤ 65535) (hc : 0 ≤ c ∧ c ≤ 255)
    (hk : ∀ h', Ext h h' → K (.bool true) h') : callM P 6 #[.int .u8 a, .int .u16 b, .int .u8 c] h K := by
  apply c_doormanlaw23_FairRound
  unfold b_doormanlaw23_FairRound
  refine awake_ok fun h1 he1 => ?_
  obtain ⟨k, hk1, hk2, hk3⟩ := mod9 ha.1 ha.2
  obtain ⟨n, hn1, hn2, hn3⟩ := mod200 hb.1 hb.2
  obtain ⟨q, rfl⟩ := Int.eq_ofNat_of_zero_le hc.1
  have hq1 : IntKind.i64.wrap (q : Int) = q := wrap64_id (by omega) (by omega)
  have hw1 : IntKind.i64.wrap ((k : Int) + 1) = k + 1 := wrap64_id (by omega) (by omega)
  simp only [unV_n, ov_s, Bool.not_true, cd_b, cvV_i, hk1, hk2, hn1, hn2, bin_rem9, bin_rem200]
  refine ⟨fun hx => by simp at hx, fun _ => ?_⟩
  have hr : q % (k + 1) ≤ k := by have := Nat.mod_lt q (show 0 < k + 1 by omega); omega
  generalize hrr : q % (k + 1) = r at hr
  -- behind the loop
  refine seq_cut (fun mm s h' => mm = [] ∧ Ext h h' ∧ s 7 = .int .i64 k ∧ Row 3 28 h' (s 9) (turns k n).length ((turns k n).flatMap pickC) ∧ Row 3 28 h' (s 10) (lessT k r n).length ((lessT k r n).flatMap pickC)) (fun J hJ _ _ => ?_) ?_
  rotate_left
  · rintro mm s h' ⟨rfl, he, hs7, hs9, hs10⟩
    have hx9 := hs9.sl pickC_len (R := PickR) (fun _ => rfl)
    have hx10 := hs10.sl pickC_len (R := PickR) (fun _ => rfl)
    have hll := lessT_len k r n
    simp only [hs7, bin_add, ov_s, hw1]
    refine fair_ok _ _ k _ (by omega) (by rw [turns_len]; omega) hx9 fun h2 he2 => ?_
    simp only [round_fair, isB_b, beq_self_eq_true, gM_t]
    refine longest_ok _ _ k (by omega) (by omega) (hx10.ext (@PickR.ext) he2) fun h3 he3 => ?_
    simp only [hx10.len, ov_s, less_long k r n hr, bin_eql, beq_self_eq_true, pkV_t, isB_b, gM_t]
    by_cases hz : (lessT k r n).length = 0
    · have hz' : (((lessT k r n).length : Int) == 0) = true := by simpa using hz
      simp only [hz', gM_t, gM_f, ov_s, pkV_t, beq_self_eq_true, show ((true == false) = false) from rfl]
      simp
      exact hk _ (he.trans (he2.trans he3))
    · have hz' : (((lessT k r n).length : Int) == 0) = false := by simpa using hz
      simp only [hz', gM_t, gM_f, ov_s, beq_self_eq_true, hx10.len]
      refine fair_ok _ _ k _ (by omega) (by omega) (hx10.ext (@PickR.ext) (he2.trans he3)) fun h4 he4 => ?_
      have hf : fairB (lessT k r n) k ((lessT k r n).length : Int) = false := by
        unfold fairB; rw [less_long k r n hr]; simp
      simp [hf]
      exact hk _ (he.trans (he2.trans (he3.trans he4)))
  refine loop_intro (fun mm s h' => mm = [] ∧ Ext h h' ∧ ∃ i : Nat, i ≤ n ∧ s 2 = .int .u8 q ∧ s 7 = .int .i64 k ∧ s 8 = .int .i64 n ∧ s 11 = .int .i64 i ∧
      Row 3 28 h' (s 9) (turns k i).length ((turns k i).flatMap pickC) ∧ Row 3 28 h' (s 10) (lessT k r i).length ((lessT k r i).flatMap pickC) ∧
      (∀ b, rowOf (s 9) = some b → h b = none) ∧ (∀ b, rowOf (s 10) = some b → h b = none) ∧ (∀ b, rowOf (s 9) = some b → rowOf (s 10) ≠ some b))
    (fun s _ => (n - num (s 11)).toNat)
    ⟨rfl, he1, 0, by omega, rfl, rfl, rfl, rfl, ⟨rfl, .inl ⟨rfl, rfl⟩⟩, ⟨rfl, .inl ⟨rfl, rfl⟩⟩, fun b hb => (rowNil hb).elim, fun b hb => (rowNil hb).elim, fun b hb => (rowNil hb).elim⟩ ?_
  rintro mm s h2 ⟨rfl, he2, i, hin, hs2, hs7, hs8, hs11, hs9, hs10, hf9, hf10, hne⟩
  simp only [hs11, hs8, bin_lss, ov_s, cd_b]
  refine ⟨fun hc1 => ?_, fun hc1 => ?_⟩
  rotate_left
  · have : ¬ ((i : Int) < n) := by simpa using hc1
    have hi : i = n := by omega
    subst hi
    simp only [lpM_e, blkM_e, if_true]
    exact hJ _ _ _ ⟨rfl, he2, by simp [hs7], by simpa using hs9, by simpa using hs10⟩
  have hlt : i < n := by have : ((i : Int) < n) := by simpa using hc1
                         omega
  -- p is laid
  refine seq_cut (fun mm s h' => mm = [] ∧ Ext h h' ∧ s 2 = .int .u8 q ∧ s 7 = .int .i64 k ∧ s 8 = .int .i64 n ∧ s 11 = .int .i64 i ∧
      Row 3 28 h' (s 9) (turns k (i + 1)).length ((turns k (i + 1)).flatMap pickC) ∧ Row 3 28 h' (s 10) (lessT k r (i + 1)).length ((lessT k r (i + 1)).flatMap pickC) ∧
      (∀ b, rowOf (s 9) = some b → h b = none) ∧ (∀ b, rowOf (s 10) = some b → h b = none) ∧ (∀ b, rowOf (s 9) = some b → rowOf (s 10) ≠ some b)) (fun J hJ2 _ _ => ?_) ?_
  rotate_left
  · rintro mm t h3 ⟨rfl, he3, ht2, ht7, ht8, ht11, ht9, ht10, hf9', hf10', hne'⟩
    have hw2 : IntKind.i64.wrap ((i : Int) + 1) = i + 1 := wrap64_id (by omega) (by omega)
    simp only [ht11, bin_add, ov_s, hw2, lpM_n]
    refine ⟨⟨trivial, he3, i + 1, by omega, by simp [ht2], by simp [ht7], by simp [ht8], by simp, by simpa using ht9, by simpa using ht10, by simpa using hf9', by simpa using hf10', by simpa using hne'⟩, ?_⟩
    simp [hs11]; omega
  have hmk : i % (k + 1) ≤ k := by have := Nat.mod_lt i (show 0 < k + 1 by omega); omega
  simp only [hs7, hs11, bin_add, ov_s, hw1, bin_remN, bdW, zc28]
  refine new_store rfl rfl (pickC_one ⟨0, ((i % (k + 1) : Nat) : Int), 0⟩) fun b h3 hb he3 hc3 => ?_
  -- whose pick it is
  refine seq_cut (fun mm s h' => mm = [] ∧ Ext h h' ∧ s 2 = .int .u8 q ∧ s 7 = .int .i64 k ∧ s 8 = .int .i64 n ∧ s 11 = .int .i64 i ∧ s 12 = .pointer (some ⟨b, 0, none⟩) ∧
      h' b = some (.cells (pickC (pickOf k i)).toArray 28 (0, 0)) ∧ 
      Row 3 28 h' (s 9) (turns k i).length ((turns k i).flatMap pickC) ∧ Row 3 28 h' (s 10) (lessT k r i).length ((lessT k r i).flatMap pickC) ∧
      (∀ b, rowOf (s 9) = some b → h b = none) ∧ (∀ b, rowOf (s 10) = some b → h b = none) ∧ (∀ b, rowOf (s 9) = some b → rowOf (s 10) ≠ some b) ∧ rowOf (s 9) ≠ some b ∧ rowOf (s 10) ≠ some b) (fun J hJ3 _ _ => ?_) ?_
  · simp only [faV_p, ov_s, ldV_c]
    have hcel : cel h3 b 1 = some (.int .i64 ((i % (k + 1) : Nat) : Int)) := by simp [cel, hc3, Value.cells]
    have hbk : h b = none := by
      cases hh : h b with
      | none => rfl
      | some o => rw [he2 _ _ hh] at hb; cases hb
    have hd9 : rowOf (s 9) ≠ some b := fun e => by obtain ⟨o, ho⟩ := hs9.lt b e; rw [hb] at ho; cases ho
    have hd10 : rowOf (s 10) ≠ some b := fun e => by obtain ⟨o, ho⟩ := hs10.lt b e; rw [hb] at ho; cases ho
    simp only [Nat.zero_add, hcel, ov_s, bin_eql, cd_b]
    refine ⟨fun hc2 => ?_, fun hc2 => ?_⟩
    · have hik : i % (k + 1) = k := by have : ((i % (k + 1) : Nat) : Int) = k := by simpa using hc2
                                       omega
      have hpk : pickOf k i = ⟨1, 0, 0⟩ := by simp [pickOf, hik]
      simp only [bd1, ov_s]
      refine st_intro hc3 rfl (by simp [Value.cells]) (pickC_one ⟨1, 0, 0⟩) fun h4 ho4 hc4 => ?_
      rw [over_all _ _ (by simp [Value.cells])] at hc4
      have hkp : Keep (some b) h3 h4 := fun k' o e n => (ho4 k' (fun e => n (by rw [e]))).trans e
      refine hJ3 _ _ _ ⟨rfl, (he2.trans he3).keep hkp (fun b' e => by cases e; exact hbk), by simp [hs2], by simp [hs7], by simp [hs8], by simp [hs11], by simp, by rw [hc4, hpk]; rfl,
        by simpa using (hs9.ext he3).keep hkp (.inl hd9), by simpa using (hs10.ext he3).keep hkp (.inl hd10), by simpa using hf9, by simpa using hf10, by simpa using hne, by simpa using hd9, by simpa using hd10⟩
    · have hik : ¬ i % (k + 1) = k := fun e => by simp [e] at hc2
      have hpk : pickOf k i = ⟨0, ((i % (k + 1) : Nat) : Int), 0⟩ := by simp [pickOf, hik]
      refine hJ3 _ _ _ ⟨rfl, he2.trans he3, by simp [hs2], by simp [hs7], by simp [hs8], by simp [hs11], by simp, by rw [hc3, hpk]; rfl,
        by simpa using hs9.ext he3, by simpa using hs10.ext he3, by simpa using hf9, by simpa using hf10, by simpa using hne, by simpa using hd9, by simpa using hd10⟩
  · rintro mm t h4 ⟨rfl, he4, ht2, ht7, ht8, ht11, ht12, htb, ht9, ht10, htf9, htf10, htn, htd9, htd10⟩
    have hld : ldV (some (some 3)) (.pointer (some ⟨b, 0, none⟩)) h4 = some (.agg #[.int .i64 (pickOf k i).kind, .int .i64 (pickOf k i).who, .int .u64 (pickOf k i).by_]) := ldV3 htb
    have hll := lessT_len k r i
    rw [ht12, hld, ov_s]
    refine app_pick (pickOf k i) ht9 (by rw [turns_len]; omega) fun _ v5 h5 hr5 hk5 ha5 => ?_
    rw [← turns_s] at hr5
    have he5 : Ext h h5 := he4.keep hk5 htf9
    have htb5 : h5 b = _ := hk5 _ _ htb (Ne.symm htd9)
    have hld5 : ldV (some (some 3)) (.pointer (some ⟨b, 0, none⟩)) h5 = some (.agg #[.int .i64 (pickOf k i).kind, .int .i64 (pickOf k i).who, .int .u64 (pickOf k i).by_]) := ldV3 htb5
    have hr10 := ht10.keep hk5 (by
      cases hro : rowOf (t 10) with
      | none => exact .inr rfl
      | some b' => exact .inl fun e => htn b' e.symm hro)
    have hf5 : ∀ b', rowOf v5 = some b' → h b' = none := by
      intro b' e
      rcases ha5 with ha5 | ⟨b2, ha5, hn5⟩
      · exact htf9 b' (ha5 ▸ e)
      · have hbb : b2 = b' := by rw [ha5] at e; exact Option.some.inj e
        subst hbb
        cases hh : h b2 with
        | none => rfl
        | some o => rw [he4 _ _ hh] at hn5; cases hn5
    have hn5 : ∀ b', rowOf v5 = some b' → rowOf (t 10) ≠ some b' := by
      intro b' e e10
      rcases ha5 with ha5 | ⟨b2, ha5, hn5⟩
      · exact htn b' (ha5 ▸ e) e10
      · have hbb : b2 = b' := by rw [ha5] at e; exact Option.some.inj e
        subst hbb
        obtain ⟨o, ho⟩ := ht10.lt _ e10; rw [hn5] at ho; cases ho
    simp only [ht7, ht11, ht2, bin_add, ov_s, hw1, bin_remN, cvV_i, hq1, hrr, bin_neq, cd_b]
    refine ⟨fun hc2 => ?_, fun hc2 => ?_⟩
    · have hne2 : ¬ i % (k + 1) = r := fun e => by simp [e] at hc2
      rw [hld5, ov_s]
      refine app_pick (pickOf k i) hr10 (by omega) fun _ v6 h6 hr6 hk6 ha6 => ?_
      have hls : lessT k r i ++ [pickOf k i] = lessT k r (i + 1) := by rw [lessT_s, if_neg hne2]
      rw [hls] at hr6
      have he6 : Ext h h6 := he5.keep hk6 htf10
      have hf6 : ∀ b', rowOf v6 = some b' → h b' = none := by
        intro b' e
        rcases ha6 with ha6 | ⟨b2, ha6, hn6⟩
        · exact htf10 b' (ha6 ▸ e)
        · have hbb : b2 = b' := by rw [ha6] at e; exact Option.some.inj e
          subst hbb
          cases hh : h b2 with
          | none => rfl
          | some o => rw [he5 _ _ hh] at hn6; cases hn6
      have hn6 : ∀ b', rowOf v5 = some b' → rowOf v6 ≠ some b' := by
        intro b' e e6
        rcases ha6 with ha6 | ⟨b2, ha6, hn6⟩
        · exact hn5 b' e (ha6 ▸ e6)
        · have hbb : b2 = b' := by rw [ha6] at e6; exact Option.some.inj e6
          subst hbb
          obtain ⟨o, ho⟩ := hr5.lt _ e; rw [hn6] at ho; cases ho
      have hr5' := hr5.keep hk6 (by
        cases hro : rowOf v5 with
        | none => exact .inr rfl
        | some b' => exact .inl fun e => hn5 b' hro e.symm)
      refine hJ2 _ _ _ ⟨rfl, he6, by simp [ht2], by simp [ht7], by simp [ht8], by simp [ht11], by simpa using hr5', by simpa using hr6, by simpa using hf5, by simpa using hf6, by simpa using hn6⟩
    · have hre : i % (k + 1) = r := by have : ((i % (k + 1) : Nat) : Int) = r := by simpa using hc2
                                       omega
      have hls : lessT k r i = lessT k r (i + 1) := by rw [lessT_s, if_pos hre]
      rw [hls] at hr10
      refine hJ2 _ _ _ ⟨rfl, he5, by simp [ht2], by simp [ht7], by simp [ht8], by simp [ht11], by simpa using hr5, by simpa using hr10, by simpa using hf5, by simpa using htf10, by simpa using hn5⟩
end Go.Proofs.Ytihdfnhnholooaa
