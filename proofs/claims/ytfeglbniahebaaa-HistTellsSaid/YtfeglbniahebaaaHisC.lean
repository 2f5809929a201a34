/- Contract of the law HistFront. No condition beyond the hypotheses that each theorem states. -/
import Derived.Test.YtfeglbniahebaaaHisB
set_option linter.unusedSimpArgs false
set_option linter.unusedVariables false
namespace Go.Proofs.Ytfeglbniahebaaa
open Go Go.Den Go.MapKept
set_option linter.unusedSimpArgs false
set_option linter.unusedVariables false
theorem cl_take {xs : List HC} {n i : Nat} (h : i < n) : cl (xs.take n) i = cl xs i := by simp [cl, List.getD_eq_getElem?_getD, List.getElem?_take, h]
theorem lst_take {xs : List HC} {n : Nat} : ∀ {i : Nat}, i ≤ n → lst (xs.take n) i = lst xs i
  | 0, _ => rfl
  | i + 1, h => by funext w; simp only [lst, cl_take (show i < n by omega), lst_take (show i ≤ n by omega)]
theorem pld_take {xs : List HC} {n : Nat} : ∀ {i : Nat}, i ≤ n → pld (xs.take n) i = pld xs i
  | 0, _ => rfl
  | i + 1, h => by funext w; simp only [pld, cl_take (show i < n by omega), pld_take (show i ≤ n by omega)]
theorem bad_take {xs : List HC} {n i : Nat} (h : i < n) : badB (xs.take n) i = badB xs i := by
  have h1 : cl (xs.take n) (i - 1) = cl xs (i - 1) := cl_take (by omega)
  unfold badB metB
  rw [cl_take h, lst_take (by omega), pld_take (by omega), h1]
  cases hL : lst xs i (cl xs i).w with
  | none => rfl
  | some j => simp only [cl_take (show j < n by have := lst_lt hL; omega)]
theorem ord_take {xs : List HC} {O : List Nat} {n : Nat} (hn : n ≤ xs.length) (h : IsOrd xs O) : IsOrd (xs.take n) (O.filter fun i => decide (i < n)) := by
  refine ⟨fun i => ?_, ?_⟩
  · simp only [List.mem_filter, h.mem, decide_eq_true_eq, List.length_take]
    by_cases hi : i < n
    · rw [cl_take hi]; omega
    · omega
  · refine (h.srt.filter _).imp_of_mem fun {i j} hi hj hij => ?_
    have hi := (List.mem_filter.1 hi).2
    have hj := (List.mem_filter.1 hj).2
    rw [cl_take (by simpa using hi), cl_take (by simpa using hj)]
    exact hij
theorem filt_at {O : List Nat} {p : Nat → Bool} {i : Nat} (hi : i < O.length) (hp : p O[i] = true) : ∃ hk : ((O.take i).filter p).length < (O.filter p).length, (O.filter p)[((O.take i).filter p).length] = O[i] := by
  have e : O.filter p = (O.take i).filter p ++ O[i] :: (O.drop (i + 1)).filter p := by
    conv => lhs; rw [← List.take_append_drop i O]
    rw [List.filter_append, List.drop_eq_getElem_cons hi, List.filter_cons, if_pos hp]
  refine ⟨by rw [e]; simp, ?_⟩
  simp [e]
theorem front_ok' {xs : List HC} {a : Int} (ha : 0 ≤ a ∧ a ≤ 255) {h : Heap} {v : Value} (x : Sl 18 CallR h v xs) {K : Value → Heap → Prop} (hk : ∀ h', Ext h h' → K (.bool true) h') : callM P fn_doormanlaw20_HistFront #[v, .int .u8 a] h K := by
  apply e_doormanlaw20_HistFront
  unfold d_doormanlaw20_HistFront
  have hlen := x.len
  refine hawake_ok fun h1 he1 => ?_
  unfold d_doormanlaw20_HistFront_1
  have hend : ∀ q (hx : Ext h1 q), callM P fn_doormanlaw20_awake #[] q fun v h => K v h := fun q hx => hawake_ok fun h2 he2 => hk _ ((he1.trans hx).trans he2)
  simp +contextual -implicitDefEqProofs [hlen]
  refine ⟨fun _ => hend _ (Ext.refl _), fun hsm hne => ?_⟩
  have hl : xs.length ≤ 80 := by omega
  have hpos : 0 < xs.length := List.length_pos_iff.2 hne
  unfold d_doormanlaw20_HistFront_2
  refine check_ok (by omega) (callS_ext he1 x) fun h2 i ok he2 hA => ?_
  have hx2 := he1.trans he2
  unfold d_doormanlaw20_HistFront_3
  simp -implicitDefEqProofs only [exV_0, exV_1, ov_s, unV_n, cd_b]
  refine ⟨fun _ => hk _ hx2, fun hok => ?_⟩
  have hok : ok = true := by simpa using hok
  have hg : ∀ k < xs.length, badB xs k = false := by
    rcases hA with hA | hA
    · exact hA.2.2
    · rw [hok] at hA; cases hA.1
  obtain ⟨n, hn, hn2⟩ : ∃ n : Nat, a.tmod xs.length = n ∧ n < xs.length := by
    have h1 : a.tmod xs.length = a % xs.length := tmod_pos ha.1
    have h2 := Int.emod_nonneg a (show (xs.length : Int) ≠ 0 by omega)
    have h3 := Int.emod_lt_of_pos a (show (0 : Int) < xs.length by omega)
    exact ⟨(a % xs.length).toNat, by omega, by omega⟩
  have hwa : IntKind.i64.wrap a = a := i64w (by omega) (by omega)
  have hne0 : (xs.length : Int) ≠ 0 := by omega
  obtain ⟨w, hw, y⟩ := x.cut (lo := none) (hi := some (.int .i64 n)) (L := 0) (H := n) (fun cap hc => by simp [bnd]; omega) (by simp [bnd]) (by omega) (by omega)
  rw [List.drop_zero] at y
  unfold d_doormanlaw20_HistFront_4
  simp -implicitDefEqProofs only [cvV_i, hwa, hlen, bin_rem _ _ _ _ _ hne0, ov_s, hn, hw]
  refine check_ok (by simp; omega) (callS_ext hx2 y) fun h3 i' ok' he3 hA' => ?_
  have hx3 := hx2.trans he3
  have hok' : ok' = true := by
    rcases hA' with hA' | ⟨_, k, _, h5, h6, _⟩
    · exact hA'.1
    · simp only [List.length_take] at h5
      rw [bad_take (by omega), hg k (by omega)] at h6
      cases h6
  subst hok'
  unfold d_doormanlaw20_HistFront_5
  simp -implicitDefEqProofs only [exV_0, exV_1, ov_s, unV_n, cd_b]
  refine ⟨fun h => by simp at h, fun _ => ?_⟩
  unfold d_doormanlaw20_HistFront_6
  simp -implicitDefEqProofs only [hw, ov_s]
  refine order_ok (by simp; omega) (callS_ext hx3 y) fun h4 v4 O4 he4 hr4 hO4 _ => ?_
  have hx4 := hx3.trans he4
  unfold d_doormanlaw20_HistFront_7
  refine order_ok (by omega) (callS_ext hx4 x) fun h5 v5 O he5 hr5 hO _ => ?_
  have hx5 := hx4.trans he5
  have hA4 : O4 = O.filter fun i => decide (i < n) := hO4.uniq (ord_take (by omega) hO)
  have hr4 := hr4.ext he5
  have hl4 := row_lnV hr4
  have hl5 := row_lnV hr5
  have hOl := hO.len
  have htl := takeN_len xs xs.length
  unfold d_doormanlaw20_HistFront_8
  rw [seqM_eq]
  unfold d_doormanlaw20_HistFront_9
  refine loop_on [7, 10, 11] (fun s h' => h' = h5 ∧ ∃ i : Nat, i ≤ O.length ∧ s 13 = .int .i64 i ∧ s 12 = .int .i64 ((O.take i).filter fun i => decide (i < n)).length) (fun s _ => (O.length - num (s 13)).toNat) ⟨rfl, 0, by omega, by simp, by simp⟩ ?_
  rintro s h6 hf ⟨rfl, i, hi, s13, s12⟩
  have s7 : s 7 = .int .i64 n := by simpa using hf 7 (by simp)
  have s10 : s 10 = v4 := by simpa using hf 10 (by simp)
  have s11 : s 11 = v5 := by simpa using hf 11 (by simp)
  have wi : IntKind.i64.wrap ((i : Int) + 1) = i + 1 := i64w (by omega) (by omega)
  unfold d_doormanlaw20_HistFront_10
  simp -implicitDefEqProofs only [s11, hl5, ov_s, s13, bin_lss, cd_b]
  refine ⟨fun hc => ?_, fun hc => ?_⟩
  rotate_left
  · have : i = O.length := by have : ¬ ((i : Int) < O.length) := by simpa using hc
                              omega
    subst this
    simp only [lpM_e, blkM_e, if_true, thenM_n]
    unfold d_doormanlaw20_HistFront_17
    simp [s10, hl4, s12, hA4]
    exact hk _ hx5
  have hlt : i < O.length := by have : ((i : Int) < O.length) := by simpa using hc
                                omega
  unfold d_doormanlaw20_HistFront_11
  refine seq_cut (fun m' s' h' => m' = [] ∧ h' = h6 ∧ (∀ k ∈ [7, 10, 11, 13], s' k = s k) ∧ s' 12 = .int .i64 ((O.take (i + 1)).filter fun i => decide (i < n)).length) (fun J hJ _ _ => ?_) ?_
  rotate_left
  · rintro m' s' h' ⟨rfl, rfl, hf', s12'⟩
    simp [hf' 7 (by simp), hf' 10 (by simp), hf' 11 (by simp), hf' 13 (by simp), s13, wi, s7, s10, s11]
    exact ⟨⟨i + 1, by omega, by simp, s12'⟩, by omega⟩
  obtain ⟨g, g1, g2, g3⟩ := rowN_at (k := .i64) hr5 hlt
  have hts : (O.take (i + 1)).filter (fun i => decide (i < n)) = (O.take i).filter (fun i => decide (i < n)) ++ if O[i] < n then [O[i]] else [] := by
    rw [List.take_succ_eq_append_getElem hlt, List.filter_append]
    by_cases h : O[i] < n <;> simp [h]
  unfold d_doormanlaw20_HistFront_12
  simp -implicitDefEqProofs only [s11, s13, g2, ov_s, ldV_c, g3, s7, bin_lss, cd_b]
  refine ⟨fun hc2 => ?_, fun hc2 => ?_⟩
  · have hin : O[i] < n := by have : ((O[i] : Int) < n) := by simpa using hc2
                              omega
    obtain ⟨hk1, hk2⟩ := filt_at (p := fun i => decide (i < n)) hlt (by simpa using hin)
    have hk3 : ((O.take i).filter fun i => decide (i < n)).length < O4.length := by rw [hA4]; exact hk1
    obtain ⟨g', g1', g2', g3'⟩ := rowN_at (k := .i64) hr4 hk3
    have e4 : O4[((O.take i).filter fun i => decide (i < n)).length] = O[i] := by rw [← hk2]; simp only [hA4]
    rw [e4] at g3'
    have hlf := List.length_filter_le (fun i => decide (i < n)) (O.take i)
    have : (O.take i).length ≤ i := by simp; omega
    have wk : IntKind.i64.wrap ((((O.take i).filter fun i => decide (i < n)).length : Int) + 1) = ((O.take i).filter fun i => decide (i < n)).length + 1 := i64w (by omega) (by omega)
    have hnge : ¬ (O4.length ≤ ((O.take i).filter fun i => decide (i < n)).length) := by omega
    unfold d_doormanlaw20_HistFront_13
    simp +contextual -implicitDefEqProofs [s10, s12, hl4, hnge, g2', g3', s11, s13, g2, g3]
    unfold d_doormanlaw20_HistFront_15
    simp -implicitDefEqProofs only [s12, bin_add, ov_s, wk]
    exact hJ _ _ _ ⟨rfl, rfl, by simp, by rw [hts, if_pos hin]; simp⟩
  · have hin : ¬ O[i] < n := by have : ¬ ((O[i] : Int) < n) := by simpa using hc2
                                omega
    unfold d_doormanlaw20_HistFront_16
    exact hJ _ _ _ ⟨rfl, rfl, by simp, by rw [hts, if_neg hin]; simp [s12]⟩
end Go.Proofs.Ytfeglbniahebaaa
