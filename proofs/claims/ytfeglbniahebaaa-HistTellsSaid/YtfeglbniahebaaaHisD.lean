/- Contract of the law HistTurned. No condition beyond the hypotheses that each theorem states. -/
import Derived.Test.YtfeglbniahebaaaHisC
set_option linter.unusedSimpArgs false
set_option linter.unusedVariables false
namespace Go.Proofs.Ytfeglbniahebaaa
open Go Go.Den Go.MapKept
set_option linter.unusedSimpArgs false
set_option linter.unusedVariables false
/-- Places k and k + 1 of an order change places. -/
def turnF (k i : Nat) : Nat := if i = k then k + 1 else if i = k + 1 then k else i
theorem turn_lt {k i j : Nat} (h : i < j) : turnF k i < turnF k j ∨ (i = k ∧ j = k + 1) := by
  unfold turnF
  repeat' split
  all_goals omega
theorem turn_in {k i n : Nat} (hk : k + 1 < n) (hi : i < n) : turnF k i < n := by
  unfold turnF
  repeat' split
  all_goals omega
theorem turn_turn (k i : Nat) : turnF k (turnF k i) = i := by
  unfold turnF
  repeat' split
  all_goals omega
def turned (O : List Nat) (k : Nat) : List Int := (List.range O.length).map fun i => ((O.getD (turnF k i) 0 : Nat) : Int)
theorem turned_len (O : List Nat) (k : Nat) : (turned O k).length = O.length := by simp [turned]
theorem turned_at {O : List Nat} {k i : Nat} (hk : k + 1 < O.length) (hi : i < (turned O k).length) : ∃ h : turnF k i < O.length, (turned O k)[i] = (O[turnF k i] : Nat) := by
  have hi' : i < O.length := by rw [turned_len] at hi; exact hi
  have := turn_in hk hi'
  exact ⟨this, by simp [turned, List.getD_eq_getElem?_getD, this]⟩
theorem resp_turned {xs : List HC} {O : List Nat} (hR : Resp xs (oI O)) {k : Nat} (hk : k + 1 < O.length) : Resp xs (turned O k) ↔ befB (cl xs (O[k]'(by omega))) (cl xs O[k + 1]) = false := by
  have at' : ∀ i (hi : i < O.length), ∃ h : i < (oI O).length, (oI O)[i] = (O[i] : Nat) := fun i hi => ⟨by simpa [oI] using hi, by simp [oI]⟩
  constructor
  · intro h
    have hl : k + 1 < (turned O k).length := by rw [turned_len]; exact hk
    have hb := h.bef k (k + 1) (by omega) hl (by omega)
    obtain ⟨a1, a2⟩ := turned_at hk (show k < (turned O k).length by omega)
    obtain ⟨b1, b2⟩ := turned_at hk hl
    have e1 : turnF k k = k + 1 := by simp [turnF]
    have e2 : turnF k (k + 1) = k := by simp [turnF]
    rw [a2, b2] at hb
    simp only [e1, e2] at hb
    simpa using hb
  · intro hb
    refine ⟨fun i hi => ?_, fun i j hi hj hij => ?_, fun i j hi hj hij => ?_, fun i hi he => ?_⟩
    · obtain ⟨a1, a2⟩ := turned_at hk hi
      obtain ⟨c1, c2⟩ := at' _ a1
      rw [a2, ← c2]
      exact hR.rng _ c1
    · obtain ⟨a1, a2⟩ := turned_at hk hi
      obtain ⟨b1, b2⟩ := turned_at hk hj
      obtain ⟨c1, c2⟩ := at' _ a1
      obtain ⟨d1, d2⟩ := at' _ b1
      rw [a2, b2, ← c2, ← d2]
      have hne : turnF k i ≠ turnF k j := fun e => by
        have := congrArg (turnF k) e
        rw [turn_turn, turn_turn] at this; omega
      rcases Nat.lt_or_gt_of_ne hne with h | h
      · exact hR.dis _ _ c1 d1 h
      · exact (hR.dis _ _ d1 c1 h).symm
    · obtain ⟨a1, a2⟩ := turned_at hk hi
      obtain ⟨b1, b2⟩ := turned_at hk hj
      rcases turn_lt (k := k) hij with h | ⟨rfl, rfl⟩
      · obtain ⟨c1, c2⟩ := at' _ a1
        obtain ⟨d1, d2⟩ := at' _ b1
        rw [a2, b2, ← c2, ← d2]
        exact hR.bef _ _ c1 d1 h
      · have e1 : turnF i i = i + 1 := by simp [turnF]
        have e2 : turnF i (i + 1) = i := by simp [turnF]
        rw [a2, b2]
        simp only [e1, e2]
        simpa using hb
    · have hm := hR.all i hi he
      simp only [oI, List.mem_map] at hm
      obtain ⟨j, hj, e⟩ := hm
      obtain ⟨q, hq, rfl⟩ := List.getElem_of_mem hj
      have ht := turn_in hk hq
      have hl : turnF k q < (turned O k).length := by rw [turned_len]; exact ht
      obtain ⟨a1, a2⟩ := turned_at hk hl
      have : (turned O k)[turnF k q] = (i : Int) := by
        rw [a2]
        simp only [turn_turn]
        exact e
      rw [← this]
      exact List.getElem_mem hl
theorem rowD_ir {h : Heap} {v : Value} {n : Nat} {D : Nat → Int} (r : RowD h v n D) : Sl 1 IR h v ((List.range n).map D) := by
  have e := seqF_enc (fun k : Nat => [Value.int .i64 (D k)]) 0 (List.range n)
  have e1 : seqF (List.range n).length (fun k => [Value.int .i64 (D ((List.range n).getD k 0))]) = seqF n (fun k => [.int .i64 (D k)]) := by
    rw [List.length_range]
    exact seqF_congr fun k hk => by simp [List.getD_eq_getElem?_getD, hk]
  rw [e1] at e
  have e2 : ((List.range n).map D).flatMap (fun n => [Value.int .i64 n]) = seqF n (fun k => [.int .i64 (D k)]) := by
    rw [List.flatMap_map]; exact e.symm
  unfold RowD at r
  rw [← e2] at r
  have e3 : n = ((List.range n).map D).length := by simp
  conv at r => arg 5; rw [e3]
  exact Row.sl (R := IR) (enc := fun n => [Value.int .i64 n]) (fun _ => rfl) (fun _ => rfl) r
theorem turned_ok {xs : List HC} {a : Int} (ha : 0 ≤ a ∧ a ≤ 255) {h : Heap} {v : Value} (x : Sl 18 CallR h v xs) {K : Value → Heap → Prop} (hk : ∀ h', Ext h h' → K (.bool true) h') : callM P fn_doormanlaw20_HistTurned #[v, .int .u8 a] h K := by
  apply e_doormanlaw20_HistTurned
  unfold d_doormanlaw20_HistTurned
  refine hawake_ok fun h1 he1 => ?_
  unfold d_doormanlaw20_HistTurned_1
  refine guard_len x.len (fun hbig => hawake_ok fun h2 he2 => hk _ (he1.trans he2)) fun hsm => ?_
  have hl : xs.length ≤ 80 := by omega
  unfold d_doormanlaw20_HistTurned_2
  refine order_ok (by omega) (callS_ext he1 x) fun h2 v2 O he2 hr2 hO _ => ?_
  have hx2 := he1.trans he2
  have hl2 := row_lnV hr2
  have hOl := hO.len
  have htl := takeN_len xs xs.length
  have hm : ∀ k (hk : k < O.length), O[k] < xs.length ∧ 0 ≤ (cl xs O[k]).p := fun k hk => (hO.mem _).1 (List.getElem_mem hk)
  unfold d_doormanlaw20_HistTurned_3
  by_cases h2l : (O.length : Int) < 2
  · simp +contextual -implicitDefEqProofs [hl2, h2l]
    exact hk _ hx2
  simp +contextual -implicitDefEqProofs [hl2, h2l]
  refine respects_ok (by omega) (by simp; omega) (callS_ext hx2 x) (rowN_ir hr2) fun h3 b he3 hb => ?_
  have hx3 := hx2.trans he3
  cases b
  · simp -implicitDefEqProofs
    exact hk _ hx3
  simp -implicitDefEqProofs
  have hR : Resp xs (oI O) := hb.1 rfl
  have hr3 := hr2.ext he3
  have hl3 := row_lnV hr3
  have hwa : IntKind.i64.wrap a = a := i64w (by omega) (by omega)
  have hw1 : IntKind.i64.wrap ((O.length : Int) - 1) = O.length - 1 := i64w (by omega) (by omega)
  have hne0 : ((O.length : Int) - 1) ≠ 0 := by omega
  obtain ⟨k, hk1, hk2⟩ : ∃ k : Nat, a.tmod ((O.length : Int) - 1) = k ∧ k + 1 < O.length := by
    have h1 : a.tmod ((O.length : Int) - 1) = a % ((O.length : Int) - 1) := tmod_pos ha.1
    have h2 := Int.emod_nonneg a hne0
    have h3 := Int.emod_lt_of_pos a (show (0 : Int) < (O.length : Int) - 1 by omega)
    exact ⟨(a % ((O.length : Int) - 1)).toNat, by omega, by omega⟩
  have hwk : IntKind.i64.wrap ((k : Int) + 1) = (k + 1 : Nat) := by rw [i64w (by omega) (by omega)]; omega
  unfold d_doormanlaw20_HistTurned_4
  simp -implicitDefEqProofs only [cvV_i, hwa, hl3, bin_sub, hw1, bin_rem _ _ _ _ _ hne0, ov_s, hk1]
  refine bs_none bsSlI fun ev h4 he4 hr4 hen hef => ?_
  refine app_sl (enc := fun n => [Value.int .i64 n]) (R := IR) (ys := oI O) (by kernel_rfl) apI (by omega) hr4 (fun h => h) (ir_ext he4 (rowN_ir hr3)) (fun y u hu => by simp at hu; subst hu; rfl) (by simp [oI]; unfold maxLen; omega) (by simp [oI]; omega) fun v5 h5 hr5 hk5 ha5 => ?_
  have hfr5 : ∀ g, rowOf v5 = some g → h3 g = none := fun g hg => by
    rcases ha5 with ha | ⟨q, hq, hn⟩
    · rw [ha] at hg; exact hef g hg
    · rw [hq] at hg; cases hg; exact fresh_of he4 hn
  have hx35 : Ext h3 h5 := he4.keep hk5 hef
  have hr5 : RowD h5 v5 O.length (fun i => (O.getD i 0 : Nat)) := by
    have e := seqF_enc (fun k : Nat => [Value.int .i64 (k : Int)]) 0 O
    have e2 : (oI O).flatMap (fun n => [Value.int .i64 n]) = O.flatMap (fun k : Nat => [Value.int .i64 (k : Int)]) := by unfold oI; rw [List.flatMap_map]
    have e3 : 0 + (oI O).length = O.length := by simp [oI]
    rw [e2, e3, ← e, List.nil_append] at hr5
    exact hr5
  obtain ⟨g, g1, i1, c1⟩ := rowD_at (k := .i64) hr5 (show k + 1 < O.length from hk2)
  obtain ⟨g', g1', i2, c2⟩ := rowD_at (k := .i64) hr5 (show k < O.length by omega)
  obtain rfl : g = g' := by rw [g1] at g1'; exact Option.some.inj g1'
  unfold d_doormanlaw20_HistTurned_5
  simp -implicitDefEqProofs only [bin_add, hwk, ov_s, i1, i2, ldV_c, c1, c2]
  refine rowD_st hr5 g1 (by omega) fun h6 ho6 hr6 => ?_
  refine rowD_st hr6 g1 (by omega) fun h7 ho7 hr7 => ?_
  have hx7 : Ext h3 h7 := by
    refine Ext.keep (r := some g) hx35 (fun b o e hne => ?_) (fun b hb => hfr5 b (g1.trans hb))
    have hne' : b ≠ g := fun h => hne (by rw [h])
    rw [ho7 _ hne', ho6 _ hne']; exact e
  have hgn : h3 g = none := hfr5 g g1
  have hr37 := hr3.ext hx7
  obtain ⟨p1, q1, j1, d1⟩ := rowN_at (k := .i64) hr37 (show k < O.length by omega)
  obtain ⟨p2, q2, j2, d2⟩ := rowN_at (k := .i64) hr37 hk2
  have hx37 := hx3.trans hx7
  obtain ⟨ok1, b1, o1, m1, l1⟩ := call_at (k := .i64) x (hm k (by omega)).1
  obtain ⟨ok2, b2, o2, m2, l2⟩ := call_at (k := .i64) x (hm (k + 1) hk2).1
  simp -implicitDefEqProofs only [j1, j2, ov_s, ldV_c, d1, d2, m1, m2, (l1 _ hx37).1, (l2 _ hx37).1]
  have ht := rowD_ir hr7
  have e : (List.range O.length).map (fun i => if i = k + 1 then ((O.getD k 0 : Nat) : Int) else if i = k then ((O.getD (k + 1) 0 : Nat) : Int) else ((O.getD i 0 : Nat) : Int)) = turned O k := by
    unfold turned
    refine List.map_congr_left fun i _ => ?_
    unfold turnF
    by_cases q1 : i = k
    · subst q1
      simp
    · by_cases q2 : i = k + 1
      · subst q2; simp
      · simp [q1, q2]
  rw [e] at ht
  refine respects_ok (by omega) (by rw [turned_len]; omega) (callS_ext hx37 x) ht fun h8 b he8 hb8 => ?_
  have hx8 := hx37.trans he8
  have hr38 := hr37.ext he8
  obtain ⟨p1', q1', j1', d1'⟩ := rowN_at (k := .i64) hr38 (show k < O.length by omega)
  obtain ⟨p2', q2', j2', d2'⟩ := rowN_at (k := .i64) hr38 hk2
  obtain rfl : p1 = p1' := by rw [q1] at q1'; exact Option.some.inj q1'
  obtain rfl : p2 = p2' := by rw [q2] at q2'; exact Option.some.inj q2'
  unfold d_doormanlaw20_HistTurned_6
  refine ⟨by simp [ldV_c, d1'], (l1 _ hx8).1, by simp [ldV_c, d2'], (l2 _ hx8).1, ?_⟩
  refine before_ok ok1 ok2 fun h9 he9 => ?_
  have hfin : (b == !befB (cl xs (O[k]'(by omega))) (cl xs O[k + 1])) = true := by
    have h1 := hb8.trans (resp_turned hR hk2)
    cases b <;> cases hh : befB (cl xs (O[k]'(by omega))) (cl xs O[k + 1]) <;> simp [hh] at h1 ⊢
  simp -implicitDefEqProofs only [unV_n, ov_s, bin_bool_eq, hfin]
  exact hk _ (hx8.trans he9)
end Go.Proofs.Ytfeglbniahebaaa
