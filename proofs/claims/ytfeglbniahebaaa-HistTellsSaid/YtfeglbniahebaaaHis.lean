/- Contracts of hist.Before, hist.Right, hist.Order and of the laws HistChain and HistSorted. No condition beyond the hypotheses that each theorem states. -/
import Derived.Test.YtfeglbniahebaaaSrt
set_option linter.unusedSimpArgs false
set_option linter.unusedVariables false
namespace Go.Proofs.Ytfeglbniahebaaa
open Go Go.Den Go.MapKept
set_option linter.unusedSimpArgs false
set_option linter.unusedVariables false
/-- A call in memory: its cells, of which but four are looked at. -/
structure HC where
  cs : List Value
  w : Int
  b : Int
  p : Int
  e : Int
def HC.ok (x : HC) : Prop := x.cs.length = 18 ∧ x.cs[0]? = some (.int .i64 x.w) ∧ x.cs[11]? = some (.int .i64 x.b) ∧ x.cs[12]? = some (.int .i64 x.p) ∧ x.cs[13]? = some (.int .i64 x.e) ∧ ∀ u ∈ x.cs, u.oneCell' = true
def CallR (_ : Heap) (c : List Value) (x : HC) : Prop := c = x.cs ∧ x.ok
theorem HC.ok.sz {x : HC} (h : x.ok) : (x.cs.toArray).size = 18 := by simpa using h.1
theorem HC.ok.get {x : HC} (h : x.ok) {hp : Heap} {b : Nat} {e : TypeId} {f : Nat × Nat} (hb : hp b = some (.cells x.cs.toArray e f)) : cel hp b 0 = some (.int .i64 x.w) ∧ cel hp b 11 = some (.int .i64 x.b) ∧ cel hp b 12 = some (.int .i64 x.p) ∧ cel hp b 13 = some (.int .i64 x.e) := by
  obtain ⟨_, h0, h1, h2, h3, _⟩ := h
  have g : ∀ i, cel hp b i = x.cs[i]? := fun i => by rw [cel_of hb]; simp
  exact ⟨(g 0).trans h0, (g 11).trans h1, (g 12).trans h2, (g 13).trans h3⟩
def cl (xs : List HC) (i : Nat) : HC := xs.getD i ⟨[], 0, 0, 0, 0⟩
theorem call_at {h : Heap} {v : Value} {xs : List HC} (x : Sl 18 CallR h v xs) {i : Nat} (hi : i < xs.length) {k : IntKind} : (cl xs i).ok ∧ ∃ b o, iaV (some (none, 18)) v (.int k i) = some (.pointer (some ⟨b, o, none⟩)) ∧
    ∀ h', Ext h h' → ldV (some (some 18)) (.pointer (some ⟨b, o, none⟩)) h' = some (.agg (cl xs i).cs.toArray) ∧ cel h' b (o + 11) = some (.int .i64 (cl xs i).b) ∧ cel h' b (o + 12) = some (.int .i64 (cl xs i).p) ∧ cel h' b (o + 13) = some (.int .i64 (cl xs i).e) ∧ cel h' b (o + 0) = some (.int .i64 (cl xs i).w) := by
  obtain ⟨b, o, c, h1, h2, h3, h4⟩ := x.at (k := k) (i := i) (by omega) (by omega)
  have hx : xs[(i : Int).toNat]'(by omega) = cl xs i := by simp [cl, hi]
  rw [hx] at h3 h4
  subst h3
  refine ⟨h4, b, o, h1, fun h' e => ?_⟩
  have h5 := cels_ext e h2
  obtain ⟨hl, g0, g1, g2, g3, _⟩ := h4
  have h6 := (cels_get h5).2
  have g : ∀ j u, (cl xs i).cs[j]? = some u → cel h' b (o + j) = some u := fun j u hu => by
    obtain ⟨hj, he⟩ := List.getElem?_eq_some_iff.1 hu
    rw [h6 j hj, he]
  exact ⟨ldV_n h5, g 11 _ g1, g 12 _ g2, g 13 _ g3, g 0 _ g0⟩
theorem zcCall : ∃ z : Array Value, zc P ty_api_Call = some z ∧ z.size = 18 := ⟨#[.int .i64 0, .int .i64 0, .int .i64 0, .string ⟨#[]⟩, .int .i64 0, .int .i64 0, .int .i64 0, .int .u64 0, .slice none 0 0, .int .i64 0, .int .u64 0, .int .i64 0, .int .i64 0, .int .i64 0, .int .i64 0, .slice none 0 0, .slice none 0 0, .bool false], by kernel_rfl, rfl⟩
/-- A box that holds a call. -/
theorem box_call {x : HC} (hx : x.ok) {h : Heap} {K : Value → Heap → Prop} (hk : ∀ b h', h b = none → Ext h h' → h' b = some (.cells x.cs.toArray ty_api_Call (0, 0)) → K (.pointer (some ⟨b, 0, none⟩)) h') :
    nwM (zc P ty_api_Call) ty_api_Call h fun p h' => stM (some 18) p (.agg x.cs.toArray) h' fun h'' => K p h'' := by
  obtain ⟨z, hz, hs⟩ := zcCall
  rw [hz]
  exact nw_st hs hx.sz (by simpa [Value.cells] using hx.2.2.2.2.2) hk
def befB (a b : HC) : Bool := decide (0 ≤ a.e) && decide (a.e < b.b)
theorem before_ok {a b : HC} (ha : a.ok) (hb : b.ok) {h : Heap} {K : Value → Heap → Prop} (hk : ∀ h', Ext h h' → K (.bool (befB a b)) h') : callM P fn_hist_Before #[.agg a.cs.toArray, .agg b.cs.toArray] h K := by
  apply e_hist_Before
  unfold d_hist_Before
  refine nw_agg fun v1 h1 hv1 he1 hc1 => nw_agg fun v2 h2 hv2 he2 hc2 => ?_
  obtain ⟨_, _, _, q1⟩ := ha.get (he2 _ _ hc1)
  obtain ⟨_, q2, _, _⟩ := hb.get hc2
  simp +contextual -implicitDefEqProofs [q1, q2]
  exact hk _ (he1.trans he2)
theorem rbefore_ok {a b : HC} (ha : a.ok) (hb : b.ok) {h : Heap} {K : Value → Heap → Prop} (hk : ∀ h', Ext h h' → K (.bool (befB a b)) h') : callM P fn_doormanref20_Before #[.agg a.cs.toArray, .agg b.cs.toArray] h K := by
  apply e_doormanref20_Before
  unfold d_doormanref20_Before
  refine nw_agg fun v1 h1 hv1 he1 hc1 => nw_agg fun v2 h2 hv2 he2 hc2 => ?_
  obtain ⟨_, _, _, q1⟩ := ha.get (he2 _ _ hc1)
  obtain ⟨_, q2, _, _⟩ := hb.get hc2
  simp +contextual -implicitDefEqProofs [q1, q2]
  exact hk _ (he1.trans he2)
def rightB (c : HC) : Bool := !(decide (c.b < 0) || decide (c.p < -1) || decide (c.e < -1)) && !(decide (0 ≤ c.p) && decide (c.p < c.b)) && (decide (c.e < 0) || (decide (0 ≤ c.p) && decide (c.p ≤ c.e)))
theorem right_ok {a : HC} (ha : a.ok) {h : Heap} {K : Value → Heap → Prop} (hk : ∀ h', Ext h h' → K (.bool (rightB a)) h') : callM P fn_hist_right #[.agg a.cs.toArray] h K := by
  apply e_hist_right
  unfold d_hist_right
  refine nw_agg fun v1 h1 hv1 he1 hc1 => ?_
  obtain ⟨_, q1, q2, q3⟩ := ha.get hc1
  have hk' := hk _ he1
  try unfold d_hist_right_1
  simp +contextual -implicitDefEqProofs [q1, q2, q3]
  refine ⟨fun h => ?_, fun c1 c2 c3 => ⟨fun c4 c5 => ?_, fun c4 => ?_⟩⟩
  · have : rightB a = false := by
      unfold rightB
      have : (decide (a.b < 0) || decide (a.p < -1) || decide (a.e < -1)) = true := by simpa using h
      rw [this]; rfl
    rw [this] at hk'; exact hk'
  · have : rightB a = false := by
      unfold rightB
      have : (decide (0 ≤ a.p) && decide (a.p < a.b)) = true := by simp [c4, c5]
      rw [this]; simp
    rw [this] at hk'; exact hk'
  · unfold d_hist_right_2
    simp +contextual -implicitDefEqProofs [q1, q2, q3]
    have e1 : (decide (a.b < 0) || decide (a.p < -1) || decide (a.e < -1)) = false := by simp; omega
    have e2 : (decide (0 ≤ a.p) && decide (a.p < a.b)) = false := by simp; omega
    unfold rightB at hk'
    rw [e1, e2] at hk'
    simpa using hk'
theorem isNaN_ok (x : Int) {h : Heap} {K : Value → Heap → Prop} (hk : K (.bool false) h) : callM P fn_cmp_isNaN_int #[.int .i64 x] h K := by
  apply e_cmp_isNaN_int
  unfold d_cmp_isNaN_int
  simpa using hk
theorem compare_ok (x y : Int) {h : Heap} {K : Value → Heap → Prop} (hk : ∀ r, (r < 0 ↔ x < y) → K (.int .i64 r) h) : callM P fn_cmp_Compare_int #[.int .i64 x, .int .i64 y] h K := by
  apply e_cmp_Compare_int
  unfold d_cmp_Compare_int
  refine isNaN_ok x ?_
  unfold d_cmp_Compare_int_1
  refine isNaN_ok y ?_
  try unfold d_cmp_Compare_int_2
  try unfold d_cmp_Compare_int_3
  simp
  unfold d_cmp_Compare_int_4
  simp only [bin_lss, ov_s, cd_b]
  refine ⟨fun h1 => hk _ (by have : x < y := by simpa using h1
                             omega), fun h1 => ?_⟩
  have h2 : ¬ x < y := by simpa using h1
  try unfold d_cmp_Compare_int_5
  simp only [bin_gtr, ov_s, cd_b]
  exact ⟨fun _ => hk _ (by omega), fun _ => hk _ (by omega)⟩
/-- The calls that took place, in order. -/
def takeN (xs : List HC) (n : Nat) : List Nat := (List.range n).filter fun i => decide (0 ≤ (cl xs i).p)
def keyH (xs : List HC) (x : Int) : Int := (cl xs x.toNat).p
structure IsOrd (xs : List HC) (O : List Nat) : Prop where
  mem : ∀ i, i ∈ O ↔ i < xs.length ∧ 0 ≤ (cl xs i).p
  srt : O.Pairwise fun i j => (cl xs i).p < (cl xs j).p ∨ ((cl xs i).p = (cl xs j).p ∧ i < j)
theorem takeN_s (xs : List HC) (n : Nat) : takeN xs (n + 1) = if 0 ≤ (cl xs n).p then takeN xs n ++ [n] else takeN xs n := by
  unfold takeN
  rw [List.range_succ, List.filter_append]
  by_cases h : 0 ≤ (cl xs n).p <;> simp [h]
theorem takeN_len (xs : List HC) (n : Nat) : (takeN xs n).length ≤ n := by
  unfold takeN; exact Nat.le_trans (List.length_filter_le _ _) (by simp)
theorem takeN_inc (xs : List HC) (n : Nat) : (takeN xs n).Pairwise (· < ·) := List.pairwise_lt_range.filter _
theorem flat_intsC : ∀ l : List Nat, l.flatMap (fun k : Nat => [Value.int .i64 (k : Int)]) = intsC l
  | [] => rfl
  | x :: l => by rw [List.flatMap_cons, flat_intsC l]; simp [intsC]
theorem rowN_D {h : Heap} {v : Value} {l : List Nat} (r : RowN h v l) : RowD h v l.length (fun k => (l.getD k 0 : Nat)) := by
  have e := seqF_enc (fun k : Nat => [Value.int .i64 (k : Int)]) 0 l
  unfold RowN at r
  rw [← flat_intsC, ← e] at r
  exact r
theorem seq_ints (D : Nat → Int) : ∀ n, (∀ k, k < n → 0 ≤ D k) → intsC ((List.range n).map fun k => (D k).toNat) = seqF n (fun k => [.int .i64 (D k)])
  | 0, _ => rfl
  | n + 1, hD => by
    rw [seqF_succ, ← seq_ints D n (fun k hk => hD k (by omega)), List.range_succ]
    have := hD n (by omega)
    simp [intsC]; omega
theorem rowD_N {h : Heap} {v : Value} {n : Nat} {D : Nat → Int} (r : RowD h v n D) (hD : ∀ k, k < n → 0 ≤ D k) : RowN h v ((List.range n).map fun k => (D k).toNat) := by
  unfold RowN
  rw [seq_ints D n hD]; simpa using r
theorem sl_keep {α : Type} {sz : Nat} {R : Heap → List Value → α → Prop} (hR : ∀ {h h' c x}, R h c x → R h' c x) {h h' : Heap} (e : Ext h h') {v : Value} {xs : List α} (x : Sl sz R h v xs) : Sl sz R h' v xs := Sl.ext (R := R) (fun _ => hR) e x
theorem callS_ext {h h' : Heap} (e : Ext h h') {v : Value} {xs : List HC} (x : Sl 18 CallR h v xs) : Sl 18 CallR h' v xs := Sl.ext (R := CallR) (fun _ r => r) e x
theorem good_c1 : gd fn_hist_Order_c1 = true := by decide
/-- The closure by which calls are ordered. -/
theorem cmp_hist {xs : List HC} {h h0 : Heap} {v : Value} (x : Sl 18 CallR h v xs) (he : Ext h h0) {bx : Nat} {g : Option Nat} (hb : h0 bx = some (.cells #[v] ty_Sl_api_Call (0, 0))) (hg : ∀ q, g = some q → h q = none ∧ bx ≠ q) :
    Cmp g h0 (.func (.func fn_hist_Order_c1) #[] #[.pointer (some ⟨bx, 0, none⟩)]) (keyH xs) (fun i => 0 ≤ i ∧ i < xs.length) := by
  refine ⟨fun i j hi hj h1 K hk1 hK => nx_fn good good_c1 ?_⟩
  have e1 : Ext h h1 := he.keep hk1 fun q hq => (hg q hq).1
  have b1 : h1 bx = some (.cells #[v] ty_Sl_api_Call (0, 0)) := hk1 _ _ hb fun e => (hg bx e.symm).2 rfl
  obtain ⟨i', rfl⟩ : ∃ n : Nat, i = n := ⟨i.toNat, by omega⟩
  obtain ⟨j', rfl⟩ : ∃ n : Nat, j = n := ⟨j.toNat, by omega⟩
  obtain ⟨_, b2, o2, i2, l2⟩ := call_at (k := .i64) x (i := i') (by omega)
  obtain ⟨_, b3, o3, i3, l3⟩ := call_at (k := .i64) x (i := j') (by omega)
  show callM P fn_hist_Order_c1 #[.int .i64 i', .int .i64 j', .pointer (some ⟨bx, 0, none⟩)] h1 K
  apply e_hist_Order_c1
  unfold d_hist_Order_c1
  have c1 : cel h1 bx 0 = some v := by simp [cel_of b1]
  simp only [ldV_c, c1, ov_s, i2, i3, faV_p, (l2 h1 e1).2.2.1, (l3 h1 e1).2.2.1]
  exact compare_ok _ _ fun r hr => hK h1 r (Ext.refl _) (by simpa [keyH] using hr)
set_option maxHeartbeats 2000000 in
theorem order_ok {xs : List HC} (hl : xs.length ≤ 100000) {h : Heap} {v : Value} (x : Sl 18 CallR h v xs) {K : Value → Heap → Prop} (hk : ∀ h' v' O, Ext h h' → RowN h' v' O → IsOrd xs O → (∀ g, rowOf v' = some g → h g = none) → K v' h') :
    callM P fn_hist_Order #[v] h K := by
  apply e_hist_Order
  unfold d_hist_Order
  obtain ⟨va, vn, vc, rfl⟩ := Sl.isS x
  have hlen := x.len
  simp only [lnV_s, Option.some.injEq, Value.int.injEq, true_and] at hlen
  have hvn : vn = xs.length := by omega
  subst hvn
  refine nw_intro fun bx h1 hbx he1 hc1 => ?_
  rw [seqM_eq]
  unfold d_hist_Order_1
  have c1 : cel h1 bx 0 = some (.slice va xs.length vc) := by simp [cel_of hc1, Value.cells]
  simp only [ldV_c, c1, ov_s, lnV_s]
  refine loop_on [1, 6, 7] (fun s h' => Ext h1 h' ∧ ∃ i : Nat, i ≤ xs.length ∧ s 8 = .int .i64 i ∧ RowN h' (s 3) (takeN xs i) ∧ ∀ g, rowOf (s 3) = some g → h1 g = none) (fun s _ => (xs.length - num (s 8)).toNat)
    ⟨Ext.refl _, 0, by omega, rfl, ⟨rfl, .inl ⟨rfl, rfl⟩⟩, by simp [rowOf]⟩ ?_
  rintro s h2 hf ⟨he2, i, hi, s8, hr, hfr⟩
  have s1 : s 1 = .pointer (some ⟨bx, 0, none⟩) := by simpa using hf 1 (by simp)
  have s6 : s 6 = .slice va xs.length vc := by simpa using hf 6 (by simp)
  have s7 : s 7 = .int .i64 xs.length := by simpa using hf 7 (by simp)
  have hw : IntKind.i64.wrap ((i : Int) + 1) = i + 1 := i64w (by omega) (by omega)
  unfold d_hist_Order_2
  simp only [s8, s7, bin_lss, ov_s, cd_b]
  refine ⟨fun hc => ?_, fun hc => ?_⟩
  rotate_left
  · have : i = xs.length := by have : ¬ ((i : Int) < xs.length) := by simpa using hc
                               omega
    subst this
    simp only [lpM_e, blkM_e, if_true, thenM_n]
    unfold d_hist_Order_7
    simp only [puts_env, lk, Nat.reduceEqDiff, if_false, Option.getD_none, s1, ov_s]
    have hcmp := cmp_hist (xs := xs) (h0 := h2) x (he1.trans he2) (g := rowOf (s 3)) (he2 _ _ hc1) (fun q hq => ⟨fresh_of he1 (hfr q hq), ne_fresh hc1 (hfr q hq)⟩)
    have hD : ∀ k, k < (takeN xs xs.length).length → ∃ j : Nat, (takeN xs xs.length).getD k 0 = j ∧ j ∈ takeN xs xs.length := fun k hk => ⟨_, rfl, by rw [List.getD_eq_getElem?_getD, List.getElem?_eq_getElem hk]; exact List.getElem_mem hk⟩
    refine sortStable_ok (rowN_D hr) (by have := takeN_len xs xs.length; omega) hcmp (fun k hk => ?_) (fun p q hpq hq => ?_) fun h3 D' hk3 hr3 hg3 => ?_
    · obtain ⟨j, e1, e2⟩ := hD k hk
      rw [e1]
      have := (List.mem_filter.1 e2).1
      rw [List.mem_range] at this
      omega
    · have := (List.pairwise_iff_getElem.1 (takeN_inc xs xs.length)) p q (by omega) hq hpq
      rw [List.getD_eq_getElem?_getD, List.getD_eq_getElem?_getD, List.getElem?_eq_getElem (by omega), List.getElem?_eq_getElem hq]
      simpa using this
    have hD0 : ∀ k, k < (takeN xs xs.length).length → ∃ j : Nat, D' k = j ∧ j ∈ takeN xs xs.length := fun k hk => by
      obtain ⟨q, q1, q2, q3⟩ := hg3.2.1 k (by omega) hk
      obtain ⟨j, e1, e2⟩ := hD q q2
      exact ⟨j, by rw [q3]; show (((takeN xs xs.length).getD q 0 : Nat) : Int) = j; rw [e1], e2⟩
    simp [s1]
    have hRN := rowD_N hr3 (fun k hk => by obtain ⟨j, e1, _⟩ := hD0 k hk; omega)
    have hx3 : Ext h1 h3 := he2.keep hk3 hfr
    refine hk h3 (s 3) _ (he1.trans hx3) hRN ⟨fun j => ?_, ?_⟩ (fun g hg => fresh_of he1 (hfr g hg))
    · rw [List.mem_map]
      have hmem : ∀ j, j ∈ takeN xs xs.length ↔ j < xs.length ∧ 0 ≤ (cl xs j).p := fun j => by unfold takeN; simp
      rw [← hmem]
      constructor
      · rintro ⟨k, hk1, rfl⟩
        rw [List.mem_range] at hk1
        obtain ⟨j, e1, e2⟩ := hD0 k hk1
        rw [e1]; simpa using e2
      · intro hj
        obtain ⟨k, hk1, hk2⟩ := List.getElem_of_mem hj
        obtain ⟨q, q1, q2, q3⟩ := hg3.2.2 k (by omega) hk1
        refine ⟨q, List.mem_range.2 q2, ?_⟩
        rw [← q3]
        show (((takeN xs xs.length).getD k 0 : Nat) : Int).toNat = j
        rw [List.getD_eq_getElem?_getD, List.getElem?_eq_getElem hk1]; simpa using hk2
    · rw [List.pairwise_map]
      refine List.pairwise_iff_getElem.2 fun p q hp hq hpq => ?_
      simp only [List.length_range] at hp hq
      simp only [List.getElem_range]
      have h4 := hg3.1 p q (by omega) hpq hq
      obtain ⟨j, e1, _⟩ := hD0 p hp
      obtain ⟨j', e1', _⟩ := hD0 q hq
      unfold ltK keyH at h4
      rw [e1, e1'] at h4 ⊢
      simp only [Int.toNat_natCast] at h4 ⊢
      omega
  have hlt : i < xs.length := by have : ((i : Int) < xs.length) := by simpa using hc
                                 omega
  unfold d_hist_Order_3
  refine seq_cut (fun m' s' h' => m' = [] ∧ (∀ k ∈ [1, 6, 7, 8], s' k = s k) ∧ Ext h1 h' ∧ RowN h' (s' 3) (takeN xs (i + 1)) ∧ ∀ g, rowOf (s' 3) = some g → h1 g = none) (fun J hJ _ _ => ?_) ?_
  rotate_left
  · rintro m' s' h' ⟨rfl, hf', hx', hr', hfr'⟩
    simp [hf' 1 (by simp), hf' 6 (by simp), hf' 7 (by simp), hf' 8 (by simp), s8, hw, s1, s6, s7]
    exact ⟨⟨hx', i + 1, by omega, by simp, hr', hfr'⟩, by omega⟩
  unfold d_hist_Order_4
  obtain ⟨hok, b1, o1, i1, l1⟩ := call_at (k := .i64) x (i := i) hlt
  simp only [s6, s8, i1, ov_s, (l1 h2 (he1.trans he2)).1]
  refine box_call hok fun b h3 hb he3 hc3 => ?_
  obtain ⟨_, _, q2, _⟩ := hok.get hc3
  simp only [faV_p, ov_s, ldV_c, Nat.zero_add, q2, bin_geq, cd_b]
  refine ⟨fun h4 => ?_, fun h4 => ?_⟩
  rotate_left
  · have : ¬ 0 ≤ (cl xs i).p := by simpa using h4
    refine hJ _ _ _ ⟨rfl, by simp, he2.trans he3, ?_, by simpa using hfr⟩
    rw [takeN_s, if_neg this]; simpa using hr.ext he3
  have hp : 0 ≤ (cl xs i).p := by simpa using h4
  unfold d_hist_Order_5
  simp only [s8]
  have := takeN_len xs i
  refine app_one bsSlI unI apI (by omega) rfl (by simp [Value.cells, Value.oneCell']) (hr.ext he3) (by unfold maxLen; omega) (by omega) (by omega) fun a v' h5 hr5 hk5 ha5 => ?_
  unfold d_hist_Order_6
  refine hJ _ _ _ ⟨rfl, by simp, (he2.trans he3).keep hk5 hfr, ?_, fun g hg => ?_⟩
  · rw [takeN_s, if_pos hp]
    simpa using RowN.app (by simpa [Value.cells] using hr5)
  · simp at hg
    rcases ha5 with ha | ⟨q, hq, hn⟩
    · rw [ha] at hg; exact hfr g hg
    · rw [hq] at hg; cases hg; exact fresh_of (he2.trans he3) hn
end Go.Proofs.Ytfeglbniahebaaa

namespace Go.Proofs.Ytfeglbniahebaaa
open Go Go.Den Go.MapKept
set_option linter.unusedSimpArgs false
set_option linter.unusedVariables false
theorem srt_uniq {α : Type} {r : α → α → Prop} (asy : ∀ a b, r a b → r b a → False) : ∀ {l m : List α}, l.Pairwise r → m.Pairwise r → (∀ x, x ∈ l ↔ x ∈ m) → l = m
  | [], [], _, _, _ => rfl
  | [], b :: m, _, _, h => absurd ((h b).2 (by simp)) (by simp)
  | a :: l, [], _, _, h => absurd ((h a).1 (by simp)) (by simp)
  | a :: l, b :: m, h1, h2, h => by
    rw [List.pairwise_cons] at h1 h2
    have ab : a = b := by
      have h3 := (h a).1 (by simp)
      have h4 := (h b).2 (by simp)
      rw [List.mem_cons] at h3 h4
      rcases h3 with h3 | h3
      · exact h3
      · rcases h4 with h4 | h4
        · exact h4.symm
        · exact (asy _ _ (h1.1 b h4) (h2.1 a h3)).elim
    subst ab
    have : l = m := srt_uniq asy h1.2 h2.2 fun x => by
      constructor
      · intro hx
        have := (h x).1 (by simp [hx])
        rw [List.mem_cons] at this
        rcases this with e | h'
        · subst e; exact (asy _ _ (h1.1 _ hx) (h1.1 _ hx)).elim
        · exact h'
      · intro hx
        have := (h x).2 (by simp [hx])
        rw [List.mem_cons] at this
        rcases this with e | h'
        · subst e; exact (asy _ _ (h2.1 _ hx) (h2.1 _ hx)).elim
        · exact h'
    rw [this]
theorem IsOrd.uniq {xs : List HC} {O O' : List Nat} (a : IsOrd xs O) (b : IsOrd xs O') : O = O' :=
  srt_uniq (fun i j h1 h2 => by omega) a.srt b.srt fun i => by rw [a.mem, b.mem]
def aw1 : HC := ⟨[.int .i64 0, .int .i64 0, .int .i64 0, .string ⟨#[]⟩, .int .i64 0, .int .i64 0, .int .i64 0, .int .u64 0, .slice none 0 0, .int .i64 0, .int .u64 0, .int .i64 0, .int .i64 4, .int .i64 5, .int .i64 0, .slice none 0 0, .slice none 0 0, .bool false], 0, 0, 4, 5⟩
def aw2 : HC := ⟨[.int .i64 1, .int .i64 0, .int .i64 0, .string ⟨#[]⟩, .int .i64 0, .int .i64 0, .int .i64 0, .int .u64 0, .slice none 0 0, .int .i64 0, .int .u64 0, .int .i64 1, .int .i64 2, .int .i64 3, .int .i64 0, .slice none 0 0, .slice none 0 0, .bool false], 1, 1, 2, 3⟩
theorem aw1_ok : aw1.ok := ⟨rfl, rfl, rfl, rfl, rfl, by simp [aw1, Value.oneCell']⟩
theorem aw2_ok : aw2.ok := ⟨rfl, rfl, rfl, rfl, rfl, by simp [aw2, Value.oneCell']⟩
theorem bdAw1 : bdV (binf P ty_api_Call) [(5, .int .i64 0), (6, .int .i64 4), (7, .int .i64 5)] = some (.agg aw1.cs.toArray) := by kernel_rfl
theorem bdAw2 : bdV (binf P ty_api_Call) [(0, .int .i64 1), (5, .int .i64 1), (6, .int .i64 2), (7, .int .i64 3)] = some (.agg aw2.cs.toArray) := by kernel_rfl
theorem bsCall : ∃ z, bsI P ty_Sl_api_Call = some (ty_api_Call, 18, z) ∧ Instr.fill (fun i => some (i * 18, 18)) (zrow z (2 * 18)) [(0, .agg aw1.cs.toArray), (1, .agg aw2.cs.toArray)] = some (aw1.cs ++ aw2.cs).toArray :=
  ⟨#[.int .i64 0, .int .i64 0, .int .i64 0, .string ⟨#[]⟩, .int .i64 0, .int .i64 0, .int .i64 0, .int .u64 0, .slice none 0 0, .int .i64 0, .int .u64 0, .int .i64 0, .int .i64 0, .int .i64 0, .int .i64 0, .slice none 0 0, .slice none 0 0, .bool false], by kernel_rfl, by kernel_rfl⟩
theorem aw_ord : IsOrd [aw1, aw2] [1, 0] := by
  refine ⟨fun i => ?_, ?_⟩
  · constructor
    · intro h
      simp at h
      rcases h with rfl | rfl <;> simp [cl, aw1, aw2]
    · intro ⟨h, _⟩
      simp at h
      have : i = 0 ∨ i = 1 := by omega
      rcases this with rfl | rfl <;> simp
  · simp [cl, aw1, aw2]
theorem hawake_ok {h : Heap} {K : Value → Heap → Prop} (hk : ∀ h', Ext h h' → K (.bool true) h') : callM P fn_doormanlaw20_awake #[] h K := by
  apply e_doormanlaw20_awake
  unfold d_doormanlaw20_awake
  simp only [bdAw1, bdAw2, ov_s]
  obtain ⟨z, hz, hfl⟩ := bsCall
  rw [hz]
  simp only [bsM]
  rw [hfl]
  refine ⟨by omega, fun q hq => ?_⟩
  have he := Ext.upd hq (.cells (aw1.cs ++ aw2.cs).toArray ty_api_Call (0, 0))
  have hs : Sl 18 CallR (upd h q (.cells (aw1.cs ++ aw2.cs).toArray ty_api_Call (0, 0))) (.slice (some ⟨q, 0, none⟩) 2 2) [aw1, aw2] := by
    refine .inr ⟨q, 0, 2, rfl, by simp, by simp [maxLen], fun i hi => ?_⟩
    simp at hi
    have : i = 0 ∨ i = 1 := by omega
    rcases this with rfl | rfl
    · exact ⟨aw1.cs, cels_of (upd_same _ _ _) (by rfl) rfl, rfl, aw1_ok⟩
    · exact ⟨aw2.cs, cels_of (upd_same _ _ _) (by rfl) rfl, rfl, aw2_ok⟩
  refine order_ok (by simp) hs fun h2 v' O he2 hr hO _ => ?_
  have := hO.uniq aw_ord
  subst this
  unfold d_doormanlaw20_awake_1
  obtain ⟨g, g1, g2, g3⟩ := rowN_at (k := .i64) hr (i := 0) (by simp)
  obtain ⟨g', g1', g2', g3'⟩ := rowN_at (k := .i64) hr (i := 1) (by simp)
  have hlv := row_lnV hr
  simp at g2 g3 g2' g3' hlv
  simp +contextual -implicitDefEqProofs [hlv, g2, g3, g2', g3']
  exact hk _ (he.trans he2)
set_option maxHeartbeats 2000000 in
theorem chain_ok {a b c : HC} (ha : a.ok) (hb : b.ok) (hc : c.ok) {h : Heap} {K : Value → Heap → Prop} (hk : ∀ h', Ext h h' → K (.bool true) h') : callM P fn_doormanlaw20_HistChain #[.agg a.cs.toArray, .agg b.cs.toArray, .agg c.cs.toArray] h K := by
  apply e_doormanlaw20_HistChain
  unfold d_doormanlaw20_HistChain
  refine nw_agg fun v1 h1 hv1 he1 hc1 => nw_agg fun v2 h2 hv2 he2 hc2 => nw_agg fun v3 h3 hv3 he3 hc3 => ?_
  refine hawake_ok fun h4 he4 => ?_
  unfold d_doormanlaw20_HistChain_1
  simp only [unV_n, ov_s, Bool.not_true, cd_b]
  refine ⟨fun h => (by cases h), fun _ => ?_⟩
  unfold d_doormanlaw20_HistChain_2
  have p1 : ∀ h', Ext h4 h' → h' v1 = some (.cells a.cs.toArray ty_api_Call (0, 0)) := fun h' e => e _ _ (he4 _ _ (he3 _ _ (he2 _ _ hc1)))
  have p2 : ∀ h', Ext h4 h' → h' v2 = some (.cells b.cs.toArray ty_api_Call (0, 0)) := fun h' e => e _ _ (he4 _ _ (he3 _ _ hc2))
  have p3 : ∀ h', Ext h4 h' → h' v3 = some (.cells c.cs.toArray ty_api_Call (0, 0)) := fun h' e => e _ _ (he4 _ _ hc3)
  obtain ⟨_, q1, _, q2⟩ := ha.get (p1 h4 (Ext.refl _))
  obtain ⟨_, r1, _, r2⟩ := hb.get (p2 h4 (Ext.refl _))
  have hx4 := he1.trans (he2.trans (he3.trans he4))
  simp +contextual -implicitDefEqProofs [q1, q2, r1, r2]
  refine ⟨fun _ => hk _ hx4, fun ca cb => ?_⟩
  unfold d_doormanlaw20_HistChain_3
  have l1 : ∀ h', Ext h4 h' → ldV (some (some 18)) (.pointer (some ⟨v1, 0, none⟩)) h' = some (.agg a.cs.toArray) := fun h' e => ld_box (p1 h' e) ha.sz
  have l2 : ∀ h', Ext h4 h' → ldV (some (some 18)) (.pointer (some ⟨v2, 0, none⟩)) h' = some (.agg b.cs.toArray) := fun h' e => ld_box (p2 h' e) hb.sz
  have l3 : ∀ h', Ext h4 h' → ldV (some (some 18)) (.pointer (some ⟨v3, 0, none⟩)) h' = some (.agg c.cs.toArray) := fun h' e => ld_box (p3 h' e) hc.sz
  simp only [l1 _ (Ext.refl _), l2 _ (Ext.refl _), ov_s]
  refine before_ok ha hb fun h5 he5 => ?_
  unfold d_doormanlaw20_HistChain_4
  simp only [isB_b, beq_true, l2 _ he5, l3 _ he5, gM_gdv, ov_s]
  refine gM_call' (a := .bool (befB b c)) (fun hh K' hK => ?_) fun h6 he6 => ?_
  · simp only [hh, gdv_t]; exact before_ok hb hc hK
  have he6' := he5.trans he6
  simp only [pk_and, ov_s, isB_b, beq_true, l1 _ he6', l3 _ he6', gM_gdv]
  refine gM_call' (a := .bool (befB a c)) (fun hh K' hK => ?_) fun h7 he7 => ?_
  · simp only [hh, gdv_t]; exact before_ok ha hc hK
  have he7' := he6'.trans he7
  have tr : (befB a b && befB b c) = true → befB a c = true := by
    simp only [befB, Bool.and_eq_true, decide_eq_true_eq]; omega
  simp +contextual -implicitDefEqProofs []
  refine ⟨fun t1 t2 t3 => ?_, fun _ => ?_⟩
  · have := tr (by simp [t1, t2]); rw [t3] at this; cases this
  unfold d_doormanlaw20_HistChain_5
  simp only [l1 _ he7', ov_s]
  refine before_ok ha ha fun h8 he8 => ?_
  have he8' := he7'.trans he8
  have haa : befB a a = false := by
    cases hh : befB a a
    · rfl
    · simp only [befB, Bool.and_eq_true, decide_eq_true_eq] at hh; omega
  unfold d_doormanlaw20_HistChain_6
  simp only [haa, unV_n, ov_s, Bool.not_false, isB_b, beq_self_eq_true, gM_t, l1 _ he8', l2 _ he8']
  refine before_ok ha hb fun h9 he9 => ?_
  have he9' := he8'.trans he9
  simp only [isB_b, beq_true, gM_gdv, l1 _ he9', l2 _ he9', ov_s]
  refine gM_call' (a := .bool (befB b a)) (fun hh K' hK => ?_) fun h10 he10 => ?_
  · simp only [hh, gdv_t]; exact before_ok hb ha hK
  have hab : (befB a b && befB b a) = false := by
    cases hh : (befB a b && befB b a)
    · rfl
    · simp only [befB, Bool.and_eq_true, decide_eq_true_eq] at hh; omega
  simp only [pk_and, ov_s, unV_n, hab, Bool.not_false, pkV_t]
  exact hk _ (hx4.trans (he9'.trans he10))
end Go.Proofs.Ytfeglbniahebaaa

namespace Go.Proofs.Ytfeglbniahebaaa
open Go Go.Den Go.MapKept
set_option linter.unusedSimpArgs false
set_option linter.unusedVariables false
@[simp] theorem isB_undef (w : Bool) : isB undef w = false := rfl
theorem len_sub {α : Type} [DecidableEq α] : ∀ {l m : List α}, l.Nodup → (∀ x, x ∈ l → x ∈ m) → l.length ≤ m.length
  | [], _, _, _ => by simp
  | a :: l, m, h, hs => by
    rw [List.nodup_cons] at h
    have ha := hs a (by simp)
    have := len_sub (m := m.erase a) h.2 fun x hx => (List.mem_erase_of_ne (fun e => by subst e; exact h.1 hx)).2 (hs x (by simp [hx]))
    rw [List.length_erase_of_mem ha] at this
    have : 0 < m.length := List.length_pos_of_mem ha
    simp only [List.length_cons]; omega
theorem IsOrd.nodup {xs : List HC} {O : List Nat} (h : IsOrd xs O) : O.Nodup := h.srt.imp fun {i j} h e => by subst e; omega
theorem takeN_mem (xs : List HC) (n i : Nat) : i ∈ takeN xs n ↔ i < n ∧ 0 ≤ (cl xs i).p := by unfold takeN; simp
theorem takeN_nodup (xs : List HC) (n : Nat) : (takeN xs n).Nodup := (takeN_inc xs n).imp fun {i j} h => Nat.ne_of_lt h
theorem IsOrd.len {xs : List HC} {O : List Nat} (h : IsOrd xs O) : O.length = (takeN xs xs.length).length := by
  have h1 := len_sub h.nodup (m := takeN xs xs.length) fun x hx => (takeN_mem _ _ _).2 ((h.mem x).1 hx)
  have h2 := len_sub (takeN_nodup xs xs.length) (m := O) fun x hx => (h.mem x).2 ((takeN_mem _ _ _).1 hx)
  omega
set_option maxHeartbeats 4000000 in
theorem sorted_ok {xs : List HC} {h : Heap} {v : Value} (x : Sl 18 CallR h v xs) {K : Value → Heap → Prop} (hk : ∀ h', Ext h h' → K (.bool true) h') : callM P fn_doormanlaw20_HistSorted #[v] h K := by
  apply e_doormanlaw20_HistSorted
  unfold d_doormanlaw20_HistSorted
  refine hawake_ok fun h1 he1 => ?_
  unfold d_doormanlaw20_HistSorted_1
  have hlen := x.len
  refine guard_len hlen (fun hbig => hawake_ok fun h2 he2 => hk _ (he1.trans he2)) fun hsm => ?_
  have hl : xs.length ≤ 80 := by omega
  unfold d_doormanlaw20_HistSorted_2
  refine order_ok (by omega) (callS_ext he1 x) fun h2 ov' O he2 hr hO _ => ?_
  unfold d_doormanlaw20_HistSorted_3
  have hx2 := he1.trans he2
  rw [seqM_eq]
  unfold d_doormanlaw20_HistSorted_4
  refine loop_on [0, 3] (fun s h' => h' = h2 ∧ ∃ i : Nat, i ≤ xs.length ∧ s 5 = .int .i64 i ∧ s 4 = .int .i64 (takeN xs i).length) (fun s _ => (xs.length - num (s 5)).toNat) ⟨rfl, 0, by omega, rfl, rfl⟩ ?_
  rintro s h3 hf ⟨rfl, i, hi, s5, s4⟩
  have s0 : s 0 = v := by simpa using hf 0 (by simp)
  have s3 : s 3 = ov' := by simpa using hf 3 (by simp)
  have hw : IntKind.i64.wrap ((i : Int) + 1) = i + 1 := i64w (by omega) (by omega)
  unfold d_doormanlaw20_HistSorted_5
  simp only [s0, hlen, ov_s, s5, bin_lss, cd_b]
  refine ⟨fun hc => ?_, fun hc => ?_⟩
  · have hlt : i < xs.length := by have : ((i : Int) < xs.length) := by simpa using hc
                                   omega
    have htl := takeN_len xs i
    have hw2 : IntKind.i64.wrap (((takeN xs i).length : Int) + 1) = ((takeN xs i).length + 1 : Nat) := by rw [i64w (by omega) (by omega)]; omega
    obtain ⟨hok, b1, o1, i1, l1⟩ := call_at (k := .i64) x hlt
    unfold d_doormanlaw20_HistSorted_6
    refine seq_cut (fun m' s' h' => m' = [] ∧ h' = h3 ∧ (∀ k ∈ [0, 3, 5], s' k = s k) ∧ s' 4 = .int .i64 (takeN xs (i + 1)).length) (fun J hJ _ _ => ?_) ?_
    rotate_left
    · rintro m' s' h' ⟨rfl, rfl, hf', s4'⟩
      simp [hf' 0 (by simp), hf' 3 (by simp), hf' 5 (by simp), s5, hw, s0, s3, s4']
      exact ⟨⟨i + 1, by omega, by simp, rfl⟩, by omega⟩
    unfold d_doormanlaw20_HistSorted_7
    simp only [s0, s5, i1, ov_s, faV_p, ldV_c, (l1 _ hx2).2.2.1, bin_geq, cd_b]
    refine ⟨fun hp => ?_, fun hp => ?_⟩
    · have hp' : 0 ≤ (cl xs i).p := by simpa using hp
      unfold d_doormanlaw20_HistSorted_8
      simp only [s4, bin_add, ov_s, hw2]
      exact hJ _ _ _ ⟨rfl, rfl, by simp, by rw [takeN_s, if_pos hp']; simp⟩
    · have hp' : ¬ 0 ≤ (cl xs i).p := by simpa using hp
      exact hJ _ _ _ ⟨rfl, rfl, by simp, by rw [takeN_s, if_neg hp']; simp [s4]⟩
  have : i = xs.length := by have : ¬ ((i : Int) < xs.length) := by simpa using hc
                             omega
  subst this
  simp only [lpM_e, blkM_e, if_true, thenM_n]
  unfold d_doormanlaw20_HistSorted_9
  rw [seqM_eq]
  unfold d_doormanlaw20_HistSorted_10
  have hOl := hO.len
  have htl := takeN_len xs xs.length
  have hlO := row_lnV hr
  have hOm : ∀ k (hk : k < O.length), O[k] < xs.length ∧ 0 ≤ (cl xs O[k]).p := fun k hk => (hO.mem _).1 (List.getElem_mem hk)
  refine loop_on [0, 3, 4] (fun s h' => h' = h3 ∧ ∃ i : Nat, i ≤ O.length ∧ s 6 = .int .i64 i) (fun s _ => (O.length - num (s 6)).toNat) ⟨rfl, 0, by omega, by simp⟩ ?_
  rintro t h4 hft ⟨rfl, k, hk', t6⟩
  have t0 : t 0 = v := by simpa [s0] using hft 0 (by simp)
  have t3 : t 3 = ov' := by simpa [s3] using hft 3 (by simp)
  have t4 : t 4 = .int .i64 O.length := by rw [hOl]; simpa [s4] using hft 4 (by simp)
  unfold d_doormanlaw20_HistSorted_11
  simp only [t3, hlO, ov_s, t6, bin_lss, cd_b]
  refine ⟨fun hc2 => ?_, fun hc2 => ?_⟩
  rotate_left
  · simp only [lpM_e, blkM_e, if_true, thenM_n]
    unfold d_doormanlaw20_HistSorted_17
    simp [t3, hlO, t4]
    exact hk _ hx2
  have hlt : k < O.length := by have : ((k : Int) < O.length) := by simpa using hc2
                                omega
  obtain ⟨hm1, hm2⟩ := hOm k hlt
  obtain ⟨g, g1, g2, g3⟩ := rowN_at (k := .i64) hr hlt
  obtain ⟨_, b1, o1, i1, l1⟩ := call_at (k := .i64) x hm1
  have lp := (l1 _ hx2).2.2.1
  have z1 : ¬ ((O[k] : Int) < 0) := by omega
  have z2 : ¬ (xs.length ≤ O[k]) := by omega
  have z3 : ¬ ((cl xs O[k]).p < 0) := by omega
  have hwk : IntKind.i64.wrap ((k : Int) + 1) = k + 1 := i64w (by omega) (by omega)
  unfold d_doormanlaw20_HistSorted_12
  simp +contextual -implicitDefEqProofs [t3, t6, t0, g2, g3, hlen, i1, lp, z1, z2, z3]
  unfold d_doormanlaw20_HistSorted_14
  by_cases h0 : 0 < k
  · have hwk2 : IntKind.i64.wrap ((k : Int) - 1) = (k - 1 : Nat) := by rw [i64w (by omega) (by omega)]; omega
    obtain ⟨hm1', hm2'⟩ := hOm (k - 1) (by omega)
    obtain ⟨g', g1', g2', g3'⟩ := rowN_at (k := .i64) hr (show k - 1 < O.length by omega)
    obtain ⟨_, b1', o1', i1', l1'⟩ := call_at (k := .i64) x hm1'
    have lp' := (l1' _ hx2).2.2.1
    have hs := (List.pairwise_iff_getElem.1 hO.srt) (k - 1) k (by omega) hlt (by omega)
    have y1 : ¬ ((cl xs O[k]).p < (cl xs O[k - 1]).p) := by omega
    have y2 : (cl xs O[k]).p = (cl xs O[k - 1]).p → ¬ (O[k] ≤ O[k - 1]) := by omega
    simp +contextual -implicitDefEqProofs [t3, t6, t0, h0, g2, g3, i1, lp, hwk2, g2', g3', i1', lp', y1, y2]
    unfold d_doormanlaw20_HistSorted_16
    simp [t6, hwk, t0, t3, t4, s0, s3, s4, ← hOl]
    exact ⟨⟨k + 1, by omega, by simp⟩, by omega⟩
  · simp +contextual -implicitDefEqProofs [t3, t6, t0, h0]
    unfold d_doormanlaw20_HistSorted_16
    simp [t6, hwk, t0, t3, t4, s0, s3, s4, ← hOl]
    exact ⟨⟨k + 1, by omega, by simp⟩, by omega⟩
end Go.Proofs.Ytfeglbniahebaaa
