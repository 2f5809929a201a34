/- Words, plain data and contracts of the Go functions that this claim reaches. No condition beyond the hypotheses that each theorem states. -/
import Derived.Test.YtcnphhhcknhhaaaGreatWra5
set_option linter.unusedSimpArgs false
set_option linter.unusedVariables false
namespace Go.Proofs.YtcnphhhcknhhaaaGreat
open Go Go.Den Go.MapKept
set_option linter.unusedSimpArgs false
set_option linter.unusedVariables false
set_option maxRecDepth 20000
theorem bin_neqS (t : Nat) (c : Bool) (a b : ByteArray) : binV .neq t c (.string a) (.string b) = some (.bool (!decide (a = b))) := by
  simp -implicitDefEqProofs only [binV, strV]
  by_cases h : a = b
  · subst h; simp
  · have : ¬ a.toList = b.toList := fun e => h (str_inj e)
    simp -implicitDefEqProofs [h, this]
theorem take_eq_succ {α : Type} {xs ys : List α} {i : Nat} (h : xs.take i = ys.take i) (h1 : i < xs.length) (h2 : i < ys.length) (e : xs[i] = ys[i]) : xs.take (i + 1) = ys.take (i + 1) := by
  rw [List.take_succ_eq_append_getElem h1, List.take_succ_eq_append_getElem h2, h, e]
set_option maxHeartbeats 1000000 in
theorem eqStr_ok (xs ys : List ByteArray) {h : Heap} {v u : Value} (x : Sl 1 StrR h v xs) (y : Sl 1 StrR h u ys) (hl : xs.length < 1000000) {K : Value → Heap → Prop} (hk : K (.bool (decide (xs = ys))) h) : callM P fn_slices_Equal_string_string #[v, u] h K := by
  apply e_slices_Equal_string_string
  unfold d_slices_Equal_string_string
  have lx := x.len
  have ly := y.len
  by_cases hlen : xs.length = ys.length
  rotate_left
  · have hne : xs ≠ ys := fun e => hlen (by rw [e])
    have hi : ¬ (xs.length : Int) = ys.length := by omega
    simp -implicitDefEqProofs [lx, ly, hi]
    rw [decide_eq_false hne] at hk; exact hk
  · have hi : (xs.length : Int) = ys.length := by omega
    simp -implicitDefEqProofs [lx, ly, hi]
    unfold d_slices_Equal_string_string_1
    rw [seqM_eq]
    unfold d_slices_Equal_string_string_2
    simp -implicitDefEqProofs only [lx, ov_s]
    refine loop_on [0, 1, 4, 12] (fun s h' => h' = h ∧ ∃ i : Nat, i ≤ xs.length ∧ s 13 = .int .i64 i ∧ xs.take i = ys.take i) (fun s _ => (xs.length - num (s 13)).toNat) ⟨rfl, 0, by omega, rfl, by simp⟩ ?_
    rintro s h1 hf ⟨rfl, i, hi, s13, hT⟩
    have s0 : s 0 = v := by simpa using hf 0 (by simp)
    have s1 : s 1 = u := by simpa using hf 1 (by simp)
    have s4 : s 4 = .bool false := by simpa using hf 4 (by simp)
    have s12 : s 12 = .int .i64 xs.length := by simpa using hf 12 (by simp)
    unfold d_slices_Equal_string_string_3
    simp -implicitDefEqProofs only [s13, s12, bin_lss, ov_s, cd_b]
    refine ⟨fun hc => ?_, fun hc => ?_⟩
    · have hlt : i < xs.length := by have : ((i : Int) < xs.length) := by simpa using hc
                                     omega
      have hly : i < ys.length := by omega
      have hw : IntKind.i64.wrap ((i : Int) + 1) = (i + 1 : Nat) := by rw [wrap64_id (by omega) (by omega)]; omega
      obtain ⟨b, p, i1, i2⟩ := str_at x (k := .i64) hlt
      obtain ⟨b', p', j1, j2⟩ := str_at y (k := .i64) hly
      unfold d_slices_Equal_string_string_4
      simp -implicitDefEqProofs only [s0, s1, s13, i1, j1, ov_s, ldV_c, i2 _ (Ext.refl _), j2 _ (Ext.refl _), bin_neqS, cd_b]
      refine ⟨fun hd => ?_, fun hd => ?_⟩
      · have hne : xs[i] ≠ ys[i] := by simpa using hd
        have hne' : xs ≠ ys := fun e => hne (by subst e; rfl)
        unfold d_slices_Equal_string_string_5
        simp -implicitDefEqProofs [s4]
        rw [decide_eq_false hne'] at hk; exact hk
      · have he : xs[i] = ys[i] := by simpa using hd
        unfold d_slices_Equal_string_string_6
        simp -implicitDefEqProofs [s0, s1, s4, s12, s13, hw, -Int.natCast_add]
        exact ⟨⟨i + 1, by omega, rfl, take_eq_succ hT hlt hly he⟩, by omega⟩
    · have : i = xs.length := by have : ¬ ((i : Int) < xs.length) := by simpa using hc
                                 omega
      subst this
      have he : xs = ys := by
        rw [List.take_of_length_le (Nat.le_refl _), List.take_of_length_le (by omega)] at hT; exact hT
      simp -implicitDefEqProofs
      rw [decide_eq_true he] at hk; exact hk
theorem sessNe (p q : Sess) {x y : Operand} {K : Value → Prop} : pvM P (do eqGuard .neq ty_api_Session x y (.agg (sessC p).toArray) (.agg (sessC q).toArray); binOp .neq ty_api_Session (.agg (sessC p).toArray) (.agg (sessC q).toArray)) K = K (.bool (!decide (p = q))) := by
  simp -implicitDefEqProofs only [sessC]
  rw [pv_neq (d := 5) (b := (p.id == q.id) && ((p.st == q.st) && ((p.pr == q.pr) && ((p.un == q.un) && true)))) (by kernel_rfl) (by omega) (by kernel_rfl)]
  have : ((p.id == q.id) && ((p.st == q.st) && ((p.pr == q.pr) && ((p.un == q.un) && true)))) = decide (p = q) := by
    rw [Bool.eq_iff_iff]; cases p; cases q; simp
  rw [this]
set_option maxHeartbeats 1000000 in
theorem eqSess_ok (xs ys : List Sess) {h : Heap} {v u : Value} (x : Sl 4 SessR h v xs) (y : Sl 4 SessR h u ys) (hl : xs.length < 1000000) {K : Value → Heap → Prop} (hk : K (.bool (decide (xs = ys))) h) : callM P fn_slices_Equal_api_Session_api_Session #[v, u] h K := by
  apply e_slices_Equal_api_Session_api_Session
  unfold d_slices_Equal_api_Session_api_Session
  have lx := x.len
  have ly := y.len
  by_cases hlen : xs.length = ys.length
  rotate_left
  · have hne : xs ≠ ys := fun e => hlen (by rw [e])
    have hi : ¬ (xs.length : Int) = ys.length := by omega
    simp -implicitDefEqProofs [lx, ly, hi]
    rw [decide_eq_false hne] at hk; exact hk
  · have hi : (xs.length : Int) = ys.length := by omega
    simp -implicitDefEqProofs [lx, ly, hi]
    unfold d_slices_Equal_api_Session_api_Session_1
    rw [seqM_eq]
    unfold d_slices_Equal_api_Session_api_Session_2
    simp -implicitDefEqProofs only [lx, ov_s]
    refine loop_on [0, 1, 4, 12] (fun s h' => h' = h ∧ ∃ i : Nat, i ≤ xs.length ∧ s 13 = .int .i64 i ∧ xs.take i = ys.take i) (fun s _ => (xs.length - num (s 13)).toNat) ⟨rfl, 0, by omega, rfl, by simp⟩ ?_
    rintro s h1 hf ⟨rfl, i, hi, s13, hT⟩
    have s0 : s 0 = v := by simpa using hf 0 (by simp)
    have s1 : s 1 = u := by simpa using hf 1 (by simp)
    have s4 : s 4 = .bool false := by simpa using hf 4 (by simp)
    have s12 : s 12 = .int .i64 xs.length := by simpa using hf 12 (by simp)
    unfold d_slices_Equal_api_Session_api_Session_3
    simp -implicitDefEqProofs only [s13, s12, bin_lss, ov_s, cd_b]
    refine ⟨fun hc => ?_, fun hc => ?_⟩
    · have hlt : i < xs.length := by have : ((i : Int) < xs.length) := by simpa using hc
                                     omega
      have hly : i < ys.length := by omega
      have hw : IntKind.i64.wrap ((i : Int) + 1) = (i + 1 : Nat) := by rw [wrap64_id (by omega) (by omega)]; omega
      obtain ⟨b, p, i1, i2⟩ := sess_ld x (k := .i64) hlt
      obtain ⟨b', p', j1, j2⟩ := sess_ld y (k := .i64) hly
      unfold d_slices_Equal_api_Session_api_Session_4
      simp -implicitDefEqProofs only [s0, s1, s13, i1, j1, ov_s, ldV_n (i2 _ (Ext.refl _)), ldV_n (j2 _ (Ext.refl _)), sessNe, cd_b]
      refine ⟨fun hd => ?_, fun hd => ?_⟩
      · have hne : xs[i] ≠ ys[i] := by simpa using hd
        have hne' : xs ≠ ys := fun e => hne (by subst e; rfl)
        unfold d_slices_Equal_api_Session_api_Session_5
        simp -implicitDefEqProofs [s4]
        rw [decide_eq_false hne'] at hk; exact hk
      · have he : xs[i] = ys[i] := by simpa using hd
        unfold d_slices_Equal_api_Session_api_Session_6
        simp -implicitDefEqProofs [s0, s1, s4, s12, s13, hw, -Int.natCast_add]
        exact ⟨⟨i + 1, by omega, rfl, take_eq_succ hT hlt hly he⟩, by omega⟩
    · have : i = xs.length := by have : ¬ ((i : Int) < xs.length) := by simpa using hc
                                 omega
      subst this
      have he : xs = ys := by
        rw [List.take_of_length_le (Nat.le_refl _), List.take_of_length_le (by omega)] at hT; exact hT
      simp -implicitDefEqProofs
      rw [decide_eq_true he] at hk; exact hk
def KyJ (hB : Heap) (v3 : Nat) (b : Book) (l b' i : Nat) (h' : Heap) : Prop :=
  ∃ kv, h' v3 = some (.cells #[kv] ty_Sl_string (0, 0)) ∧ Row 1 ty_string h' kv i (((keysB b).take i).flatMap strC1) ∧ Ext (wo hB [v3]) h' ∧ ∀ r, rowOf kv = some r → r ≠ v3 ∧ r ≠ l ∧ r ≠ b' ∧ hB r = none
def KyC (hB : Heap) (v3 : Nat) (b : Book) (l b' i : Nat) (s2 : Env) (h' : Heap) : Prop := KyJ hB v3 b l b' i h' ∧ s2 3 = ptr v3 ∧ ∃ hi : i < b.length, s2 4 = .string b[i].1
theorem KyJ.keep {hB : Heap} {v3 : Nat} {b : Book} {l b' i : Nat} {h' h'' : Heap} (J : KyJ hB v3 b l b' i h') (hl' : hB l = none) (h3 : hB v3 ≠ none) (k : Keep (some l) h' h'') : KyJ hB v3 b l b' i h'' := by
  obtain ⟨kv, c, r, e, n⟩ := J
  refine ⟨kv, k _ _ c (fun hh => by cases hh; exact h3 hl'), r.of_at fun g hg => ?_, wo_keep e hl' k, n⟩
  obtain ⟨o, ho⟩ := r.lt g hg
  rw [ho]; exact k _ _ ho (fun hh => (n g hg).2.1 (by cases hh; rfl))
theorem zcSlStr : zc P ty_Sl_string = some #[.slice none 0 0] := by kernel_rfl
set_option maxHeartbeats 1000000 in
theorem keys_ok (b : Book) (hl : b.length < 1000000) {F h : Heap} (eF : Ext F h) {kw vw : Value} (x : BookR F kw vw b) {K : Value → Heap → Prop} (hk : ∀ v' h', Ext h h' → Sl 1 StrR h' v' (keysB b) → K v' h') : callM P fn_omap_Map_string_book_Entry_Keys #[.agg #[kw, vw]] h K := by
  apply e_omap_Map_string_book_Entry_Keys
  unfold d_omap_Map_string_book_Entry_Keys
  refine nw_agg fun v1 h1 n1 e1 c1 => ?_
  rw [zcSlStr]
  refine nw_intro fun v3 h3 n3 e3 c3 => ?_
  have c1 := e3 _ _ c1
  have e0 := e1.trans e3
  have n3' : h v3 = none := fresh_of e1 n3
  have o1 := x.1.one
  have o2 := x.2.1.one
  rw [seqM_eq]
  unfold d_omap_Map_string_book_Entry_Keys_1
  simp -implicitDefEqProofs [ld_at c1, cel_of c1, stm_at c1, stm_upd, ld_same, cel_same, over, o1.1, o2.1]
  refine all_ok b (eF.trans e0) x fun pA hB nA eA cA => ?_
  have nA3 : v3 ≠ pA := ne_fresh c3 nA
  have c3 := eA _ _ c3
  have h3B : hB v3 ≠ none := by rw [c3]; simp
  have e0B := e0.trans eA
  obtain ⟨Lv, l1, l2⟩ := x.2.1.els EntR.one
  simp -implicitDefEqProofs only [List.length_map] at l1
  have hF3 : F v3 = none := by
    cases hh : F v3 with
    | none => rfl
    | some o => rw [eF _ _ hh] at n3'; cases n3'
  have F1 : Ext F (wo hB [v3]) := wo_ext (eF.trans e0B) (by simpa using hF3)
  have hlx : (allX b Lv).length = b.length := by simp [allX]
  have klen : (keysB b).length = b.length := by simp [keysB]
  unfold d_omap_Map_string_book_Entry_Keys_2
  refine rf_go good mixed rfl (by kernel_rfl) (all_it b (hA := wo hB [v3]) (p := pA) (kw := kw) (vw := vw) (Lv := Lv) (by rw [wo_out (by simpa using Ne.symm nA3)]; exact cA) (x.ext F1) (l1.ext F1) l2.size (by simpa using l2.len))
    (fun l b' i h' => KyJ hB v3 b l b' i h') (fun _ _ _ _ => False) (fun l b' i s2 h' => KyC hB v3 b l b' i s2 h') ?_ ?_ ?_ (fun _ _ _ _ _ _ _ h _ => h) ?_ ?_ ?_ ?_ ?_ (fun _ _ _ _ _ _ _ h => h.elim) (fun _ _ _ _ _ _ _ _ h => h.elim)
  · intro l b' hl' hb'
    exact ⟨_, c3, by simpa using (Rf.nil (sz := 1) (e := ty_string) (Ext.refl hB)).row, fun q o hq => (wo_get hq).2, fun r hr => by simp [rowOf] at hr⟩
  · intro l b' i h' J; obtain ⟨kv, _, _, e, _⟩ := J; exact e
  · intro l b' hl' hb' i h' h'' J k
    exact J.keep hl' h3B k
  · rintro l b' i s2 ha hb hl' hb' ⟨J, s3, hi, s4⟩ k
    exact ⟨J.keep hl' h3B k, s3, hi, s4⟩
  · intro i hi; simp [allX]
  · rintro i hi l b' h2 hl' hb' ⟨ol, hol⟩ ⟨ob, hob⟩ J
    rw [ea_omap_Map_string_book_Entry_Keys_0]
    unfold da_omap_Map_string_book_Entry_Keys_0
    obtain ⟨hib, sv, hx, hsv, hsn⟩ := allX_at l2 hi
    rw [hx]
    simp -implicitDefEqProofs
    exact ⟨J, by simp, hib, by simp⟩
  · rintro i hi l b' s2 h3 hl' hb' ⟨ol, hol⟩ ⟨ob, hob⟩ ⟨⟨kv, cv, r, e, nr⟩, s3, hib, s4⟩
    rw [eb_omap_Map_string_book_Entry_Keys_0]
    unfold db_omap_Map_string_book_Entry_Keys_0
    simp -implicitDefEqProofs [s3, s4, ld_at cv, cel_of cv, stm_at cv, stm_upd, ld_same, cel_same, over]
    refine app_one (x := .string b[i].1) bsStr unSlStr apStr (by omega) (by simp) (by simp) r (by unfold maxLen; omega) (by omega) (by omega) fun a kv' h4 r4 k4 ha => ?_
    have hl3 : l ≠ v3 := fun hh => by subst hh; rw [hl'] at c3; cases c3
    have hb3 : b' ≠ v3 := fun hh => by subst hh; rw [hb'] at c3; cases c3
    have cv4 : h4 v3 = some (.cells #[kv] ty_Sl_string (0, 0)) := k4 _ _ cv (fun hh => (nr v3 hh.symm).1 rfl)
    have hol4 : h4 l = some ol := k4 _ _ hol (fun hh => (nr l hh.symm).2.1 rfl)
    have hob4 : h4 b' = some ob := k4 _ _ hob (fun hh => (nr b' hh.symm).2.2.1 rfl)
    have nr' : ∀ g, rowOf kv' = some g → g ≠ v3 ∧ g ≠ l ∧ g ≠ b' ∧ hB g = none := fun g hg => by
      rcases ha with ha | ⟨j, ha, hj⟩
      · exact nr g (by rw [← ha]; exact hg)
      · rw [ha] at hg; cases hg
        refine ⟨fun hh => ?_, fun hh => ?_, fun hh => ?_, ?_⟩
        · subst hh; rw [cv] at hj; cases hj
        · subst hh; rw [hol] at hj; cases hj
        · subst hh; rw [hob] at hj; cases hj
        · by_cases hg3 : g = v3
          · subst hg3; rw [cv] at hj; cases hj
          · cases hh : hB g with
            | none => rfl
            | some o =>
              have := e g o (by rw [wo_out (by simpa using hg3)]; exact hh)
              rw [this] at hj; cases hj
    have okv : kv'.cells = #[kv'] := r4.one.2
    simp -implicitDefEqProofs [ld_at cv4, cel_of cv4, stm_at cv4, stm_upd, ld_same, cel_same, over, okv, r4.one.1]
    refine ⟨by rw [upd_ne hl3, hol4, hol], by rw [upd_ne hb3, hob4, hob], kv', upd_same' _ _ _, ?_, wo_upd ?_ (by simp), nr'⟩
    · have : (keysB b).take (i + 1) = (keysB b).take i ++ [b[i].1] := by
        rw [List.take_succ_eq_append_getElem (by omega)]; simp [keysB]
      rw [this, List.flatMap_append]
      exact (by simpa [strC1] using r4 : Row 1 ty_string h4 kv' (i + 1) _).of_at fun g hg => upd_ne (nr' g hg).1
    · intro q o hq
      have hqB := wo_get hq
      have := e q o hq
      exact k4 q o this fun hh => by rw [(nr q hh.symm).2.2.2] at hqB; cases hqB.2
  · intro l b' h' hl' hlb hb' hd J
    rw [hlx] at J
    obtain ⟨kv, cv, r, e, nr⟩ := J
    rw [List.take_of_length_le (by omega)] at r
    have nb3 : v3 ≠ b' := fun hh => by subst hh; rw [hb'] at c3; cases c3
    simp -implicitDefEqProofs only [blkM_n, thenM_n]
    simp -implicitDefEqProofs [ld_at cv, cel_of cv, stm_at cv, stm_upd, ld_same, cel_same, over, hd, ld_skip nb3, cel_skip nb3]
    refine hk _ _ (ext_upd (o := .deferred none) (fresh_of e0B hb') (ext_wo e0B (by simpa using n3') e)) ?_
    have r' : Row 1 ty_string (upd h' b' (.deferred none)) kv (keysB b).length ((keysB b).flatMap strC1) := by
      rw [klen]; exact r.of_at fun g hg => upd_ne (nr g hg).2.2.1
    exact strR_of (Row.slE (enc := strC1) (R := StrE) (fun _ => rfl) (fun _ => rfl) r') (str_sizes x.1)
end Go.Proofs.YtcnphhhcknhhaaaGreat
namespace Go.Proofs.YtcnphhhcknhhaaaGreat
open Go Go.Den Go.MapKept
set_option linter.unusedSimpArgs false
set_option linter.unusedVariables false
set_option maxRecDepth 20000
def saE (a b : Book) : Prop := ∀ x ∈ a, x.2 = entOf b x.1
theorem book_eq {a b : Book} (so : SrtK (keysB a)) (so' : SrtK (keysB b)) (hk : keysB a = keysB b) : a = b ↔ saE a b := by
  constructor
  · rintro rfl x hx
    obtain ⟨i, hi, rfl⟩ := List.getElem_of_mem hx
    exact (entOf_mem so hi).symm
  · intro h
    have hl : a.length = b.length := by have := congrArg List.length hk; simpa [keysB] using this
    refine List.ext_getElem hl fun i h1 h2 => ?_
    have hki : a[i].1 = b[i].1 := by
      have : (keysB a)[i]'(by simpa [keysB] using h1) = (keysB b)[i]'(by simpa [keysB] using h2) := by simp only [hk]
      simpa [keysB] using this
    have he := h a[i] (List.getElem_mem h1)
    rw [hki, entOf_mem so' h2] at he
    exact Prod.ext hki he
/-- The rounds. -/
def SaJ (hB : Heap) (v5 : Nat) (a b : Book) (i : Nat) (h' : Heap) : Prop := Ext (wo hB [v5]) h' ∧ h' v5 = some (.cells #[.bool false] ty_bool (0, 0)) ∧ ∀ x ∈ a.take i, x.2 = entOf b x.1
def SaS (hB : Heap) (v5 : Nat) (a b : Book) (h' : Heap) : Prop := Ext (wo hB [v5]) h' ∧ h' v5 = some (.cells #[.bool false] ty_bool (0, 0)) ∧ ¬ saE a b
def SaC (hB F : Heap) (v3 v5 : Nat) (a b : Book) (l i : Nat) (s2 : Env) (h' : Heap) : Prop :=
  SaJ hB v5 a b i h' ∧ s2 3 = ptr v3 ∧ s2 4 = ptr v5 ∧ ∃ (hi : i < a.length) (xb : Nat) (sv : Value), s2 5 = .string a[i].1 ∧ s2 6 = ptr xb ∧ xb ≠ l ∧ xb ≠ v5 ∧ h' xb = some (.cells (sv :: presC a[i].2.told).toArray ty_book_Entry (0, 0)) ∧ Sl 4 SessR F sv a[i].2.ss
theorem tgBool4 : tagg P 4 = some none := by kernel_rfl
theorem zcBool : zc P ty_bool = some #[.bool false] := by kernel_rfl
set_option maxHeartbeats 4000000 in
theorem same_ok (a b : Book) (so : SrtK (keysB a)) (so' : SrtK (keysB b)) (hl : a.length < 1000000) (hlb : b.length < 1000000) (hsn : ∀ x ∈ a, x.2.ss.length < 1000000) {F h : Heap} (eF : Ext F h) {kw vw kw' vw' : Value} (x : BookR F kw vw a) (y : BookR F kw' vw' b) {K : Value → Heap → Prop}
    (hk : ∀ h', Ext h h' → K (.bool (decide (a = b))) h') : callM P fn_book_Same #[.agg #[kw, vw], .agg #[kw', vw']] h K := by
  apply e_book_Same
  unfold d_book_Same
  refine nw_agg fun v1 h1 n1 e1 c1 => ?_
  refine nw_agg fun v3 h3 n3 e3 c3 => ?_
  rw [zcBool]
  refine nw_intro fun v5 h5 n5 e5 c5 => ?_
  have c1 := e5 _ _ (e3 _ _ c1)
  have c3 := e5 _ _ c3
  have e0 := (e1.trans e3).trans e5
  have n5' : h v5 = none := fresh_of (e1.trans e3) n5
  have o1 := x.1.one
  have o2 := x.2.1.one
  have o3 := y.1.one
  have o4 := y.2.1.one
  have hag3 : ∀ h', h' v3 = some (.cells #[kw', vw'] ty_omap_Map_string_doorman_book_Entry (0, 0)) → ldV (some (some 2)) (ptr v3) h' = some (.agg #[kw', vw']) := fun h' c => by simp [ld_at c]
  have hag1 : ∀ h', h' v1 = some (.cells #[kw, vw] ty_omap_Map_string_doorman_book_Entry (0, 0)) → ldV (some (some 2)) (ptr v1) h' = some (.agg #[kw, vw]) := fun h' c => by simp [ld_at c]
  simp -implicitDefEqProofs only [hag1 _ c1, hag3 _ c3, ov_s]
  refine keys_ok a hl (eF.trans e0) x fun ka h6 e6 xa => ?_
  have c1 := e6 _ _ c1
  have c3 := e6 _ _ c3
  have c5 := e6 _ _ c5
  have e0 := e0.trans e6
  unfold d_book_Same_1
  simp -implicitDefEqProofs only [hag3 _ c3, true_and]
  refine keys_ok b hlb (eF.trans e0) y fun kB h7 e7 xb => ?_
  have c1 := e7 _ _ c1
  have c3 := e7 _ _ c3
  have c5 := e7 _ _ c5
  have e0 := e0.trans e7
  refine eqStr_ok (keysB a) (keysB b) (xa.ext (@StrR.ext) e7) xb (by simpa [keysB] using hl) ?_
  unfold d_book_Same_2
  by_cases hkk : keysB a = keysB b
  rotate_left
  · have hne : a ≠ b := fun e => hkk (by rw [e])
    have w5 : Ext h (upd h7 v5 (.cells #[.bool false] ty_bool (0, 0))) := ext_upd n5' e0
    simp -implicitDefEqProofs [hkk, ld_at c5, cel_of c5, stm_at c5, stm_upd, ld_same, cel_same, over]
    refine kb (hk _ w5) (by simp [hne])
  have hbe := book_eq so so' hkk
  simp -implicitDefEqProofs [hkk]
  unfold d_book_Same_3
  rw [seqM_eq]
  unfold d_book_Same_4
  simp -implicitDefEqProofs only [hag1 _ c1, ov_s]
  refine all_ok a (eF.trans e0) x fun pA hB nA eA cA => ?_
  have nA5 : v5 ≠ pA := ne_fresh c5 nA
  have c3 := eA _ _ c3
  have c5 := eA _ _ c5
  have e0B := e0.trans eA
  have n35 : v3 ≠ v5 := fun hh => by subst hh; rw [c3] at c5; cases c5
  have hv3 : wo hB [v5] v3 = some (.cells #[kw', vw'] ty_omap_Map_string_doorman_book_Entry (0, 0)) := by rw [wo_out (by simpa using n35)]; exact c3
  obtain ⟨Lv, l1, l2⟩ := x.2.1.els EntR.one
  simp -implicitDefEqProofs only [List.length_map] at l1
  have hF5 : F v5 = none := by
    cases hh : F v5 with
    | none => rfl
    | some o => rw [eF _ _ hh] at n5'; cases n5'
  have F1 : Ext F (wo hB [v5]) := wo_ext (eF.trans e0B) (by simpa using hF5)
  have hlx : (allX a Lv).length = a.length := by simp [allX]
  unfold d_book_Same_5
  refine rf_go good mixed rfl (by kernel_rfl) (all_it a (hA := wo hB [v5]) (p := pA) (kw := kw) (vw := vw) (Lv := Lv) (by rw [wo_out (by simpa using Ne.symm nA5)]; exact cA) (x.ext F1) (l1.ext F1) l2.size (by simpa using l2.len))
    (fun l b' i h' => SaJ hB v5 a b i h') (fun _ _ e h' => e = .ret ∧ SaS hB v5 a b h') (fun l b' i s2 h' => SaC hB F v3 v5 a b l i s2 h') ?_ ?_ ?_ ?_ ?_ ?_ ?_ ?_ ?_ ?_ ?_
  · intro l b' hl' hb'
    exact ⟨fun q o hq => (wo_get hq).2, c5, by simp⟩
  · intro l b' i h' J; exact J.1
  · intro l b' hl' hb' i h' h'' J k
    exact ⟨wo_keep J.1 hl' k, k _ _ J.2.1 (fun hh => by cases hh; rw [hl'] at c5; cases c5), J.2.2⟩
  · rintro l b' hl' hb' e h' h'' ⟨rfl, J⟩ k
    exact ⟨rfl, wo_keep J.1 hl' k, k _ _ J.2.1 (fun hh => by cases hh; rw [hl'] at c5; cases c5), J.2.2⟩
  · rintro l b' i s2 ha hb hl' hb' ⟨J, s3, s4, hi, xb, sv, s5, s6, nx, nx5, cx, sx⟩ k
    exact ⟨⟨wo_keep J.1 hl' k, k _ _ J.2.1 (fun hh => by cases hh; rw [hl'] at c5; cases c5), J.2.2⟩, s3, s4, hi, xb, sv, s5, s6, nx, nx5, k _ _ cx (fun hh => nx (by cases hh; rfl)), sx⟩
  · intro i hi; simp [allX]
  · rintro i hi l b' h2 hl' hb' ⟨ol, hol⟩ ⟨ob, hob⟩ J
    rw [ea_book_Same_0]
    unfold da_book_Same_0
    rw [zcEnt]
    obtain ⟨hib, sv, hx, hsv, hsn'⟩ := allX_at l2 hi
    rw [hx]
    have hso := hsv.one
    simp -implicitDefEqProofs
    refine nw_st rfl (by simp [presC]) (by simp [presC, hso.1]) fun xb h4 n4 e4 c4 => ?_
    refine ⟨⟨⟨J.1.trans e4, e4 _ _ J.2.1, J.2.2⟩, by simp, by simp, hib, xb, sv, by simp, by simp, fun hh => (by subst hh; rw [hol] at n4; cases n4), fun hh => (by subst hh; rw [J.2.1] at n4; cases n4), ?_, hsv⟩, by rw [hol, e4 _ _ hol], by rw [hob, e4 _ _ hob]⟩
    simpa using c4
  · rintro i hi l b' s2 h3 hl' hb' ⟨ol, hol⟩ ⟨ob, hob⟩ ⟨J, s3, s4, hib, xb, sv, s5, s6, nx, nx5, cx, sx⟩
    rw [eb_book_Same_0]
    unfold db_book_Same_0
    have c3' := J.1 _ _ hv3
    simp -implicitDefEqProofs only [s3, s5, hag3 _ c3', ov_s]
    refine get_ok b so' a[i].1 (F1.trans J.1) y hlb fun h8 sv' e8 xs' xn' => ?_
    have cx := e8 _ _ cx
    have c58 := e8 _ _ J.2.1
    have e38 := J.1.trans e8
    simp -implicitDefEqProofs only [exV_0, exV_1, ov_s, zcEnt]
    have hso' := xs'.one
    have hso := sx.one
    refine nw_st rfl (by simp [presC]) (by simp [presC, hso'.1]) fun yb h9 n9 e9 c9 => ?_
    have cx := e9 _ _ cx
    have c59 := e9 _ _ c58
    have e39 := e38.trans e9
    have hol9 : h9 l = some ol := e9 _ _ (e8 _ _ hol)
    have hob9 : h9 b' = some ob := e9 _ _ (e8 _ _ hob)
    simp -implicitDefEqProofs only [presC] at cx c9
    simp -implicitDefEqProofs [s6, ld_at cx, cel_of cx, stm_at cx, ld_at c9, cel_of c9, stm_at c9, stm_upd, ld_same, cel_same, over, presNe]
    have hl5 : l ≠ v5 := fun hh => by subst hh; rw [hl'] at c5; cases c5
    have hb5 : b' ≠ v5 := fun hh => by subst hh; rw [hb'] at c5; cases c5
    have bad : a[i].2 ≠ entOf b a[i].1 → ∀ h36, Ext h9 h36 → (upd h36 v5 (.cells #[.bool false] ty_bool (0, 0))) l = h3 l ∧ (upd h36 v5 (.cells #[.bool false] ty_bool (0, 0))) b' = h3 b' ∧ SaS hB v5 a b (upd h36 v5 (.cells #[.bool false] ty_bool (0, 0))) := fun hn h36 e36 =>
      ⟨by rw [upd_ne hl5, e36 _ _ hol9, hol], by rw [upd_ne hb5, e36 _ _ hob9, hob], wo_upd (e39.trans e36) (by simp), upd_same' _ _ _, fun sa => hn (sa _ (List.getElem_mem hib))⟩
    by_cases ht : a[i].2.told = (entOf b a[i].1).told
    · simp -implicitDefEqProofs [ht, ld_at cx, cel_of cx, stm_at cx, ld_at c9, cel_of c9, stm_at c9, stm_upd, ld_same, cel_same, over]
      refine eqSess_ok _ _ (sx.ext (@SessR.ext) (F1.trans e39)) (xs'.ext (@SessR.ext) (F1.trans e39)) (hsn _ (List.getElem_mem hib)) ?_
      by_cases hs : a[i].2.ss = (entOf b a[i].1).ss
      · have he : a[i].2 = entOf b a[i].1 := by
          cases h1 : a[i].2; cases h2 : entOf b a[i].1
          rw [h1, h2] at hs ht; simp_all
        simp -implicitDefEqProofs [hs]
        refine ⟨by rw [hol9, hol], by rw [hob9, hob], e39, c59, fun z hz => ?_⟩
        rw [List.take_succ_eq_append_getElem hib] at hz
        rcases List.mem_append.1 hz with hz | hz
        · exact J.2.2 z hz
        · rw [List.mem_singleton.1 hz]; exact he
      · simp -implicitDefEqProofs [hs, s4, ld_at c59, cel_of c59, stm_at c59, stm_upd, ld_same, cel_same, over]
        exact bad (fun e => hs (by rw [e])) _ (Ext.refl _)
    · simp -implicitDefEqProofs [ht, s4, ld_at c59, cel_of c59, stm_at c59, stm_upd, ld_same, cel_same, over]
      exact bad (fun e => ht (by rw [e])) _ (Ext.refl _)
  · intro l b' h' hl' hne hb' hd J
    rw [hlx] at J
    have hsa : a = b := hbe.2 fun z hz => J.2.2 z (by rw [List.take_of_length_le (Nat.le_refl _)]; exact hz)
    have nb5 : v5 ≠ b' := fun hh => by subst hh; rw [hb'] at c5; cases c5
    have cv := J.2.1
    simp -implicitDefEqProofs only [blkM_n, thenM_n]
    simp -implicitDefEqProofs [ld_at cv, cel_of cv, stm_at cv, stm_upd, ld_same, cel_same, over, hd, ld_skip nb5, cel_skip nb5, tgBool4, upd_ne (Ne.symm nb5)]
    refine kb (hk _ (ext_upd (o := .deferred none) (fresh_of e0B hb') (ext_upd (o := .cells #[.bool true] ty_bool (0, 0)) n5' (ext_wo e0B (by simpa using n5') J.1)))) (by simp [hsa])
  · rintro l b' h' hl' hne hb' hd ⟨-, J⟩
    have nb5 : v5 ≠ b' := fun hh => by subst hh; rw [hb'] at c5; cases c5
    have cv := J.2.1
    simp -implicitDefEqProofs [ld_at cv, cel_of cv, stm_at cv, stm_upd, ld_same, cel_same, over, hd, ld_skip nb5, cel_skip nb5, tgBool4]
    refine kb (hk _ (ext_upd (o := .deferred none) (fresh_of e0B hb') (ext_wo e0B (by simpa using n5') J.1))) (by rw [decide_eq_false (fun e => J.2.2 (hbe.1 e))])
  · rintro id l b' h' hl' hne hb' hd ⟨h, -⟩
    cases h
set_option maxHeartbeats 1000000 in
theorem hquiet_ok {T : Tags} {h : Heap} {g : Tag} {p s m : Nat} {H : Hall} (w : Wf T h) (x : HallR T h g p H) (hs : HS m H) (hm : m ≤ 100000) (hlt : s < H.n) {K : Value → Heap → Prop} (hk : ∀ h', Ext h h' → K (.bool (H.quiet s)) h') : callM P fn_hall_Hall_Quiet #[ptr p, .int .i64 s] h K := by
  apply e_hall_Hall_Quiet
  unfold d_hall_Hall_Quiet
  obtain ⟨sv, av, Y, x⟩ := x
  have cp := x.hp
  simp -implicitDefEqProofs only [hallC] at cp
  obtain ⟨b, ob, rb, hb1, tb, ia, l1, l2, l3, l4, l5, l6⟩ := x.lds (s := s) (k := .i64) hlt
  have hsr := x.sr s hlt
  have st := hs.st s hlt
  have u1 := hsr.1.1.one
  have u2 := hsr.1.2.1.one
  have u3 := hsr.2.1.1.one
  have u4 := hsr.2.1.2.1.one
  simp -implicitDefEqProofs [ld_at cp, cel_of cp, stm_at cp, stm_upd, ld_same, cel_same, over]
  rw [ia, zcStripe]
  simp -implicitDefEqProofs only [strC] at l6
  simp -implicitDefEqProofs only [ov_s, l6]
  refine nw_st (by simp) (by simp) (by simp [u1.1, u2.1, u3.1, u4.1]) fun yb h2 n2 e2 c2 => ?_
  simp -implicitDefEqProofs only [cells_agg] at c2
  simp -implicitDefEqProofs [ld_at c2, cel_of c2, stm_at c2, stm_upd, ld_same, cel_same, over]
  refine writing_ok _ _ st.wr.1 fun h3 e3 => ?_
  have c3 := e3 _ _ c2
  have e0 := e2.trans e3
  unfold d_hall_Hall_Quiet_1
  cases hw : wrt (H.ss s).v with
  | true =>
    simp -implicitDefEqProofs
    refine kb (hk _ e0) (by simp [Hall.quiet, hw])
  | false =>
    simp -implicitDefEqProofs [ld_at c3, cel_of c3, stm_at c3, stm_upd, ld_same, cel_same, over]
    refine same_ok _ _ st.sn.bw.so st.bk.bw.so (by have := st.sn.bl; omega) (by have := st.bk.bl; omega) (fun y hy => by have := st.sn.bn y hy; omega) ((fz_ext T h).trans e0) hsr.1 hsr.2.1 fun h4 e4 => ?_
    refine kb (hk _ (e0.trans e4)) (by simp [Hall.quiet, hw])
end Go.Proofs.YtcnphhhcknhhaaaGreat
namespace Go.Den
open Go
set_option linter.unusedVariables false
set_option linter.unusedSimpArgs false
def AR (W : Wd) (i : Nat) : Prop := ∀ j q, j ≠ i → W.ps j = some q → ∀ s, ¬ q.holds s
def wkOf (x : OpD) : WK := if badB x then .bad else .op x
theorem wkOf_bad (x : OpD) : (wkOf x).isBad = badB x := by unfold wkOf; split <;> simp_all [WK.isBad]
def wPl (x : OpD) (k : Nat) : Bool := if badB x then decide (0 < k) else decide (2 < k)
structure AW (i k : Nat) (W : Wd) (M M0 : Tbl) (x : OpD) (p : WP) : Prop where
  hp : W.ps i = some (.w p)
  ar : AR W i
  kk : p.k = wkOf x
  at_ : p.at_ = if badB x then (if k = 0 then 0 else 7) else k
  m : M = if wPl x k then ((wkOf x).bef p.s M0).1 else M0
  po : WO p W.H (if wPl x k then ((wkOf x).bef p.s M0).2 else rep0)
theorem AR.step {W : Wd} {i : Nat} (x : AR W i) (n : Int) : AR (W.step i n) i := fun j q hj hq => by
  unfold Wd.step at hq
  split at hq
  · simp only [bset_ne hj] at hq; exact x j q hj hq
  · exact x j q hj hq
theorem AW.en {i k : Nat} {W : Wd} {M M0 : Tbl} {x : OpD} {p : WP} (a : AW i k W M M0 x p) (li : LI W M) (hk : k < 7) : p.enabled W.H = true ↔ (badB x = true → k = 0) := by
  have hg := (li.pa i _ a.hp).1
  have hat := a.at_
  unfold WP.enabled WP.done WP.waits
  rw [a.kk, wkOf_bad]
  by_cases hb : badB x = true
  · by_cases h0 : k = 0
    · simp [hb, h0, hat]
    · simp [hb, h0, hat]
  · have hb : badB x = false := by simpa using hb
    simp only [hb, Bool.false_eq_true, if_false] at hat
    simp only [hb, Bool.false_eq_true, false_or, false_implies, iff_true]
    by_cases h0 : 0 < p.at_
    · simp [h0]; omega
    · have hf : (W.H.ss p.s).who = 0 := (li.free_iff hg.s).2 fun j q hq hh => by
        by_cases hj : j = i
        · subst hj
          rw [a.hp] at hq; cases hq
          have := hh.2.1; omega
        · exact a.ar j q hj hq _ hh
      simp [h0, hf]; omega
theorem AW.step {i k m j : Nat} {W : Wd} {M M0 : Tbl} {x : OpD} {p : WP} (a : AW i k W M M0 x p) (li : LI W M) (hs : HS m W.H) (ts : TS j M) (hk : k < 7) (n : Int) :
    AW i (k + 1) (W.step i n) ((PR.w p).tb W.H M) M0 x (p.step W.H n).1 := by
  have hen := a.en li hk
  have hst : W.step i n = ⟨(p.step W.H n).2, bset W.ps i (some (.w (p.step W.H n).1)), bset W.ms i (W.ms i)⟩ := by simp only [Wd.step, a.hp, PR.step]
  have hk3 := wstep_k p W.H n
  have po := li.po_step hs ts a.hp n (r := if wPl x k then ((wkOf x).bef p.s M0).2 else rep0) a.po
  have po : WO (p.step W.H n).1 (p.step W.H n).2 (if p.enabled W.H = true ∧ p.places = true then (p.k.bef p.s M).2 else (if wPl x k then ((wkOf x).bef p.s M0).2 else rep0)) := po
  have hm := a.m
  have hat := a.at_
  refine ⟨by rw [hst]; exact bset_same _ _ _, a.ar.step n, by rw [hk3.1]; exact a.kk, ?_, ?_, ?_⟩
  · by_cases he : p.enabled W.H = true
    · have hc := hen.1 he
      by_cases hb : badB x = true
      · have hkb : p.k.isBad = true := by rw [a.kk, wkOf_bad]; exact hb
        simp [hb, WP.step, he, hkb]
      · have hkb : p.k.isBad = false := by rw [a.kk, wkOf_bad]; simpa using hb
        have e1 : p.step W.H n = p.stp W.H n := by simp [WP.step, he, hkb]
        rw [e1, stp_at p W.H n (enabled_at he), hat]
        simp [hb]
    · have e1 : p.step W.H n = (p, W.H) := by simp [WP.step, he]
      rw [e1, hat]
      have : badB x = true ∧ k ≠ 0 := by
        rw [hen] at he
        by_cases hb : badB x = true
        · exact ⟨hb, fun h => he fun _ => h⟩
        · exact absurd (fun h => absurd h hb) he
      simp [this]
  · rw [hk3.2.2]
    simp only [PR.tb, PR.enabled, PR.places, PR.bef, WP.places, a.kk, wkOf_bad, Bool.or_eq_true, decide_eq_true_eq]
    by_cases hb : badB x = true
    · by_cases h0 : k = 0
      · rw [if_pos ⟨hen.2 fun _ => h0, .inl hb⟩, hm]; simp [wPl, hb, h0]
      · rw [if_neg (fun h => h0 (hen.1 h.1 hb)), hm]; simp [wPl, hb]; omega
    · have hb : badB x = false := by simpa using hb
      simp only [hb, Bool.false_eq_true, if_false] at hat
      by_cases h2 : k = 2
      · rw [if_pos ⟨hen.2 (by simp [hb]), .inr (by omega)⟩, hm]; simp [wPl, hb, h2]
      · rw [if_neg (by rw [hb, hat]; simp [h2]), hm]
        by_cases h3 : 2 < k
        · simp [wPl, hb, h3]; omega
        · have : ¬ 2 < k + 1 := by omega
          simp [wPl, hb, h3, this]
  · have hWH : (W.step i n).H = (p.step W.H n).2 := by rw [hst]
    rw [hk3.2.2, hWH]
    simp only [WP.places, a.kk, wkOf_bad, Bool.or_eq_true, decide_eq_true_eq] at po
    by_cases hb : badB x = true
    · by_cases h0 : k = 0
      · rw [if_pos ⟨hen.2 fun _ => h0, .inl hb⟩, hm] at po; simpa [wPl, hb, h0] using po
      · rw [if_neg (fun h => h0 (hen.1 h.1 hb))] at po
        have : 0 < k := by omega
        simpa [wPl, hb, this] using po
    · have hb : badB x = false := by simpa using hb
      simp only [hb, Bool.false_eq_true, if_false] at hat
      by_cases h2 : k = 2
      · rw [if_pos ⟨hen.2 (by simp [hb]), .inr (by omega)⟩, hm] at po; simpa [wPl, hb, h2] using po
      · rw [if_neg (by rw [hb, hat]; simp [h2])] at po
        by_cases h3 : 2 < k
        · have : 2 < k + 1 := by omega
          simpa [wPl, hb, h3, this] using po
        · have : ¬ 2 < k + 1 := by omega
          simpa [wPl, hb, h3, this] using po
/-- Its beginning. -/
theorem AW.init {W : Wd} {i : Nat} (ar : AR W i) (M : Tbl) (x : OpD) (s : Nat) : AW i 0 { W with ps := bset W.ps i (some (.w (sect i s (wkOf x)))) } M M x (sect i s (wkOf x)) :=
  ⟨bset_same _ _ _, fun j q hj hq => ar j q hj (by rw [← hq]; exact (bset_ne hj).symm), rfl, by simp [sect], by simp [wPl], ⟨fun _ => .inl rfl, fun _ h => by simp [sect] at h⟩⟩
theorem AW.done {i : Nat} {W : Wd} {M M0 : Tbl} {x : OpD} {p : WP} (a : AW i 7 W M M0 x p) : p.done = true ∧ (∀ j q, W.ps j = some q → ∀ s, ¬ q.holds s) ∧ M = ((wkOf x).bef p.s M0).1 ∧ repE p.err = ((wkOf x).bef p.s M0).2 := by
  have hat : p.at_ = 7 := by have := a.at_; split at this <;> simpa using this
  have hpl : wPl x 7 = true := by unfold wPl; split <;> simp
  refine ⟨by simp [WP.done, hat], fun j q hq s hh => ?_, by have := a.m; rwa [if_pos hpl] at this, ?_⟩
  · by_cases hj : j = i
    · subst hj
      rw [a.hp] at hq; cases hq
      have := hh.2.2.1; omega
    · exact a.ar j q hj hq s hh
  · have po := a.po
    rw [if_pos hpl] at po
    by_cases hb : p.k.isBad = true
    · rcases po.b hb with h | h
      · omega
      · rw [h.2.2, h.2.1]
    · have := po.g (by simpa using hb) (by omega)
      rw [if_neg (by omega)] at this
      exact this.symm
theorem bef_do {M : Tbl} {x : OpD} {s : Nat} (hk : x.kind = 1 ∨ x.kind = 2 ∨ x.kind = 3) {i : Nat} (hi : i < 8) : (wkOf x).bef s M = M.do_ i x := by
  have hc : clientB (i : Int) = true := by simp [clientB]; omega
  unfold wkOf Tbl.do_
  by_cases hb : badB x = true
  · simp [hb, WK.bef]
  · simp [hb, hc, hk, WK.bef]
/-- The sweeper. -/
structure SL (N k : Nat) (p : SwP) (W : Wd) : Prop where
  hp : W.ps 8 = some (.w p.now)
  sa : SwA N k p W.H
  ar : AR W 8
theorem SL.init {W : Wd} {N : Nat} {M : Tbl} (li : LI W M) (ar : ∀ j q, W.ps j = some q → ∀ s, ¬ q.holds s) (hn : W.H.n = N) (n0 : 0 < N) : SL N 0 SwP.new { W with ps := bset W.ps 8 (some (.w SwP.new.now)) } :=
  ⟨bset_same W.ps 8 (some (.w SwP.new.now)), SwA.new hn n0 fun s hs => (li.free_iff (by omega)).2 fun i q hq => ar i q hq s, fun j q hj hq => ar j q (by rw [← hq]; exact (bset_ne hj).symm)⟩
theorem SL.start {W : Wd} {M : Tbl} (li : LI W M) (ar : ∀ q, W.ps 8 = some q → Idle q (W.ms 8) W.H.c) {s : Nat} (hs : s < W.H.n) : LI { W with ps := bset W.ps 8 (some (.w (sect 8 s .sweep))) } M := by
  refine li.start ⟨sect_g hs (by omega) (by simp), rfl, by simp [sect], by simp [sect]⟩ (Idle.w _ _ rfl) ar
theorem SL.step {N k m j : Nat} {p : SwP} {W : Wd} {M : Tbl} (x : SL N k p W) (li : LI W M) (hs : HS m W.H) (hm : m < 100000) (ts : TS j M) (n : Int) :
    ∃ W', W'.H = (p.step W.H n).2.1 ∧ SL N (k + 1) (p.step W.H n).1 W' ∧ LI W' (if k % 7 = 2 then M.sweep (k / 7 % N : Nat) else M) ∧ HS (m + 1) W'.H ∧ TS (j + 1) (if k % 7 = 2 then M.sweep (k / 7 % N : Nat) else M) := by
  have sa := x.sa
  obtain ⟨s1, s2, s3⟩ := sa.step n
  have hen := sa.en
  have hb : p.now.k.isBad = false := by rw [sa.kk]; rfl
  obtain ⟨l1, l2, l3⟩ := li.step hs hm ts x.hp n
  have htb : (PR.w p.now).tb W.H M = if k % 7 = 2 then M.sweep (k / 7 % N : Nat) else M := by
    simp only [PR.tb, PR.enabled, PR.places, PR.bef, WP.places, sa.kk, WK.isBad, Bool.false_or, decide_eq_true_eq, sa.at_, hen, true_and, WK.bef, sa.e, sa.st]
  rw [htb] at l1 l3
  have hst : W.step 8 n = ⟨(p.now.step W.H n).2, bset W.ps 8 (some (.w (p.now.step W.H n).1)), bset W.ms 8 (W.ms 8)⟩ := by simp only [Wd.step, x.hp, PR.step]
  have hH : (W.step 8 n).H = (p.step W.H n).2.1 := by
    rw [hst]; unfold SwP.step; dsimp only; split <;> rfl
  by_cases h6 : (p.now.step W.H n).1.done = true
  · have hnw : ∃ s', s' < W.H.n ∧ (p.step W.H n).1.now = sect 8 s' .sweep := by
      have hps := sa.st
      have hn := sa.hn
      have := Nat.mod_lt (k / 7) sa.n0
      unfold SwP.step; dsimp only; rw [if_pos h6]
      unfold SwP.nxt; dsimp only
      split
      · exact ⟨0, by have := sa.n0; omega, rfl⟩
      · exact ⟨p.stripe + 1, by omega, rfl⟩
    obtain ⟨s', hs', hnw⟩ := hnw
    have hWn : (W.step 8 n).H.n = W.H.n := by rw [hst]; exact (wstep_n p.now W.H n).1
    refine ⟨{ W.step 8 n with ps := bset (W.step 8 n).ps 8 (some (.w (p.step W.H n).1.now)) }, hH, ⟨bset_same (W.step 8 n).ps 8 (some (.w (p.step W.H n).1.now)), by rw [show Wd.H _ = _ from hH]; exact s1, fun jj q hj hq => x.ar.step n jj q hj (by rw [← hq]; exact (bset_ne hj).symm)⟩, ?_, l2, l3⟩
    rw [hnw]
    refine SL.start l1 (fun q hq => ?_) (by omega)
    have hq : some (PR.w (p.now.step W.H n).1) = some q := by rw [← hq, hst]; exact (bset_same W.ps 8 _).symm
    cases hq
    refine Idle.done (n := W.H.n) (i := 8) ?_ h6 hs.n8.1
    have := l1.pa 8 (.w (p.now.step W.H n).1) (by rw [hst]; exact bset_same W.ps 8 _)
    rw [hWn] at this; exact this
  · refine ⟨W.step 8 n, hH, ⟨?_, by rw [hH]; exact s1, x.ar.step n⟩, l1, l2, l3⟩
    rw [hst]
    unfold SwP.step; dsimp only; rw [if_neg h6]
    exact bset_same W.ps 8 _
end Go.Den
namespace Go.Proofs.YtcnphhhcknhhaaaGreat
open Go Go.Den Go.MapKept
set_option linter.unusedSimpArgs false
set_option linter.unusedVariables false
set_option maxRecDepth 20000
def WrO (W : Wd) : Prop := ∀ j q, W.ps j = some q → (∃ p, q = .w p) ∧ ∀ s, ¬ q.holds s
structure RW (T0 : Tags) (h0 : Heap) (hp m N : Nat) (c : Cfg) (W : Wd) (M : Tbl) (T' : Tags) (h' : Heap) : Prop where
  o : Only UW T0 h0 T' h'
  x : ∃ A, WdM T' h' hp A W
  k : WdK m W M
  r : WrO W
  n : W.H.n = N
  c : W.H.c = c
theorem RW.hl {T0 : Tags} {h0 : Heap} {hp m N : Nat} {c : Cfg} {W : Wd} {M : Tbl} {T' : Tags} {h' : Heap} (y : RW T0 h0 hp m N c W M T' h') : HallR T' h' [1] hp W.H := let ⟨_, x⟩ := y.x; x.hl
theorem RW.ext {T0 : Tags} {h0 : Heap} {hp m N : Nat} {c : Cfg} {W : Wd} {M : Tbl} {T' : Tags} {h' h'' : Heap} (y : RW T0 h0 hp m N c W M T' h') (e : Ext h' h'') : RW T0 h0 hp m N c W M T' h'' :=
  ⟨y.o.up (Only.of_ext (U := non) y.o.wf e) non_up, let ⟨A, x⟩ := y.x; ⟨A, x.ext y.o.wf e⟩, y.k, y.r, y.n, y.c⟩
theorem RW.idle {T0 : Tags} {h0 : Heap} {hp m N : Nat} {c : Cfg} {W : Wd} {M : Tbl} {T' : Tags} {h' : Heap} (y : RW T0 h0 hp m N c W M T' h') {j : Nat} {q : PR} (h : W.ps j = some q) (ms : Mine) : Idle q ms W.H.c := by
  obtain ⟨⟨p, rfl⟩, h2⟩ := y.r j q h
  exact ⟨h2, rfl⟩
theorem RW.free {T0 : Tags} {h0 : Heap} {hp m N : Nat} {c : Cfg} {W : Wd} {M : Tbl} {T' : Tags} {h' : Heap} (y : RW T0 h0 hp m N c W M T' h') {s : Nat} (hs : s < N) : Free (W.H.ss s) (M.st s) :=
  y.k.li.rest (by rw [y.n]; exact hs) fun j q hq => (y.r j q hq).2 s
/-- The first world. -/
theorem RW.init {T : Tags} {h : Heap} {hp : Nat} {c : Cfg} (cw : CfgW c) (hr : rightB c = true) (w : Wf T h) (y : HallR T h [1] hp (hall0 c c.stripes.toNat)) : RW T h hp 0 c.stripes.toNat c (wd0 c c.stripes.toNat) (tbl0 c c.stripes.toNat) T h :=
  ⟨Only.refl w, ⟨fun _ => 0, wd0M y _⟩, wd0K cw hr (cfg_nn hr).1, fun j q h => by simp [wd0] at h, rfl, rfl⟩
/-- One writing, behind k steps. -/
structure AwI (T0 : Tags) (h0 : Heap) (hp q i k m N : Nat) (c : Cfg) (x : OpD) (M0 : Tbl) (T' : Tags) (h' : Heap) : Prop where
  o : Only UW T0 h0 T' h'
  e : ∃ (W : Wd) (M : Tbl) (p : WP) (A : Nat → Nat), WdM T' h' hp A W ∧ A i = q ∧ WdK (m + k) W M ∧ AW i k W M M0 x p ∧ p.s = (stripeOf x.user c.stripes).toNat ∧ (∀ j q, W.ps j = some q → ∃ p, q = .w p) ∧ W.H.n = N ∧ W.H.c = c
theorem aw_new {T0 : Tags} {h0 : Heap} {hp m N : Nat} {c : Cfg} {W : Wd} {M : Tbl} {T' : Tags} {h' : Heap} (y : RW T0 h0 hp m N c W M T' h') {i : Nat} (hi : i ≤ 900) (x : OpD) (xw : OpW x) (hl : x.users.length < 1000000) {v : Value} (hv : Sl 1 StrR (fz T' h') v x.users) {K : Value → Heap → Prop}
    (hk : ∀ T'' h'' q, AwI T0 h0 hp q i 0 m N c x M T'' h'' → K (ptr q) h'') : callM P fn_write_New #[ptr hp, .int .i64 i, .agg (opC x v).toArray] h' K := by
  obtain ⟨A, xm⟩ := y.x
  refine wdnew_w hi x xw hl hv y.o.wf xm y.k (fun q hq => y.idle hq _) fun T2 h2 q o2 x2 k2 => ?_
  refine hk T2 h2 q ⟨y.o.up o2 non_up, _, M, wp0 W.H i x, bset A i q, x2, bset_same _ _ _, k2, ?_, ?_, fun j q hq => ?_, y.n, y.c⟩
  · exact AW.init (fun j q hj hq => (y.r j q hq).2) M x _
  · show (stripeOf x.user W.H.c.stripes).toNat = _; rw [y.c]
  · by_cases hj : j = i
    · subst hj
      have hq : bset W.ps j _ j = some q := hq
      rw [bset_same] at hq; cases hq; exact ⟨_, rfl⟩
    · have hq : bset W.ps i _ j = some q := hq
      rw [bset_ne hj] at hq; exact (y.r j q hq).1
theorem aw_step {T0 : Tags} {h0 : Heap} {hp q i k m N : Nat} {c : Cfg} {x : OpD} {M0 : Tbl} {T' : Tags} {h' : Heap} (y : AwI T0 h0 hp q i k m N c x M0 T' h') (hk7 : k < 7) (hm : m + k < 100000) (n : Int) {K : Value → Heap → Prop}
    (hk : ∀ T'' h'', AwI T0 h0 hp q i (k + 1) m N c x M0 T'' h'' → K (.tuple #[]) h'') : callM P fn_write_Proc_Step #[ptr q, ptr hp, .int .i64 n] h' K := by
  obtain ⟨o, W, M, p, A, xm, rfl, wk, aw, hs, hw, hn, hc⟩ := y
  refine wdstep_w n o.wf xm wk hm aw.hp fun T2 h2 o2 x2 => ?_
  have hst : W.step i n = ⟨(p.step W.H n).2, bset W.ps i (some (.w (p.step W.H n).1)), bset W.ms i (W.ms i)⟩ := by simp only [Wd.step, aw.hp, PR.step]
  have hnc := wstep_n p W.H n
  refine hk T2 h2 ⟨o.trans o2, _, _, _, A, x2, rfl, wk.step hm aw.hp n, aw.step wk.li wk.hs wk.ts hk7 n, by rw [(wstep_k p W.H n).2.2]; exact hs, fun j q hq => ?_, by rw [hst]; exact hnc.1.trans hn, by rw [hst]; exact hnc.2.trans hc⟩
  rw [hst] at hq
  by_cases hj : j = i
  · subst hj
    have hq : bset W.ps j _ j = some q := hq
    rw [bset_same] at hq; cases hq; exact ⟨_, rfl⟩
  · have hq : bset W.ps i _ j = some q := hq
    rw [bset_ne hj] at hq; exact hw j q hq
/-- Time passes. -/
theorem rw_pass {T0 : Tags} {h0 : Heap} {hp m N : Nat} {c : Cfg} {W : Wd} {M : Tbl} {T' : Tags} {h' : Heap} (y : RW T0 h0 hp m N c W M T' h') (hm : m < 100000) (who by_ : Int) (hb : U64 by_) {K : Value → Heap → Prop}
    (hk : ∀ T'' h'' W', RW T0 h0 hp (m + 1) N c W' (M.tick by_) T'' h'' → K (.tuple #[]) h'') : callM P fn_hall_Hall_Pass #[ptr hp, .int .i64 who, .int .u64 by_] h' K := by
  obtain ⟨A, xm⟩ := y.x
  refine hpass_ok who by_ hb y.o.wf g1 xm.hl y.k.hs.tn (by have := y.k.hs.ac; omega) fun T2 h2 o2 y2 => ?_
  refine hk T2 h2 { W with H := W.H.pass who by_ } ⟨y.o.trans (o2.mono fun _ => .inl), ⟨A, y2, fun j p hp => (xm.ps j p hp).kp o2.k (d12i j) (by simp [pre])⟩, ⟨y.k.li.pass who by_, y.k.hs.pass who by_ hb, (y.k.ts.tick by_ hb).mono (by omega)⟩, y.r, y.n, y.c⟩
def U3 (t : Tag) : Prop := UW t ∨ pre [3] t
theorem U3.nil : ¬ U3 [] := by rintro (h | h); exact UW.nil h; simp [pre] at h
theorem g3 : Gd [3] := ⟨2, [], rfl⟩
structure SqI (T0 : Tags) (h0 : Heap) (hp pp k m N : Nat) (c : Cfg) (M : Tbl) (T' : Tags) (h' : Heap) : Prop where
  o : Only U3 T0 h0 T' h'
  e : ∃ (W : Wd) (p : SwP), HallR T' h' [1] hp W.H ∧ SwR T' h' [3] pp p ∧ SL N k p W ∧ WdK m W M ∧ SwG N p ∧ W.H.c = c
theorem SqI.ext {T0 : Tags} {h0 : Heap} {hp pp k m N : Nat} {c : Cfg} {M : Tbl} {T' : Tags} {h' h'' : Heap} (y : SqI T0 h0 hp pp k m N c M T' h') (e : Ext h' h'') : SqI T0 h0 hp pp k m N c M T' h'' := by
  obtain ⟨o, W, p, hl, sw, r⟩ := y
  have oe : Only non T' h' T' h'' := Only.of_ext o.wf e
  exact ⟨o.up oe non_up, W, p, hl.up oe (Off.non _) (not_non _), sw.kp oe.k (Off.non _) (not_non _), r⟩
/-- Behind whole rounds all is at rest. -/
theorem SqI.rest {T0 : Tags} {h0 : Heap} {hp pp k m N : Nat} {c : Cfg} {M : Tbl} {T' : Tags} {h' : Heap} (y : SqI T0 h0 hp pp k m N c M T' h') (h7 : k % 7 = 0) : ∃ W p, HallR T' h' [1] hp W.H ∧ SwR T' h' [3] pp p ∧ WdK m W M ∧ W.H.n = N ∧ W.H.c = c ∧ (∀ s, s < N → Free (W.H.ss s) (M.st s)) ∧ p.rounds = k / 7 / N := by
  obtain ⟨o, W, p, hl, sw, sl, wk, sg, hc⟩ := y
  have hn := sl.sa.hn
  refine ⟨W, p, hl, sw, wk, hn, hc, fun s hs => wk.li.rest (by omega) fun j q hq => ?_, sl.sa.ro⟩
  by_cases hj : j = 8
  · subst hj
    rw [sl.hp] at hq; cases hq
    intro hh
    have := sl.sa.at_
    have := hh.2.1; omega
  · exact sl.ar j q hj hq s
/-- Another beginning. -/
theorem RW.base {U : Tag → Prop} {T0 : Tags} {h0 : Heap} {hp m N : Nat} {c : Cfg} {W : Wd} {M : Tbl} {T' T'' : Tags} {h' h'' : Heap} (y : RW T0 h0 hp m N c W M T' h') (o : Only U T' h' T'' h'') (f : ∀ t, UW t → ¬ U t) (n : ¬ U []) : RW T'' h'' hp m N c W M T'' h'' := by
  obtain ⟨A, x⟩ := y.x
  exact ⟨Only.refl o.wf, ⟨A, x.up o f n⟩, y.k, y.r, y.n, y.c⟩
theorem opsAt {F : Heap} {v : Value} {xs : List OpD} (x : Sl 7 OpR F v xs) {i : Nat} (hi : i < xs.length) : ∃ b p u, iaV (some (none, 7)) v (.int .i64 i) = some (.pointer (some ⟨b, p, none⟩)) ∧ (∀ h', Ext F h' → ldV (some (some 7)) (.pointer (some ⟨b, p, none⟩)) h' = some (.agg (opC xs[i] u).toArray)) ∧ Sl 1 StrR F u xs[i].users ∧ OpW xs[i] := by
  obtain ⟨b, o, c, i1, i2, i3⟩ := x.at (k := .i64) (i := i) (by omega) (by omega)
  obtain ⟨u, h1, h2, h3⟩ := i3
  simp -implicitDefEqProofs only [Int.toNat_natCast] at h1 h2 h3
  exact ⟨b, o, u, i1, fun h' e => by rw [ldV_n (cels_ext e i2), h1], h2, h3⟩
end Go.Proofs.YtcnphhhcknhhaaaGreat
namespace Go.Proofs.YtcnphhhcknhhaaaGreat
open Go Go.Den Go.MapKept
set_option linter.unusedSimpArgs false
set_option linter.unusedVariables false
set_option maxRecDepth 20000
def mdC (c : Cfg) (t : Tm) (bv fv : Value) : List Value := [.int .i64 c.stripes, .int .i64 c.sessions, .int .i64 c.queue, .int .i64 c.watches, .int .i64 c.retries, .int .u64 c.epochs, .int .u64 c.start, .int .u64 t.now, .int .u64 t.seq, .bool t.closed, bv, fv]
structure MdX (T : Tags) (h : Heap) (g : Tag) (p : Nat) (M : Tbl) (bv fv : Value) (K V : Nat → Value) (F : Nat → Nat) : Prop where
  hp : h p = some (.cells (mdC M.c M.t bv fv).toArray ty_model_Model (0, 0))
  tp : T p = g ++ [0]
  bk : Rw T h (g ++ [1]) 2 ty_omap_Map_string_doorman_book_Entry bv M.n (seqF M.n fun i => [K i, V i])
  fd : Rw T h (g ++ [2]) 1 ty_Ptr_feed_Feed fv M.n (seqF M.n fun i => [ptr (F i)])
  br : ∀ s, s < M.n → BookR (fz T h) (K s) (V s) (M.bk s)
  fr : ∀ s, s < M.n → FeedR T h (g ++ [3, s]) (F s) (M.fd s)
def MdR (T : Tags) (h : Heap) (g : Tag) (p : Nat) (M : Tbl) : Prop := ∃ bv fv K V F, MdX T h g p M bv fv K V F
theorem MdX.kp {U : Tag → Prop} {T T' : Tags} {h h' : Heap} {g : Tag} {p : Nat} {M : Tbl} {bv fv : Value} {K V : Nat → Value} {F : Nat → Nat} (x : MdX T h g p M bv fv K V F) (k : Kp U T h T' h') (o : Off U g) (n : ¬ U []) : MdX T' h' g p M bv fv K V F :=
  ⟨(k.at x.hp x.tp (o.at [0])).1, (k.at x.hp x.tp (o.at [0])).2, x.bk.kp k (o.at [1]), x.fd.kp k (o.at [2]), fun s hs => (x.br s hs).ext (k.ext n), fun s hs => (x.fr s hs).kp k (o.app [3, s]) n⟩
theorem MdR.kp {U : Tag → Prop} {T T' : Tags} {h h' : Heap} {g : Tag} {p : Nat} {M : Tbl} (x : MdR T h g p M) (k : Kp U T h T' h') (o : Off U g) (n : ¬ U []) : MdR T' h' g p M := by
  obtain ⟨bv, fv, K, V, F, x⟩ := x
  exact ⟨bv, fv, K, V, F, x.kp k o n⟩
theorem MdR.up {U : Tag → Prop} {T T' : Tags} {h h' : Heap} {g : Tag} {p : Nat} {M : Tbl} (x : MdR T h g p M) (k : Only U T h T' h') (o : Off U g) (n : ¬ U []) : MdR T' h' g p M := x.kp k.k o n
theorem MdX.same {T : Tags} {h : Heap} {g : Tag} {p : Nat} {M M' : Tbl} {bv fv : Value} {K V : Nat → Value} {F : Nat → Nat} (x : MdX T h g p M bv fv K V F) (h1 : M'.c = M.c) (h2 : M'.t = M.t) (h3 : M'.n = M.n) (h4 : M'.bk = M.bk) (h5 : M'.fd = M.fd) : MdX T h g p M' bv fv K V F := by
  cases M; cases M'; simp only at h1 h2 h3 h4 h5; subst h1 h2 h3 h4 h5; exact x
/-- The table's own block is written. -/
theorem MdX.st {T : Tags} {h : Heap} {g : Tag} {p : Nat} {M M' : Tbl} {bv fv : Value} {K V : Nat → Value} {F : Nat → Nat} (x : MdX T h g p M bv fv K V F) (w : Wf T h) (gg : Gd g) {c : Array Value} (hc : c = (mdC M'.c M'.t bv fv).toArray) (h3 : M'.n = M.n) (h4 : M'.bk = M.bk) (h5 : M'.fd = M.fd) :
    Only (fun t => t = g ++ [0]) T h T (upd h p (.cells c ty_model_Model (0, 0))) ∧ MdX T (upd h p (.cells c ty_model_Model (0, 0))) g p M' bv fv K V F := by
  have o : Only (fun t => t = g ++ [0]) T h T (upd h p (.cells c ty_model_Model (0, 0))) := Only.upd w x.hp x.tp
  refine ⟨o, by rw [upd_same', hc], x.tp, ?_, ?_, fun s hs => ?_, fun s hs => ?_⟩
  · rw [h3]; exact x.bk.kp o.k (ne_tag (by simp))
  · rw [h3]; exact x.fd.kp o.k (ne_tag (by simp))
  · rw [h4]; exact (x.br s (by rw [← h3]; exact hs)).ext (o.ext (by simp))
  · rw [h5]; exact (x.fr s (by rw [← h3]; exact hs)).kp o.k (off_eq (by simp)) (by simp)
/-- A stripe's book, where it lies. -/
theorem MdX.ldb {T : Tags} {h : Heap} {g : Tag} {p : Nat} {M : Tbl} {bv fv : Value} {K V : Nat → Value} {F : Nat → Nat} (x : MdX T h g p M bv fv K V F) {s : Nat} (hs : s < M.n) : ∃ b, rowOf bv = some b ∧ iaV (some (none, 2)) bv (.int .i64 s) = some (.pointer (some ⟨b, s * 2, none⟩)) ∧ ldV (some (some 2)) (.pointer (some ⟨b, s * 2, none⟩)) h = some (.agg #[K s, V s]) := by
  obtain ⟨b, h1, h2⟩ := x.bk.1.ia (k := .i64) hs
  refine ⟨b, h1, h2, ?_⟩
  have hc : cels h b (s * 2) 2 = some [K s, V s] := by
    rw [x.bk.1.cels h1 (by have : (s + 1) * 2 ≤ M.n * 2 := Nat.mul_le_mul_right _ hs; omega)]
    exact congrArg some (seqF_at (F := fun i => [K i, V i]) (fun _ _ => rfl) hs)
  rw [ldV_n hc]
theorem MdX.ldf {T : Tags} {h : Heap} {g : Tag} {p : Nat} {M : Tbl} {bv fv : Value} {K V : Nat → Value} {F : Nat → Nat} (x : MdX T h g p M bv fv K V F) {s : Nat} (hs : s < M.n) : ∃ b, iaV (some (none, 1)) fv (.int .i64 s) = some (.pointer (some ⟨b, s, none⟩)) ∧ cel h b s = some (ptr (F s)) := by
  obtain ⟨b, h1, h2⟩ := x.fd.1.ia (k := .i64) hs
  rw [Nat.mul_one] at h2
  refine ⟨b, h2, ?_⟩
  have hc : cels h b s 1 = some [ptr (F s)] := by
    rw [x.fd.1.cels h1 (by omega)]
    have := seqF_at (F := fun i => [ptr (F i)]) (sz := 1) (n := M.n) (fun _ _ => rfl) hs
    rw [Nat.mul_one] at this
    exact congrArg some this
  have := (cels_get hc).2 0 (by simp)
  simpa using this
/-- A book is stored. -/
theorem MdX.stb {T : Tags} {h : Heap} {g : Tag} {p : Nat} {M : Tbl} {bv fv : Value} {K V : Nat → Value} {F : Nat → Nat} (x : MdX T h g p M bv fv K V F) (w : Wf T h) {s b : Nat} (hs : s < M.n) (hb : rowOf bv = some b) {k v : Value} {B : Book} (hB : BookR (fz T h) k v B) {Q : Heap → Prop}
    (hk : ∀ h', Only (fun t => t = g ++ [1]) T h T h' → MdX T h' g p { M with bk := bset M.bk s B } bv fv (bset K s k) (bset V s v) F → Q h') : stM (some 2) (.pointer (some ⟨b, s * 2, none⟩)) (.agg #[k, v]) h Q := by
  have tb := x.bk.2 b hb
  have u1 := hB.1.one
  have u2 := hB.2.1.one
  refine x.bk.1.st hb (m := 2) (by simp) (by have : (s + 1) * 2 ≤ M.n * 2 := Nat.mul_le_mul_right _ hs; omega) (by simp [u1.1, u2.1]) fun h' hk' hrow => ?_
  obtain ⟨ob, hob⟩ := x.bk.1.lt b hb
  obtain ⟨ob', hob'⟩ := hrow.lt b hb
  have e : h' = upd h b ob' := upd_of hk' hob'
  have o1 : Only (fun t => t = g ++ [1]) T h T h' := by rw [e]; exact Only.upd w hob tb
  refine hk h' o1 ⟨(o1.k.at x.hp x.tp (ne_tag (by simp))).1, x.tp, ⟨?_, x.bk.2⟩, x.fd.kp o1.k (ne_tag (by simp)), fun i hi => ?_, fun i hi => (x.fr i hi).kp o1.k (off_eq (by simp)) (by simp)⟩
  · have hsp := seqF_spl (F := fun i => [K i, V i]) (sz := 2) (n := M.n) (off := 0) (l := [k, v]) (fun i _ => rfl) hs (by simp)
    rw [Nat.add_zero] at hsp
    have : seqF M.n (fset (fun i => [K i, V i]) s (spl [K s, V s] 0 [k, v])) = seqF M.n fun i => [bset K s k i, bset V s v i] := by
      refine seqF_congr fun i hi => ?_
      simp -implicitDefEqProofs only [fset, bset]
      by_cases his : i = s
      · subst his; simp [spl]
      · simp -implicitDefEqProofs [his]
    rw [show (Value.agg #[k, v]).cells.toList = [k, v] from by simp] at hrow
    rw [hsp, this] at hrow
    exact hrow
  · by_cases his : i = s
    · subst his
      show BookR _ (bset K i k i) (bset V i v i) (bset M.bk i B i)
      rw [bset_same, bset_same, bset_same]
      exact hB.ext (o1.ext (by simp))
    · show BookR _ (bset K s k i) (bset V s v i) (bset M.bk s B i)
      rw [bset_ne his, bset_ne his, bset_ne his]
      exact (x.br i hi).ext (o1.ext (by simp))
/-- A feed has become another one. -/
theorem MdX.fed {T T' : Tags} {h h' : Heap} {g : Tag} {p : Nat} {M : Tbl} {bv fv : Value} {K V : Nat → Value} {F : Nat → Nat} (x : MdX T h g p M bv fv K V F) {s : Nat} {f : Feed} (o : Only (pre (g ++ [3, s])) T h T' h') (gg : Gd g) (r : FeedR T' h' (g ++ [3, s]) (F s) f) :
    MdX T' h' g p (M.fed s f) bv fv K V F := by
  have b := o.k.at x.hp x.tp (not_pre (by simp))
  have n : ¬ pre (g ++ [3, s]) [] := (gg.app _).nil
  refine ⟨b.1, b.2, x.bk.kp o.k (not_pre (by simp)), x.fd.kp o.k (not_pre (by simp)), fun i hi => (x.br i hi).ext (o.ext n), fun i hi => ?_⟩
  show FeedR T' h' _ _ (bset M.fd s f i)
  by_cases his : i = s
  · subst his; rw [bset_same]; exact r
  · rw [bset_ne his]; exact (x.fr i hi).kp o.k (off_pre (by simp; omega) (by simp; omega)) n
section
variable {T : Tags} {h : Heap} {g : Tag} {p m : Nat} {M : Tbl} {K : Value → Heap → Prop}
theorem mtime_ok (w : Wf T h) (x : MdR T h g p M) (hk : ∀ h', Ext h h' → K (.agg (tmC M.t).toArray) h') : callM P fn_model_Model_Time #[ptr p] h K := by
  apply e_model_Model_Time
  unfold d_model_Model_Time
  rw [zcTime]
  refine nw_intro fun v1 h1 n1 e1 c1 => ?_
  obtain ⟨bv, fv, Kk, V, F, x⟩ := x
  have cp := e1 _ _ x.hp
  simp -implicitDefEqProofs only [mdC] at cp
  simp -implicitDefEqProofs [ld_at c1, cel_of c1, stm_at c1, ld_at cp, cel_of cp, stm_at cp, stm_upd, ld_same, cel_same, over]
  exact kv (hk _ (ext_upd n1 e1)) (by simp [tmC])
theorem mstripe_ok (u : ByteArray) (hu : u.size ≤ maxLen) (x : MdR T h g p M) (hc : M.c.stripes ≤ 8) (hk : K (.int .i64 (stripeOf u M.c.stripes)) h) : callM P fn_model_Model_stripe #[ptr p, .string u] h K := by
  apply e_model_Model_stripe
  unfold d_model_Model_stripe
  obtain ⟨bv, fv, Kk, V, F, x⟩ := x
  have cp := x.hp
  simp -implicitDefEqProofs only [mdC] at cp
  simp -implicitDefEqProofs [ld_at cp, cel_of cp, stm_at cp, stm_upd, ld_same, cel_same, over]
  exact stripe_ok u _ (by omega) hu hk
theorem mtick_ok (by_ : Int) (hb : U64 by_) (w : Wf T h) (gg : Gd g) (x : MdR T h g p M) (ht : U64 M.t.now) (hk : ∀ T' h', Only (pre g) T h T' h' → MdR T' h' g p (M.tick by_) → K (.tuple #[]) h') : callM P fn_model_Model_Tick #[ptr p, .int .u64 by_] h K := by
  apply e_model_Model_Tick
  unfold d_model_Model_Tick
  obtain ⟨bv, fv, Kk, V, F, x⟩ := x
  have cp := x.hp
  simp -implicitDefEqProofs only [mdC] at cp
  have hld : ldV (some (some 3)) (.pointer (some ⟨p, 7, none⟩)) h = some (.agg (tmC M.t).toArray) := by simp [ld_at cp, tmC]
  simp -implicitDefEqProofs only [ncV_p, faV_p, ov_s, Nat.zero_add, hld]
  refine tickPass_ok M.t ht hb fun h1 e1 => ?_
  have o1 : Only non T h T h1 := Only.of_ext w e1
  have x1 := x.kp o1.k (Off.non _) (not_non _)
  have cp := x1.hp
  simp -implicitDefEqProofs only [mdC] at cp
  obtain ⟨o2, x2⟩ := x1.st (M' := M.tick by_) o1.wf gg rfl rfl rfl rfl
  simp -implicitDefEqProofs [ld_at cp, cel_of cp, stm_at cp, stm_upd, ld_same, cel_same, over, tmC]
  exact hk T _ ((o1.mono fun _ => non_up _).up o2 fun t => eq_pre) ⟨bv, fv, Kk, V, F, x2⟩
theorem mtake_ok (w : Wf T h) (gg : Gd g) {bv fv : Value} {Kk V : Nat → Value} {F : Nat → Nat} (x : MdX T h g p M bv fv Kk V F) (ht : U64 M.t.seq) (hk : ∀ h', Only (fun t => t = g ++ [0]) T h T h' → MdX T h' g p M.take bv fv Kk V F → K (.int .u64 M.take.t.seq) h') : callM P fn_model_Model_take #[ptr p] h K := by
  apply e_model_Model_take
  unfold d_model_Model_take
  have cp := x.hp
  simp -implicitDefEqProofs only [mdC] at cp
  have hld : ldV (some (some 3)) (.pointer (some ⟨p, 7, none⟩)) h = some (.agg (tmC M.t).toArray) := by simp [ld_at cp, tmC]
  simp -implicitDefEqProofs only [ncV_p, faV_p, ov_s, Nat.zero_add, hld]
  refine tickTake_ok M.t ht fun h1 e1 => ?_
  have o1 : Only non T h T h1 := Only.of_ext w e1
  have x1 := x.kp o1.k (Off.non _) (not_non _)
  have cp := x1.hp
  simp -implicitDefEqProofs only [mdC] at cp
  obtain ⟨o2, x2⟩ := x1.st (M' := M.take) o1.wf gg rfl rfl rfl rfl
  simp -implicitDefEqProofs [ld_at cp, cel_of cp, stm_at cp, stm_upd, ld_same, cel_same, over, tmC]
  exact hk _ ((o1.mono non_up).trans o2) x2
/-- A book is stored, and its feed told. -/
theorem mbook_tell {s b : Nat} {bv fv k v cv : Value} {Kk V : Nat → Value} {F : Nat → Nat} (w : Wf T h) (gg : Gd g) (x : MdX T h g p M bv fv Kk V F) (hs : s < M.n) (rb : rowOf bv = some b) {B : Book} {l : List Chg} {seq : Int}
    (hb : BookR (fz T h) k v B) (hc : Sl 7 ChgR (fz T h) cv l) (hl : l.length < 1000000) (fg : FdG (M.fd s)) {Q : Heap → Prop}
    (hk : ∀ h3, Only (fun t => t = g ++ [1]) T h T h3 → (∃ fb, iaV (some (none, 1)) fv (.int .i64 s) = some (.pointer (some ⟨fb, s, none⟩)) ∧ cel h3 fb s = some (ptr (F s))) → h3 p = some (.cells (mdC M.c M.t bv fv).toArray ty_model_Model (0, 0)) → (∀ K' : Value → Heap → Prop, (∀ T' h', Only (pre g) T h T' h' → MdR T' h' g p { M with bk := bset M.bk s B, fd := bset M.fd s ((M.fd s).tell l seq) } → K' (.tuple #[]) h') → callM P fn_feed_Feed_Tell #[ptr (F s), cv, .int .u64 seq] h3 K') → Q h3) :
    stM (some 2) (.pointer (some ⟨b, s * 2, none⟩)) (.agg #[k, v]) h Q := by
  refine x.stb w hs rb hb fun h3 o3 x3 => ?_
  obtain ⟨fb, i1, i2⟩ := x3.ldf (s := s) hs
  refine hk h3 o3 ⟨fb, i1, i2⟩ x3.hp fun K' hk' => ?_
  have hf := x3.fr s hs
  refine tell_ok l seq o3.wf (gg.app [3, s]) hf fg (hc.ext (R := ChgR) (@ChgR.ext) (o3.ext (by simp))) hl fun T4 h4 o4 r4 => ?_
  have x4 := x3.fed o4 gg (f := (M.fd s).tell l seq) r4
  exact hk' T4 h4 ((o3.mono fun t => eq_pre).up o4 fun t => pre_trans) ⟨bv, fv, _, _, F, x4⟩
theorem mstored_ok (w : Wf T h) (x : MdR T h g p M) (hs : TS m M) (hm : m ≤ 100000) (hk : ∀ h', Ext h h' → K (.int .i64 M.stored) h') : callM P fn_model_Model_Stored #[ptr p] h K := by
  apply e_model_Model_Stored
  unfold d_model_Model_Stored
  rw [seqM_eq]
  unfold d_model_Model_Stored_1
  obtain ⟨bv, fv, Kk, V, F, x⟩ := x
  have cp := x.hp
  simp -implicitDefEqProofs only [mdC] at cp
  have hlen := x.bk.len
  have h8 : M.n ≤ 8 := by have := hs.nn; have := hs.rt; simp [rightB] at this; omega
  have hmm : m * m ≤ 10000000000 := Nat.le_trans (Nat.mul_le_mul hm hm) (by decide)
  obtain ⟨sto, hsto⟩ : ∃ sto : Nat → Nat, sto = fun i => ((List.range i).map fun s => storedB (M.bk s)).sum := ⟨_, rfl⟩
  have sto_s : ∀ i, sto (i + 1) = sto i + storedB (M.bk i) := fun i => by rw [hsto]; simp only [List.range_succ, List.map_append, List.sum_append]; simp
  have sto_0 : sto 0 = 0 := by rw [hsto]; rfl
  have sto_n : sto M.n = M.stored := by rw [hsto]; rfl
  have hst : ∀ i, i ≤ M.n → sto i ≤ i * 10000000000 := by
    intro i
    induction i with
    | zero => intro _; rw [sto_0]; exact Nat.zero_le _
    | succ i ih =>
      intro hi
      have h1 := ih (by omega)
      have h2 := stored_le (hs.bk i (by omega)).bl (hs.bk i (by omega)).bn
      rw [sto_s, Nat.succ_mul]; omega
  simp -implicitDefEqProofs [ld_at cp, cel_of cp, stm_at cp, stm_upd, ld_same, cel_same, over, hlen]
  refine loop_on [9, 10] (fun s h' => Ext h h' ∧ ∃ i : Nat, i ≤ M.n ∧ s 11 = .int .i64 i ∧ s 3 = .int .i64 (sto i)) (fun s _ => (M.n - num (s 11)).toNat) ⟨Ext.refl h, 0, by omega, rfl, by rw [sto_0]; rfl⟩ ?_
  rintro s h1 hf ⟨e1, i, hi, s11, s3⟩
  have s9 : s 9 = bv := by simpa using hf 9 (by simp)
  have s10 : s 10 = .int .i64 M.n := by simpa using hf 10 (by simp)
  unfold d_model_Model_Stored_2
  simp -implicitDefEqProofs only [s11, s10, bin_lss, ov_s, cd_b]
  refine ⟨fun hc => ?_, fun hc => ?_⟩
  rotate_left
  · have : i = M.n := by have : ¬ ((i : Int) < M.n) := by simpa using hc
                         omega
    subst this
    simp -implicitDefEqProofs [s3, sto_n]
    exact hk _ e1
  have hlt : i < M.n := by have : ((i : Int) < M.n) := by simpa using hc
                           omega
  have hw : IntKind.i64.wrap ((i : Int) + 1) = (i + 1 : Nat) := by rw [wrap64_id (by omega) (by omega)]; omega
  have hw2 : IntKind.i64.wrap ((sto i : Int) + storedB (M.bk i)) = (sto (i + 1) : Nat) := by
    have h1 := hst (i + 1) (by omega)
    rw [sto_s] at h1 ⊢
    rw [wrap64_id (by omega) (by omega)]; omega
  have o1 : Only non T h T h1 := Only.of_ext w e1
  have x1 := x.kp o1.k (Off.non _) (not_non _)
  obtain ⟨b, rb, ia, l1⟩ := x1.ldb (s := i) hlt
  have hbr := x1.br i hlt
  have st := hs.bk i hlt
  have u1 := hbr.1.one
  have u2 := hbr.2.1.one
  unfold d_model_Model_Stored_3
  rw [s9, s11, ia, zcMap]
  simp -implicitDefEqProofs only [ov_s, l1]
  refine nw_st (by simp) (by simp) (by simp [u1.1, u2.1]) fun yb h2 n2 e2 c2 => ?_
  simp -implicitDefEqProofs only [cells_agg] at c2
  simp -implicitDefEqProofs [ld_at c2, cel_of c2, stm_at c2, stm_upd, ld_same, cel_same, over]
  refine stored_ok _ (by have := st.bl; omega) (fun y hy => by have := st.bn y hy; omega) ((fz_ext T h1).trans e2) hbr fun h3 e3 => ?_
  unfold d_model_Model_Stored_4
  simp -implicitDefEqProofs [s3, s9, s10, s11, hw, hw2, -Int.natCast_add]
  exact ⟨⟨(e1.trans e2).trans e3, i + 1, by omega, rfl, rfl⟩, by omega⟩
end
end Go.Proofs.YtcnphhhcknhhaaaGreat
namespace Go.Proofs.YtcnphhhcknhhaaaGreat
open Go Go.Den Go.MapKept
set_option linter.unusedSimpArgs false
set_option linter.unusedVariables false
set_option maxRecDepth 20000
theorem unSlBook : P.underlying ty_Sl_omap_Map_string_doorman_book_Entry = some (.slice ty_omap_Map_string_doorman_book_Entry) := by kernel_rfl
theorem apBook : apC P ty_omap_Map_string_doorman_book_Entry = some (2, 48, 2) := by kernel_rfl
theorem bsFeedP : bsI P ty_Sl_Ptr_feed_Feed = some (ty_Ptr_feed_Feed, 1, #[.pointer none]) := by kernel_rfl
theorem unSlFeedP : P.underlying ty_Sl_Ptr_feed_Feed = some (.slice ty_Ptr_feed_Feed) := by kernel_rfl
theorem apFeedP : apC P ty_Ptr_feed_Feed = some (1, 8, 1) := by kernel_rfl
theorem bdModel (c : Cfg) (n m : Int) (b : Bool) (a : Option Addr) (i j : Nat) : bdV (binf P ty_model_Model) [(0, .agg (cfgC c).toArray), (1, .agg #[.int .u64 n, .int .u64 m, .bool b]), (2, .slice a i j)] =
  some (.agg #[.int .i64 c.stripes, .int .i64 c.sessions, .int .i64 c.queue, .int .i64 c.watches, .int .i64 c.retries, .int .u64 c.epochs, .int .u64 c.start, .int .u64 n, .int .u64 m, .bool b, .slice a i j, .slice none 0 0]) := by kernel_rfl
theorem bdTime1 (n : Int) : bdV (binf P ty_api_Time) [(0, .int .u64 n)] = some (.agg #[.int .u64 n, .int .u64 0, .bool false]) := by kernel_rfl
theorem made_at (z : Array Value) (n i : Nat) (hi : i < n) (hz : 0 < z.size) : (madeCells z n)[i]? = z[i % z.size]? := by
  have : i % z.size < z.size := Nat.mod_lt _ hz
  simp -implicitDefEqProofs [madeCells, hi, this]
theorem made_seq {e : TypeId} {h : Heap} {b n : Nat} (hn : n ≤ maxLen) (hb : h b = some (.cells (madeCells #[.slice none 0 0, .slice none 0 0] (n * 2)) e (0, 0))) : Row 2 e h (.slice (some ⟨b, 0, none⟩) n n) n (seqF n fun _ => [.slice none 0 0, .slice none 0 0]) := by
  have hsz : (madeCells #[Value.slice none 0 0, .slice none 0 0] (n * 2)).size = n * 2 := by simp [madeCells]
  refine ⟨by rw [seqF_len (sz := 2) (fun _ _ => rfl)], .inr ⟨b, n, _, rfl, hb, Nat.le_refl _, hn, by simpa using hsz, ?_⟩⟩
  rw [List.take_of_length_le (by simp [hsz])]
  have hl : (seqF n fun _ => [Value.slice none 0 0, .slice none 0 0]).length = n * 2 := seqF_len (sz := 2) (fun _ _ => rfl)
  apply List.ext_getElem?
  intro i
  by_cases hi : i < n * 2
  · have h1 := seqF_get (F := fun _ => [Value.slice none 0 0, .slice none 0 0]) (n := n) (sz := 2) (fun _ _ => rfl) (i := i / 2) (j := i % 2) (by omega) (by omega)
    rw [show i / 2 * 2 + i % 2 = i by omega] at h1
    rw [h1, Array.getElem?_toList, made_at _ _ _ hi (by simp)]
    simp -implicitDefEqProofs
  · rw [List.getElem?_eq_none (by simp [hsz]; omega), List.getElem?_eq_none (by omega)]
def MdNewI (T : Tags) (h : Heap) (g : Tag) (p : Nat) (c : Cfg) (n : Nat) (bv : Value) (v : Value) (h' : Heap) : Prop :=
  ∃ (T' : Tags) (i : Nat) (fv : Value) (F : Nat → Nat), Only (pre g) T h T' h' ∧ h' p = some (.cells (mdC c ⟨c.start, 0, false⟩ bv fv).toArray ty_model_Model (0, 0)) ∧ T' p = g ++ [0] ∧
    Rw T' h' (g ++ [1]) 2 ty_omap_Map_string_doorman_book_Entry bv n (seqF n fun _ => [.slice none 0 0, .slice none 0 0]) ∧ Rw T' h' (g ++ [2]) 1 ty_Ptr_feed_Feed fv i (seqF i fun k => [ptr (F k)]) ∧ (∀ k, k < i → FeedR T' h' (g ++ [3, k]) (F k) (feed0 c.queue)) ∧ i ≤ n ∧ v = .int .i64 i
set_option maxHeartbeats 2000000 in
theorem mnew_ok (c : Cfg) (cw : CfgW c) {T : Tags} {h : Heap} (w : Wf T h) {g : Tag} (gg : Gd g) {K : Value → Heap → Prop}
    (hk1 : rightB c = true → ∀ T' h' p, Only (pre g) T h T' h' → MdR T' h' g p (tbl0 c c.stripes.toNat) → K (.tuple #[ptr p, .int .i64 0]) h')
    (hk2 : rightB c = false → ∀ h', Ext h h' → K (.tuple #[.pointer none, .int .i64 1]) h') : callM P fn_model_New #[.agg (cfgC c).toArray] h K := by
  apply e_model_New
  unfold d_model_New
  refine nw_agg fun v1 h1 n1 e1 c1 => ?_
  have og : ∀ h', h' v1 = some (.cells (cfgC c).toArray ty_api_Config (0, 0)) → ldV (some (some 7)) (ptr v1) h' = some (.agg (cfgC c).toArray) := fun h' hc => by simp [ld_at hc, cfgC]
  have os : ∀ h', h' v1 = some (.cells (cfgC c).toArray ty_api_Config (0, 0)) → cel h' v1 0 = some (.int .i64 c.stripes) ∧ cel h' v1 6 = some (.int .u64 c.start) ∧ cel h' v1 2 = some (.int .i64 c.queue) := fun h' hc => by simp [cel_of hc, cfgC]
  simp -implicitDefEqProofs only [og _ c1, ov_s]
  refine modRight_ok c fun h2 e2 => ?_
  have c1 := e2 _ _ c1
  have e0 := e1.trans e2
  unfold d_model_New_1
  simp -implicitDefEqProofs only [unV_n, ov_s, cd_b]
  refine ⟨fun hr => hk2 (by simpa using hr) _ e0, fun hr => ?_⟩
  have hr : rightB c = true := by simpa using hr
  have hn : 1 ≤ c.stripes ∧ c.stripes ≤ 8 := by simp [rightB] at hr; omega
  obtain ⟨N, hN⟩ : ∃ N : Nat, c.stripes = N := ⟨c.stripes.toNat, by omega⟩
  have hNt : c.stripes.toNat = N := by omega
  unfold d_model_New_2
  simp -implicitDefEqProofs [og _ c1, os _ c1, bdTime1, hN]
  refine makeSlice_vv (n := N) unSlBook apBook zcMap (by omega) (by omega) (by unfold maxLen; omega) fun sb h3 n3 e3 c3 => ?_
  have c12 := c1
  have c1 := e3 _ _ c1
  have e0 := e0.trans e3
  have w2 := w.ext (e1.trans e2)
  have o3 : Only (pre g) T h2 (tset T sb (g ++ [1])) h3 := Only.enew _ w2 e3 n3 c3
  have t3 : (tset T sb (g ++ [1])) sb = g ++ [1] := tset_same _ _ _
  have o03 : Only (pre g) T h (tset T sb (g ++ [1])) h3 := ((Only.of_ext (U := non) w (e1.trans e2)).mono non_up).trans o3
  have b1 : h2 v1 = _ ∧ T v1 = [] := ⟨(show h2 v1 = some (.cells (cfgC c).toArray ty_api_Config (0, 0)) from by
    exact c12), w v1 n1⟩
  have c1 := c1
  generalize tset T sb (g ++ [1]) = T3 at *
  unfold d_model_New_3
  simp -implicitDefEqProofs [og _ c1, os _ c1]
  rw [bdModel]
  simp -implicitDefEqProofs
  refine nw_tag o3.wf (g ++ [0]) fun p T4 h4 n4 o4 t4 c4 => ?_
  have b3 : h3 sb = _ ∧ T3 sb = g ++ [1] := ⟨c3, t3⟩
  have b3 := o4.see b3 (not_non _)
  have b1 : h3 v1 = _ ∧ T3 v1 = [] := ⟨c1, (o3.k.at c12 (w v1 n1) gg.nil).2⟩
  have b1 := o4.see b1 (not_non _)
  have c1 := b1.1
  rw [seqM_eq]
  unfold d_model_New_4
  simp -implicitDefEqProofs [os _ c1, hN]
  have hbv : Rw T4 h4 (g ++ [1]) 2 ty_omap_Map_string_doorman_book_Entry (.slice (some ⟨sb, 0, none⟩) N N) N (seqF N fun _ => [.slice none 0 0, .slice none 0 0]) := ⟨made_seq (by unfold maxLen; omega) b3.1, fun b hb => by simp [rowOf] at hb; subst hb; exact b3.2⟩
  refine loop_on [1, 4, 18] (fun s h' => MdNewI T4 h4 g p c N (.slice (some ⟨sb, 0, none⟩) N N) (s 19) h') (fun s _ => (N - num (s 19)).toNat) ⟨T4, 0, .slice none 0 0, fun _ => 0, Only.refl o4.wf, by simpa [mdC] using c4, t4, hbv, Rw.nil _ _ _ _ _, fun k hk => by omega, by omega, rfl⟩ ?_
  rintro s h5 hf ⟨T5, i, fv, F, o5, cp, tp, rb, rf, fr, hi, s19⟩
  have s1 : s 1 = ptr v1 := by simpa using hf 1 (by simp)
  have s4 : s 4 = ptr p := by simpa using hf 4 (by simp)
  have s18 : s 18 = .int .i64 N := by simpa using hf 18 (by simp)
  have b1 := o5.see b1 gg.nil
  have c1 := b1.1
  unfold d_model_New_5
  simp -implicitDefEqProofs only [s19, s18, bin_lss, ov_s, cd_b]
  refine ⟨fun hc => ?_, fun hc => ?_⟩
  rotate_left
  · have : i = N := by have : ¬ ((i : Int) < N) := by simpa using hc
                       omega
    subst this
    simp -implicitDefEqProofs [s4]
    refine hk1 hr T5 h5 p (((o03.trans (o4.mono non_up)).trans o5)) ⟨.slice (some ⟨sb, 0, none⟩) i i, fv, fun _ => .slice none 0 0, fun _ => .slice none 0 0, F, ?_⟩
    rw [hNt]
    exact ⟨cp, tp, rb, rf, fun s hs => BookR.nil _, fun s hs => fr s hs⟩
  have hlt : i < N := by have : ((i : Int) < N) := by simpa using hc
                         omega
  simp -implicitDefEqProofs only [mdC] at cp
  have bp : h5 p = _ ∧ T5 p = _ := ⟨cp, tp⟩
  unfold d_model_New_6
  simp -implicitDefEqProofs [s1, s4, ld_at cp, cel_of cp, stm_at cp, stm_upd, ld_same, cel_same, over, os _ c1]
  refine feedNew_ok _ o5.wf (gg.app [3, i]) fun T6 h6 fp o6 r6 => ?_
  have bp := o6.see bp (not_pre (by simp))
  have cp := bp.1
  unfold d_model_New_7
  simp -implicitDefEqProofs [ld_at cp, cel_of cp, stm_at cp, stm_upd, ld_same, cel_same, over]
  refine bs_one bsFeedP (by simp) (by omega) fun nb h7 n7 e7 c7 => ?_
  have o7 : Only non T6 h6 T6 h7 := Only.of_ext o6.wf e7
  have bp := o7.see bp (not_non _)
  have cp := bp.1
  have r7 := r6.kp o7.k (Off.non _) (not_non _)
  refine ⟨by simp [ld_at cp, cel_of cp, stm_at cp, stm_upd, ld_same, cel_same, over], ?_⟩
  have rf7 := (rf.kp o6.k (not_pre (by simp))).kp o7.k (not_non _)
  have rb7 := (rb.kp o6.k (not_pre (by simp))).kp o7.k (not_non _)
  refine Rw.app1 (m := 1) (news := _) unSlFeedP apFeedP (by omega) o7.wf rf7 (cels_one c7 (by simp)) (by simp) (by unfold maxLen; omega) (by omega) fun fv' T8 h8 o8 rf8 => ?_
  have bp := o8.see bp (ne_tag (by simp))
  have cp := bp.1
  have ho := rf8.one
  have hw : IntKind.i64.wrap ((i : Int) + 1) = i + 1 := wrap64_id (by omega) (by omega)
  simp -implicitDefEqProofs [ld_at cp, cel_of cp, stm_at cp, stm_upd, ld_same, cel_same, over, ho.1, ho.2, s18, s19, s1, s4, hw]
  refine ⟨?_, by omega⟩
  have o9 := fun o' => Only.upd (U := fun t => t = g ++ [0]) (o' := o') o8.wf bp.1 bp.2
  have f9 := (o9 (.cells (mdC c ⟨c.start, 0, false⟩ (.slice (some ⟨sb, 0, none⟩) N N) fv').toArray ty_model_Model (0, 0))).k
  have a8 : ∀ k, Off (fun t => t = g ++ [2]) (g ++ [3, k]) := fun k => off_eq (by simp)
  have a9 : ∀ k, Off (fun t => t = g ++ [0]) (g ++ [3, k]) := fun k => off_eq (by simp)
  refine ⟨T8, i + 1, fv', fun k => if k = i then fp else F k, (((o5.up o6 fun t => pre_trans).up o7 non_up).up o8 fun t e => e ▸ pre_app _ _).up (o9 _) fun t e => e ▸ pre_app _ _, upd_same' _ _ _, bp.2, (rb7.kp o8.k (ne_tag (by simp))).kp f9 (ne_tag (by simp)), ?_, fun k hk => ?_, by omega, by simp⟩
  · have := rf8.kp f9 (ne_tag (by simp))
    rw [seqF_succ]
    have e1 : seqF i (fun k => [ptr (if k = i then fp else F k)]) = seqF i fun k => [ptr (F k)] := seqF_congr fun k hk => by rw [if_neg (by omega)]
    have e2 : (fun k => if k = i then fp else F k) i = fp := if_pos rfl
    rw [e1, e2]
    simpa [mdC] using this
  · by_cases hki : k = i
    · subst hki
      simp -implicitDefEqProofs only [if_true]
      exact (r7.kp o8.k (a8 _) (by simp)).kp f9 (a9 _) (by simp)
    · simp -implicitDefEqProofs only [if_neg hki]
      exact ((((fr k (by omega)).kp o6.k (off_pre (by simp; omega) (by simp; omega)) ((gg.app _).nil)).kp o7.k (Off.non _) (not_non _)).kp o8.k (a8 _) (by simp)).kp f9 (a9 _) (by simp)
theorem tgRep86 : tagg P 86 = some (some 4) := by kernel_rfl
set_option maxHeartbeats 4000000 in
theorem mwrite_ok (o : OpD) (ow : OpW o) {uv : Value} (ou : One uv) {T : Tags} {h : Heap} {g : Tag} {p m : Nat} {M : Tbl} (w : Wf T h) (gg : Gd g) (x : MdR T h g p M) (hs : TS m M) (hm : m < 100000) {K : Value → Heap → Prop}
    (hk : ∀ T' h', Only (pre g) T h T' h' → MdR T' h' g p (M.write o).1 → K (.agg (repC (M.write o).2.err).toArray) h') : callM P fn_model_Model_write #[ptr p, .agg (opC o uv).toArray] h K := by
  have n8 : 1 ≤ M.c.stripes ∧ M.c.stripes ≤ 8 := by have := hs.rt; simp [rightB] at this; omega
  have nn := hs.nn
  apply e_model_Model_write
  unfold d_model_Model_write
  refine nw_agg fun v1 h0 n0 e0 c0 => ?_
  have w0 := w.ext e0
  rw [zcRep]
  refine nw_tag w0 lc fun v3 T1 h1 n1 o1 t3 c3 => ?_
  have o01 : Only non T h T1 h1 := (Only.of_ext (U := non) w e0).trans o1
  have b0 : h0 v1 = _ ∧ T v1 = [] := ⟨c0, w v1 n0⟩
  have b0 := o1.see b0 (not_non _)
  have b3 : h1 v3 = _ ∧ T1 v3 = lc := ⟨c3, t3⟩
  obtain ⟨bv, fv, Kk, V, F, x1⟩ := x.up o01 (Off.non _) (not_non _)
  refine mtake_ok o1.wf gg x1 hs.ts fun h2 o2 x2 => ?_
  have b0 := o2.see b0 (by simp)
  have b3 := o2.see b3 (lc_ne g gg [0])
  have oh : Only (pre g) T h T1 h2 := (o01.mono non_up).up o2 fun _ => eq_pre
  have cp := x2.hp
  simp -implicitDefEqProofs only [mdC] at cp
  have c3' := b3.1
  have n3 : h v3 = none := by
    cases hh : h v3 with
    | none => rfl
    | some ob => rw [e0 _ _ hh] at n1; cases n1
  unfold d_model_Model_write_1
  cases htc : M.t.closed with
  | true =>
    have e : M.write o = (M.take, repE 5) := by simp [Tbl.write, htc]
    rw [e] at hk
    have htc' : M.take.t.closed = true := htc
    rw [htc'] at cp
    simp -implicitDefEqProofs [ld_at cp, cel_of cp, stm_at cp, stm_upd, ld_same, cel_same, over]
    unfold d_model_Model_write_2
    rw [bdRepE]
    simp -implicitDefEqProofs [ld_at c3', cel_of c3', stm_at c3', stm_upd, ld_same, cel_same, over]
    have x3 : MdR T1 (upd h2 v3 (.cells #[.int .i64 5, .slice none 0 0, .slice none 0 0, .bool false] ty_api_Reply (0, 0))) g p M.take := ⟨bv, fv, Kk, V, F, x2.kp (Only.lst o2.wf b3).k gg.off (by simp)⟩
    exact hk T1 _ (oh.own n3 b3.1) x3
  | false =>
  obtain ⟨s, hs'⟩ : ∃ s : Nat, M.stripe o.user = s := ⟨_, rfl⟩
  have hst := stripeOf_lt (u := o.user) (n := M.c.stripes) n8.1
  have hsn : s < M.n := by rw [← hs']; unfold Tbl.stripe; omega
  have hse : stripeOf o.user M.c.stripes = (s : Int) := by rw [← hs']; unfold Tbl.stripe; omega
  obtain ⟨r, hr⟩ : ∃ r, writeB (M.bk s) o M.t.now M.c.sessions = r := ⟨_, rfl⟩
  have e : M.write o = ({ M.take with bk := bset M.bk s r.1, fd := bset M.fd s ((M.fd s).tell r.2.1 M.take.t.seq) }, repE r.2.2) := by
    simp -implicitDefEqProofs only [Tbl.write, htc, Bool.false_eq_true, if_false, hs', Tbl.writeAt, ← hr]
    rfl
  rw [e] at hk
  have htc' : M.take.t.closed = false := htc
  rw [htc'] at cp
  simp -implicitDefEqProofs [ld_at cp, cel_of cp, stm_at cp, stm_upd, ld_same, cel_same, over]
  unfold d_model_Model_write_3
  have c0' := b0.1
  have c0u : cel h2 v1 1 = some (.string o.user) := by simp [cel_of c0', opC]
  simp -implicitDefEqProofs [c0u]
  refine mstripe_ok o.user ow.s1 ⟨bv, fv, Kk, V, F, x2⟩ n8.2 ?_
  rw [show M.take.c.stripes = M.c.stripes from rfl, hse]
  unfold d_model_Model_write_4
  rw [seqM_eq]
  unfold d_model_Model_write_5
  obtain ⟨b, rb, ia, l1⟩ := x2.ldb (s := s) hsn
  have hbr := x2.br s hsn
  have hlen : r.2.1.length ≤ 1 := by rw [← hr]; exact settle_chg _ _ _ _
  have bm := hs.bk s hsn
  have fg := (hs.fd s hsn).g hm
  have oa : ldV (some (some 7)) (ptr v1) h2 = some (.agg (opC o uv).toArray) := by simp [ld_at c0', opC]
  have fin : ∀ (h5 : Heap) (s6 : Env) (k v cv : Value) (vb : Nat), Ext h2 h5 → BookR (fz T1 h5) k v r.1 → Sl 7 ChgR (fz T1 h5) cv r.2.1 → h5 vb = some (.cells #[k, v] ty_omap_Map_string_doorman_book_Entry (0, 0)) → s6 0 = ptr p → s6 4 = ptr v3 → s6 5 = .int .u64 M.take.t.seq → s6 6 = .int .i64 s → s6 7 = ptr vb → s6 8 = cv → s6 9 = .int .i64 r.2.2 → d_model_Model_write_9 s6 h5 K [] := by
    intro h5 s6 k v cv vb e5 hb hc cvb s0 s4 s5 s6' s7 s8 s9
    have o5 : Only non T1 h2 T1 h5 := Only.of_ext o2.wf e5
    have x5 := x2.kp o5.k (Off.non _) (not_non _)
    have b35 := o5.see b3 (not_non _)
    have cp5 := x5.hp
    simp -implicitDefEqProofs only [mdC] at cp5
    unfold d_model_Model_write_9
    simp -implicitDefEqProofs [s0, s7, s6', ld_at cp5, cel_of cp5, stm_at cp5, ld_at cvb, cel_of cvb, stm_at cvb, stm_upd, ld_same, cel_same, over, ia]
    refine mbook_tell (seq := M.take.t.seq) o5.wf gg x5 hsn rb hb hc (by omega) fg fun h6 o6 ⟨fb, f1, f2⟩ cp6 hT => ?_
    have b36 := o6.see b35 (lc_ne g gg [1])
    simp -implicitDefEqProofs only [mdC] at cp6
    simp -implicitDefEqProofs [ld_at cp6, cel_of cp6, stm_at cp6, stm_upd, ld_same, cel_same, over, f1, f2, s0, s6', s8, s5]
    refine hT _ fun T7 h7 o7 x7 => ?_
    have ne3 : ¬ pre g lc := fun hh => gg.off lc hh rfl
    have b37 := o7.see b35 ne3
    have c37 := b37.1
    unfold d_model_Model_write_10
    simp -implicitDefEqProofs [s9, bdRepE, s4, ld_at c37, cel_of c37, stm_at c37, stm_upd, ld_same, cel_same, over, tgRep86]
    have o27 : Only (pre g) T h T7 h7 := (oh.up o5 non_up).trans o7
    refine hk T7 _ (o27.own n3 b37.1) (x7.kp (Only.lst o7.wf b37).k gg.off (by simp))
  have ht0 : M.take.t.now = M.t.now := rfl
  have c0s : M.take.c.sessions = M.c.sessions := rfl
  simp -implicitDefEqProofs [ld_at cp, cel_of cp, stm_at cp, stm_upd, ld_same, cel_same, over, ia, l1, oa, ht0, c0s]
  refine ⟨?_, ?_⟩
  · unfold d_model_Model_write_6
    refine bwrite_ok _ bm.bw o ow ou hs.tn M.c.sessions o2.wf hbr (by have := bm.bl; omega) ?_ fun h5 k v cv e5 hb hc => ?_
    · have := bm.ent o.user
      show (entOf (M.bk s) o.user).ss.length < _
      omega
    have hb : BookR (fz T1 h5) k v r.1 := by rw [← hr]; exact hb
    have hc : Sl 7 ChgR (fz T1 h5) cv r.2.1 := by rw [← hr]; exact hc
    have hrr : (writeB (M.take.bk s) o M.t.now M.c.sessions).2.2 = r.2.2 := by rw [← hr]; rfl
    unfold d_model_Model_write_7
    have p1 := hb.1.one
    have p2 := hb.2.1.one
    simp -implicitDefEqProofs only [exV_0, exV_1, exV_2, ov_s, zcMap, hrr]
    refine nw_st (by simp) (by simp) (by simp [p1.1, p2.1]) fun vb h6 n6 e6 c6 => ?_
    simp -implicitDefEqProofs only [cells_agg] at c6
    try simp only [thenM_n]
    refine fin h6 _ k v cv vb (e5.trans e6) (hb.ext (fz_of_ext e6)) (hc.ext (R := ChgR) (@ChgR.ext) (fz_of_ext e6)) c6 ?_ ?_ ?_ ?_ ?_ ?_ ?_ <;> simp [hr]
  · unfold d_model_Model_write_8
    rw [zcMap]
    refine nw_intro fun vb h5 n5 e5 c5 => ?_
    have o5 : Only non T1 h2 T1 h5 := Only.of_ext o2.wf e5
    have x5 := x2.kp o5.k (Off.non _) (not_non _)
    obtain ⟨b', rb', ia', l1'⟩ := x5.ldb (s := s) hsn
    have hbb : b' = b := by rw [rb] at rb'; cases rb'; rfl
    subst hbb
    have c1 := e5 _ _ c0'
    have cp := x5.hp
    simp -implicitDefEqProofs only [mdC] at cp
    have oa : ldV (some (some 7)) (ptr v1) h5 = some (.agg (opC o uv).toArray) := by simp [ld_at c1, opC]
    refine ⟨by simp [ld_at cp, cel_of cp, stm_at cp, stm_upd, ld_same, cel_same, over], l1', oa, by simp [ld_at cp, cel_of cp, stm_at cp, stm_upd, ld_same, cel_same, over, ht0], by simp [ld_at cp, cel_of cp, stm_at cp, stm_upd, ld_same, cel_same, over, c0s], ?_⟩
    have wt : Wf (tset T1 vb lc) h5 := wf_loc o5.wf c5
    refine bwrite_ok _ bm.bw o ow ou hs.tn M.c.sessions wt (hbr.ext (fz_in n5 e5)) (by have := bm.bl; omega) ?_ fun h6 k v cv e6 hb hc => ?_
    · have := bm.ent o.user
      show (entOf (M.bk s) o.user).ss.length < _
      omega
    have hb : BookR (fz (tset T1 vb lc) h6) k v r.1 := by rw [← hr]; exact hb
    have hc : Sl 7 ChgR (fz (tset T1 vb lc) h6) cv r.2.1 := by rw [← hr]; exact hc
    have hrr : (writeB (M.take.bk s) o M.t.now M.c.sessions).2.2 = r.2.2 := by rw [← hr]; rfl
    have p1 := hb.1.one
    have p2 := hb.2.1.one
    have c6 := e6 _ _ c5
    try simp only [hrr]
    simp -implicitDefEqProofs [ld_at c6, cel_of c6, stm_at c6, stm_upd, ld_same, cel_same, over, p1.1, p2.1]
    try simp only [thenM_n]
    refine fin _ _ k v cv vb (ext_upd n5 (e5.trans e6)) (hb.ext fz_loc) (hc.ext (R := ChgR) (@ChgR.ext) fz_loc) (upd_same' _ _ _) ?_ ?_ ?_ ?_ ?_ ?_ ?_ <;> simp [hr]
end Go.Proofs.YtcnphhhcknhhaaaGreat
namespace Go.Den
open Go
set_option linter.unusedVariables false
set_option linter.unusedSimpArgs false
theorem Tbl.sweep_at {M : Tbl} {s : Nat} (hs : s < M.n) : (M.sweep s).t.now = M.t.now ∧ (M.sweep s).t.closed = M.t.closed ∧ (M.sweep s).c = M.c ∧ (M.sweep s).n = M.n ∧ ∀ s', (M.sweep s).bk s' = if s' = s then (sweepB (M.bk s) M.t.now).1 else M.bk s' := by
  have hc : (0 : Int) ≤ s ∧ (s : Int) < M.n := by omega
  simp only [Tbl.sweep, if_pos hc, Int.toNat_natCast]
  exact ⟨rfl, rfl, rfl, rfl, fun s' => by simp only [Tbl.sweepAt, Tbl.take, bset]⟩
structure SwQ (M0 : Tbl) (N k : Nat) (M : Tbl) : Prop where
  t : M.t.now = M0.t.now
  c : M.c = M0.c
  n : M.n = M0.n
  bk : ∀ s, s < N → M.bk s = if s < (k + 4) / 7 then (sweepB (M0.bk s) M0.t.now).1 else M0.bk s
theorem SwQ.init (M : Tbl) (N : Nat) : SwQ M N 0 M := ⟨rfl, rfl, rfl, fun s _ => by simp⟩
theorem SwQ.step {M0 M : Tbl} {N k : Nat} (x : SwQ M0 N k M) (hn : M0.n = N) (hk : k < 7 * N) : SwQ M0 N (k + 1) (if k % 7 = 2 then M.sweep (k / 7 % N : Nat) else M) := by
  by_cases h : k % 7 = 2
  · rw [if_pos h]
    have hm : k / 7 % N = k / 7 := Nat.mod_eq_of_lt (by omega)
    rw [hm]
    have hs : k / 7 < M.n := by rw [x.n]; omega
    obtain ⟨a1, a2, a3, a4, a5⟩ := Tbl.sweep_at hs
    refine ⟨a1.trans x.t, a3.trans x.c, a4.trans x.n, fun s hsN => ?_⟩
    rw [a5, x.t]
    by_cases e : s = k / 7
    · subst e
      rw [if_pos rfl, if_pos (by omega), x.bk _ hsN, if_neg (by omega)]
    · rw [if_neg e, x.bk s hsN]
      by_cases h2 : s < (k + 4) / 7
      · rw [if_pos h2, if_pos (by omega)]
      · rw [if_neg h2, if_neg (by omega)]
  · rw [if_neg h]
    refine ⟨x.t, x.c, x.n, fun s hsN => ?_⟩
    rw [x.bk s hsN]
    by_cases h2 : s < (k + 4) / 7
    · rw [if_pos h2, if_pos (by omega)]
    · rw [if_neg h2, if_neg (by omega)]
structure SwV (n0 : Int) (N k : Nat) (M : Tbl) : Prop where
  t : M.t.now = n0
  n : M.n = N
  lv : ∀ s, s < N → s < (k + 4) / 7 → Lv (M.bk s) n0
theorem SwV.step {n0 : Int} {M : Tbl} {N k m : Nat} (x : SwV n0 N k M) (ts : TS m M) (n1 : 0 < N) : SwV n0 N (k + 1) (if k % 7 = 2 then M.sweep (k / 7 % N : Nat) else M) := by
  by_cases h : k % 7 = 2
  · rw [if_pos h]
    have hs0 : k / 7 % N < N := Nat.mod_lt _ n1
    have hs : k / 7 % N < M.n := by rw [x.n]; exact hs0
    obtain ⟨a1, a2, a3, a4, a5⟩ := Tbl.sweep_at hs
    refine ⟨a1.trans x.t, a4.trans x.n, fun s hsN hk => ?_⟩
    rw [a5, x.t]
    by_cases e : s = k / 7 % N
    · rw [if_pos e]; exact sweep_lv (ts.bk _ hs).bw.so n0
    · rw [if_neg e]
      refine x.lv s hsN ?_
      by_cases h2 : k / 7 < N
      · rw [Nat.mod_eq_of_lt h2] at e; omega
      · omega
  · rw [if_neg h]
    exact ⟨x.t, x.n, fun s hsN hk => x.lv s hsN (by omega)⟩
theorem SwQ.pres {M0 M : Tbl} {N m : Nat} (x : SwQ M0 N (7 * N) M) (ts : TS m M0) (hn : M0.n = N) (u : ByteArray) {s : Nat} (hs : s < N) : presB (M.bk s) u M.t.now = presB (M0.bk s) u M0.t.now := by
  rw [x.bk s hs, if_pos (by omega), x.t]
  exact sweep_pres (ts.bk s (by omega)).bw.so u _
end Go.Den
namespace Go.Proofs.YtcnphhhcknhhaaaGreat
open Go Go.Den Go.MapKept
set_option linter.unusedSimpArgs false
set_option linter.unusedVariables false
set_option maxRecDepth 20000
theorem evNe (p q : Evt) {x y : Operand} {K : Value → Prop} : pvM P (do eqGuard .neq ty_api_Event x y (.agg (evC p).toArray) (.agg (evC q).toArray); binOp .neq ty_api_Event (.agg (evC p).toArray) (.agg (evC q).toArray)) K = K (.bool (!decide (p = q))) := by
  simp -implicitDefEqProofs only [evC, presC, List.cons_append, List.nil_append]
  rw [pv_neq (d := 5) (b := (p.user.toList == q.user.toList) && (((p.old.st == q.old.st) && ((p.old.pr == q.old.pr) && ((p.old.lv == q.old.lv) && true))) && (((p.new.st == q.new.st) && ((p.new.pr == q.new.pr) && ((p.new.lv == q.new.lv) && true))) && ((p.seq == q.seq) && true)))) (by kernel_rfl) (by omega) (by kernel_rfl)]
  have : ((p.user.toList == q.user.toList) && (((p.old.st == q.old.st) && ((p.old.pr == q.old.pr) && ((p.old.lv == q.old.lv) && true))) && (((p.new.st == q.new.st) && ((p.new.pr == q.new.pr) && ((p.new.lv == q.new.lv) && true))) && ((p.seq == q.seq) && true)))) = decide (p = q) := by
    rw [str_beq, Bool.eq_iff_iff]
    obtain ⟨u, ⟨a, b, c⟩, ⟨d, e, f⟩, s⟩ := p
    obtain ⟨u', ⟨a', b', c'⟩, ⟨d', e', f'⟩, s'⟩ := q
    simp -implicitDefEqProofs [and_assoc]
  rw [this]
theorem ev_ld {F : Heap} {v : Value} {l : List Evt} (x : Sl 8 EvR F v l) {i : Nat} (hi : i < l.length) {k : IntKind} : ∃ b p, iaV (some (none, 8)) v (.int k i) = some (.pointer (some ⟨b, p, none⟩)) ∧ ∀ h', Ext F h' → cels h' b p 8 = some (evC l[i]) := by
  obtain ⟨b, p, c, h1, h2, h3⟩ := x.at (k := k) (i := i) (by omega) (by omega)
  refine ⟨b, p, h1, fun h' e => ?_⟩
  have hc : c = evC l[i] := h3
  subst hc
  exact cels_ext e h2
theorem pres_ld {F : Heap} {v : Value} {l : List Pres} (x : Sl 3 PresR F v l) {i : Nat} (hi : i < l.length) {k : IntKind} : ∃ b p, iaV (some (none, 3)) v (.int k i) = some (.pointer (some ⟨b, p, none⟩)) ∧ ∀ h', Ext F h' → cels h' b p 3 = some (presC l[i]) := by
  obtain ⟨b, p, c, h1, h2, h3⟩ := x.at (k := k) (i := i) (by omega) (by omega)
  refine ⟨b, p, h1, fun h' e => ?_⟩
  have hc : c = presC l[i] := h3
  subst hc
  exact cels_ext e h2
set_option maxHeartbeats 1000000 in
theorem evSame_ok (xs ys : List Evt) {h : Heap} {v u : Value} (x : Sl 8 EvR h v xs) (y : Sl 8 EvR h u ys) (hl : xs.length < 1000000) {K : Value → Heap → Prop} (hk : K (.bool (decide (xs = ys))) h) : callM P fn_doormanref09_Same #[v, u] h K := by
  apply e_doormanref09_Same
  unfold d_doormanref09_Same
  have lx := x.len
  have ly := y.len
  by_cases hlen : xs.length = ys.length
  rotate_left
  · have hne : xs ≠ ys := fun e => hlen (by rw [e])
    have hi : ¬ (xs.length : Int) = ys.length := by omega
    simp -implicitDefEqProofs [lx, ly, hi]
    rw [decide_eq_false hne] at hk; exact hk
  · have hi : (xs.length : Int) = ys.length := by omega
    simp -implicitDefEqProofs [lx, ly, hi]
    unfold d_doormanref09_Same_1
    rw [seqM_eq]
    unfold d_doormanref09_Same_2
    refine loop_on [0, 1, 4] (fun s h' => h' = h ∧ ∃ i : Nat, i ≤ xs.length ∧ s 5 = .int .i64 i ∧ xs.take i = ys.take i) (fun s _ => (xs.length - num (s 5)).toNat) ⟨rfl, 0, by omega, rfl, by simp⟩ ?_
    rintro s h1 hf ⟨rfl, i, hi, s5, hT⟩
    have s0 : s 0 = v := by simpa using hf 0 (by simp)
    have s1 : s 1 = u := by simpa using hf 1 (by simp)
    have s4 : s 4 = .bool false := by simpa using hf 4 (by simp)
    unfold d_doormanref09_Same_3
    simp -implicitDefEqProofs only [s5, s0, lx, bin_lss, ov_s, cd_b]
    refine ⟨fun hc => ?_, fun hc => ?_⟩
    · have hlt : i < xs.length := by have : ((i : Int) < xs.length) := by simpa using hc
                                     omega
      have hly : i < ys.length := by omega
      have hw : IntKind.i64.wrap ((i : Int) + 1) = (i + 1 : Nat) := by rw [wrap64_id (by omega) (by omega)]; omega
      obtain ⟨b, p, i1, i2⟩ := ev_ld x (k := .i64) hlt
      obtain ⟨b', p', j1, j2⟩ := ev_ld y (k := .i64) hly
      unfold d_doormanref09_Same_4
      simp -implicitDefEqProofs only [s0, s1, s5, i1, j1, ov_s, ldV_n (i2 _ (Ext.refl _)), ldV_n (j2 _ (Ext.refl _)), evNe, cd_b]
      refine ⟨fun hd => ?_, fun hd => ?_⟩
      · have hne : xs[i] ≠ ys[i] := by simpa using hd
        have hne' : xs ≠ ys := fun e => hne (by subst e; rfl)
        unfold d_doormanref09_Same_5
        simp -implicitDefEqProofs [s4]
        rw [decide_eq_false hne'] at hk; exact hk
      · have he : xs[i] = ys[i] := by simpa using hd
        unfold d_doormanref09_Same_6
        simp -implicitDefEqProofs [s0, s1, s4, s5, hw, -Int.natCast_add]
        exact ⟨⟨i + 1, by omega, rfl, take_eq_succ hT hlt hly he⟩, by omega⟩
    · have : i = xs.length := by have : ¬ ((i : Int) < xs.length) := by simpa using hc
                                 omega
      subst this
      have he : xs = ys := by
        rw [List.take_of_length_le (Nat.le_refl _), List.take_of_length_le (by omega)] at hT; exact hT
      simp -implicitDefEqProofs
      rw [decide_eq_true he] at hk; exact hk
deriving instance DecidableEq for Reply
def rplC (r : Reply) (vv ev : Value) : List Value := [.int .i64 r.err, vv, ev, .bool r.lost]
structure RpX (h : Heap) (r : Reply) (vv ev : Value) : Prop where
  v : Sl 3 PresR h vv r.vals
  e : Sl 8 EvR h ev r.evs
theorem RpX.ext {h h' : Heap} {r : Reply} {vv ev : Value} (x : RpX h r vv ev) (e : Ext h h') : RpX h' r vv ev := ⟨x.v.ext (@PresR.ext) e, x.e.ext (@EvR.ext) e⟩
theorem RpX.no (h : Heap) {r : Reply} (h1 : r.vals = []) (h2 : r.evs = []) : RpX h r (.slice none 0 0) (.slice none 0 0) := ⟨.inl ⟨h1, _, _, rfl⟩, .inl ⟨h2, _, _, rfl⟩⟩
theorem rep_eq (a b : Reply) : a = b ↔ a.err = b.err ∧ a.lost = b.lost ∧ a.vals = b.vals ∧ a.evs = b.evs := by
  cases a; cases b; simp only [Reply.mk.injEq]; constructor <;> (rintro ⟨h1, h2, h3, h4⟩; exact ⟨h1, by assumption, by assumption, by assumption⟩)
set_option maxHeartbeats 4000000 in
theorem repSame_ok (a b : Reply) {h : Heap} {va ea vb eb : Value} (x : RpX h a va ea) (y : RpX h b vb eb) (h1 : a.vals.length < 1000000) (h2 : a.evs.length < 1000000) {K : Value → Heap → Prop} (hk : ∀ h', Ext h h' → K (.bool (decide (a = b))) h') : callM P fn_doormanref10_Same #[.agg (rplC a va ea).toArray, .agg (rplC b vb eb).toArray] h K := by
  apply e_doormanref10_Same
  unfold d_doormanref10_Same
  refine nw_agg fun v1 g1 n1 e1 c1 => ?_
  refine nw_agg fun v3 g3 n3 e3 c3 => ?_
  have c1 := e3 _ _ c1
  have e0 := e1.trans e3
  have lx := x.v.len
  have ly := y.v.len
  have lex := x.e.len
  have ley := y.e.len
  have c1 : g3 v1 = some (.cells #[.int .i64 a.err, va, ea, .bool a.lost] ty_api_Reply (0, 0)) := c1
  have c3 : g3 v3 = some (.cells #[.int .i64 b.err, vb, eb, .bool b.lost] ty_api_Reply (0, 0)) := c3
  have ne : a ≠ b ↔ ¬ (a.err = b.err ∧ a.lost = b.lost ∧ a.vals = b.vals ∧ a.evs = b.evs) := not_congr (rep_eq a b)
  by_cases q1 : a.err = b.err
  rotate_left
  · have : a ≠ b := ne.2 fun hh => q1 hh.1
    simp -implicitDefEqProofs [ld_at c1, cel_of c1, stm_at c1, ld_at c3, cel_of c3, stm_at c3, stm_upd, ld_same, cel_same, over, q1]
    exact kb (hk _ e0) (by simp [this])
  by_cases q2 : a.lost = b.lost
  rotate_left
  · have : a ≠ b := ne.2 fun hh => q2 hh.2.1
    have hbq : (a.lost == b.lost) = false := by simpa using q2
    simp -implicitDefEqProofs [ld_at c1, cel_of c1, stm_at c1, ld_at c3, cel_of c3, stm_at c3, stm_upd, ld_same, cel_same, over, q1, hbq]
    exact kb (hk _ e0) (by simp [this])
  by_cases q3 : a.vals.length = b.vals.length
  rotate_left
  · have : a ≠ b := ne.2 fun hh => q3 (by rw [hh.2.2.1])
    have q3' : ¬ (a.vals.length : Int) = b.vals.length := by omega
    simp -implicitDefEqProofs [ld_at c1, cel_of c1, stm_at c1, ld_at c3, cel_of c3, stm_at c3, stm_upd, ld_same, cel_same, over, q1, q2, lx, ly, q3']
    exact kb (hk _ e0) (by simp [this])
  simp -implicitDefEqProofs [ld_at c1, cel_of c1, stm_at c1, ld_at c3, cel_of c3, stm_at c3, stm_upd, ld_same, cel_same, over, q1, q2, lx, ly, q3]
  refine evSame_ok a.evs b.evs (x.e.ext (@EvR.ext) e0) (y.e.ext (@EvR.ext) e0) h2 ?_
  by_cases q4 : a.evs = b.evs
  rotate_left
  · have : a ≠ b := ne.2 fun hh => q4 hh.2.2.2
    simp -implicitDefEqProofs [q4]
    exact kb (hk _ e0) (by simp [this])
  simp -implicitDefEqProofs [q4]
  unfold d_doormanref10_Same_1
  rw [seqM_eq]
  unfold d_doormanref10_Same_2
  have hab : a = b ↔ a.vals = b.vals := ⟨fun e => by rw [e], fun e => (rep_eq a b).2 ⟨q1, q2, e, q4⟩⟩
  refine loop_on [2, 3, 4] (fun s h' => h' = g3 ∧ ∃ i : Nat, i ≤ a.vals.length ∧ s 5 = .int .i64 i ∧ a.vals.take i = b.vals.take i) (fun s _ => (a.vals.length - num (s 5)).toNat) ⟨rfl, 0, by omega, rfl, by simp⟩ ?_
  rintro s h3 hf ⟨rfl, i, hi, s5, hT⟩
  have s2 : s 2 = ptr v1 := by simpa using hf 2 (by simp)
  have s3 : s 3 = ptr v3 := by simpa using hf 3 (by simp)
  have s4 : s 4 = .bool false := by simpa using hf 4 (by simp)
  unfold d_doormanref10_Same_3
  by_cases hlt : i < a.vals.length
  · have hlt' : (i : Int) < a.vals.length := by omega
    have hly : i < b.vals.length := by omega
    have hw : IntKind.i64.wrap ((i : Int) + 1) = (i + 1 : Nat) := by rw [wrap64_id (by omega) (by omega)]; omega
    obtain ⟨p1, p2, i1, i2⟩ := pres_ld x.v (k := .i64) hlt
    obtain ⟨p1', p2', j1, j2⟩ := pres_ld y.v (k := .i64) hly
    simp -implicitDefEqProofs [s2, s5, ld_at c1, cel_of c1, stm_at c1, stm_upd, ld_same, cel_same, over, lx, hlt']
    unfold d_doormanref10_Same_4
    simp -implicitDefEqProofs [s2, s3, s5, ld_at c1, cel_of c1, stm_at c1, ld_at c3, cel_of c3, stm_at c3, stm_upd, ld_same, cel_same, over, i1, j1, ldV_n (i2 _ e0), ldV_n (j2 _ e0)]
    simp -implicitDefEqProofs only [presC, presNe]
    by_cases he : a.vals[i] = b.vals[i]
    · simp -implicitDefEqProofs [he]
      unfold d_doormanref10_Same_6
      simp -implicitDefEqProofs [s2, s3, s4, s5, hw, -Int.natCast_add]
      exact ⟨⟨i + 1, by omega, rfl, take_eq_succ hT hlt hly he⟩, by omega⟩
    · have : a ≠ b := fun e => he (by simp only [e])
      simp -implicitDefEqProofs [he]
      unfold d_doormanref10_Same_5
      simp -implicitDefEqProofs [s4]
      exact kb (hk _ e0) (by simp [this])
  · have : i = a.vals.length := by omega
    subst this
    have he : a.vals = b.vals := by
      rw [List.take_of_length_le (Nat.le_refl _), List.take_of_length_le (by omega)] at hT; exact hT
    simp -implicitDefEqProofs [s2, s5, ld_at c1, cel_of c1, stm_at c1, stm_upd, ld_same, cel_same, over, lx]
    exact kb (hk _ e0) (by simp [hab.2 he])
/-- What a client asks of the document's table: a writing. -/
theorem mdoW_ok (o : OpD) (ow : OpW o) (hkd : o.kind = 1 ∨ o.kind = 2 ∨ o.kind = 3) (hl : o.users.length < 1000000) {who : Nat} (hw : who < 8) {T : Tags} {h : Heap} {uv : Value} (hu : Sl 1 StrR (fz T h) uv o.users) {g : Tag} {p m : Nat} {M : Tbl} (w : Wf T h) (gg : Gd g) (x : MdR T h g p M) (hs : TS m M) (hm : m < 100000) {K : Value → Heap → Prop}
    (hk : ∀ T' h', Only (pre g) T h T' h' → MdR T' h' g p (M.do_ who o).1 → K (.agg (repC (M.do_ who o).2.err).toArray) h') : callM P fn_model_Model_Do #[ptr p, .int .i64 who, .agg (opC o uv).toArray] h K := by
  have hc : clientB (who : Int) = true := by simp [clientB]; omega
  apply e_model_Model_Do
  unfold d_model_Model_Do
  refine nw_agg fun v1 h0 n0 e0 c0 => ?_
  have w0 := w.ext e0
  rw [zcRep]
  refine nw_tag w0 lc fun v3 T1 h1 n1 o1 t3 c3 => ?_
  have o01 : Only non T h T1 h1 := (Only.of_ext (U := non) w e0).trans o1
  have b0 : h0 v1 = _ ∧ T v1 = [] := ⟨c0, w v1 n0⟩
  have b0 := o1.see b0 (not_non _)
  have b3 : h1 v3 = _ ∧ T1 v3 = lc := ⟨c3, t3⟩
  have x1 := x.up o01 (Off.non _) (not_non _)
  have n3 : h v3 = none := by
    cases hh : h v3 with
    | none => rfl
    | some ob => rw [e0 _ _ hh] at n1; cases n1
  have oa : ∀ h', h' v1 = some (.cells (opC o uv).toArray ty_api_Op (0, 0)) → ldV (some (some 7)) (ptr v1) h' = some (.agg (opC o uv).toArray) := fun h' hc => by simp [ld_at hc, opC]
  have ok : ∀ h', h' v1 = some (.cells (opC o uv).toArray ty_api_Op (0, 0)) → cel h' v1 0 = some (.int .i64 o.kind) := fun h' hc => by simp [cel_of hc, opC]
  simp -implicitDefEqProofs only [oa _ b0.1, ov_s]
  refine modBad_ok o ow (hu.ext (@StrR.ext) ((o01.ext (not_non _)).trans (fz_ext _ _))) hl fun h2 e2 => ?_
  have o2 : Only non T1 h1 T1 h2 := Only.of_ext o1.wf e2
  have o02 : Only non T h T1 h2 := o01.trans o2
  have b0 := o2.see b0 (not_non _)
  have b3 := o2.see b3 (not_non _)
  have x2 := x1.up o2 (Off.non _) (not_non _)
  have c3' := b3.1
  unfold d_model_Model_Do_1
  cases hb : badB o with
  | true =>
    have e : M.do_ who o = (M, repE 1) := by simp [Tbl.do_, hb]
    rw [e] at hk
    simp -implicitDefEqProofs
    unfold d_model_Model_Do_2
    rw [bdRepE]
    simp -implicitDefEqProofs [ld_at c3', cel_of c3', stm_at c3', stm_upd, ld_same, cel_same, over]
    exact hk T1 _ ((o02.mono non_up).own n3 b3.1) (x2.kp (Only.lst o2.wf b3).k gg.off (by simp))
  | false =>
  have e : M.do_ who o = M.write o := by simp [Tbl.do_, hb, hc, hkd]
  rw [e] at hk
  simp -implicitDefEqProofs
  refine within_ok _ _ _ ?_
  have hw' : (0 : Int) ≤ who ∧ (who : Int) ≤ 7 := by omega
  simp -implicitDefEqProofs [hw']
  unfold d_model_Model_Do_3
  rw [seqM_eq]
  unfold d_model_Model_Do_4
  simp -implicitDefEqProofs [ok _ b0.1]
  rw [seqM_eq]
  have fin : ∀ (s : Env), s 0 = ptr p → s 5 = ptr v1 → s 6 = ptr v3 → s 20 = .bool true → ∀ Q, (∀ T' h', Only (pre g) T h T' h' → MdR T' h' g p (M.write o).1 → ∀ s', s' 6 = ptr v3 → (h' v3 = some (.cells (repC (M.write o).2.err).toArray ty_api_Reply (0, 0))) → Q .ret [] s' h') → d_model_Model_Do_10 s h2 Q [] := by
    intro s s0 s5 s6 s20 Q hQ
    unfold d_model_Model_Do_10
    simp -implicitDefEqProofs [s20]
    unfold d_model_Model_Do_11
    simp -implicitDefEqProofs only [s0, s5, oa _ b0.1, ov_s]
    refine mwrite_ok o ow hu.one o2.wf gg x2 hs hm fun T4 h4 o4 x4 => ?_
    have b34 := o4.see b3 (fun hh => gg.off lc hh rfl)
    have c34 := b34.1
    simp -implicitDefEqProofs [s6, ld_at c34, cel_of c34, stm_at c34, stm_upd, ld_same, cel_same, over, repC]
    refine hQ T4 _ (((o02.mono non_up).trans o4).own n3 b34.1) (x4.kp (Only.lst o4.wf b34).k gg.off (by simp)) _ (by simp [s6]) ?_
    rw [upd_same']; rfl
  have fin' : ∀ T' h', Only (pre g) T h T' h' → MdR T' h' g p (M.write o).1 → ∀ s' : Env, s' 6 = ptr v3 → (h' v3 = some (.cells (repC (M.write o).2.err).toArray ty_api_Reply (0, 0))) → (retM P [.cell 6 86] K) .ret [] s' h' := by
    intro T' h' o' x' s' s6 c'
    simp -implicitDefEqProofs only [repC] at c'
    simp -implicitDefEqProofs [s6, ld_at c', cel_of c', stm_at c', stm_upd, ld_same, cel_same, over, tgRep86]
    exact hk T' h' o' x'
  unfold d_model_Model_Do_5
  rcases hkd with hk1 | hk1 | hk1
  · simp -implicitDefEqProofs [hk1]
    unfold d_model_Model_Do_6
    simp -implicitDefEqProofs
    exact fin _ (by simp) (by simp) (by simp) (by simp) _ fun T' h' o' x' s' q6 c' => by simpa using fin' T' h' o' x' s' q6 c'
  · simp -implicitDefEqProofs [hk1]
    unfold d_model_Model_Do_7
    simp -implicitDefEqProofs [hk1]
    unfold d_model_Model_Do_8
    simp -implicitDefEqProofs
    exact fin _ (by simp) (by simp) (by simp) (by simp) _ fun T' h' o' x' s' q6 c' => by simpa using fin' T' h' o' x' s' q6 c'
  · simp -implicitDefEqProofs [hk1]
    unfold d_model_Model_Do_7
    simp -implicitDefEqProofs [hk1]
    unfold d_model_Model_Do_9
    simp -implicitDefEqProofs [hk1]
    exact fin _ (by simp) (by simp) (by simp) (by simp) _ fun T' h' o' x' s' q6 c' => by simpa using fin' T' h' o' x' s' q6 c'
end Go.Proofs.YtcnphhhcknhhaaaGreat
namespace Go.Proofs.YtcnphhhcknhhaaaGreat
open Go Go.Den Go.MapKept
set_option linter.unusedSimpArgs false
set_option linter.unusedVariables false
set_option maxRecDepth 20000
/-- How many steps a writing is of. -/
def wLen (x : OpD) : Nat := if badB x then 1 else 7
theorem aw_fin {T0 : Tags} {h0 : Heap} {hp q i m N : Nat} {c : Cfg} {x : OpD} {M0 : Tbl} {T' : Tags} {h' : Heap} (y : AwI T0 h0 hp q i (wLen x) m N c x M0 T' h') :
    ∃ W p, RW T0 h0 hp (m + wLen x) N c W ((wkOf x).bef (stripeOf x.user c.stripes).toNat M0).1 T' h' ∧ WPR T' h' [2, i] q p ∧ p.done = true ∧ repE p.err = ((wkOf x).bef (stripeOf x.user c.stripes).toNat M0).2 := by
  obtain ⟨o, W, M, p, A, xm, rfl, wk, aw, hs, hw, hn, hc⟩ := y
  have hat : p.at_ = 7 := by
    have := aw.at_
    cases hb : badB x <;> simp [wLen, hb] at this <;> exact this
  have hpl : wPl x (wLen x) = true := by unfold wPl wLen; split <;> simp
  have hm := aw.m
  rw [if_pos hpl, hs] at hm
  have po := aw.po
  rw [if_pos hpl, hs] at po
  have herr : repE p.err = ((wkOf x).bef (stripeOf x.user c.stripes).toNat M0).2 := by
    by_cases hb : p.k.isBad = true
    · rcases po.b hb with h | h
      · omega
      · rw [h.2.2, h.2.1]
    · have := po.g (by simpa using hb) (by omega)
      rw [if_neg (by omega)] at this
      exact this.symm
  subst hm
  refine ⟨W, p, ⟨o, ⟨A, xm⟩, wk, fun j r hr => ⟨hw j r hr, fun s hh => ?_⟩, hn, hc⟩, xm.ps i _ aw.hp, by simp [WP.done, hat], herr⟩
  by_cases hj : j = i
  · subst hj
    rw [aw.hp] at hr; cases hr
    have := hh.2.2.1; omega
  · exact aw.ar j r hj hr s hh
theorem tmNe (p q : Tm) {x y : Operand} {K : Value → Prop} : pvM P (do eqGuard .neq ty_api_Time x y (.agg (tmC p).toArray) (.agg (tmC q).toArray); binOp .neq ty_api_Time (.agg (tmC p).toArray) (.agg (tmC q).toArray)) K = K (.bool (!decide (p = q))) := by
  simp -implicitDefEqProofs only [tmC]
  rw [pv_neq (d := 5) (b := (p.now == q.now) && ((p.seq == q.seq) && ((p.closed == q.closed) && true))) (by kernel_rfl) (by omega) (by kernel_rfl)]
  have : ((p.now == q.now) && ((p.seq == q.seq) && ((p.closed == q.closed) && true))) = decide (p = q) := by
    rw [Bool.eq_iff_iff]; cases p; cases q; simp
  rw [this]
theorem RW.stored {T0 : Tags} {h0 : Heap} {hp m N : Nat} {c : Cfg} {W : Wd} {M : Tbl} {T' : Tags} {h' : Heap} (y : RW T0 h0 hp m N c W M T' h') : W.H.stored = M.stored := by
  unfold Hall.stored Tbl.stored
  rw [y.k.li.n]
  show ((List.range W.H.n).map fun s => storedB (W.H.ss s).book).sum = _
  congr 1
  refine List.map_congr_left fun s hs => ?_
  have h1 := congrArg Prod.fst (y.free (by rw [← y.n]; simpa using hs)).e
  have h1 : M.bk s = (W.H.ss s).book := h1
  rw [h1]
theorem g4 : Gd [4] := ⟨3, [], rfl⟩
theorem dUW4 : Off UW [4] := fun t ht hh => hh.elim (off_pre (g := []) (x := [1]) (y := [4]) (by simp) (by simp) t ht) (off_pre (g := []) (x := [2]) (y := [4]) (by simp) (by simp) t ht)
theorem d4UW : ∀ t, UW t → ¬ pre [4] t := fun t ht h => dUW4 t h ht
def U5 (t : Tag) : Prop := UW t ∨ pre [4] t
theorem U5.nil : ¬ U5 [] := by rintro (h | h); exact UW.nil h; simp [pre] at h
/-- The program's table, and the document's, beside each other. -/
def Two (hp mp m N : Nat) (c : Cfg) (W : Wd) (M : Tbl) (T : Tags) (h : Heap) : Prop := RW T h hp m N c W M T h ∧ MdR T h [4] mp M
theorem Two.ext {hp mp m N : Nat} {c : Cfg} {W : Wd} {M : Tbl} {T : Tags} {h h' : Heap} (x : Two hp mp m N c W M T h) (e : Ext h h') : Two hp mp m N c W M T h' :=
  have o := Only.of_ext (U := non) x.1.o.wf e
  ⟨x.1.base o (fun _ _ h => h) (not_non _), x.2.kp o.k (Off.non _) (not_non _)⟩
theorem shortB_wr (x : OpD) : shortB (wrOp x) = shortB x := rfl
end Go.Proofs.YtcnphhhcknhhaaaGreat
namespace Go.Proofs.YtcnphhhcknhhaaaGreat
open Go Go.Den Go.MapKept
set_option linter.unusedSimpArgs false
set_option linter.unusedVariables false
set_option maxRecDepth 20000
def aw15 : Nat → WP × Hall
  | 0 => (wp0 (hall0 small 3) 0 annW, hall0 small 3)
  | n + 1 => (aw15 n).1.step (aw15 n).2 n
theorem aw15_done : ∀ n, n ≤ 7 → ((aw15 n).1.done = true ↔ n = 7) := by decide +kernel
theorem aw15_end : (aw15 7).1.placed = 2 ∧ (aw15 7).2.stored = 1 := by decide +kernel
def Aw15 (T0 : Tags) (h0 : Heap) (hp pp : Nat) (v : Value) (h' : Heap) : Prop :=
  ∃ (T' : Tags) (k : Nat) (W : Wd) (M : Tbl), Only UW T0 h0 T' h' ∧ WdM T' h' hp (fun _ => pp) W ∧ WdK k W M ∧ W.H = (aw15 k).2 ∧ W.ps 0 = some (.w (aw15 k).1) ∧ v = .int .i64 k ∧ k ≤ 7
set_option maxHeartbeats 1000000 in
theorem awake15_ok {h : Heap} {K : Value → Heap → Prop} (hk : ∀ h', Ext h h' → K (.bool true) h') : callM P fn_doormanlaw15_awake #[] h K := by
  apply e_doormanlaw15_awake
  unfold d_doormanlaw15_awake
  refine small_ok fun h1 e1 => ?_
  unfold d_doormanlaw15_awake_1
  have w1 := wf_nil h1
  refine hallNew_ok small smallW w1 g1 (fun hr T2 h2 q o2 y2 => ?_) (fun hr => by simp [rightB, small] at hr)
  have hn3 : small.stripes.toNat = 3 := by decide
  rw [hn3] at y2
  unfold d_doormanlaw15_awake_2
  have enil : binV .eql 4 true (ptr q) (.pointer none) = some (.bool false) := rfl
  simp -implicitDefEqProofs [enil]
  unfold d_doormanlaw15_awake_3
  rw [bdOpAnnW]
  simp -implicitDefEqProofs only [ov_s]
  refine wdnew_w (i := 0) (A := fun _ => 0) (by omega) annW annWW (by simp [annW]) (.inl ⟨rfl, _, _, rfl⟩) o2.wf (wd0M y2 _) (wd0K smallW hr (by decide)) (fun q h => by simp [wd0] at h) fun T3 h3 p o3 x3 k3 => ?_
  have o0 : Only UW (fun _ => []) h1 T3 h3 := (o2.mono fun _ => .inl).up o3 non_up
  unfold d_doormanlaw15_awake_4
  rw [seqM_eq]
  unfold d_doormanlaw15_awake_5
  have hA : bset (fun _ => 0) 0 p 0 = p := rfl
  refine loop_on [1, 3] (fun s h' => Aw15 T3 h3 q p (s 4) h') (fun s _ => (9 - num (s 4)).toNat) ⟨T3, 0, _, _, Only.refl o3.wf, ⟨x3.hl, fun i r hr => ?_⟩, k3, rfl, rfl, rfl, by omega⟩ ?_
  · by_cases hi : i = 0
    · subst hi; exact x3.ps 0 r hr
    · have hr : bset (wd0 small 3).ps 0 (some (.w (wp0 (hall0 small 3) 0 annW))) i = some r := hr
      rw [bset_ne hi] at hr; simp [wd0] at hr
  rintro s h4 hf ⟨T4, k, W, M, o4, x4, k4, hH, hP, s4, hk7⟩
  have s1 : s 1 = ptr q := by simpa using hf 1 (by simp)
  have s3 : s 3 = ptr p := by simpa using hf 3 (by simp)
  have hw : IntKind.i64.wrap ((k : Int) + 1) = (k + 1 : Nat) := by rw [wrap64_id (by omega) (by omega)]; omega
  have hd := aw15_done k hk7
  have hn9 : (k : Int) < 9 := by omega
  have xp := x4.ps 0 _ hP
  unfold d_doormanlaw15_awake_6
  simp -implicitDefEqProofs [s4, s3, hn9]
  refine wdone_ok xp fun h5 e5 => ?_
  by_cases h7 : k = 7
  · subst h7
    rw [hd.2 rfl]
    simp -implicitDefEqProofs [s3, s4]
    unfold d_doormanlaw15_awake_9
    have o5 : Only non T4 h4 T4 h5 := Only.of_ext o4.wf e5
    have x5 := x4.ext o4.wf e5
    have xp := x5.ps 0 _ hP
    simp -implicitDefEqProofs [s3, s4]
    refine wplaced_ok xp ?_
    rw [aw15_end.1]
    simp -implicitDefEqProofs [s3]
    refine wdone_ok xp fun h6 e6 => ?_
    rw [hd.2 rfl]
    simp -implicitDefEqProofs [s1]
    have x6 := x5.ext o5.wf e6
    refine hstored_ok (o5.wf.ext e6) x6.hl k4.hs (by omega) fun h7 e7 => ?_
    rw [hH, aw15_end.2]
    simp -implicitDefEqProofs
    exact hk _ (e1.trans ((ext_of_only (o0.trans o4) UW.nil).trans (e5.trans (e6.trans e7))))
  · have hdf : (aw15 k).1.done = false := by
      cases hh : (aw15 k).1.done with
      | false => rfl
      | true => exact absurd (hd.1 hh) h7
    rw [hdf]
    simp -implicitDefEqProofs
    unfold d_doormanlaw15_awake_7
    simp -implicitDefEqProofs only [s3, s1, s4]
    have x5 := x4.ext o4.wf e5
    refine wdstep_w (i := 0) k (o4.wf.ext e5) x5 k4 (by omega) hP fun T6 h6 o6 x6 => ?_
    unfold d_doormanlaw15_awake_8
    simp -implicitDefEqProofs [s1, s3, s4, hw, -Int.natCast_add]
    have hst : W.step 0 k = ⟨((aw15 k).1.step (aw15 k).2 k).2, bset W.ps 0 (some (.w ((aw15 k).1.step (aw15 k).2 k).1)), bset W.ms 0 (W.ms 0)⟩ := by
      simp -implicitDefEqProofs only [Wd.step, hP, PR.step, hH]
    refine ⟨⟨T6, k + 1, _, _, (o4.up (Only.of_ext (U := non) o4.wf e5) non_up).trans o6, x6, k4.step (by omega) hP k, by rw [hst]; rfl, by rw [hst]; rfl, rfl, by omega⟩, by omega⟩
end Go.Proofs.YtcnphhhcknhhaaaGreat
namespace Go.Proofs.YtcnphhhcknhhaaaGreat
open Go Go.Den
set_option maxRecDepth 100000
set_option linter.unusedVariables false
set_option maxHeartbeats 40000000
def d_doormanlaw15_WriteAlone_14 (q63 : Post) (m : List Nat) (s58 : Env) (v61 v62 v66 v67 v68 v70 v73 v74 v76 : Value) (h75 : Heap) : Prop := q63 .ret m (puts s58 [(45, (s58 9)), (46, (s58 0)), (47, v61), (48, v62), (51, (s58 0)), (52, (s58 9)), (53, v66), (54, v67), (55, v68), (10, v70), (56, v73), (57, v74), (58, v76), (4, (Value.bool true))]) h75
def d_doormanlaw15_WriteAlone_19 (q77 : Post) (m : List Nat) (s58 : Env) (v61 v62 v66 v67 v68 v70 v73 v74 v76 v80 v81 v82 v83 v84 v85 v86 v88 v89 v90 v91 v92 : Value) (h93 : Heap) : Prop := q77 .normal m (puts s58 [(45, (s58 9)), (46, (s58 0)), (47, v61), (48, v62), (51, (s58 0)), (52, (s58 9)), (53, v66), (54, v67), (55, v68), (10, v70), (56, v73), (57, v74), (58, v76), (59, (s58 9)), (60, (s58 1)), (61, v80), (62, v81), (63, (s58 5)), (64, (s58 1)), (65, (s58 9)), (66, v82), (67, v83), (68, v84), (69, v85), (70, v86), (71, (s58 7)), (72, (s58 1)), (73, (s58 9)), (74, v88), (75, v89), (76, v90), (77, v91), (78, v92)]) h93
def d_doormanlaw15_WriteAlone_18 (s58 : Env) (h87 : Heap) (q77 : Post) (m : List Nat) (v61 v62 v66 v67 v68 v70 v73 v74 v76 v80 v81 v82 v83 v84 v85 v86 : Value) : Prop := ov (iaV (some (none, 1)) (s58 1) (s58 9)) fun v88 => ov (ldV (some none) v88 h87) fun v89 => ov (cvV (some .u64) v89) fun v90 => ov (binV BinOp.rem 2 true v90 (Value.int IntKind.u64 5)) fun v91 => callM P fn_model_Model_Tick #[(s58 7), v91] h87 fun v92 h93 => d_doormanlaw15_WriteAlone_19 q77 m s58 v61 v62 v66 v67 v68 v70 v73 v74 v76 v80 v81 v82 v83 v84 v85 v86 v88 v89 v90 v91 v92 h93
def d_doormanlaw15_WriteAlone_17 (s58 : Env) (h75 : Heap) (q77 : Post) (m : List Nat) (v61 v62 v66 v67 v68 v70 v73 v74 v76 v80 v81 : Value) : Prop := ov (iaV (some (none, 1)) (s58 1) (s58 9)) fun v82 => ov (ldV (some none) v82 h75) fun v83 => ov (cvV (some .u64) v83) fun v84 => ov (binV BinOp.rem 2 true v84 (Value.int IntKind.u64 5)) fun v85 => callM P fn_hall_Hall_Pass #[(s58 5), (Value.int IntKind.i64 9), v85] h75 fun v86 h87 => d_doormanlaw15_WriteAlone_18 s58 h87 q77 m v61 v62 v66 v67 v68 v70 v73 v74 v76 v80 v81 v82 v83 v84 v85 v86
def d_doormanlaw15_WriteAlone_20 (q77 : Post) (m : List Nat) (s58 : Env) (v61 v62 v66 v67 v68 v70 v73 v74 v76 v80 v81 : Value) (h75 : Heap) : Prop := q77 .normal m (puts s58 [(45, (s58 9)), (46, (s58 0)), (47, v61), (48, v62), (51, (s58 0)), (52, (s58 9)), (53, v66), (54, v67), (55, v68), (10, v70), (56, v73), (57, v74), (58, v76), (59, (s58 9)), (60, (s58 1)), (61, v80), (62, v81)]) h75
def d_doormanlaw15_WriteAlone_16 (s58 : Env) (h75 : Heap) (q77 : Post) (m : List Nat) (v61 v62 v66 v67 v68 v70 v73 v74 v76 : Value) : Prop := ov (lnV 7 (s58 1)) fun v80 => ov (binV BinOp.lss 2 false (s58 9) v80) fun v81 => cdM v81 (d_doormanlaw15_WriteAlone_17 s58 h75 q77 m v61 v62 v66 v67 v68 v70 v73 v74 v76 v80 v81) (d_doormanlaw15_WriteAlone_20 q77 m s58 v61 v62 v66 v67 v68 v70 v73 v74 v76 v80 v81 h75)
def d_doormanlaw15_WriteAlone_27 (q103 : Post) (m : List Nat) (s101 : Env) (v104 v105 v108 v113 v117 v118 v120 v121 v122 v126 v131 v135 v136 : Value) (h132 : Heap) : Prop := q103 .ret m (puts s101 [(84, (s101 12)), (85, v104), (86, v104), (87, v105), (88, v108), (89, v113), (90, v117), (91, (s101 11)), (92, v118), (93, v120), (94, (s101 12)), (95, v121), (96, v121), (97, v122), (98, v126), (99, v131), (100, v135), (101, v136), (4, (Value.bool false))]) h132
def d_doormanlaw15_WriteAlone_29 (s101 : Env) (q103 : Post) (m : List Nat) (v104 v105 v108 v113 v117 v118 v120 v121 v122 v126 v131 v135 v136 v137 : Value) (h138 : Heap) : Prop := ov (binV BinOp.add 2 true (s101 12) (Value.int IntKind.i64 1)) fun v139 => q103 .normal m (puts s101 [(84, (s101 12)), (85, v104), (86, v104), (87, v105), (88, v108), (89, v113), (90, v117), (91, (s101 11)), (92, v118), (93, v120), (94, (s101 12)), (95, v121), (96, v121), (97, v122), (98, v126), (99, v131), (100, v135), (101, v136), (102, (s101 11)), (103, (s101 5)), (104, (s101 12)), (105, v137), (106, (s101 12)), (107, v139), (12, v139)]) h138
def d_doormanlaw15_WriteAlone_28 (s101 : Env) (h132 : Heap) (q103 : Post) (m : List Nat) (v104 v105 v108 v113 v117 v118 v120 v121 v122 v126 v131 v135 v136 : Value) : Prop := callM P fn_write_Proc_Step #[(s101 11), (s101 5), (s101 12)] h132 fun v137 h138 => d_doormanlaw15_WriteAlone_29 s101 q103 m v104 v105 v108 v113 v117 v118 v120 v121 v122 v126 v131 v135 v136 v137 h138
def d_doormanlaw15_WriteAlone_26 (v118 : Value) (s101 : Env) (h119 : Heap) (q103 : Post) (m : List Nat) (v104 v105 v108 v113 v117 : Value) : Prop := ov (binV BinOp.geq 2 true v118 (Value.int IntKind.i64 0)) fun v120 => ov (binV BinOp.eql 2 true (s101 12) (Value.int IntKind.i64 0)) fun v121 => gM (isB v121 true) (fun k124 => ov (ldV (some (some 7)) (s101 10) h119) fun v125 => k124 v125 h119) h119 fun v122 h123 => gM (isB v121 true) (fun k128 => callM P fn_model_Bad #[v122] h123 fun v129 h130 => k128 v129 h130) h123 fun v126 h127 => gM (isB v121 true) (fun k133 => ov (unV UnOp.not v126) fun v134 => k133 v134 h127) h127 fun v131 h132 => ov (pkV v121 v131 (Value.bool false)) fun v135 => ov (binV BinOp.neq 1 false v120 v135) fun v136 => cdM v136 (d_doormanlaw15_WriteAlone_27 q103 m s101 v104 v105 v108 v113 v117 v118 v120 v121 v122 v126 v131 v135 v136 h132) (d_doormanlaw15_WriteAlone_28 s101 h132 q103 m v104 v105 v108 v113 v117 v118 v120 v121 v122 v126 v131 v135 v136)
def d_doormanlaw15_WriteAlone_25 (s101 : Env) (h114 : Heap) (q103 : Post) (m : List Nat) (v104 v105 v108 v113 v117 : Value) : Prop := callM P fn_write_Proc_Waits #[(s101 11)] h114 fun v118 h119 => d_doormanlaw15_WriteAlone_26 v118 s101 h119 q103 m v104 v105 v108 v113 v117
def d_doormanlaw15_WriteAlone_24 (s101 : Env) (h102 : Heap) (q103 : Post) (m : List Nat) : Prop := ov (binV BinOp.lss 2 true (s101 12) (Value.int IntKind.i64 20)) fun v104 => gM (isB v104 true) (fun k107 => k107 (s101 11) h102) h102 fun v105 h106 => gM (isB v104 true) (fun k110 => callM P fn_write_Proc_Done #[v105] h106 fun v111 h112 => k110 v111 h112) h106 fun v108 h109 => gM (isB v104 true) (fun k115 => ov (unV UnOp.not v108) fun v116 => k115 v116 h109) h109 fun v113 h114 => ov (pkV v104 v113 (Value.bool false)) fun v117 => cdM v117 (d_doormanlaw15_WriteAlone_25 s101 h114 q103 m v104 v105 v108 v113 v117) (q103 (.exit 2) m (puts s101 [(84, (s101 12)), (85, v104), (86, v104), (87, v105), (88, v108), (89, v113), (90, v117)]) h114)
def d_doormanlaw15_WriteAlone_23 (m : List Nat) (s78 : Env) (v94 v95 v96 : Value) (h97 : Heap) (q98 : Post) : Prop := loopM (fun m s101 h102 q103 => d_doormanlaw15_WriteAlone_24 s101 h102 q103 m) m (puts s78 [(79, (s78 5)), (80, (s78 9)), (81, v94), (82, v95), (83, v96), (11, v96), (12, (Value.int IntKind.i64 0))]) h97 (blkM 2 q98)
def d_doormanlaw15_WriteAlone_33 (q63 : Post) (m : List Nat) (s99 : Env) (v140 v141 v142 v144 v146 v148 v149 v150 v151 v152 v153 v158 v159 v160 v161 v162 v163 v164 v165 v170 v171 v172 v173 v174 v175 v176 v181 v186 v187 v188 v189 v190 v191 v192 v197 v202 v203 v204 v205 v206 v211 v216 v217 v218 v219 v220 v225 v230 v231 : Value) (h226 : Heap) : Prop := q63 .ret m (puts s99 [(108, (s99 11)), (110, (s99 7)), (111, (s99 9)), (112, v140), (113, v141), (109, v142), (114, v144), (115, v146), (116, v148), (117, v148), (118, v149), (119, v150), (120, v151), (121, v152), (122, v153), (123, v158), (124, v159), (125, v160), (126, v160), (127, v161), (128, v162), (129, v163), (130, v164), (131, v165), (132, v170), (133, v171), (134, v171), (135, v172), (136, v173), (137, v174), (138, v175), (139, v176), (140, v181), (141, v186), (142, v187), (143, v187), (144, v188), (145, v189), (146, v190), (147, v191), (148, v192), (149, v197), (150, v202), (151, v203), (152, v203), (153, v204), (155, v205), (154, v206), (156, v211), (157, v216), (158, v217), (159, v217), (160, v218), (162, v219), (161, v220), (163, v225), (164, v230), (165, v231), (4, (Value.bool false))]) h226
def d_doormanlaw15_WriteAlone_34 (q63 : Post) (m : List Nat) (s99 : Env) (v140 v141 v142 v144 v146 v148 v149 v150 v151 v152 v153 v158 v159 v160 v161 v162 v163 v164 v165 v170 v171 v172 v173 v174 v175 v176 v181 v186 v187 v188 v189 v190 v191 v192 v197 v202 v203 v204 v205 v206 v211 v216 v217 v218 v219 v220 v225 v230 v231 : Value) (h226 : Heap) : Prop := q63 .normal m (puts s99 [(108, (s99 11)), (110, (s99 7)), (111, (s99 9)), (112, v140), (113, v141), (109, v142), (114, v144), (115, v146), (116, v148), (117, v148), (118, v149), (119, v150), (120, v151), (121, v152), (122, v153), (123, v158), (124, v159), (125, v160), (126, v160), (127, v161), (128, v162), (129, v163), (130, v164), (131, v165), (132, v170), (133, v171), (134, v171), (135, v172), (136, v173), (137, v174), (138, v175), (139, v176), (140, v181), (141, v186), (142, v187), (143, v187), (144, v188), (145, v189), (146, v190), (147, v191), (148, v192), (149, v197), (150, v202), (151, v203), (152, v203), (153, v204), (155, v205), (154, v206), (156, v211), (157, v216), (158, v217), (159, v217), (160, v218), (162, v219), (161, v220), (163, v225), (164, v230), (165, v231)]) h226
def d_doormanlaw15_WriteAlone_32 (v146 : Value) (s99 : Env) (h147 : Heap) (q63 : Post) (m : List Nat) (v140 v141 v142 v144 : Value) : Prop := ov (unV UnOp.not v146) fun v148 => gv (isB v148 false) (fun k => k (s99 12)) fun v149 => gv (isB v148 false) (ov (binV BinOp.neq 2 true v149 (Value.int IntKind.i64 7))) fun v150 => gv (isB v148 false) (fun k => k v150) fun v151 => gv (isB v151 true) (ov (ldV (some (some 7)) (s99 10) h147)) fun v152 => gM (isB v151 true) (fun k155 => callM P fn_model_Bad #[v152] h147 fun v156 h157 => k155 v156 h157) h147 fun v153 h154 => gv (isB v151 true) (ov (unV UnOp.not v153)) fun v158 => gv (isB v148 false) (ov (pkV v151 v158 (Value.bool false))) fun v159 => ov (pkV v148 (Value.bool true) v159) fun v160 => gv (isB v160 false) (fun k => k (s99 12)) fun v161 => gv (isB v160 false) (ov (binV BinOp.neq 2 true v161 (Value.int IntKind.i64 1))) fun v162 => gv (isB v160 false) (fun k => k v162) fun v163 => gv (isB v163 true) (ov (ldV (some (some 7)) (s99 10) h154)) fun v164 => gM (isB v163 true) (fun k167 => callM P fn_model_Bad #[v164] h154 fun v168 h169 => k167 v168 h169) h154 fun v165 h166 => gv (isB v160 false) (ov (pkV v163 v165 (Value.bool false))) fun v170 => ov (pkV v160 (Value.bool true) v170) fun v171 => gv (isB v171 false) (fun k => k (s99 5)) fun v172 => gv (isB v171 false) (fun k => k (s99 5)) fun v173 => gv (isB v171 false) (ov (faV (some 1) (s99 10))) fun v174 => gv (isB v171 false) (ov (ldV (some none) v174 h166)) fun v175 => gM (isB v171 false) (fun k178 => callM P fn_hall_Hall_Stripe #[v173, v175] h166 fun v179 h180 => k178 v179 h180) h166 fun v176 h177 => gM (isB v171 false) (fun k183 => callM P fn_hall_Hall_Quiet #[v172, v176] h177 fun v184 h185 => k183 v184 h185) h177 fun v181 h182 => gv (isB v171 false) (ov (unV UnOp.not v181)) fun v186 => ov (pkV v171 (Value.bool true) v186) fun v187 => gv (isB v187 false) (fun k => k (s99 5)) fun v188 => gv (isB v187 false) (fun k => k (s99 5)) fun v189 => gv (isB v187 false) (ov (faV (some 1) (s99 10))) fun v190 => gv (isB v187 false) (ov (ldV (some none) v190 h182)) fun v191 => gM (isB v187 false) (fun k194 => callM P fn_hall_Hall_Stripe #[v189, v191] h182 fun v195 h196 => k194 v195 h196) h182 fun v192 h193 => gM (isB v187 false) (fun k199 => callM P fn_hall_Hall_Free #[v188, v192] h193 fun v200 h201 => k199 v200 h201) h193 fun v197 h198 => gv (isB v187 false) (ov (unV UnOp.not v197)) fun v202 => ov (pkV v187 (Value.bool true) v202) fun v203 => gv (isB v203 false) (fun k => k (s99 5)) fun v204 => gv (isB v203 false) (fun k => k (s99 7)) fun v205 => gM (isB v203 false) (fun k208 => callM P fn_hall_Hall_Now #[v204] h198 fun v209 h210 => k208 v209 h210) h198 fun v206 h207 => gM (isB v203 false) (fun k213 => callM P fn_model_Model_Time #[v205] h207 fun v214 h215 => k213 v214 h215) h207 fun v211 h212 => gv (isB v203 false) (pvM P (do eqGuard BinOp.neq ty_api_Time (Operand.tmp 154) (Operand.tmp 156) v206 v211; binOp BinOp.neq ty_api_Time v206 v211)) fun v216 => ov (pkV v203 (Value.bool true) v216) fun v217 => gv (isB v217 false) (fun k => k (s99 5)) fun v218 => gv (isB v217 false) (fun k => k (s99 7)) fun v219 => gM (isB v217 false) (fun k222 => callM P fn_hall_Hall_Stored #[v218] h212 fun v223 h224 => k222 v223 h224) h212 fun v220 h221 => gM (isB v217 false) (fun k227 => callM P fn_model_Model_Stored #[v219] h221 fun v228 h229 => k227 v228 h229) h221 fun v225 h226 => gv (isB v217 false) (ov (binV BinOp.neq 2 false v220 v225)) fun v230 => ov (pkV v217 (Value.bool true) v230) fun v231 => cdM v231 (d_doormanlaw15_WriteAlone_33 q63 m s99 v140 v141 v142 v144 v146 v148 v149 v150 v151 v152 v153 v158 v159 v160 v161 v162 v163 v164 v165 v170 v171 v172 v173 v174 v175 v176 v181 v186 v187 v188 v189 v190 v191 v192 v197 v202 v203 v204 v205 v206 v211 v216 v217 v218 v219 v220 v225 v230 v231 h226) (d_doormanlaw15_WriteAlone_34 q63 m s99 v140 v141 v142 v144 v146 v148 v149 v150 v151 v152 v153 v158 v159 v160 v161 v162 v163 v164 v165 v170 v171 v172 v173 v174 v175 v176 v181 v186 v187 v188 v189 v190 v191 v192 v197 v202 v203 v204 v205 v206 v211 v216 v217 v218 v219 v220 v225 v230 v231 h226)
def d_doormanlaw15_WriteAlone_31 (s99 : Env) (h143 : Heap) (v141 v140 v142 : Value) (q63 : Post) (m : List Nat) : Prop := ldV (some (some 7)) (s99 10) h143 = some v141 ∧ callM P fn_model_Model_Do #[(s99 7), v140, v141] h143 fun v144 h145 => callM P fn_doormanref10_Same #[v142, v144] h145 fun v146 h147 => d_doormanlaw15_WriteAlone_32 v146 s99 h147 q63 m v140 v141 v142 v144
def d_doormanlaw15_WriteAlone_30 (s99 : Env) (h100 : Heap) (q63 : Post) (m : List Nat) : Prop := ov (binV BinOp.rem 2 true (s99 9) (Value.int IntKind.i64 8)) fun v140 => ov (ldV (some (some 7)) (s99 10) h100) fun v141 => callM P fn_write_Proc_Reply #[(s99 11)] h100 fun v142 h143 => d_doormanlaw15_WriteAlone_31 s99 h143 v141 v140 v142 q63 m
def d_doormanlaw15_WriteAlone_22 (m : List Nat) (s78 : Env) (v94 v95 v96 : Value) (h97 : Heap) (q63 : Post) : Prop := seqM (fun q98 => d_doormanlaw15_WriteAlone_23 m s78 v94 v95 v96 h97 q98) (fun m s99 h100 => d_doormanlaw15_WriteAlone_30 s99 h100 q63 m) (blkM 1 q63)
def d_doormanlaw15_WriteAlone_21 (s78 : Env) (h79 : Heap) (m : List Nat) (q63 : Post) : Prop := ov (binV BinOp.rem 2 true (s78 9) (Value.int IntKind.i64 8)) fun v94 => ov (ldV (some (some 7)) (s78 10) h79) fun v95 => callM P fn_write_New #[(s78 5), v94, v95] h79 fun v96 h97 => d_doormanlaw15_WriteAlone_22 m s78 v94 v95 v96 h97 q63
def d_doormanlaw15_WriteAlone_15 (s58 : Env) (h75 : Heap) (m : List Nat) (v61 v62 v66 v67 v68 v70 v73 v74 v76 : Value) (q63 : Post) : Prop := seqM (fun q77 => d_doormanlaw15_WriteAlone_16 s58 h75 q77 m v61 v62 v66 v67 v68 v70 v73 v74 v76) (fun m s78 h79 => d_doormanlaw15_WriteAlone_21 s78 h79 m q63) (blkM 1 q63)
def d_doormanlaw15_WriteAlone_13 (v74 : Value) (q63 : Post) (m : List Nat) (s58 : Env) (v61 v62 v66 v67 v68 v70 v73 : Value) (h75 : Heap) : Prop := ov (unV UnOp.not v74) fun v76 => cdM v76 (d_doormanlaw15_WriteAlone_14 q63 m s58 v61 v62 v66 v67 v68 v70 v73 v74 v76 h75) (d_doormanlaw15_WriteAlone_15 s58 h75 m v61 v62 v66 v67 v68 v70 v73 v74 v76 q63)
def d_doormanlaw15_WriteAlone_12 (h69 : Heap) (v68 : Value) (q63 : Post) (m : List Nat) (s58 : Env) (v61 v62 v66 v67 : Value) : Prop := nwM (zc P ty_api_Op) ty_api_Op h69 fun v70 h71 => stM (some 7) v70 v68 h71 fun h72 => ov (ldV (some (some 7)) v70 h72) fun v73 => callM P fn_doormanref10_Short #[v73] h72 fun v74 h75 => d_doormanlaw15_WriteAlone_13 v74 q63 m s58 v61 v62 v66 v67 v68 v70 v73 h75
def d_doormanlaw15_WriteAlone_11 (s58 : Env) (h59 : Heap) (q63 : Post) (m : List Nat) (v61 v62 : Value) : Prop := ov (iaV (some (none, 7)) (s58 0) (s58 9)) fun v66 => ov (ldV (some (some 7)) v66 h59) fun v67 => callM P fn_doormanlaw15_writing #[v67] h59 fun v68 h69 => d_doormanlaw15_WriteAlone_12 h69 v68 q63 m s58 v61 v62 v66 v67
def d_doormanlaw15_WriteAlone_10 (s58 : Env) (h59 : Heap) (m : List Nat) (v61 v62 : Value) (q60 : Post) : Prop := seqM (fun q63 => d_doormanlaw15_WriteAlone_11 s58 h59 q63 m v61 v62) (fun m s64 h65 => ov (binV BinOp.add 2 true (s64 9) (Value.int IntKind.i64 1)) fun v232 => q60 .normal m (puts s64 [(49, (s64 9)), (50, v232), (9, v232)]) h65) q60
def d_doormanlaw15_WriteAlone_9 (s58 : Env) (h59 : Heap) (m : List Nat) (q60 : Post) : Prop := ov (lnV 7 (s58 0)) fun v61 => ov (binV BinOp.lss 2 false (s58 9) v61) fun v62 => cdM v62 (d_doormanlaw15_WriteAlone_10 s58 h59 m v61 v62 q60) (q60 (.exit 0) m (puts s58 [(45, (s58 9)), (46, (s58 0)), (47, v61), (48, v62)]) h59)
def d_doormanlaw15_WriteAlone_8 (x0 x1 v1 v3 v4 v7 v11 v15 v18 v20 v22 v23 v24 v26 v28 v29 v30 v31 v34 v38 v39 v42 v46 v47 v50 v54 : Value) (h51 : Heap) (q55 : Post) : Prop := loopM (fun m s58 h59 q60 => d_doormanlaw15_WriteAlone_9 s58 h59 m q60) [] (puts (envOf [x0, x1]) [(4, (Value.bool false)), (13, v1), (14, v3), (15, v3), (16, v4), (17, v7), (18, v11), (19, v15), (22, v18), (23, v20), (21, v20), (24, v22), (25, v23), (5, v22), (6, v23), (27, v24), (28, v26), (26, v26), (29, v28), (30, v29), (7, v28), (8, v29), (31, v23), (32, v30), (33, v30), (34, v31), (35, v34), (36, v38), (37, v38), (38, v39), (39, v42), (40, v46), (41, v46), (42, v47), (43, v50), (44, v54), (9, (Value.int IntKind.i64 0))]) h51 (blkM 0 q55)
def d_doormanlaw15_WriteAlone_7 (x0 x1 v1 v3 v4 v7 v11 v15 v18 v20 v22 v23 v24 v26 v28 v29 v30 v31 v34 v38 v39 v42 v46 v47 v50 v54 : Value) (h51 : Heap) (K : Value → Heap → Prop) : Prop := seqM (fun q55 => d_doormanlaw15_WriteAlone_8 x0 x1 v1 v3 v4 v7 v11 v15 v18 v20 v22 v23 v24 v26 v28 v29 v30 v31 v34 v38 v39 v42 v46 v47 v50 v54 h51 q55) (fun m s56 h57 => (retM P [.tmp 4] K) .ret m (puts s56 [(4, (Value.bool true))]) h57) (retM P [.tmp 4] K)
def d_doormanlaw15_WriteAlone_6 (v26 v23 : Value) (h27 : Heap) (v22 : Value) (K : Value → Heap → Prop) (x0 x1 v1 v3 v4 v7 v11 v15 v18 v20 v24 : Value) : Prop := ov (exV v26 0) fun v28 => ov (exV v26 1) fun v29 => ov (binV BinOp.neq 2 true v23 (Value.int IntKind.i64 0)) fun v30 => gM (isB v30 false) (fun k33 => k33 v29 h27) h27 fun v31 h32 => gM (isB v30 false) (fun k36 => ov (binV BinOp.neq 2 true v31 (Value.int IntKind.i64 0)) fun v37 => k36 v37 h32) h32 fun v34 h35 => ov (pkV v30 (Value.bool true) v34) fun v38 => gM (isB v38 false) (fun k41 => k41 v22 h35) h35 fun v39 h40 => gM (isB v38 false) (fun k44 => ov (binV BinOp.eql 4 true v39 (Value.pointer none)) fun v45 => k44 v45 h40) h40 fun v42 h43 => ov (pkV v38 (Value.bool true) v42) fun v46 => gM (isB v46 false) (fun k49 => k49 v28 h43) h43 fun v47 h48 => gM (isB v46 false) (fun k52 => ov (binV BinOp.eql 4 true v47 (Value.pointer none)) fun v53 => k52 v53 h48) h48 fun v50 h51 => ov (pkV v46 (Value.bool true) v50) fun v54 => cdM v54 (K (Value.bool false) h51) (d_doormanlaw15_WriteAlone_7 x0 x1 v1 v3 v4 v7 v11 v15 v18 v20 v22 v23 v24 v26 v28 v29 v30 v31 v34 v38 v39 v42 v46 v47 v50 v54 h51 K)
def d_doormanlaw15_WriteAlone_5 (v24 : Value) (h25 : Heap) (v23 v22 : Value) (K : Value → Heap → Prop) (x0 x1 v1 v3 v4 v7 v11 v15 v18 v20 : Value) : Prop := callM P fn_model_New #[v24] h25 fun v26 h27 => d_doormanlaw15_WriteAlone_6 v26 v23 h27 v22 K x0 x1 v1 v3 v4 v7 v11 v15 v18 v20 v24
def d_doormanlaw15_WriteAlone_4 (v20 : Value) (h21 : Heap) (K : Value → Heap → Prop) (x0 x1 v1 v3 v4 v7 v11 v15 v18 : Value) : Prop := ov (exV v20 0) fun v22 => ov (exV v20 1) fun v23 => callM P fn_doormanlaw10_Small #[] h21 fun v24 h25 => d_doormanlaw15_WriteAlone_5 v24 h25 v23 v22 K x0 x1 v1 v3 v4 v7 v11 v15 v18 v20
def d_doormanlaw15_WriteAlone_3 (v18 : Value) (h19 : Heap) (K : Value → Heap → Prop) (x0 x1 v1 v3 v4 v7 v11 v15 : Value) : Prop := callM P fn_hall_New #[v18] h19 fun v20 h21 => d_doormanlaw15_WriteAlone_4 v20 h21 K x0 x1 v1 v3 v4 v7 v11 v15 v18
def d_doormanlaw15_WriteAlone_2 (h12 : Heap) (K : Value → Heap → Prop) (x0 x1 v1 v3 v4 v7 v11 v15 : Value) : Prop := callM P fn_doormanlaw10_Small #[] h12 fun v18 h19 => d_doormanlaw15_WriteAlone_3 v18 h19 K x0 x1 v1 v3 v4 v7 v11 v15
def d_doormanlaw15_WriteAlone_1 (v1 x0 : Value) (h2 : Heap) (K : Value → Heap → Prop) (x1 : Value) : Prop := ov (unV UnOp.not v1) fun v3 => gM (isB v3 false) (fun k6 => k6 x0 h2) h2 fun v4 h5 => gM (isB v3 false) (fun k9 => ov (lnV 7 v4) fun v10 => k9 v10 h5) h5 fun v7 h8 => gM (isB v3 false) (fun k13 => ov (binV BinOp.gtr 2 true v7 (Value.int IntKind.i64 40)) fun v14 => k13 v14 h8) h8 fun v11 h12 => ov (pkV v3 (Value.bool true) v11) fun v15 => cdM v15 (callM P fn_doormanlaw15_awake #[] h12 fun v16 h17 => K v16 h17) (d_doormanlaw15_WriteAlone_2 h12 K x0 x1 v1 v3 v4 v7 v11 v15)
def d_doormanlaw15_WriteAlone (x0 x1 : Value) (h : Heap) (K : Value → Heap → Prop) : Prop := callM P fn_doormanlaw15_awake #[] h fun v1 h2 => d_doormanlaw15_WriteAlone_1 v1 x0 h2 K x1
theorem e_doormanlaw15_WriteAlone {x0 x1 : Value} {h : Heap} {K : Value → Heap → Prop} (hd : d_doormanlaw15_WriteAlone x0 x1 h K) : callM P fn_doormanlaw15_WriteAlone #[x0, x1] h K :=
  call_of good mixed (fn := Tryz.f21) (args := [x0, x1]) Tryz.func21 rfl (by kernel_rfl) (of_decide_eq_true rfl) (B := d_doormanlaw15_WriteAlone x0 x1 h K) (by kernel_rfl) hd
end Go.Proofs.YtcnphhhcknhhaaaGreat
namespace Go.Proofs.YtcnphhhcknhhaaaGreat
open Go Go.Den Go.MapKept
set_option linter.unusedSimpArgs false
set_option linter.unusedVariables false
set_option maxRecDepth 20000
theorem Two.mono {hp mp m k N : Nat} {c : Cfg} {W : Wd} {M : Tbl} {T : Tags} {h : Heap} (x : Two hp mp m N c W M T h) (hmk : m ≤ k) : Two hp mp k N c W M T h :=
  ⟨⟨x.1.o, x.1.x, ⟨x.1.k.li, x.1.k.hs.mono hmk, x.1.k.ts.mono hmk⟩, x.1.r, x.1.n, x.1.c⟩, x.2⟩
theorem u8At {F : Heap} {v : Value} {bs : List Int} (x : Sl 1 (IntR .u8) F v bs) {i : Nat} (hi : i < bs.length) : ∃ b p, iaV (some (none, 1)) v (.int .i64 i) = some (.pointer (some ⟨b, p, none⟩)) ∧ (∀ h', Ext F h' → cel h' b p = some (.int .u8 bs[i])) ∧ 0 ≤ bs[i] ∧ bs[i] ≤ 255 := by
  obtain ⟨b, o, c, i1, i2, i3, i4⟩ := x.at (k := .i64) (i := i) (by omega) (by omega)
  simp -implicitDefEqProofs only [Int.toNat_natCast] at i3 i4
  subst i3
  have hw := wf_u8 i4
  refine ⟨b, o, i1, fun h' e => ?_, hw.1, hw.2⟩
  have := (cels_get (cels_ext e i2)).2 0 (by simp)
  simpa using this
def WaI (T0 : Tags) (h0 : Heap) (hp mp i : Nat) (h' : Heap) : Prop := ∃ (T' : Tags) (W : Wd) (M : Tbl), Only U5 T0 h0 T' h' ∧ Two hp mp (8 * i) 3 small W M T' h'
set_option maxHeartbeats 16000000 in
theorem writeAlone_ok (xs : List OpD) (bs : List Int) {h : Heap} {v bv : Value} (x : Sl 7 OpR h v xs) (y : Sl 1 (IntR .u8) h bv bs) {K : Value → Heap → Prop} (hk : ∀ h', Ext h h' → K (.bool true) h') :
    callM P fn_doormanlaw15_WriteAlone #[v, bv] h K := by
  apply e_doormanlaw15_WriteAlone
  unfold d_doormanlaw15_WriteAlone
  have hlen := x.len
  have blen := y.len
  refine awake15_ok fun h1 e1 => ?_
  unfold d_doormanlaw15_WriteAlone_1
  by_cases h40 : xs.length ≤ 40
  rotate_left
  · have h40' : (40 : Int) < xs.length := by omega
    simp -implicitDefEqProofs [hlen, h40']
    exact awake15_ok fun h2 e2 => hk _ (e1.trans e2)
  have h40' : ¬ (40 : Int) < xs.length := by omega
  simp -implicitDefEqProofs [hlen, h40']
  unfold d_doormanlaw15_WriteAlone_2
  refine small_ok fun h2 e2 => ?_
  unfold d_doormanlaw15_WriteAlone_3
  have e02 := e1.trans e2
  refine hallNew_ok small smallW (wf_nil h2) g1 (fun hr T3 h3 hp o3 y3 => ?_) (fun hr => by simp [rightB, small] at hr)
  have hn3 : small.stripes.toNat = 3 := by decide
  rw [hn3] at y3
  unfold d_doormanlaw15_WriteAlone_4
  simp -implicitDefEqProofs only [exV_0, exV_1, ov_s]
  refine small_ok fun h4 e4 => ?_
  unfold d_doormanlaw15_WriteAlone_5
  have o4 : Only non T3 h3 T3 h4 := Only.of_ext o3.wf e4
  refine mnew_ok small smallW o4.wf g4 (fun _ T5 h5 mp o5 x5 => ?_) (fun hr => by simp [rightB, small] at hr)
  rw [hn3] at x5
  have d41 : Off (pre [4]) [1] := off_pre (g := []) (x := [4]) (y := [1]) (by simp) (by simp)
  have y5 := (y3.up o4 (Off.non _) (not_non _)).up o5 d41 (by simp [pre])
  have o25 : Only U5 (fun _ => []) h2 T5 h5 := ((o3.mono fun _ h => .inl (.inl h)).up o4 non_up).trans (o5.mono fun _ => .inr)
  have z5 : Two hp mp (8 * 0) 3 small (wd0 small 3) (tbl0 small 3) T5 h5 := ⟨⟨Only.refl o5.wf, ⟨fun _ => 0, wd0M y5 _⟩, wd0K smallW hr (by decide), fun j q h => by simp [wd0] at h, rfl, rfl⟩, x5⟩
  unfold d_doormanlaw15_WriteAlone_6
  have enil : ∀ p : Nat, binV .eql 4 true (ptr p) (.pointer none) = some (.bool false) := fun _ => rfl
  simp -implicitDefEqProofs [enil]
  unfold d_doormanlaw15_WriteAlone_7
  rw [seqM_eq]
  unfold d_doormanlaw15_WriteAlone_8
  have xF : Sl 7 OpR (fz T5 h5) v xs := by
    have : Sl 7 OpR (fz (fun _ => []) h2) v xs := by rw [fz_nil]; exact x.ext (@OpR.ext) e02
    exact this.ext (@OpR.ext) (o25.ext U5.nil)
  have yF : Sl 1 (IntR .u8) (fz T5 h5) bv bs := by
    have : Sl 1 (IntR .u8) (fz (fun _ => []) h2) bv bs := by rw [fz_nil]; exact y.ext (fun _ r => r) e02
    exact this.ext (fun _ r => r) (o25.ext U5.nil)
  refine loop_on [0, 1, 4, 5, 7] (fun s h' => ∃ i : Nat, WaI T5 h5 hp mp i h' ∧ s 9 = .int .i64 i ∧ i ≤ xs.length) (fun s _ => (xs.length - num (s 9)).toNat) ⟨0, ⟨T5, _, _, Only.refl o5.wf, z5⟩, rfl, by omega⟩ ?_
  rintro s h6 hf6 ⟨i, ⟨T6, W6, M6, o6, z6⟩, s9, hi⟩
  have s0 : s 0 = v := by simpa using hf6 0 (by simp)
  have s1 : s 1 = bv := by simpa using hf6 1 (by simp)
  have s4 : s 4 = .bool false := by simpa using hf6 4 (by simp)
  have s5 : s 5 = ptr hp := by simpa using hf6 5 (by simp)
  have s7 : s 7 = ptr mp := by simpa using hf6 7 (by simp)
  unfold d_doormanlaw15_WriteAlone_9
  simp -implicitDefEqProofs only [s0, hlen, s9, bin_lss, ov_s, cd_b]
  have kEnd : ∀ {T' h'}, Only U5 T5 h5 T' h' → K (.bool true) h' := fun o => hk _ (e02.trans (ext_of_only (o25.trans o) U5.nil))
  refine ⟨fun hc => ?_, fun hc => ?_⟩
  rotate_left
  · simp -implicitDefEqProofs
    exact kEnd o6
  have hlt : i < xs.length := by have : ((i : Int) < xs.length) := by simpa using hc
                                 omega
  have hw : IntKind.i64.wrap ((i : Int) + 1) = (i + 1 : Nat) := by rw [wrap64_id (by omega) (by omega)]; omega
  obtain ⟨b, p, u, i1, i2, i3, i4⟩ := opsAt xF hlt
  have eF6 : Ext (fz T5 h5) (fz T6 h6) := o6.ext U5.nil
  unfold d_doormanlaw15_WriteAlone_10
  rw [seqM_eq]
  unfold d_doormanlaw15_WriteAlone_11
  simp -implicitDefEqProofs only [s0, s9, i1, i2 _ (eF6.trans (fz_ext _ _)), ov_s]
  refine writing15_ok _ i3.one fun h7 e7 => ?_
  unfold d_doormanlaw15_WriteAlone_12
  have ou := i3.one
  have zcOp' : zc P ty_api_Op = some (opC ⟨0, ⟨#[]⟩, 0, 0, 0, 0, []⟩ (.slice none 0 0)).toArray := by kernel_rfl
  rw [zcOp']
  refine nw_st (by simp [opC]) (by simp [opC]) (by simp [opC, ou.1]) fun vb h8 n8 e8 c8 => ?_
  have c8 : h8 vb = some (.cells (opC (wrOp xs[i]) u).toArray ty_api_Op (0, 0)) := by simpa using c8
  have oa : ∀ h', h' vb = some (.cells (opC (wrOp xs[i]) u).toArray ty_api_Op (0, 0)) → ldV (some (some 7)) (ptr vb) h' = some (.agg (opC (wrOp xs[i]) u).toArray) := fun h' hc => by simp [ld_at hc, opC]
  simp -implicitDefEqProofs only [oa _ c8, ov_s]
  have e68 := e7.trans e8
  have uF8 : Sl 1 StrR h8 u xs[i].users := i3.ext (@StrR.ext) ((eF6.trans (fz_ext _ _)).trans e68)
  refine short_ok (wrOp xs[i]) uF8 fun h9 e9 => ?_
  have c9 := e9 _ _ c8
  have e69 := e68.trans e9
  have o69 : Only non T6 h6 T6 h9 := Only.of_ext z6.1.o.wf e69
  have o59 : Only U5 T5 h5 T6 h9 := o6.up o69 non_up
  unfold d_doormanlaw15_WriteAlone_13
  rw [shortB_wr]
  cases hsx : shortB xs[i] with
  | false =>
    simp -implicitDefEqProofs
    unfold d_doormanlaw15_WriteAlone_14
    simp -implicitDefEqProofs
    exact kEnd o59
  | true =>
  have lx : xs[i].users.length ≤ 20 := by simp [shortB] at hsx; exact hsx.2.1
  have z9 := z6.ext e69
  simp -implicitDefEqProofs
  unfold d_doormanlaw15_WriteAlone_15
  rw [seqM_eq]
  have tail : ∀ (s' : Env) (T : Tags) (h' : Heap) (W : Wd) (M : Tbl) (Q : Post), Only U5 T5 h5 T h' → Two hp mp (8 * i + 1) 3 small W M T h' → h' vb = some (.cells (opC (wrOp xs[i]) u).toArray ty_api_Op (0, 0)) → T vb = [] → s' 0 = v → s' 1 = bv → s' 4 = .bool false → s' 5 = ptr hp → s' 7 = ptr mp → s' 9 = .int .i64 i → s' 10 = ptr vb →
      (∀ s'' h'', s'' 0 = v → s'' 1 = bv → s'' 4 = .bool false → s'' 5 = ptr hp → s'' 7 = ptr mp → s'' 9 = .int .i64 i → WaI T5 h5 hp mp (i + 1) h'' → Q .normal [] s'' h'') → d_doormanlaw15_WriteAlone_21 s' h' [] Q := by
    intro s' T h' W M Q o z cb tb q0 q1 q4 q5 q7 q9 q10 hQ
    obtain ⟨j, hj⟩ : ∃ j, j = i % 8 := ⟨_, rfl⟩
    have hj8 : j < 8 := by omega
    have brem : binV .rem 2 true (.int .i64 i) (.int .i64 8) = some (.int .i64 j) := by
      have r : ((i : Int)).tmod 8 = (i % 8 : Nat) := by rw [Int.tmod_eq_emod_of_nonneg (by omega)]; simp
      have : ¬ (8 : Int) = 0 := by omega
      simp -implicitDefEqProofs only [binV, intV, if_true, if_neg this, r, hj]
    have uT : Sl 1 StrR (fz T h') u xs[i].users := i3.ext (@StrR.ext) (o.ext U5.nil)
    obtain ⟨X, hX⟩ : ∃ X, X = wrOp xs[i] := ⟨_, rfl⟩
    have Xw : OpW X := by rw [hX]; exact wrOp_w i4
    have Xu : X.users = xs[i].users := by rw [hX]; rfl
    have Xk : X.kind = 1 ∨ X.kind = 2 ∨ X.kind = 3 := by rw [hX]; exact wrOp_k _
    rw [← Xu] at uT
    rw [← hX] at cb oa
    unfold d_doormanlaw15_WriteAlone_21
    simp -implicitDefEqProofs only [q9, q10, q5, brem, oa _ cb, ov_s]
    refine aw_new z.1 (by omega) X Xw (by rw [Xu]; omega) uT fun Ta ha q a0 => ?_
    unfold d_doormanlaw15_WriteAlone_22
    rw [seqM_eq]
    unfold d_doormanlaw15_WriteAlone_23
    have wl : 1 ≤ wLen X ∧ wLen X ≤ 7 := by unfold wLen; split <;> omega
    refine loop_on [0, 1, 4, 5, 7, 9, 10, 11] (fun s h'' => ∃ T'', ∃ k : Nat, AwI T h' hp q j k (8 * i + 1) 3 small X M T'' h'' ∧ s 12 = .int .i64 k ∧ k ≤ wLen X) (fun s _ => (20 - num (s 12)).toNat) ⟨Ta, 0, a0, by simp, by omega⟩ ?_
    rintro r hb hfb ⟨Tb, k, a, r12, hkl⟩
    have r0 : r 0 = v := by simpa [q0] using hfb 0 (by simp)
    have r1 : r 1 = bv := by simpa [q1] using hfb 1 (by simp)
    have r4 : r 4 = .bool false := by simpa [q4] using hfb 4 (by simp)
    have r5 : r 5 = ptr hp := by simpa [q5] using hfb 5 (by simp)
    have r7 : r 7 = ptr mp := by simpa [q7] using hfb 7 (by simp)
    have r9 : r 9 = .int .i64 i := by simpa [q9] using hfb 9 (by simp)
    have r10 : r 10 = ptr vb := by simpa [q10] using hfb 10 (by simp)
    have r11 : r 11 = ptr q := by simpa using hfb 11 (by simp)
    have bb := a.o.see ⟨cb, tb⟩ UW.nil
    have hk20 : (k : Int) < 20 := by omega
    have hw1 : IntKind.i64.wrap ((k : Int) + 1) = (k + 1 : Nat) := by rw [wrap64_id (by omega) (by omega)]; omega
    obtain ⟨W', M', p', A', xm, hA, wk, aw, hps, hww, hn', hc'⟩ := a.e
    have wpr : WPR Tb hb [2, j] q p' := by rw [← hA]; exact xm.ps j _ aw.hp
    have hat := aw.at_
    have hdone : p'.done = decide (k = wLen X) := by
      unfold WP.done wLen at *
      rw [hat, Bool.eq_iff_iff]
      cases hbx : badB X <;> simp [hbx] at hkl ⊢ <;> (try split) <;> omega
    unfold d_doormanlaw15_WriteAlone_24
    simp -implicitDefEqProofs [r12, hk20, r11]
    refine wdone_ok wpr fun hc2 ec => ?_
    rw [hdone]
    have ac : AwI T h' hp q j k (8 * i + 1) 3 small X M Tb hc2 := by
      have oc : Only non Tb hb Tb hc2 := Only.of_ext a.o.wf ec
      exact ⟨a.o.up oc non_up, W', M', p', A', xm.ext a.o.wf ec, hA, wk, aw, hps, hww, hn', hc'⟩
    have bc := (ac.o.see ⟨cb, tb⟩ UW.nil)
    by_cases hkw : k = wLen X
    · simp -implicitDefEqProofs [hkw]
      subst hkw
      obtain ⟨Wf, pf, rw1, wp1, dn1, er1⟩ := aw_fin ac
      rw [bef_do Xk hj8] at er1 rw1
      have hd2 : (M.do_ j X).2 = repE pf.err := er1.symm
      unfold d_doormanlaw15_WriteAlone_30
      simp -implicitDefEqProofs [r9, r10, r11, brem, oa _ bc.1]
      refine wreply_ok rw1.o.wf wp1 fun hd ed => ?_
      rw [dn1]
      have ocd := Only.of_ext (U := non) rw1.o.wf ed
      have rwd := rw1.ext ed
      have bd := ocd.see bc (not_non _)
      have xd : MdR Tb hd [4] mp M := (z.2.up rw1.o dUW4 UW.nil).kp ocd.k (Off.non _) (not_non _)
      unfold d_doormanlaw15_WriteAlone_31
      simp -implicitDefEqProofs [r10, r7, oa _ bd.1]
      refine mdoW_ok X Xw Xk (by rw [Xu]; omega) hj8 (uT.ext (@StrR.ext) (rwd.o.ext UW.nil)) rwd.o.wf g4 xd z.1.k.ts (by omega) fun Tm hm om xmm => ?_
      rw [hd2]
      have bm := om.see bd (by simp [pre])
      show callM P fn_doormanref10_Same #[.agg (rplC (repE pf.err) (.slice none 0 0) (.slice none 0 0)).toArray, .agg (rplC (repE pf.err) (.slice none 0 0) (.slice none 0 0)).toArray] hm _
      refine repSame_ok _ _ (RpX.no _ rfl rfl) (RpX.no _ rfl rfl) (by simp [repE]) (by simp [repE]) fun hs esx => ?_
      have cbs := esx _ _ bm.1
      have bads : ∀ {hz : Heap} {Kz : Value → Heap → Prop}, Ext hs hz → (∀ h', Ext hz h' → Kz (.bool (badB X)) h') → callM P fn_model_Bad #[.agg (opC X u).toArray] hz Kz := fun {hz} {Kz} ez hkz => modBad_ok X Xw (uT.ext (@StrR.ext) (((rwd.o.ext UW.nil).trans (om.ext (by simp [pre]))).trans ((fz_ext _ _).trans (esx.trans ez)))) (by rw [Xu]; omega) hkz
      have hwl : ((wLen X : Nat) : Int) = if badB X then 1 else 7 := by unfold wLen; split <;> rfl
      unfold d_doormanlaw15_WriteAlone_32
      cases hbx : badB X
      · have hw7 : ((wLen X : Nat) : Int) = 7 := by rw [hwl, hbx]; rfl
        simp -implicitDefEqProofs [r12, hw7, r10, oa _ cbs]
        refine bads (Ext.refl _) fun hz ez => ?_
        rw [hbx]
        have ocz := Only.of_ext (U := non) om.wf (esx.trans ez)
        have zz : Two hp mp (8 * i + 1 + wLen X) 3 small Wf (M.do_ j X).1 Tm hz := ⟨(rwd.base om d4UW (by simp [pre])).base ocz (fun _ _ h => h) (not_non _), xmm.kp ocz.k (Off.non _) (not_non _)⟩
        have hzl := zz.1.hl
        have cbz := ez _ _ cbs
        have ouz : cel hz vb 1 = some (.string X.user) := by simp [cel_of cbz, opC]
        have hcz : Wf.H.c.stripes = 3 := by rw [zz.1.c]; rfl
        have hsl := stripeOf_lt (u := X.user) (n := 3) (by omega)
        obtain ⟨su, hsu⟩ : ∃ su : Nat, stripeOf X.user 3 = su := ⟨(stripeOf X.user 3).toNat, by omega⟩
        simp -implicitDefEqProofs [r5, r10, ouz]
        refine hstripe_ok X.user Xw.s1 hzl (by rw [hcz]; omega) ?_
        rw [hcz, hsu]
        have hfr := zz.1.free (s := su) (by omega)
        try simp
        refine hquiet_ok zz.1.o.wf hzl zz.1.k.hs (by omega) (by rw [zz.1.n]; omega) fun h20 e20 => ?_
        rw [hfr.quiet]
        have z20 := zz.ext e20
        have ou20 : cel h20 vb 1 = some (.string X.user) := by simp [cel_of (e20 _ _ cbz), opC]
        simp -implicitDefEqProofs [r5, r10, ou20]
        refine hstripe_ok X.user Xw.s1 z20.1.hl (by rw [hcz]; omega) ?_
        rw [hcz, hsu]
        try simp
        refine free_ok z20.1.hl (by rw [zz.1.n]; omega) fun h21 e21 => ?_
        rw [hfr.wh]
        have z21 := z20.ext e21
        simp -implicitDefEqProofs [r5, r7]
        refine now_ok z21.1.hl fun h22 e22 => ?_
        have z22 := z21.ext e22
        try simp
        refine mtime_ok z22.1.o.wf z22.2 fun h23 e23 => ?_
        have z23 := z22.ext e23
        rw [tmNe, zz.1.k.li.t]
        simp -implicitDefEqProofs [r5, r7]
        refine hstored_ok z23.1.o.wf z23.1.hl z23.1.k.hs (by omega) fun h24 e24 => ?_
        have z24 := z23.ext e24
        try simp
        refine mstored_ok z24.1.o.wf z24.2 z24.1.k.ts (by omega) fun h25 e25 => ?_
        have z25 := z24.ext e25
        rw [zz.1.stored]
        simp -implicitDefEqProofs
        unfold d_doormanlaw15_WriteAlone_34
        simp -implicitDefEqProofs
        have ofin : Only U5 T5 h5 Tm h25 := (((o.trans (rw1.o.mono fun _ => .inl)).up ocd non_up).trans (om.mono fun _ => .inr)).up (Only.of_ext (U := non) om.wf (((((esx.trans ez).trans e20).trans e21).trans ((e22.trans e23).trans e24)).trans e25)) non_up
        exact hQ _ _ (by simp [r0]) (by simp [r1]) (by simp [r4]) (by simp [r5]) (by simp [r7]) (by simp [r9]) ⟨Tm, Wf, _, ofin, z25.mono (by omega)⟩
      · have hw7 : ((wLen X : Nat) : Int) = 1 := by rw [hwl, hbx]; rfl
        simp -implicitDefEqProofs [r12, hw7, r10, oa _ cbs]
        refine bads (Ext.refl _) fun hz ez => ?_
        rw [hbx]
        have ocz := Only.of_ext (U := non) om.wf (esx.trans ez)
        have zz : Two hp mp (8 * i + 1 + wLen X) 3 small Wf (M.do_ j X).1 Tm hz := ⟨(rwd.base om d4UW (by simp [pre])).base ocz (fun _ _ h => h) (not_non _), xmm.kp ocz.k (Off.non _) (not_non _)⟩
        have hzl := zz.1.hl
        have cbz := ez _ _ cbs
        have ouz : cel hz vb 1 = some (.string X.user) := by simp [cel_of cbz, opC]
        have hcz : Wf.H.c.stripes = 3 := by rw [zz.1.c]; rfl
        have hsl := stripeOf_lt (u := X.user) (n := 3) (by omega)
        obtain ⟨su, hsu⟩ : ∃ su : Nat, stripeOf X.user 3 = su := ⟨(stripeOf X.user 3).toNat, by omega⟩
        simp -implicitDefEqProofs [r5, r10, ouz]
        refine hstripe_ok X.user Xw.s1 hzl (by rw [hcz]; omega) ?_
        rw [hcz, hsu]
        have hfr := zz.1.free (s := su) (by omega)
        try simp
        refine hquiet_ok zz.1.o.wf hzl zz.1.k.hs (by omega) (by rw [zz.1.n]; omega) fun h20 e20 => ?_
        rw [hfr.quiet]
        have z20 := zz.ext e20
        have ou20 : cel h20 vb 1 = some (.string X.user) := by simp [cel_of (e20 _ _ cbz), opC]
        simp -implicitDefEqProofs [r5, r10, ou20]
        refine hstripe_ok X.user Xw.s1 z20.1.hl (by rw [hcz]; omega) ?_
        rw [hcz, hsu]
        try simp
        refine free_ok z20.1.hl (by rw [zz.1.n]; omega) fun h21 e21 => ?_
        rw [hfr.wh]
        have z21 := z20.ext e21
        simp -implicitDefEqProofs [r5, r7]
        refine now_ok z21.1.hl fun h22 e22 => ?_
        have z22 := z21.ext e22
        try simp
        refine mtime_ok z22.1.o.wf z22.2 fun h23 e23 => ?_
        have z23 := z22.ext e23
        rw [tmNe, zz.1.k.li.t]
        simp -implicitDefEqProofs [r5, r7]
        refine hstored_ok z23.1.o.wf z23.1.hl z23.1.k.hs (by omega) fun h24 e24 => ?_
        have z24 := z23.ext e24
        try simp
        refine mstored_ok z24.1.o.wf z24.2 z24.1.k.ts (by omega) fun h25 e25 => ?_
        have z25 := z24.ext e25
        rw [zz.1.stored]
        simp -implicitDefEqProofs
        unfold d_doormanlaw15_WriteAlone_34
        simp -implicitDefEqProofs
        have ofin : Only U5 T5 h5 Tm h25 := (((o.trans (rw1.o.mono fun _ => .inl)).up ocd non_up).trans (om.mono fun _ => .inr)).up (Only.of_ext (U := non) om.wf (((((esx.trans ez).trans e20).trans e21).trans ((e22.trans e23).trans e24)).trans e25)) non_up
        exact hQ _ _ (by simp [r0]) (by simp [r1]) (by simp [r4]) (by simp [r5]) (by simp [r7]) (by simp [r9]) ⟨Tm, Wf, _, ofin, z25.mono (by omega)⟩
    · have h7 : k < 7 := by omega
      simp -implicitDefEqProofs [hkw]
      unfold d_doormanlaw15_WriteAlone_25
      simp -implicitDefEqProofs only [r11]
      have wprc : WPR Tb hc2 [2, j] q p' := wpr.kp (Only.of_ext (U := non) a.o.wf ec).k (Off.non _) (not_non _)
      refine wwaits_ok wprc ?_
      have hwt : (0 ≤ p'.waits) ↔ (k = 0 ∧ badB X = false) := by
        unfold WP.waits
        rw [aw.kk, wkOf_bad, hat]
        cases hbx : badB X
        · simp -implicitDefEqProofs [hbx]
          by_cases hk0 : k = 0
          · simp -implicitDefEqProofs [hk0] <;> omega
          · simp -implicitDefEqProofs [hk0] <;> omega
        · simp -implicitDefEqProofs [hbx]
      have bg : binV .geq 2 true (.int .i64 p'.waits) (.int .i64 0) = some (.bool (decide (0 ≤ p'.waits))) := by
        simp -implicitDefEqProofs only [binV, intV, if_true]
      unfold d_doormanlaw15_WriteAlone_26
      by_cases hk0 : k = 0
      · have hd0 : decide (0 ≤ p'.waits) = !badB X := by
          rw [Bool.eq_iff_iff]; simp [hwt, hk0]
        simp -implicitDefEqProofs [bg, r12, hk0, r10, oa _ bc.1]
        refine modBad_ok X Xw (uT.ext (@StrR.ext) ((ac.o.ext UW.nil).trans (fz_ext _ _))) (by rw [Xu]; omega) fun hd ed => ?_
        have oc : Only non Tb hc2 Tb hd := Only.of_ext ac.o.wf ed
        have ad : AwI T h' hp q j k (8 * i + 1) 3 small X M Tb hd := ⟨ac.o.up oc non_up, W', M', p', A', (xm.ext a.o.wf ec).ext ac.o.wf ed, hA, wk, aw, hps, hww, hn', hc'⟩
        rw [hd0]
        simp -implicitDefEqProofs
        unfold d_doormanlaw15_WriteAlone_28
        simp -implicitDefEqProofs only [r11, r5, r12]
        refine aw_step ad h7 (by omega) _ fun Te he ae => ?_
        unfold d_doormanlaw15_WriteAlone_29
        subst hk0
        simp -implicitDefEqProofs [r12, hw1, r0, r1, r4, r5, r7, r9, r10, r11, q0, q1, q4, q5, q7, q9, q10, -Int.natCast_add]
        exact ⟨⟨Te, 1, ae, rfl, by omega⟩, by decide⟩
      · have hd0 : decide (0 ≤ p'.waits) = false := by
          rw [decide_eq_false_iff_not, hwt]; exact fun h => hk0 h.1
        have hk0' : ¬ (k : Int) = 0 := by omega
        simp -implicitDefEqProofs [bg, r12, hk0, hd0]
        unfold d_doormanlaw15_WriteAlone_28
        simp -implicitDefEqProofs only [r11, r5, r12]
        refine aw_step ac h7 (by omega) _ fun Te he ae => ?_
        unfold d_doormanlaw15_WriteAlone_29
        simp -implicitDefEqProofs [r12, hw1, r0, r1, r4, r5, r7, r9, r10, r11, q0, q1, q4, q5, q7, q9, q10, -Int.natCast_add]
        exact ⟨⟨Te, k + 1, ae, rfl, by omega⟩, by omega⟩
  unfold d_doormanlaw15_WriteAlone_16
  simp -implicitDefEqProofs only [s1, blen, s9, bin_lss, ov_s, cd_b]
  have t9 : T6 vb = [] := by
    have n6 : h6 vb = none := by
      cases hh : h6 vb with
      | none => rfl
      | some ob => rw [e7 _ _ hh] at n8; cases n8
    exact z6.1.o.wf vb n6
  refine ⟨fun hc => ?_, fun hc => ?_⟩
  rotate_left
  · unfold d_doormanlaw15_WriteAlone_20
    simp -implicitDefEqProofs only [thenM_n]
    refine tail _ T6 h9 W6 M6 _ o59 (z9.mono (by omega)) c9 t9 (by simp [s0]) (by simp [s1]) (by simp [s4]) (by simp [s5]) (by simp [s7]) (by simp [s9]) (by simp) ?_
    intro s'' h'' q0 q1 q4 q5 q7 q9 J
    simp -implicitDefEqProofs [q0, q1, q4, q5, q7, q9, hw, s0, s1, s4, s5, s7, -Int.natCast_add]
    exact ⟨⟨i + 1, J, rfl, by omega⟩, by omega⟩
  · have hlb : i < bs.length := by have : ((i : Int) < bs.length) := by simpa using hc
                                   omega
    obtain ⟨ub, up, u1, u2, u3, u4⟩ := u8At yF hlb
    have hcv : cvV (some .u64) (.int .u8 bs[i]) = some (.int .u64 bs[i]) := by rw [cvV_i, wrapU_id (by omega) (by omega)]
    have hrem : binV .rem 2 true (.int .u64 bs[i]) (.int .u64 5) = some (.int .u64 (bs[i] % 5)) := by
      have : bs[i].tmod 5 = bs[i] % 5 := Int.tmod_eq_emod_of_nonneg (by omega)
      have h5 : ¬ (5 : Int) = 0 := by omega
      simp -implicitDefEqProofs only [binV, intV, if_true, if_neg h5, this]
    have hU : U64 (bs[i] % 5) := by unfold U64; omega
    unfold d_doormanlaw15_WriteAlone_17
    simp -implicitDefEqProofs only [s1, s9, u1, ov_s, ldV_c, u2 _ ((eF6.trans (fz_ext _ _)).trans e69), hcv, hrem, s5]
    refine rw_pass z9.1 (by omega) 9 _ hU fun T10 h10 W10 y10 => ?_
    have o610 := y10.o
    have b10 := o610.see ⟨c9, t9⟩ UW.nil
    have e610 : Ext (fz T6 h9) (fz T10 h10) := o610.ext UW.nil
    have eF10 : Ext (fz T5 h5) (fz T10 h10) := (eF6.trans (fz_of_ext e69)).trans e610
    unfold d_doormanlaw15_WriteAlone_18
    simp -implicitDefEqProofs only [s1, s9, u1, ov_s, ldV_c, u2 _ (eF10.trans (fz_ext _ _)), hcv, hrem, s7]
    refine mtick_ok _ hU o610.wf g4 (z9.2.up o610 dUW4 UW.nil) z9.1.k.ts.tn fun T11 h11 o11 x11 => ?_
    have b11 := o11.see b10 (by simp [pre])
    unfold d_doormanlaw15_WriteAlone_19
    simp -implicitDefEqProofs only [thenM_n]
    refine tail _ T11 h11 W10 _ _ ((o59.trans (o610.mono fun _ => .inl)).trans (o11.mono fun _ => .inr)) ⟨y10.base o11 d4UW (by simp [pre]), x11⟩ b11.1 b11.2 (by simp [s0]) (by simp [s1]) (by simp [s4]) (by simp [s5]) (by simp [s7]) (by simp [s9]) (by simp) ?_
    intro s'' h'' q0 q1 q4 q5 q7 q9 J
    simp -implicitDefEqProofs [q0, q1, q4, q5, q7, q9, hw, s0, s1, s4, s5, s7, -Int.natCast_add]
    exact ⟨⟨i + 1, J, rfl, by omega⟩, by omega⟩
end Go.Proofs.YtcnphhhcknhhaaaGreat
namespace Go.Proofs.YtcnphhhcknhhaaaGreat
open Go Go.Den
theorem writeAlone_row {xs : List OpD} {bs : List Int} {v bv : Value} {h : Heap} {K : Value → Heap → Prop} (hx : Sl 7 OpR h v xs) (hb : Sl 1 (IntR .u8) h bv bs) (hk : ∀ h', Ext h h' → K (.bool true) h') :
    callM P fn_doormanlaw15_WriteAlone #[v, bv] h K := writeAlone_ok xs bs hx hb hk
end Go.Proofs.YtcnphhhcknhhaaaGreat
