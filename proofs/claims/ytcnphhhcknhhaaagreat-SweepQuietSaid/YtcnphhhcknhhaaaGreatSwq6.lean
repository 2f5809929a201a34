/- Words, plain data and contracts of the Go functions that this claim reaches. No condition beyond the hypotheses that each theorem states. -/
import Derived.Test.YtcnphhhcknhhaaaGreatSwq5
set_option linter.unusedSimpArgs false
set_option linter.unusedVariables false
namespace Go.Proofs.YtcnphhhcknhhaaaGreat
open Go Go.Den Go.MapKept
set_option linter.unusedSimpArgs false
set_option linter.unusedVariables false
set_option maxRecDepth 20000
theorem bin_neqS (t : Nat) (c : Bool) (a b : ByteArray) : binV .neq t c (.string a) (.string b) = some (.bool (!decide (a = b))) := by
  simp -implicitDefEqProofs only [binV, strV]
  by_cases h : a = b
  · subst h; simp
  · have : ¬ a.toList = b.toList := fun e => h (str_inj e)
    simp -implicitDefEqProofs [h, this]
theorem take_eq_succ {α : Type} {xs ys : List α} {i : Nat} (h : xs.take i = ys.take i) (h1 : i < xs.length) (h2 : i < ys.length) (e : xs[i] = ys[i]) : xs.take (i + 1) = ys.take (i + 1) := by
  rw [List.take_succ_eq_append_getElem h1, List.take_succ_eq_append_getElem h2, h, e]
set_option maxHeartbeats 1000000 in
theorem eqStr_ok (xs ys : List ByteArray) {h : Heap} {v u : Value} (x : Sl 1 StrR h v xs) (y : Sl 1 StrR h u ys) (hl : xs.length < 1000000) {K : Value → Heap → Prop} (hk : K (.bool (decide (xs = ys))) h) : callM P fn_slices_Equal_string_string #[v, u] h K := by
  apply e_slices_Equal_string_string
  unfold d_slices_Equal_string_string
  have lx := x.len
  have ly := y.len
  by_cases hlen : xs.length = ys.length
  rotate_left
  · have hne : xs ≠ ys := fun e => hlen (by rw [e])
    have hi : ¬ (xs.length : Int) = ys.length := by omega
    simp -implicitDefEqProofs [lx, ly, hi]
    rw [decide_eq_false hne] at hk; exact hk
  · have hi : (xs.length : Int) = ys.length := by omega
    simp -implicitDefEqProofs [lx, ly, hi]
    unfold d_slices_Equal_string_string_1
    rw [seqM_eq]
    unfold d_slices_Equal_string_string_2
    simp -implicitDefEqProofs only [lx, ov_s]
    refine loop_on [0, 1, 4, 12] (fun s h' => h' = h ∧ ∃ i : Nat, i ≤ xs.length ∧ s 13 = .int .i64 i ∧ xs.take i = ys.take i) (fun s _ => (xs.length - num (s 13)).toNat) ⟨rfl, 0, by omega, rfl, by simp⟩ ?_
    rintro s h1 hf ⟨rfl, i, hi, s13, hT⟩
    have s0 : s 0 = v := by simpa using hf 0 (by simp)
    have s1 : s 1 = u := by simpa using hf 1 (by simp)
    have s4 : s 4 = .bool false := by simpa using hf 4 (by simp)
    have s12 : s 12 = .int .i64 xs.length := by simpa using hf 12 (by simp)
    unfold d_slices_Equal_string_string_3
    simp -implicitDefEqProofs only [s13, s12, bin_lss, ov_s, cd_b]
    refine ⟨fun hc => ?_, fun hc => ?_⟩
    · have hlt : i < xs.length := by have : ((i : Int) < xs.length) := by simpa using hc
                                     omega
      have hly : i < ys.length := by omega
      have hw : IntKind.i64.wrap ((i : Int) + 1) = (i + 1 : Nat) := by rw [wrap64_id (by omega) (by omega)]; omega
      obtain ⟨b, p, i1, i2⟩ := str_at x (k := .i64) hlt
      obtain ⟨b', p', j1, j2⟩ := str_at y (k := .i64) hly
      unfold d_slices_Equal_string_string_4
      simp -implicitDefEqProofs only [s0, s1, s13, i1, j1, ov_s, ldV_c, i2 _ (Ext.refl _), j2 _ (Ext.refl _), bin_neqS, cd_b]
      refine ⟨fun hd => ?_, fun hd => ?_⟩
      · have hne : xs[i] ≠ ys[i] := by simpa using hd
        have hne' : xs ≠ ys := fun e => hne (by subst e; rfl)
        unfold d_slices_Equal_string_string_5
        simp -implicitDefEqProofs [s4]
        rw [decide_eq_false hne'] at hk; exact hk
      · have he : xs[i] = ys[i] := by simpa using hd
        unfold d_slices_Equal_string_string_6
        simp -implicitDefEqProofs [s0, s1, s4, s12, s13, hw, -Int.natCast_add]
        exact ⟨⟨i + 1, by omega, rfl, take_eq_succ hT hlt hly he⟩, by omega⟩
    · have : i = xs.length := by have : ¬ ((i : Int) < xs.length) := by simpa using hc
                                 omega
      subst this
      have he : xs = ys := by
        rw [List.take_of_length_le (Nat.le_refl _), List.take_of_length_le (by omega)] at hT; exact hT
      simp -implicitDefEqProofs
      rw [decide_eq_true he] at hk; exact hk
theorem sessNe (p q : Sess) {x y : Operand} {K : Value → Prop} : pvM P (do eqGuard .neq ty_api_Session x y (.agg (sessC p).toArray) (.agg (sessC q).toArray); binOp .neq ty_api_Session (.agg (sessC p).toArray) (.agg (sessC q).toArray)) K = K (.bool (!decide (p = q))) := by
  simp -implicitDefEqProofs only [sessC]
  rw [pv_neq (d := 5) (b := (p.id == q.id) && ((p.st == q.st) && ((p.pr == q.pr) && ((p.un == q.un) && true)))) (by kernel_rfl) (by omega) (by kernel_rfl)]
  have : ((p.id == q.id) && ((p.st == q.st) && ((p.pr == q.pr) && ((p.un == q.un) && true)))) = decide (p = q) := by
    rw [Bool.eq_iff_iff]; cases p; cases q; simp
  rw [this]
set_option maxHeartbeats 1000000 in
theorem eqSess_ok (xs ys : List Sess) {h : Heap} {v u : Value} (x : Sl 4 SessR h v xs) (y : Sl 4 SessR h u ys) (hl : xs.length < 1000000) {K : Value → Heap → Prop} (hk : K (.bool (decide (xs = ys))) h) : callM P fn_slices_Equal_api_Session_api_Session #[v, u] h K := by
  apply e_slices_Equal_api_Session_api_Session
  unfold d_slices_Equal_api_Session_api_Session
  have lx := x.len
  have ly := y.len
  by_cases hlen : xs.length = ys.length
  rotate_left
  · have hne : xs ≠ ys := fun e => hlen (by rw [e])
    have hi : ¬ (xs.length : Int) = ys.length := by omega
    simp -implicitDefEqProofs [lx, ly, hi]
    rw [decide_eq_false hne] at hk; exact hk
  · have hi : (xs.length : Int) = ys.length := by omega
    simp -implicitDefEqProofs [lx, ly, hi]
    unfold d_slices_Equal_api_Session_api_Session_1
    rw [seqM_eq]
    unfold d_slices_Equal_api_Session_api_Session_2
    simp -implicitDefEqProofs only [lx, ov_s]
    refine loop_on [0, 1, 4, 12] (fun s h' => h' = h ∧ ∃ i : Nat, i ≤ xs.length ∧ s 13 = .int .i64 i ∧ xs.take i = ys.take i) (fun s _ => (xs.length - num (s 13)).toNat) ⟨rfl, 0, by omega, rfl, by simp⟩ ?_
    rintro s h1 hf ⟨rfl, i, hi, s13, hT⟩
    have s0 : s 0 = v := by simpa using hf 0 (by simp)
    have s1 : s 1 = u := by simpa using hf 1 (by simp)
    have s4 : s 4 = .bool false := by simpa using hf 4 (by simp)
    have s12 : s 12 = .int .i64 xs.length := by simpa using hf 12 (by simp)
    unfold d_slices_Equal_api_Session_api_Session_3
    simp -implicitDefEqProofs only [s13, s12, bin_lss, ov_s, cd_b]
    refine ⟨fun hc => ?_, fun hc => ?_⟩
    · have hlt : i < xs.length := by have : ((i : Int) < xs.length) := by simpa using hc
                                     omega
      have hly : i < ys.length := by omega
      have hw : IntKind.i64.wrap ((i : Int) + 1) = (i + 1 : Nat) := by rw [wrap64_id (by omega) (by omega)]; omega
      obtain ⟨b, p, i1, i2⟩ := sess_ld x (k := .i64) hlt
      obtain ⟨b', p', j1, j2⟩ := sess_ld y (k := .i64) hly
      unfold d_slices_Equal_api_Session_api_Session_4
      simp -implicitDefEqProofs only [s0, s1, s13, i1, j1, ov_s, ldV_n (i2 _ (Ext.refl _)), ldV_n (j2 _ (Ext.refl _)), sessNe, cd_b]
      refine ⟨fun hd => ?_, fun hd => ?_⟩
      · have hne : xs[i] ≠ ys[i] := by simpa using hd
        have hne' : xs ≠ ys := fun e => hne (by subst e; rfl)
        unfold d_slices_Equal_api_Session_api_Session_5
        simp -implicitDefEqProofs [s4]
        rw [decide_eq_false hne'] at hk; exact hk
      · have he : xs[i] = ys[i] := by simpa using hd
        unfold d_slices_Equal_api_Session_api_Session_6
        simp -implicitDefEqProofs [s0, s1, s4, s12, s13, hw, -Int.natCast_add]
        exact ⟨⟨i + 1, by omega, rfl, take_eq_succ hT hlt hly he⟩, by omega⟩
    · have : i = xs.length := by have : ¬ ((i : Int) < xs.length) := by simpa using hc
                                 omega
      subst this
      have he : xs = ys := by
        rw [List.take_of_length_le (Nat.le_refl _), List.take_of_length_le (by omega)] at hT; exact hT
      simp -implicitDefEqProofs
      rw [decide_eq_true he] at hk; exact hk
def KyJ (hB : Heap) (v3 : Nat) (b : Book) (l b' i : Nat) (h' : Heap) : Prop :=
  ∃ kv, h' v3 = some (.cells #[kv] ty_Sl_string (0, 0)) ∧ Row 1 ty_string h' kv i (((keysB b).take i).flatMap strC1) ∧ Ext (wo hB [v3]) h' ∧ ∀ r, rowOf kv = some r → r ≠ v3 ∧ r ≠ l ∧ r ≠ b' ∧ hB r = none
def KyC (hB : Heap) (v3 : Nat) (b : Book) (l b' i : Nat) (s2 : Env) (h' : Heap) : Prop := KyJ hB v3 b l b' i h' ∧ s2 3 = ptr v3 ∧ ∃ hi : i < b.length, s2 4 = .string b[i].1
theorem KyJ.keep {hB : Heap} {v3 : Nat} {b : Book} {l b' i : Nat} {h' h'' : Heap} (J : KyJ hB v3 b l b' i h') (hl' : hB l = none) (h3 : hB v3 ≠ none) (k : Keep (some l) h' h'') : KyJ hB v3 b l b' i h'' := by
  obtain ⟨kv, c, r, e, n⟩ := J
  refine ⟨kv, k _ _ c (fun hh => by cases hh; exact h3 hl'), r.of_at fun g hg => ?_, wo_keep e hl' k, n⟩
  obtain ⟨o, ho⟩ := r.lt g hg
  rw [ho]; exact k _ _ ho (fun hh => (n g hg).2.1 (by cases hh; rfl))
theorem zcSlStr : zc P ty_Sl_string = some #[.slice none 0 0] := by kernel_rfl
set_option maxHeartbeats 1000000 in
theorem keys_ok (b : Book) (hl : b.length < 1000000) {F h : Heap} (eF : Ext F h) {kw vw : Value} (x : BookR F kw vw b) {K : Value → Heap → Prop} (hk : ∀ v' h', Ext h h' → Sl 1 StrR h' v' (keysB b) → K v' h') : callM P fn_omap_Map_string_book_Entry_Keys #[.agg #[kw, vw]] h K := by
  apply e_omap_Map_string_book_Entry_Keys
  unfold d_omap_Map_string_book_Entry_Keys
  refine nw_agg fun v1 h1 n1 e1 c1 => ?_
  rw [zcSlStr]
  refine nw_intro fun v3 h3 n3 e3 c3 => ?_
  have c1 := e3 _ _ c1
  have e0 := e1.trans e3
  have n3' : h v3 = none := fresh_of e1 n3
  have o1 := x.1.one
  have o2 := x.2.1.one
  rw [seqM_eq]
  unfold d_omap_Map_string_book_Entry_Keys_1
  simp -implicitDefEqProofs [ld_at c1, cel_of c1, stm_at c1, stm_upd, ld_same, cel_same, over, o1.1, o2.1]
  refine all_ok b (eF.trans e0) x fun pA hB nA eA cA => ?_
  have nA3 : v3 ≠ pA := ne_fresh c3 nA
  have c3 := eA _ _ c3
  have h3B : hB v3 ≠ none := by rw [c3]; simp
  have e0B := e0.trans eA
  obtain ⟨Lv, l1, l2⟩ := x.2.1.els EntR.one
  simp -implicitDefEqProofs only [List.length_map] at l1
  have hF3 : F v3 = none := by
    cases hh : F v3 with
    | none => rfl
    | some o => rw [eF _ _ hh] at n3'; cases n3'
  have F1 : Ext F (wo hB [v3]) := wo_ext (eF.trans e0B) (by simpa using hF3)
  have hlx : (allX b Lv).length = b.length := by simp [allX]
  have klen : (keysB b).length = b.length := by simp [keysB]
  unfold d_omap_Map_string_book_Entry_Keys_2
  refine rf_go good mixed rfl (by kernel_rfl) (all_it b (hA := wo hB [v3]) (p := pA) (kw := kw) (vw := vw) (Lv := Lv) (by rw [wo_out (by simpa using Ne.symm nA3)]; exact cA) (x.ext F1) (l1.ext F1) l2.size (by simpa using l2.len))
    (fun l b' i h' => KyJ hB v3 b l b' i h') (fun _ _ _ _ => False) (fun l b' i s2 h' => KyC hB v3 b l b' i s2 h') ?_ ?_ ?_ (fun _ _ _ _ _ _ _ h _ => h) ?_ ?_ ?_ ?_ ?_ (fun _ _ _ _ _ _ _ h => h.elim) (fun _ _ _ _ _ _ _ _ h => h.elim)
  · intro l b' hl' hb'
    exact ⟨_, c3, by simpa using (Rf.nil (sz := 1) (e := ty_string) (Ext.refl hB)).row, fun q o hq => (wo_get hq).2, fun r hr => by simp [rowOf] at hr⟩
  · intro l b' i h' J; obtain ⟨kv, _, _, e, _⟩ := J; exact e
  · intro l b' hl' hb' i h' h'' J k
    exact J.keep hl' h3B k
  · rintro l b' i s2 ha hb hl' hb' ⟨J, s3, hi, s4⟩ k
    exact ⟨J.keep hl' h3B k, s3, hi, s4⟩
  · intro i hi; simp [allX]
  · rintro i hi l b' h2 hl' hb' ⟨ol, hol⟩ ⟨ob, hob⟩ J
    rw [ea_omap_Map_string_book_Entry_Keys_0]
    unfold da_omap_Map_string_book_Entry_Keys_0
    obtain ⟨hib, sv, hx, hsv, hsn⟩ := allX_at l2 hi
    rw [hx]
    simp -implicitDefEqProofs
    exact ⟨J, by simp, hib, by simp⟩
  · rintro i hi l b' s2 h3 hl' hb' ⟨ol, hol⟩ ⟨ob, hob⟩ ⟨⟨kv, cv, r, e, nr⟩, s3, hib, s4⟩
    rw [eb_omap_Map_string_book_Entry_Keys_0]
    unfold db_omap_Map_string_book_Entry_Keys_0
    simp -implicitDefEqProofs [s3, s4, ld_at cv, cel_of cv, stm_at cv, stm_upd, ld_same, cel_same, over]
    refine app_one (x := .string b[i].1) bsStr unSlStr apStr (by omega) (by simp) (by simp) r (by unfold maxLen; omega) (by omega) (by omega) fun a kv' h4 r4 k4 ha => ?_
    have hl3 : l ≠ v3 := fun hh => by subst hh; rw [hl'] at c3; cases c3
    have hb3 : b' ≠ v3 := fun hh => by subst hh; rw [hb'] at c3; cases c3
    have cv4 : h4 v3 = some (.cells #[kv] ty_Sl_string (0, 0)) := k4 _ _ cv (fun hh => (nr v3 hh.symm).1 rfl)
    have hol4 : h4 l = some ol := k4 _ _ hol (fun hh => (nr l hh.symm).2.1 rfl)
    have hob4 : h4 b' = some ob := k4 _ _ hob (fun hh => (nr b' hh.symm).2.2.1 rfl)
    have nr' : ∀ g, rowOf kv' = some g → g ≠ v3 ∧ g ≠ l ∧ g ≠ b' ∧ hB g = none := fun g hg => by
      rcases ha with ha | ⟨j, ha, hj⟩
      · exact nr g (by rw [← ha]; exact hg)
      · rw [ha] at hg; cases hg
        refine ⟨fun hh => ?_, fun hh => ?_, fun hh => ?_, ?_⟩
        · subst hh; rw [cv] at hj; cases hj
        · subst hh; rw [hol] at hj; cases hj
        · subst hh; rw [hob] at hj; cases hj
        · by_cases hg3 : g = v3
          · subst hg3; rw [cv] at hj; cases hj
          · cases hh : hB g with
            | none => rfl
            | some o =>
              have := e g o (by rw [wo_out (by simpa using hg3)]; exact hh)
              rw [this] at hj; cases hj
    have okv : kv'.cells = #[kv'] := r4.one.2
    simp -implicitDefEqProofs [ld_at cv4, cel_of cv4, stm_at cv4, stm_upd, ld_same, cel_same, over, okv, r4.one.1]
    refine ⟨by rw [upd_ne hl3, hol4, hol], by rw [upd_ne hb3, hob4, hob], kv', upd_same' _ _ _, ?_, wo_upd ?_ (by simp), nr'⟩
    · have : (keysB b).take (i + 1) = (keysB b).take i ++ [b[i].1] := by
        rw [List.take_succ_eq_append_getElem (by omega)]; simp [keysB]
      rw [this, List.flatMap_append]
      exact (by simpa [strC1] using r4 : Row 1 ty_string h4 kv' (i + 1) _).of_at fun g hg => upd_ne (nr' g hg).1
    · intro q o hq
      have hqB := wo_get hq
      have := e q o hq
      exact k4 q o this fun hh => by rw [(nr q hh.symm).2.2.2] at hqB; cases hqB.2
  · intro l b' h' hl' hlb hb' hd J
    rw [hlx] at J
    obtain ⟨kv, cv, r, e, nr⟩ := J
    rw [List.take_of_length_le (by omega)] at r
    have nb3 : v3 ≠ b' := fun hh => by subst hh; rw [hb'] at c3; cases c3
    simp -implicitDefEqProofs only [blkM_n, thenM_n]
    simp -implicitDefEqProofs [ld_at cv, cel_of cv, stm_at cv, stm_upd, ld_same, cel_same, over, hd, ld_skip nb3, cel_skip nb3]
    refine hk _ _ (ext_upd (o := .deferred none) (fresh_of e0B hb') (ext_wo e0B (by simpa using n3') e)) ?_
    have r' : Row 1 ty_string (upd h' b' (.deferred none)) kv (keysB b).length ((keysB b).flatMap strC1) := by
      rw [klen]; exact r.of_at fun g hg => upd_ne (nr g hg).2.2.1
    exact strR_of (Row.slE (enc := strC1) (R := StrE) (fun _ => rfl) (fun _ => rfl) r') (str_sizes x.1)
end Go.Proofs.YtcnphhhcknhhaaaGreat
namespace Go.Proofs.YtcnphhhcknhhaaaGreat
open Go Go.Den Go.MapKept
set_option linter.unusedSimpArgs false
set_option linter.unusedVariables false
set_option maxRecDepth 20000
def saE (a b : Book) : Prop := ∀ x ∈ a, x.2 = entOf b x.1
theorem book_eq {a b : Book} (so : SrtK (keysB a)) (so' : SrtK (keysB b)) (hk : keysB a = keysB b) : a = b ↔ saE a b := by
  constructor
  · rintro rfl x hx
    obtain ⟨i, hi, rfl⟩ := List.getElem_of_mem hx
    exact (entOf_mem so hi).symm
  · intro h
    have hl : a.length = b.length := by have := congrArg List.length hk; simpa [keysB] using this
    refine List.ext_getElem hl fun i h1 h2 => ?_
    have hki : a[i].1 = b[i].1 := by
      have : (keysB a)[i]'(by simpa [keysB] using h1) = (keysB b)[i]'(by simpa [keysB] using h2) := by simp only [hk]
      simpa [keysB] using this
    have he := h a[i] (List.getElem_mem h1)
    rw [hki, entOf_mem so' h2] at he
    exact Prod.ext hki he
/-- The rounds. -/
def SaJ (hB : Heap) (v5 : Nat) (a b : Book) (i : Nat) (h' : Heap) : Prop := Ext (wo hB [v5]) h' ∧ h' v5 = some (.cells #[.bool false] ty_bool (0, 0)) ∧ ∀ x ∈ a.take i, x.2 = entOf b x.1
def SaS (hB : Heap) (v5 : Nat) (a b : Book) (h' : Heap) : Prop := Ext (wo hB [v5]) h' ∧ h' v5 = some (.cells #[.bool false] ty_bool (0, 0)) ∧ ¬ saE a b
def SaC (hB F : Heap) (v3 v5 : Nat) (a b : Book) (l i : Nat) (s2 : Env) (h' : Heap) : Prop :=
  SaJ hB v5 a b i h' ∧ s2 3 = ptr v3 ∧ s2 4 = ptr v5 ∧ ∃ (hi : i < a.length) (xb : Nat) (sv : Value), s2 5 = .string a[i].1 ∧ s2 6 = ptr xb ∧ xb ≠ l ∧ xb ≠ v5 ∧ h' xb = some (.cells (sv :: presC a[i].2.told).toArray ty_book_Entry (0, 0)) ∧ Sl 4 SessR F sv a[i].2.ss
theorem tgBool4 : tagg P 4 = some none := by kernel_rfl
theorem zcBool : zc P ty_bool = some #[.bool false] := by kernel_rfl
set_option maxHeartbeats 4000000 in
theorem same_ok (a b : Book) (so : SrtK (keysB a)) (so' : SrtK (keysB b)) (hl : a.length < 1000000) (hlb : b.length < 1000000) (hsn : ∀ x ∈ a, x.2.ss.length < 1000000) {F h : Heap} (eF : Ext F h) {kw vw kw' vw' : Value} (x : BookR F kw vw a) (y : BookR F kw' vw' b) {K : Value → Heap → Prop}
    (hk : ∀ h', Ext h h' → K (.bool (decide (a = b))) h') : callM P fn_book_Same #[.agg #[kw, vw], .agg #[kw', vw']] h K := by
  apply e_book_Same
  unfold d_book_Same
  refine nw_agg fun v1 h1 n1 e1 c1 => ?_
  refine nw_agg fun v3 h3 n3 e3 c3 => ?_
  rw [zcBool]
  refine nw_intro fun v5 h5 n5 e5 c5 => ?_
  have c1 := e5 _ _ (e3 _ _ c1)
  have c3 := e5 _ _ c3
  have e0 := (e1.trans e3).trans e5
  have n5' : h v5 = none := fresh_of (e1.trans e3) n5
  have o1 := x.1.one
  have o2 := x.2.1.one
  have o3 := y.1.one
  have o4 := y.2.1.one
  have hag3 : ∀ h', h' v3 = some (.cells #[kw', vw'] ty_omap_Map_string_doorman_book_Entry (0, 0)) → ldV (some (some 2)) (ptr v3) h' = some (.agg #[kw', vw']) := fun h' c => by simp [ld_at c]
  have hag1 : ∀ h', h' v1 = some (.cells #[kw, vw] ty_omap_Map_string_doorman_book_Entry (0, 0)) → ldV (some (some 2)) (ptr v1) h' = some (.agg #[kw, vw]) := fun h' c => by simp [ld_at c]
  simp -implicitDefEqProofs only [hag1 _ c1, hag3 _ c3, ov_s]
  refine keys_ok a hl (eF.trans e0) x fun ka h6 e6 xa => ?_
  have c1 := e6 _ _ c1
  have c3 := e6 _ _ c3
  have c5 := e6 _ _ c5
  have e0 := e0.trans e6
  unfold d_book_Same_1
  simp -implicitDefEqProofs only [hag3 _ c3, true_and]
  refine keys_ok b hlb (eF.trans e0) y fun kB h7 e7 xb => ?_
  have c1 := e7 _ _ c1
  have c3 := e7 _ _ c3
  have c5 := e7 _ _ c5
  have e0 := e0.trans e7
  refine eqStr_ok (keysB a) (keysB b) (xa.ext (@StrR.ext) e7) xb (by simpa [keysB] using hl) ?_
  unfold d_book_Same_2
  by_cases hkk : keysB a = keysB b
  rotate_left
  · have hne : a ≠ b := fun e => hkk (by rw [e])
    have w5 : Ext h (upd h7 v5 (.cells #[.bool false] ty_bool (0, 0))) := ext_upd n5' e0
    simp -implicitDefEqProofs [hkk, ld_at c5, cel_of c5, stm_at c5, stm_upd, ld_same, cel_same, over]
    refine kb (hk _ w5) (by simp [hne])
  have hbe := book_eq so so' hkk
  simp -implicitDefEqProofs [hkk]
  unfold d_book_Same_3
  rw [seqM_eq]
  unfold d_book_Same_4
  simp -implicitDefEqProofs only [hag1 _ c1, ov_s]
  refine all_ok a (eF.trans e0) x fun pA hB nA eA cA => ?_
  have nA5 : v5 ≠ pA := ne_fresh c5 nA
  have c3 := eA _ _ c3
  have c5 := eA _ _ c5
  have e0B := e0.trans eA
  have n35 : v3 ≠ v5 := fun hh => by subst hh; rw [c3] at c5; cases c5
  have hv3 : wo hB [v5] v3 = some (.cells #[kw', vw'] ty_omap_Map_string_doorman_book_Entry (0, 0)) := by rw [wo_out (by simpa using n35)]; exact c3
  obtain ⟨Lv, l1, l2⟩ := x.2.1.els EntR.one
  simp -implicitDefEqProofs only [List.length_map] at l1
  have hF5 : F v5 = none := by
    cases hh : F v5 with
    | none => rfl
    | some o => rw [eF _ _ hh] at n5'; cases n5'
  have F1 : Ext F (wo hB [v5]) := wo_ext (eF.trans e0B) (by simpa using hF5)
  have hlx : (allX a Lv).length = a.length := by simp [allX]
  unfold d_book_Same_5
  refine rf_go good mixed rfl (by kernel_rfl) (all_it a (hA := wo hB [v5]) (p := pA) (kw := kw) (vw := vw) (Lv := Lv) (by rw [wo_out (by simpa using Ne.symm nA5)]; exact cA) (x.ext F1) (l1.ext F1) l2.size (by simpa using l2.len))
    (fun l b' i h' => SaJ hB v5 a b i h') (fun _ _ e h' => e = .ret ∧ SaS hB v5 a b h') (fun l b' i s2 h' => SaC hB F v3 v5 a b l i s2 h') ?_ ?_ ?_ ?_ ?_ ?_ ?_ ?_ ?_ ?_ ?_
  · intro l b' hl' hb'
    exact ⟨fun q o hq => (wo_get hq).2, c5, by simp⟩
  · intro l b' i h' J; exact J.1
  · intro l b' hl' hb' i h' h'' J k
    exact ⟨wo_keep J.1 hl' k, k _ _ J.2.1 (fun hh => by cases hh; rw [hl'] at c5; cases c5), J.2.2⟩
  · rintro l b' hl' hb' e h' h'' ⟨rfl, J⟩ k
    exact ⟨rfl, wo_keep J.1 hl' k, k _ _ J.2.1 (fun hh => by cases hh; rw [hl'] at c5; cases c5), J.2.2⟩
  · rintro l b' i s2 ha hb hl' hb' ⟨J, s3, s4, hi, xb, sv, s5, s6, nx, nx5, cx, sx⟩ k
    exact ⟨⟨wo_keep J.1 hl' k, k _ _ J.2.1 (fun hh => by cases hh; rw [hl'] at c5; cases c5), J.2.2⟩, s3, s4, hi, xb, sv, s5, s6, nx, nx5, k _ _ cx (fun hh => nx (by cases hh; rfl)), sx⟩
  · intro i hi; simp [allX]
  · rintro i hi l b' h2 hl' hb' ⟨ol, hol⟩ ⟨ob, hob⟩ J
    rw [ea_book_Same_0]
    unfold da_book_Same_0
    rw [zcEnt]
    obtain ⟨hib, sv, hx, hsv, hsn'⟩ := allX_at l2 hi
    rw [hx]
    have hso := hsv.one
    simp -implicitDefEqProofs
    refine nw_st rfl (by simp [presC]) (by simp [presC, hso.1]) fun xb h4 n4 e4 c4 => ?_
    refine ⟨⟨⟨J.1.trans e4, e4 _ _ J.2.1, J.2.2⟩, by simp, by simp, hib, xb, sv, by simp, by simp, fun hh => (by subst hh; rw [hol] at n4; cases n4), fun hh => (by subst hh; rw [J.2.1] at n4; cases n4), ?_, hsv⟩, by rw [hol, e4 _ _ hol], by rw [hob, e4 _ _ hob]⟩
    simpa using c4
  · rintro i hi l b' s2 h3 hl' hb' ⟨ol, hol⟩ ⟨ob, hob⟩ ⟨J, s3, s4, hib, xb, sv, s5, s6, nx, nx5, cx, sx⟩
    rw [eb_book_Same_0]
    unfold db_book_Same_0
    have c3' := J.1 _ _ hv3
    simp -implicitDefEqProofs only [s3, s5, hag3 _ c3', ov_s]
    refine get_ok b so' a[i].1 (F1.trans J.1) y hlb fun h8 sv' e8 xs' xn' => ?_
    have cx := e8 _ _ cx
    have c58 := e8 _ _ J.2.1
    have e38 := J.1.trans e8
    simp -implicitDefEqProofs only [exV_0, exV_1, ov_s, zcEnt]
    have hso' := xs'.one
    have hso := sx.one
    refine nw_st rfl (by simp [presC]) (by simp [presC, hso'.1]) fun yb h9 n9 e9 c9 => ?_
    have cx := e9 _ _ cx
    have c59 := e9 _ _ c58
    have e39 := e38.trans e9
    have hol9 : h9 l = some ol := e9 _ _ (e8 _ _ hol)
    have hob9 : h9 b' = some ob := e9 _ _ (e8 _ _ hob)
    simp -implicitDefEqProofs only [presC] at cx c9
    simp -implicitDefEqProofs [s6, ld_at cx, cel_of cx, stm_at cx, ld_at c9, cel_of c9, stm_at c9, stm_upd, ld_same, cel_same, over, presNe]
    have hl5 : l ≠ v5 := fun hh => by subst hh; rw [hl'] at c5; cases c5
    have hb5 : b' ≠ v5 := fun hh => by subst hh; rw [hb'] at c5; cases c5
    have bad : a[i].2 ≠ entOf b a[i].1 → ∀ h36, Ext h9 h36 → (upd h36 v5 (.cells #[.bool false] ty_bool (0, 0))) l = h3 l ∧ (upd h36 v5 (.cells #[.bool false] ty_bool (0, 0))) b' = h3 b' ∧ SaS hB v5 a b (upd h36 v5 (.cells #[.bool false] ty_bool (0, 0))) := fun hn h36 e36 =>
      ⟨by rw [upd_ne hl5, e36 _ _ hol9, hol], by rw [upd_ne hb5, e36 _ _ hob9, hob], wo_upd (e39.trans e36) (by simp), upd_same' _ _ _, fun sa => hn (sa _ (List.getElem_mem hib))⟩
    by_cases ht : a[i].2.told = (entOf b a[i].1).told
    · simp -implicitDefEqProofs [ht, ld_at cx, cel_of cx, stm_at cx, ld_at c9, cel_of c9, stm_at c9, stm_upd, ld_same, cel_same, over]
      refine eqSess_ok _ _ (sx.ext (@SessR.ext) (F1.trans e39)) (xs'.ext (@SessR.ext) (F1.trans e39)) (hsn _ (List.getElem_mem hib)) ?_
      by_cases hs : a[i].2.ss = (entOf b a[i].1).ss
      · have he : a[i].2 = entOf b a[i].1 := by
          cases h1 : a[i].2; cases h2 : entOf b a[i].1
          rw [h1, h2] at hs ht; simp_all
        simp -implicitDefEqProofs [hs]
        refine ⟨by rw [hol9, hol], by rw [hob9, hob], e39, c59, fun z hz => ?_⟩
        rw [List.take_succ_eq_append_getElem hib] at hz
        rcases List.mem_append.1 hz with hz | hz
        · exact J.2.2 z hz
        · rw [List.mem_singleton.1 hz]; exact he
      · simp -implicitDefEqProofs [hs, s4, ld_at c59, cel_of c59, stm_at c59, stm_upd, ld_same, cel_same, over]
        exact bad (fun e => hs (by rw [e])) _ (Ext.refl _)
    · simp -implicitDefEqProofs [ht, s4, ld_at c59, cel_of c59, stm_at c59, stm_upd, ld_same, cel_same, over]
      exact bad (fun e => ht (by rw [e])) _ (Ext.refl _)
  · intro l b' h' hl' hne hb' hd J
    rw [hlx] at J
    have hsa : a = b := hbe.2 fun z hz => J.2.2 z (by rw [List.take_of_length_le (Nat.le_refl _)]; exact hz)
    have nb5 : v5 ≠ b' := fun hh => by subst hh; rw [hb'] at c5; cases c5
    have cv := J.2.1
    simp -implicitDefEqProofs only [blkM_n, thenM_n]
    simp -implicitDefEqProofs [ld_at cv, cel_of cv, stm_at cv, stm_upd, ld_same, cel_same, over, hd, ld_skip nb5, cel_skip nb5, tgBool4, upd_ne (Ne.symm nb5)]
    refine kb (hk _ (ext_upd (o := .deferred none) (fresh_of e0B hb') (ext_upd (o := .cells #[.bool true] ty_bool (0, 0)) n5' (ext_wo e0B (by simpa using n5') J.1)))) (by simp [hsa])
  · rintro l b' h' hl' hne hb' hd ⟨-, J⟩
    have nb5 : v5 ≠ b' := fun hh => by subst hh; rw [hb'] at c5; cases c5
    have cv := J.2.1
    simp -implicitDefEqProofs [ld_at cv, cel_of cv, stm_at cv, stm_upd, ld_same, cel_same, over, hd, ld_skip nb5, cel_skip nb5, tgBool4]
    refine kb (hk _ (ext_upd (o := .deferred none) (fresh_of e0B hb') (ext_wo e0B (by simpa using n5') J.1))) (by rw [decide_eq_false (fun e => J.2.2 (hbe.1 e))])
  · rintro id l b' h' hl' hne hb' hd ⟨h, -⟩
    cases h
set_option maxHeartbeats 1000000 in
theorem hquiet_ok {T : Tags} {h : Heap} {g : Tag} {p s m : Nat} {H : Hall} (w : Wf T h) (x : HallR T h g p H) (hs : HS m H) (hm : m ≤ 100000) (hlt : s < H.n) {K : Value → Heap → Prop} (hk : ∀ h', Ext h h' → K (.bool (H.quiet s)) h') : callM P fn_hall_Hall_Quiet #[ptr p, .int .i64 s] h K := by
  apply e_hall_Hall_Quiet
  unfold d_hall_Hall_Quiet
  obtain ⟨sv, av, Y, x⟩ := x
  have cp := x.hp
  simp -implicitDefEqProofs only [hallC] at cp
  obtain ⟨b, ob, rb, hb1, tb, ia, l1, l2, l3, l4, l5, l6⟩ := x.lds (s := s) (k := .i64) hlt
  have hsr := x.sr s hlt
  have st := hs.st s hlt
  have u1 := hsr.1.1.one
  have u2 := hsr.1.2.1.one
  have u3 := hsr.2.1.1.one
  have u4 := hsr.2.1.2.1.one
  simp -implicitDefEqProofs [ld_at cp, cel_of cp, stm_at cp, stm_upd, ld_same, cel_same, over]
  rw [ia, zcStripe]
  simp -implicitDefEqProofs only [strC] at l6
  simp -implicitDefEqProofs only [ov_s, l6]
  refine nw_st (by simp) (by simp) (by simp [u1.1, u2.1, u3.1, u4.1]) fun yb h2 n2 e2 c2 => ?_
  simp -implicitDefEqProofs only [cells_agg] at c2
  simp -implicitDefEqProofs [ld_at c2, cel_of c2, stm_at c2, stm_upd, ld_same, cel_same, over]
  refine writing_ok _ _ st.wr.1 fun h3 e3 => ?_
  have c3 := e3 _ _ c2
  have e0 := e2.trans e3
  unfold d_hall_Hall_Quiet_1
  cases hw : wrt (H.ss s).v with
  | true =>
    simp -implicitDefEqProofs
    refine kb (hk _ e0) (by simp [Hall.quiet, hw])
  | false =>
    simp -implicitDefEqProofs [ld_at c3, cel_of c3, stm_at c3, stm_upd, ld_same, cel_same, over]
    refine same_ok _ _ st.sn.bw.so st.bk.bw.so (by have := st.sn.bl; omega) (by have := st.bk.bl; omega) (fun y hy => by have := st.sn.bn y hy; omega) ((fz_ext T h).trans e0) hsr.1 hsr.2.1 fun h4 e4 => ?_
    refine kb (hk _ (e0.trans e4)) (by simp [Hall.quiet, hw])
end Go.Proofs.YtcnphhhcknhhaaaGreat
namespace Go.Den
open Go
set_option linter.unusedVariables false
set_option linter.unusedSimpArgs false
def AR (W : Wd) (i : Nat) : Prop := ∀ j q, j ≠ i → W.ps j = some q → ∀ s, ¬ q.holds s
def wkOf (x : OpD) : WK := if badB x then .bad else .op x
theorem wkOf_bad (x : OpD) : (wkOf x).isBad = badB x := by unfold wkOf; split <;> simp_all [WK.isBad]
def wPl (x : OpD) (k : Nat) : Bool := if badB x then decide (0 < k) else decide (2 < k)
structure AW (i k : Nat) (W : Wd) (M M0 : Tbl) (x : OpD) (p : WP) : Prop where
  hp : W.ps i = some (.w p)
  ar : AR W i
  kk : p.k = wkOf x
  at_ : p.at_ = if badB x then (if k = 0 then 0 else 7) else k
  m : M = if wPl x k then ((wkOf x).bef p.s M0).1 else M0
  po : WO p W.H (if wPl x k then ((wkOf x).bef p.s M0).2 else rep0)
theorem AR.step {W : Wd} {i : Nat} (x : AR W i) (n : Int) : AR (W.step i n) i := fun j q hj hq => by
  unfold Wd.step at hq
  split at hq
  · simp only [bset_ne hj] at hq; exact x j q hj hq
  · exact x j q hj hq
theorem AW.en {i k : Nat} {W : Wd} {M M0 : Tbl} {x : OpD} {p : WP} (a : AW i k W M M0 x p) (li : LI W M) (hk : k < 7) : p.enabled W.H = true ↔ (badB x = true → k = 0) := by
  have hg := (li.pa i _ a.hp).1
  have hat := a.at_
  unfold WP.enabled WP.done WP.waits
  rw [a.kk, wkOf_bad]
  by_cases hb : badB x = true
  · by_cases h0 : k = 0
    · simp [hb, h0, hat]
    · simp [hb, h0, hat]
  · have hb : badB x = false := by simpa using hb
    simp only [hb, Bool.false_eq_true, if_false] at hat
    simp only [hb, Bool.false_eq_true, false_or, false_implies, iff_true]
    by_cases h0 : 0 < p.at_
    · simp [h0]; omega
    · have hf : (W.H.ss p.s).who = 0 := (li.free_iff hg.s).2 fun j q hq hh => by
        by_cases hj : j = i
        · subst hj
          rw [a.hp] at hq; cases hq
          have := hh.2.1; omega
        · exact a.ar j q hj hq _ hh
      simp [h0, hf]; omega
theorem AW.step {i k m j : Nat} {W : Wd} {M M0 : Tbl} {x : OpD} {p : WP} (a : AW i k W M M0 x p) (li : LI W M) (hs : HS m W.H) (ts : TS j M) (hk : k < 7) (n : Int) :
    AW i (k + 1) (W.step i n) ((PR.w p).tb W.H M) M0 x (p.step W.H n).1 := by
  have hen := a.en li hk
  have hst : W.step i n = ⟨(p.step W.H n).2, bset W.ps i (some (.w (p.step W.H n).1)), bset W.ms i (W.ms i)⟩ := by simp only [Wd.step, a.hp, PR.step]
  have hk3 := wstep_k p W.H n
  have po := li.po_step hs ts a.hp n (r := if wPl x k then ((wkOf x).bef p.s M0).2 else rep0) a.po
  have po : WO (p.step W.H n).1 (p.step W.H n).2 (if p.enabled W.H = true ∧ p.places = true then (p.k.bef p.s M).2 else (if wPl x k then ((wkOf x).bef p.s M0).2 else rep0)) := po
  have hm := a.m
  have hat := a.at_
  refine ⟨by rw [hst]; exact bset_same _ _ _, a.ar.step n, by rw [hk3.1]; exact a.kk, ?_, ?_, ?_⟩
  · by_cases he : p.enabled W.H = true
    · have hc := hen.1 he
      by_cases hb : badB x = true
      · have hkb : p.k.isBad = true := by rw [a.kk, wkOf_bad]; exact hb
        simp [hb, WP.step, he, hkb]
      · have hkb : p.k.isBad = false := by rw [a.kk, wkOf_bad]; simpa using hb
        have e1 : p.step W.H n = p.stp W.H n := by simp [WP.step, he, hkb]
        rw [e1, stp_at p W.H n (enabled_at he), hat]
        simp [hb]
    · have e1 : p.step W.H n = (p, W.H) := by simp [WP.step, he]
      rw [e1, hat]
      have : badB x = true ∧ k ≠ 0 := by
        rw [hen] at he
        by_cases hb : badB x = true
        · exact ⟨hb, fun h => he fun _ => h⟩
        · exact absurd (fun h => absurd h hb) he
      simp [this]
  · rw [hk3.2.2]
    simp only [PR.tb, PR.enabled, PR.places, PR.bef, WP.places, a.kk, wkOf_bad, Bool.or_eq_true, decide_eq_true_eq]
    by_cases hb : badB x = true
    · by_cases h0 : k = 0
      · rw [if_pos ⟨hen.2 fun _ => h0, .inl hb⟩, hm]; simp [wPl, hb, h0]
      · rw [if_neg (fun h => h0 (hen.1 h.1 hb)), hm]; simp [wPl, hb]; omega
    · have hb : badB x = false := by simpa using hb
      simp only [hb, Bool.false_eq_true, if_false] at hat
      by_cases h2 : k = 2
      · rw [if_pos ⟨hen.2 (by simp [hb]), .inr (by omega)⟩, hm]; simp [wPl, hb, h2]
      · rw [if_neg (by rw [hb, hat]; simp [h2]), hm]
        by_cases h3 : 2 < k
        · simp [wPl, hb, h3]; omega
        · have : ¬ 2 < k + 1 := by omega
          simp [wPl, hb, h3, this]
  · have hWH : (W.step i n).H = (p.step W.H n).2 := by rw [hst]
    rw [hk3.2.2, hWH]
    simp only [WP.places, a.kk, wkOf_bad, Bool.or_eq_true, decide_eq_true_eq] at po
    by_cases hb : badB x = true
    · by_cases h0 : k = 0
      · rw [if_pos ⟨hen.2 fun _ => h0, .inl hb⟩, hm] at po; simpa [wPl, hb, h0] using po
      · rw [if_neg (fun h => h0 (hen.1 h.1 hb))] at po
        have : 0 < k := by omega
        simpa [wPl, hb, this] using po
    · have hb : badB x = false := by simpa using hb
      simp only [hb, Bool.false_eq_true, if_false] at hat
      by_cases h2 : k = 2
      · rw [if_pos ⟨hen.2 (by simp [hb]), .inr (by omega)⟩, hm] at po; simpa [wPl, hb, h2] using po
      · rw [if_neg (by rw [hb, hat]; simp [h2])] at po
        by_cases h3 : 2 < k
        · have : 2 < k + 1 := by omega
          simpa [wPl, hb, h3, this] using po
        · have : ¬ 2 < k + 1 := by omega
          simpa [wPl, hb, h3, this] using po
/-- Its beginning. -/
theorem AW.init {W : Wd} {i : Nat} (ar : AR W i) (M : Tbl) (x : OpD) (s : Nat) : AW i 0 { W with ps := bset W.ps i (some (.w (sect i s (wkOf x)))) } M M x (sect i s (wkOf x)) :=
  ⟨bset_same _ _ _, fun j q hj hq => ar j q hj (by rw [← hq]; exact (bset_ne hj).symm), rfl, by simp [sect], by simp [wPl], ⟨fun _ => .inl rfl, fun _ h => by simp [sect] at h⟩⟩
theorem AW.done {i : Nat} {W : Wd} {M M0 : Tbl} {x : OpD} {p : WP} (a : AW i 7 W M M0 x p) : p.done = true ∧ (∀ j q, W.ps j = some q → ∀ s, ¬ q.holds s) ∧ M = ((wkOf x).bef p.s M0).1 ∧ repE p.err = ((wkOf x).bef p.s M0).2 := by
  have hat : p.at_ = 7 := by have := a.at_; split at this <;> simpa using this
  have hpl : wPl x 7 = true := by unfold wPl; split <;> simp
  refine ⟨by simp [WP.done, hat], fun j q hq s hh => ?_, by have := a.m; rwa [if_pos hpl] at this, ?_⟩
  · by_cases hj : j = i
    · subst hj
      rw [a.hp] at hq; cases hq
      have := hh.2.2.1; omega
    · exact a.ar j q hj hq s hh
  · have po := a.po
    rw [if_pos hpl] at po
    by_cases hb : p.k.isBad = true
    · rcases po.b hb with h | h
      · omega
      · rw [h.2.2, h.2.1]
    · have := po.g (by simpa using hb) (by omega)
      rw [if_neg (by omega)] at this
      exact this.symm
/-- The sweeper. -/
structure SL (N k : Nat) (p : SwP) (W : Wd) : Prop where
  hp : W.ps 8 = some (.w p.now)
  sa : SwA N k p W.H
  ar : AR W 8
theorem SL.init {W : Wd} {N : Nat} {M : Tbl} (li : LI W M) (ar : ∀ j q, W.ps j = some q → ∀ s, ¬ q.holds s) (hn : W.H.n = N) (n0 : 0 < N) : SL N 0 SwP.new { W with ps := bset W.ps 8 (some (.w SwP.new.now)) } :=
  ⟨bset_same W.ps 8 (some (.w SwP.new.now)), SwA.new hn n0 fun s hs => (li.free_iff (by omega)).2 fun i q hq => ar i q hq s, fun j q hj hq => ar j q (by rw [← hq]; exact (bset_ne hj).symm)⟩
theorem SL.start {W : Wd} {M : Tbl} (li : LI W M) (ar : ∀ q, W.ps 8 = some q → Idle q (W.ms 8) W.H.c) {s : Nat} (hs : s < W.H.n) : LI { W with ps := bset W.ps 8 (some (.w (sect 8 s .sweep))) } M := by
  refine li.start ⟨sect_g hs (by omega) (by simp), rfl, by simp [sect], by simp [sect]⟩ (Idle.w _ _ rfl) ar
theorem SL.step {N k m j : Nat} {p : SwP} {W : Wd} {M : Tbl} (x : SL N k p W) (li : LI W M) (hs : HS m W.H) (hm : m < 100000) (ts : TS j M) (n : Int) :
    ∃ W', W'.H = (p.step W.H n).2.1 ∧ SL N (k + 1) (p.step W.H n).1 W' ∧ LI W' (if k % 7 = 2 then M.sweep (k / 7 % N : Nat) else M) ∧ HS (m + 1) W'.H ∧ TS (j + 1) (if k % 7 = 2 then M.sweep (k / 7 % N : Nat) else M) := by
  have sa := x.sa
  obtain ⟨s1, s2, s3⟩ := sa.step n
  have hen := sa.en
  have hb : p.now.k.isBad = false := by rw [sa.kk]; rfl
  obtain ⟨l1, l2, l3⟩ := li.step hs hm ts x.hp n
  have htb : (PR.w p.now).tb W.H M = if k % 7 = 2 then M.sweep (k / 7 % N : Nat) else M := by
    simp only [PR.tb, PR.enabled, PR.places, PR.bef, WP.places, sa.kk, WK.isBad, Bool.false_or, decide_eq_true_eq, sa.at_, hen, true_and, WK.bef, sa.e, sa.st]
  rw [htb] at l1 l3
  have hst : W.step 8 n = ⟨(p.now.step W.H n).2, bset W.ps 8 (some (.w (p.now.step W.H n).1)), bset W.ms 8 (W.ms 8)⟩ := by simp only [Wd.step, x.hp, PR.step]
  have hH : (W.step 8 n).H = (p.step W.H n).2.1 := by
    rw [hst]; unfold SwP.step; dsimp only; split <;> rfl
  by_cases h6 : (p.now.step W.H n).1.done = true
  · have hnw : ∃ s', s' < W.H.n ∧ (p.step W.H n).1.now = sect 8 s' .sweep := by
      have hps := sa.st
      have hn := sa.hn
      have := Nat.mod_lt (k / 7) sa.n0
      unfold SwP.step; dsimp only; rw [if_pos h6]
      unfold SwP.nxt; dsimp only
      split
      · exact ⟨0, by have := sa.n0; omega, rfl⟩
      · exact ⟨p.stripe + 1, by omega, rfl⟩
    obtain ⟨s', hs', hnw⟩ := hnw
    have hWn : (W.step 8 n).H.n = W.H.n := by rw [hst]; exact (wstep_n p.now W.H n).1
    refine ⟨{ W.step 8 n with ps := bset (W.step 8 n).ps 8 (some (.w (p.step W.H n).1.now)) }, hH, ⟨bset_same (W.step 8 n).ps 8 (some (.w (p.step W.H n).1.now)), by rw [show Wd.H _ = _ from hH]; exact s1, fun jj q hj hq => x.ar.step n jj q hj (by rw [← hq]; exact (bset_ne hj).symm)⟩, ?_, l2, l3⟩
    rw [hnw]
    refine SL.start l1 (fun q hq => ?_) (by omega)
    have hq : some (PR.w (p.now.step W.H n).1) = some q := by rw [← hq, hst]; exact (bset_same W.ps 8 _).symm
    cases hq
    refine Idle.done (n := W.H.n) (i := 8) ?_ h6 hs.n8.1
    have := l1.pa 8 (.w (p.now.step W.H n).1) (by rw [hst]; exact bset_same W.ps 8 _)
    rw [hWn] at this; exact this
  · refine ⟨W.step 8 n, hH, ⟨?_, by rw [hH]; exact s1, x.ar.step n⟩, l1, l2, l3⟩
    rw [hst]
    unfold SwP.step; dsimp only; rw [if_neg h6]
    exact bset_same W.ps 8 _
end Go.Den
namespace Go.Proofs.YtcnphhhcknhhaaaGreat
open Go Go.Den Go.MapKept
set_option linter.unusedSimpArgs false
set_option linter.unusedVariables false
set_option maxRecDepth 20000
def WrO (W : Wd) : Prop := ∀ j q, W.ps j = some q → (∃ p, q = .w p) ∧ ∀ s, ¬ q.holds s
structure RW (T0 : Tags) (h0 : Heap) (hp m N : Nat) (c : Cfg) (W : Wd) (M : Tbl) (T' : Tags) (h' : Heap) : Prop where
  o : Only UW T0 h0 T' h'
  x : ∃ A, WdM T' h' hp A W
  k : WdK m W M
  r : WrO W
  n : W.H.n = N
  c : W.H.c = c
theorem RW.hl {T0 : Tags} {h0 : Heap} {hp m N : Nat} {c : Cfg} {W : Wd} {M : Tbl} {T' : Tags} {h' : Heap} (y : RW T0 h0 hp m N c W M T' h') : HallR T' h' [1] hp W.H := let ⟨_, x⟩ := y.x; x.hl
theorem RW.ext {T0 : Tags} {h0 : Heap} {hp m N : Nat} {c : Cfg} {W : Wd} {M : Tbl} {T' : Tags} {h' h'' : Heap} (y : RW T0 h0 hp m N c W M T' h') (e : Ext h' h'') : RW T0 h0 hp m N c W M T' h'' :=
  ⟨y.o.up (Only.of_ext (U := non) y.o.wf e) non_up, let ⟨A, x⟩ := y.x; ⟨A, x.ext y.o.wf e⟩, y.k, y.r, y.n, y.c⟩
theorem RW.idle {T0 : Tags} {h0 : Heap} {hp m N : Nat} {c : Cfg} {W : Wd} {M : Tbl} {T' : Tags} {h' : Heap} (y : RW T0 h0 hp m N c W M T' h') {j : Nat} {q : PR} (h : W.ps j = some q) (ms : Mine) : Idle q ms W.H.c := by
  obtain ⟨⟨p, rfl⟩, h2⟩ := y.r j q h
  exact ⟨h2, rfl⟩
theorem RW.free {T0 : Tags} {h0 : Heap} {hp m N : Nat} {c : Cfg} {W : Wd} {M : Tbl} {T' : Tags} {h' : Heap} (y : RW T0 h0 hp m N c W M T' h') {s : Nat} (hs : s < N) : Free (W.H.ss s) (M.st s) :=
  y.k.li.rest (by rw [y.n]; exact hs) fun j q hq => (y.r j q hq).2 s
/-- The first world. -/
theorem RW.init {T : Tags} {h : Heap} {hp : Nat} {c : Cfg} (cw : CfgW c) (hr : rightB c = true) (w : Wf T h) (y : HallR T h [1] hp (hall0 c c.stripes.toNat)) : RW T h hp 0 c.stripes.toNat c (wd0 c c.stripes.toNat) (tbl0 c c.stripes.toNat) T h :=
  ⟨Only.refl w, ⟨fun _ => 0, wd0M y _⟩, wd0K cw hr (cfg_nn hr).1, fun j q h => by simp [wd0] at h, rfl, rfl⟩
/-- One writing, behind k steps. -/
structure AwI (T0 : Tags) (h0 : Heap) (hp q i k m N : Nat) (c : Cfg) (x : OpD) (M0 : Tbl) (T' : Tags) (h' : Heap) : Prop where
  o : Only UW T0 h0 T' h'
  e : ∃ (W : Wd) (M : Tbl) (p : WP) (A : Nat → Nat), WdM T' h' hp A W ∧ A i = q ∧ WdK (m + k) W M ∧ AW i k W M M0 x p ∧ p.s = (stripeOf x.user c.stripes).toNat ∧ (∀ j q, W.ps j = some q → ∃ p, q = .w p) ∧ W.H.n = N ∧ W.H.c = c
theorem aw_new {T0 : Tags} {h0 : Heap} {hp m N : Nat} {c : Cfg} {W : Wd} {M : Tbl} {T' : Tags} {h' : Heap} (y : RW T0 h0 hp m N c W M T' h') {i : Nat} (hi : i ≤ 900) (x : OpD) (xw : OpW x) (hl : x.users.length < 1000000) {v : Value} (hv : Sl 1 StrR (fz T' h') v x.users) {K : Value → Heap → Prop}
    (hk : ∀ T'' h'' q, AwI T0 h0 hp q i 0 m N c x M T'' h'' → K (ptr q) h'') : callM P fn_write_New #[ptr hp, .int .i64 i, .agg (opC x v).toArray] h' K := by
  obtain ⟨A, xm⟩ := y.x
  refine wdnew_w hi x xw hl hv y.o.wf xm y.k (fun q hq => y.idle hq _) fun T2 h2 q o2 x2 k2 => ?_
  refine hk T2 h2 q ⟨y.o.up o2 non_up, _, M, wp0 W.H i x, bset A i q, x2, bset_same _ _ _, k2, ?_, ?_, fun j q hq => ?_, y.n, y.c⟩
  · exact AW.init (fun j q hj hq => (y.r j q hq).2) M x _
  · show (stripeOf x.user W.H.c.stripes).toNat = _; rw [y.c]
  · by_cases hj : j = i
    · subst hj
      have hq : bset W.ps j _ j = some q := hq
      rw [bset_same] at hq; cases hq; exact ⟨_, rfl⟩
    · have hq : bset W.ps i _ j = some q := hq
      rw [bset_ne hj] at hq; exact (y.r j q hq).1
theorem aw_step {T0 : Tags} {h0 : Heap} {hp q i k m N : Nat} {c : Cfg} {x : OpD} {M0 : Tbl} {T' : Tags} {h' : Heap} (y : AwI T0 h0 hp q i k m N c x M0 T' h') (hk7 : k < 7) (hm : m + k < 100000) (n : Int) {K : Value → Heap → Prop}
    (hk : ∀ T'' h'', AwI T0 h0 hp q i (k + 1) m N c x M0 T'' h'' → K (.tuple #[]) h'') : callM P fn_write_Proc_Step #[ptr q, ptr hp, .int .i64 n] h' K := by
  obtain ⟨o, W, M, p, A, xm, rfl, wk, aw, hs, hw, hn, hc⟩ := y
  refine wdstep_w n o.wf xm wk hm aw.hp fun T2 h2 o2 x2 => ?_
  have hst : W.step i n = ⟨(p.step W.H n).2, bset W.ps i (some (.w (p.step W.H n).1)), bset W.ms i (W.ms i)⟩ := by simp only [Wd.step, aw.hp, PR.step]
  have hnc := wstep_n p W.H n
  refine hk T2 h2 ⟨o.trans o2, _, _, _, A, x2, rfl, wk.step hm aw.hp n, aw.step wk.li wk.hs wk.ts hk7 n, by rw [(wstep_k p W.H n).2.2]; exact hs, fun j q hq => ?_, by rw [hst]; exact hnc.1.trans hn, by rw [hst]; exact hnc.2.trans hc⟩
  rw [hst] at hq
  by_cases hj : j = i
  · subst hj
    have hq : bset W.ps j _ j = some q := hq
    rw [bset_same] at hq; cases hq; exact ⟨_, rfl⟩
  · have hq : bset W.ps i _ j = some q := hq
    rw [bset_ne hj] at hq; exact hw j q hq
theorem aw_done {T0 : Tags} {h0 : Heap} {hp q i m N : Nat} {c : Cfg} {x : OpD} {M0 : Tbl} {T' : Tags} {h' : Heap} (y : AwI T0 h0 hp q i 7 m N c x M0 T' h') :
    ∃ W p, RW T0 h0 hp (m + 7) N c W ((wkOf x).bef (stripeOf x.user c.stripes).toNat M0).1 T' h' ∧ WPR T' h' [2, i] q p ∧ p.done = true ∧ repE p.err = ((wkOf x).bef (stripeOf x.user c.stripes).toNat M0).2 := by
  obtain ⟨o, W, M, p, A, xm, rfl, wk, aw, hs, hw, hn, hc⟩ := y
  obtain ⟨d1, d2, d3, d4⟩ := aw.done
  rw [hs] at d3 d4
  subst d3
  exact ⟨W, p, ⟨o, ⟨A, xm⟩, wk, fun j q hq => ⟨hw j q hq, d2 j q hq⟩, hn, hc⟩, xm.ps i _ aw.hp, d1, d4⟩
/-- Time passes. -/
theorem rw_pass {T0 : Tags} {h0 : Heap} {hp m N : Nat} {c : Cfg} {W : Wd} {M : Tbl} {T' : Tags} {h' : Heap} (y : RW T0 h0 hp m N c W M T' h') (hm : m < 100000) (who by_ : Int) (hb : U64 by_) {K : Value → Heap → Prop}
    (hk : ∀ T'' h'' W', RW T0 h0 hp (m + 1) N c W' (M.tick by_) T'' h'' → K (.tuple #[]) h'') : callM P fn_hall_Hall_Pass #[ptr hp, .int .i64 who, .int .u64 by_] h' K := by
  obtain ⟨A, xm⟩ := y.x
  refine hpass_ok who by_ hb y.o.wf g1 xm.hl y.k.hs.tn (by have := y.k.hs.ac; omega) fun T2 h2 o2 y2 => ?_
  refine hk T2 h2 { W with H := W.H.pass who by_ } ⟨y.o.trans (o2.mono fun _ => .inl), ⟨A, y2, fun j p hp => (xm.ps j p hp).kp o2.k (d12i j) (by simp [pre])⟩, ⟨y.k.li.pass who by_, y.k.hs.pass who by_ hb, (y.k.ts.tick by_ hb).mono (by omega)⟩, y.r, y.n, y.c⟩
/-- Acts that change nothing. -/
theorem rw_did {T0 : Tags} {h0 : Heap} {hp m N : Nat} {c : Cfg} {W : Wd} {M : Tbl} {T' T'' : Tags} {h' h'' : Heap} (y : RW T0 h0 hp m N c W M T' h') (o : Only (pre [1]) T' h' T'' h'') {w k p : Int} (x : HallR T'' h'' [1] hp (W.H.did w k p)) : RW T0 h0 hp (m + 1) N c { W with H := W.H.did w k p } M T'' h'' := by
  obtain ⟨A, xm⟩ := y.x
  exact ⟨y.o.trans (o.mono fun _ => .inl), ⟨A, x, fun j p hp => (xm.ps j p hp).kp o.k (d12i j) (by simp [pre])⟩, ⟨y.k.li.did w k p, y.k.hs.did w k p, y.k.ts.mono (by omega)⟩, y.r, y.n, y.c⟩
def U3 (t : Tag) : Prop := UW t ∨ pre [3] t
theorem U3.nil : ¬ U3 [] := by rintro (h | h); exact UW.nil h; simp [pre] at h
theorem g3 : Gd [3] := ⟨2, [], rfl⟩
theorem d13 : Off (pre [1]) [3] := off_pre (g := []) (x := [1]) (y := [3]) (by simp) (by simp)
theorem d31 : Off (pre [3]) [1] := off_pre (g := []) (x := [3]) (y := [1]) (by simp) (by simp)
structure SqI (T0 : Tags) (h0 : Heap) (hp pp k m N : Nat) (c : Cfg) (M : Tbl) (T' : Tags) (h' : Heap) : Prop where
  o : Only U3 T0 h0 T' h'
  e : ∃ (W : Wd) (p : SwP), HallR T' h' [1] hp W.H ∧ SwR T' h' [3] pp p ∧ SL N k p W ∧ WdK m W M ∧ SwG N p ∧ W.H.c = c
theorem sq_init {T0 : Tags} {h0 : Heap} {hp pp m N : Nat} {c : Cfg} {W : Wd} {M : Tbl} {T' : Tags} {h' : Heap} (y : RW T0 h0 hp m N c W M T' h') (n0 : 0 < N) (x : SwR T' h' [3] pp SwP.new) : SqI T0 h0 hp pp 0 m N c M T' h' := by
  have hn := y.n
  subst hn
  exact ⟨y.o.mono fun _ => .inl, { W with ps := bset W.ps 8 (some (.w SwP.new.now)) }, SwP.new, y.hl, x, SL.init y.k.li (fun j q hq => (y.r j q hq).2) rfl n0, ⟨SL.start y.k.li (fun q hq => y.idle hq _) n0, y.k.hs, y.k.ts⟩, SwG.new n0, y.c⟩
theorem sq_step {T0 : Tags} {h0 : Heap} {hp pp k m N : Nat} {c : Cfg} {M : Tbl} {T' : Tags} {h' : Heap} (y : SqI T0 h0 hp pp k m N c M T' h') (hm : m < 100000) (hk0 : k < 100000) (n : Int) {K : Value → Heap → Prop}
    (hk : ∀ T'' h'', SqI T0 h0 hp pp (k + 1) (m + 1) N c (if k % 7 = 2 then M.sweep (k / 7 % N : Nat) else M) T'' h'' → K (.bool (decide (k % 7 = 6))) h'') : callM P fn_sweep_Proc_Step #[ptr pp, ptr hp, .int .i64 n] h' K := by
  obtain ⟨o, W, p, hl, sw, sl, wk, sg, hc⟩ := y
  have hn := sl.sa.hn
  have sg' : SwG W.H.n p := by rw [hn]; exact sg
  refine sstep_ok n o.wf g1 d13 d31 g3 sw hl wk.hs hm sg' fun T2 h2 o2 x2 y2 => ?_
  obtain ⟨W', w1, w2, w3, w4, w5⟩ := sl.step wk.li wk.hs hm wk.ts n
  rw [(sl.sa.step n).2.1]
  have hr := sl.sa.ro
  have hr' : p.rounds ≤ k := by rw [hr]; exact Nat.le_trans (Nat.div_le_self _ _) (Nat.div_le_self _ _)
  refine hk T2 h2 ⟨o.trans (o2.mono fun t ht => ht.elim .inr fun h => .inl (.inl h)), W', _, by rw [w1]; exact y2, x2, w2, ⟨w3, w4, w5⟩, ?_, by rw [w1]; exact (sstep_n p W.H n).2.trans hc⟩
  have := sg'.step wk.hs n (by omega)
  rw [hn] at this; exact this
theorem SqI.ext {T0 : Tags} {h0 : Heap} {hp pp k m N : Nat} {c : Cfg} {M : Tbl} {T' : Tags} {h' h'' : Heap} (y : SqI T0 h0 hp pp k m N c M T' h') (e : Ext h' h'') : SqI T0 h0 hp pp k m N c M T' h'' := by
  obtain ⟨o, W, p, hl, sw, r⟩ := y
  have oe : Only non T' h' T' h'' := Only.of_ext o.wf e
  exact ⟨o.up oe non_up, W, p, hl.up oe (Off.non _) (not_non _), sw.kp oe.k (Off.non _) (not_non _), r⟩
/-- Behind whole rounds all is at rest. -/
theorem SqI.rest {T0 : Tags} {h0 : Heap} {hp pp k m N : Nat} {c : Cfg} {M : Tbl} {T' : Tags} {h' : Heap} (y : SqI T0 h0 hp pp k m N c M T' h') (h7 : k % 7 = 0) : ∃ W p, HallR T' h' [1] hp W.H ∧ SwR T' h' [3] pp p ∧ WdK m W M ∧ W.H.n = N ∧ W.H.c = c ∧ (∀ s, s < N → Free (W.H.ss s) (M.st s)) ∧ p.rounds = k / 7 / N := by
  obtain ⟨o, W, p, hl, sw, sl, wk, sg, hc⟩ := y
  have hn := sl.sa.hn
  refine ⟨W, p, hl, sw, wk, hn, hc, fun s hs => wk.li.rest (by omega) fun j q hq => ?_, sl.sa.ro⟩
  by_cases hj : j = 8
  · subst hj
    rw [sl.hp] at hq; cases hq
    intro hh
    have := sl.sa.at_
    have := hh.2.1; omega
  · exact sl.ar j q hj hq s
/-- Another beginning. -/
theorem RW.base {U : Tag → Prop} {T0 : Tags} {h0 : Heap} {hp m N : Nat} {c : Cfg} {W : Wd} {M : Tbl} {T' T'' : Tags} {h' h'' : Heap} (y : RW T0 h0 hp m N c W M T' h') (o : Only U T' h' T'' h'') (f : ∀ t, UW t → ¬ U t) (n : ¬ U []) : RW T'' h'' hp m N c W M T'' h'' := by
  obtain ⟨A, x⟩ := y.x
  exact ⟨Only.refl o.wf, ⟨A, x.up o f n⟩, y.k, y.r, y.n, y.c⟩
theorem d3UW : ∀ t, UW t → ¬ pre [3] t := fun t ht h => ht.elim (fun h1 => off_pre (g := []) (x := [1]) (y := [3]) (by simp) (by simp) t h h1) (fun h2 => off_pre (g := []) (x := [2]) (y := [3]) (by simp) (by simp) t h h2)
def fewB (c : Cfg) (xs : List OpD) (l : Nat) : Bool := decide (xs.length ≤ 7) && decide (l ≤ 300) && rightB c && xs.all shortB
theorem opsAt {F : Heap} {v : Value} {xs : List OpD} (x : Sl 7 OpR F v xs) {i : Nat} (hi : i < xs.length) : ∃ b p u, iaV (some (none, 7)) v (.int .i64 i) = some (.pointer (some ⟨b, p, none⟩)) ∧ (∀ h', Ext F h' → ldV (some (some 7)) (.pointer (some ⟨b, p, none⟩)) h' = some (.agg (opC xs[i] u).toArray)) ∧ Sl 1 StrR F u xs[i].users ∧ OpW xs[i] := by
  obtain ⟨b, o, c, i1, i2, i3⟩ := x.at (k := .i64) (i := i) (by omega) (by omega)
  obtain ⟨u, h1, h2, h3⟩ := i3
  simp -implicitDefEqProofs only [Int.toNat_natCast] at h1 h2 h3
  exact ⟨b, o, u, i1, fun h' e => by rw [ldV_n (cels_ext e i2), h1], h2, h3⟩
set_option maxHeartbeats 1000000 in
theorem few18_ok (c : Cfg) (xs : List OpD) (l : Nat) {h : Heap} {v tv : Value} (x : Sl 7 OpR h v xs) (hl : lnV 7 tv = some (.int .i64 l)) {K : Value → Heap → Prop} (hk : ∀ h', Ext h h' → K (.bool (fewB c xs l)) h') : callM P fn_doormanlaw18_few #[.agg (cfgC c).toArray, v, tv] h K := by
  apply e_doormanlaw18_few
  unfold d_doormanlaw18_few
  have hlen := x.len
  refine nw_agg fun v1 h1 n1 e1 c1 => ?_
  have og : ldV (some (some 7)) (ptr v1) h1 = some (.agg (cfgC c).toArray) := by simp [ld_at c1, cfgC]
  by_cases h7 : xs.length ≤ 7
  rotate_left
  · have h7' : (7 : Int) < xs.length := by omega
    simp -implicitDefEqProofs [hlen, h7']
    refine kb (hk _ e1) (by simp [fewB, h7])
  have h7' : ¬ (7 : Int) < xs.length := by omega
  by_cases h3 : l ≤ 300
  rotate_left
  · have h3' : (300 : Int) < l := by omega
    simp -implicitDefEqProofs [hlen, hl, h7', h3']
    refine kb (hk _ e1) (by simp [fewB, h3])
  have h3' : ¬ (300 : Int) < l := by omega
  simp -implicitDefEqProofs [hlen, hl, h7', h3', og]
  refine refRight_ok c fun h2 e2 => ?_
  have e0 := e1.trans e2
  cases hr : rightB c with
  | false =>
    simp -implicitDefEqProofs
    refine kb (hk _ e0) (by simp [fewB, hr])
  | true =>
  simp -implicitDefEqProofs
  unfold d_doormanlaw18_few_1
  rw [seqM_eq]
  unfold d_doormanlaw18_few_2
  refine loop_on [1] (fun s h' => Ext h h' ∧ ∃ i : Nat, i ≤ xs.length ∧ s 7 = .int .i64 i ∧ s 6 = .bool false ∧ (xs.take i).all shortB = true) (fun s _ => (xs.length - num (s 7)).toNat) ⟨e0, 0, by omega, rfl, rfl, by simp⟩ ?_
  rintro s h4 hf ⟨e4, i, hi, s7, s6, hall⟩
  have s1 : s 1 = v := by simpa using hf 1 (by simp)
  unfold d_doormanlaw18_few_3
  simp -implicitDefEqProofs only [s1, hlen, s7, bin_lss, ov_s, cd_b]
  refine ⟨fun hc => ?_, fun hc => ?_⟩
  · have hlt : i < xs.length := by have : ((i : Int) < xs.length) := by simpa using hc
                                   omega
    have hw : IntKind.i64.wrap ((i : Int) + 1) = (i + 1 : Nat) := by rw [wrap64_id (by omega) (by omega)]; omega
    obtain ⟨b, p, u, i1, i2, i3, i4⟩ := opsAt x hlt
    unfold d_doormanlaw18_few_4
    simp -implicitDefEqProofs only [s1, s7, i1, i2 _ e4, ov_s]
    refine short_ok xs[i] (i3.ext (@StrR.ext) e4) fun h5 e5 => ?_
    unfold d_doormanlaw18_few_5
    cases hs : shortB xs[i] with
    | false =>
      simp -implicitDefEqProofs
      unfold d_doormanlaw18_few_6
      simp -implicitDefEqProofs
      have : xs.all shortB = false := by
        cases hh : xs.all shortB with
        | false => rfl
        | true => rw [List.all_eq_true] at hh; rw [hh _ (List.getElem_mem hlt)] at hs; cases hs
      refine kb (hk _ (e4.trans e5)) (by simp [fewB, this])
    | true =>
      simp -implicitDefEqProofs
      unfold d_doormanlaw18_few_7
      simp -implicitDefEqProofs [s1, s6, s7, hw, -Int.natCast_add]
      exact ⟨⟨e4.trans e5, i + 1, by omega, rfl, List.all_eq_true.1 (all_succ hlt hall hs)⟩, by omega⟩
  · have : i = xs.length := by have : ¬ ((i : Int) < xs.length) := by simpa using hc
                               omega
    subst this
    rw [List.take_of_length_le (Nat.le_refl _)] at hall
    simp -implicitDefEqProofs
    refine kb (hk _ e4) (by simp [fewB, h7, h3, hr, hall])
set_option maxHeartbeats 1000000 in
theorem presence18_ok (u : ByteArray) (hu : u.size ≤ maxLen) {T : Tags} {h : Heap} {p m : Nat} {H : Hall} (w : Wf T h) (x : HallR T h [1] p H) (hs : HS m H) (hm : m ≤ 100000) {K : Value → Heap → Prop}
    (hk : ∀ T' h', Only (pre [1]) T h T' h' → HallR T' h' [1] p (H.read 9 (stripeOf u H.c.stripes).toNat) → K (.agg (presC (presB (H.ss (stripeOf u H.c.stripes).toNat).book u H.t.now)).toArray) h') : callM P fn_doormanlaw18_presence #[ptr p, .string u] h K := by
  have n8 := hs.n8
  have nn := hs.nn
  have hst := stripeOf_lt (u := u) (n := H.c.stripes) (by omega)
  obtain ⟨s, hs'⟩ : ∃ s : Nat, stripeOf u H.c.stripes = s := ⟨_, (Int.toNat_of_nonneg hst.1).symm⟩
  have hsn : s < H.n := by omega
  have st := hs.st s hsn
  rw [hs'] at hk
  simp -implicitDefEqProofs only [Int.toNat_natCast] at hk
  apply e_doormanlaw18_presence
  unfold d_doormanlaw18_presence
  rw [zcPres]
  refine nw_tag w lc fun v1 T1 h1 n1 o1 t1 c1 => ?_
  have x1 := x.up o1 (Off.non _) (not_non _)
  have b1 : h1 v1 = _ ∧ T1 v1 = lc := ⟨c1, t1⟩
  refine hstripe_ok u hu x1 (by omega) ?_
  rw [hs']
  unfold d_doormanlaw18_presence_1
  refine read_ok 9 o1.wf g1 x1 hsn n8.2 (by have := hs.ac; omega) fun T2 h2 a b o2 x2 xb => ?_
  have b1 := o2.see b1 (fun h => by simp [pre, lc] at h)
  unfold d_doormanlaw18_presence_2
  refine get_ok _ st.bk.bw.so u (fz_ext T2 h2) xb (by have := st.bk.bl; omega) fun h3 sv e3 xs xn => ?_
  unfold d_doormanlaw18_presence_3
  have hso := xs.one
  simp -implicitDefEqProofs only [exV_0, exV_1, ov_s, zcEnt]
  refine nw_st rfl (by simp [presC]) (by simp [presC, hso.1]) fun yb h4 n4 e4 c4 => ?_
  simp -implicitDefEqProofs only [presC] at c4
  have o4 : Only non T2 h2 T2 h4 := Only.of_ext o2.wf (e3.trans e4)
  have hfd : fdV (some (none, 0)) (.agg (tmC (H.read 9 s).t).toArray) = some (.int .u64 H.t.now) := by simp [fdV, tmC, Hall.read, Hall.did]
  simp -implicitDefEqProofs [ld_at c4, cel_of c4, stm_at c4, stm_upd, ld_same, cel_same, over]
  refine now_ok (x2.up o4 (Off.non _) (not_non _)) fun h5 e5 => ?_
  have c4 := e5 _ _ c4
  unfold d_doormanlaw18_presence_4
  simp -implicitDefEqProofs [ld_at c4, cel_of c4, stm_at c4, stm_upd, ld_same, cel_same, over, hfd]
  refine aggOf_ok _ _ (xs.ext (@SessR.ext) ((fz_ext T2 h2).trans ((e3.trans e4).trans e5))) (by have := st.bk.ent u; omega) fun h6 e6 => ?_
  have o6 : Only non T2 h2 T2 h6 := Only.of_ext o2.wf (((e3.trans e4).trans e5).trans e6)
  have b1 := o6.see b1 (not_non _)
  have c1 := b1.1
  have x6 := x2.up o6 (Off.non _) (not_non _)
  simp -implicitDefEqProofs [presC, ld_at c1, cel_of c1, stm_at c1, stm_upd, ld_same, cel_same, over]
  refine kv (hk T2 _ (((o1.mono fun _ => non_up _).trans (o2.up o6 non_up)).own n1 b1.1) (HallR.lst x6 g1 o6.wf b1)) ?_
  simp -implicitDefEqProofs [presC, presB]
end Go.Proofs.YtcnphhhcknhhaaaGreat
namespace Go.Den
open Go
set_option linter.unusedVariables false
set_option linter.unusedSimpArgs false
theorem Tbl.sweep_at {M : Tbl} {s : Nat} (hs : s < M.n) : (M.sweep s).t.now = M.t.now ∧ (M.sweep s).t.closed = M.t.closed ∧ (M.sweep s).c = M.c ∧ (M.sweep s).n = M.n ∧ ∀ s', (M.sweep s).bk s' = if s' = s then (sweepB (M.bk s) M.t.now).1 else M.bk s' := by
  have hc : (0 : Int) ≤ s ∧ (s : Int) < M.n := by omega
  simp only [Tbl.sweep, if_pos hc, Int.toNat_natCast]
  exact ⟨rfl, rfl, rfl, rfl, fun s' => by simp only [Tbl.sweepAt, Tbl.take, bset]⟩
structure SwQ (M0 : Tbl) (N k : Nat) (M : Tbl) : Prop where
  t : M.t.now = M0.t.now
  c : M.c = M0.c
  n : M.n = M0.n
  bk : ∀ s, s < N → M.bk s = if s < (k + 4) / 7 then (sweepB (M0.bk s) M0.t.now).1 else M0.bk s
theorem SwQ.init (M : Tbl) (N : Nat) : SwQ M N 0 M := ⟨rfl, rfl, rfl, fun s _ => by simp⟩
theorem SwQ.step {M0 M : Tbl} {N k : Nat} (x : SwQ M0 N k M) (hn : M0.n = N) (hk : k < 7 * N) : SwQ M0 N (k + 1) (if k % 7 = 2 then M.sweep (k / 7 % N : Nat) else M) := by
  by_cases h : k % 7 = 2
  · rw [if_pos h]
    have hm : k / 7 % N = k / 7 := Nat.mod_eq_of_lt (by omega)
    rw [hm]
    have hs : k / 7 < M.n := by rw [x.n]; omega
    obtain ⟨a1, a2, a3, a4, a5⟩ := Tbl.sweep_at hs
    refine ⟨a1.trans x.t, a3.trans x.c, a4.trans x.n, fun s hsN => ?_⟩
    rw [a5, x.t]
    by_cases e : s = k / 7
    · subst e
      rw [if_pos rfl, if_pos (by omega), x.bk _ hsN, if_neg (by omega)]
    · rw [if_neg e, x.bk s hsN]
      by_cases h2 : s < (k + 4) / 7
      · rw [if_pos h2, if_pos (by omega)]
      · rw [if_neg h2, if_neg (by omega)]
  · rw [if_neg h]
    refine ⟨x.t, x.c, x.n, fun s hsN => ?_⟩
    rw [x.bk s hsN]
    by_cases h2 : s < (k + 4) / 7
    · rw [if_pos h2, if_pos (by omega)]
    · rw [if_neg h2, if_neg (by omega)]
structure SwV (n0 : Int) (N k : Nat) (M : Tbl) : Prop where
  t : M.t.now = n0
  n : M.n = N
  lv : ∀ s, s < N → s < (k + 4) / 7 → Lv (M.bk s) n0
theorem SwV.step {n0 : Int} {M : Tbl} {N k m : Nat} (x : SwV n0 N k M) (ts : TS m M) (n1 : 0 < N) : SwV n0 N (k + 1) (if k % 7 = 2 then M.sweep (k / 7 % N : Nat) else M) := by
  by_cases h : k % 7 = 2
  · rw [if_pos h]
    have hs0 : k / 7 % N < N := Nat.mod_lt _ n1
    have hs : k / 7 % N < M.n := by rw [x.n]; exact hs0
    obtain ⟨a1, a2, a3, a4, a5⟩ := Tbl.sweep_at hs
    refine ⟨a1.trans x.t, a4.trans x.n, fun s hsN hk => ?_⟩
    rw [a5, x.t]
    by_cases e : s = k / 7 % N
    · rw [if_pos e]; exact sweep_lv (ts.bk _ hs).bw.so n0
    · rw [if_neg e]
      refine x.lv s hsN ?_
      by_cases h2 : k / 7 < N
      · rw [Nat.mod_eq_of_lt h2] at e; omega
      · omega
  · rw [if_neg h]
    exact ⟨x.t, x.n, fun s hsN hk => x.lv s hsN (by omega)⟩
theorem SwQ.pres {M0 M : Tbl} {N m : Nat} (x : SwQ M0 N (7 * N) M) (ts : TS m M0) (hn : M0.n = N) (u : ByteArray) {s : Nat} (hs : s < N) : presB (M.bk s) u M.t.now = presB (M0.bk s) u M0.t.now := by
  rw [x.bk s hs, if_pos (by omega), x.t]
  exact sweep_pres (ts.bk s (by omega)).bw.so u _
end Go.Den
namespace Go.Proofs.YtcnphhhcknhhaaaGreat
open Go Go.Den
set_option maxRecDepth 100000
set_option linter.unusedVariables false
set_option maxHeartbeats 40000000
def d_doormanlaw18_SweepQuiet_13 (s68 : Env) (q70 : Post) (m : List Nat) (v71 : Value) (v72 : Value) (h73 : Heap) : Prop := ov (binV Go.BinOp.add 2 true (s68 11) (Go.Value.int Go.IntKind.i64 1)) fun v74 => ov (binV Go.BinOp.add 2 true (s68 14) (Go.Value.int Go.IntKind.i64 1)) fun v75 => q70 .normal m (puts s68 [(58, (s68 14)), (59, v71), (62, (s68 13)), (63, (s68 9)), (64, (s68 11)), (65, v72), (66, (s68 11)), (67, v74), (11, v74), (60, (s68 14)), (61, v75), (14, v75)]) h73
def d_doormanlaw18_SweepQuiet_12 (s68 : Env) (h69 : Heap) (q70 : Post) (m : List Nat) (v71 : Value) : Prop := callM P fn_write_Proc_Step #[(s68 13), (s68 9), (s68 11)] h69 fun v72 h73 => d_doormanlaw18_SweepQuiet_13 s68 q70 m v71 v72 h73
def d_doormanlaw18_SweepQuiet_11 (s68 : Env) (h69 : Heap) (q70 : Post) (m : List Nat) : Prop := ov (binV Go.BinOp.lss 2 true (s68 14) (Go.Value.int Go.IntKind.i64 7)) fun v71 => cdM v71 (d_doormanlaw18_SweepQuiet_12 s68 h69 q70 m v71) (q70 (.exit 2) m (puts s68 [(58, (s68 14)), (59, v71)]) h69)
def d_doormanlaw18_SweepQuiet_10 (m : List Nat) (s54 : Env) (v57 : Value) (v58 : Value) (v62 : Value) (v63 : Value) (v64 : Value) (v66 : Value) (h67 : Heap) (q59 : Post) : Prop := loopM (fun m s68 h69 q70 => d_doormanlaw18_SweepQuiet_11 s68 h69 q70 m) m (puts s54 [(44, (s54 12)), (45, (s54 1)), (46, v57), (47, v58), (50, (s54 9)), (51, (s54 12)), (52, (s54 1)), (53, (s54 12)), (54, v62), (55, v63), (56, v64), (57, v66), (13, v66), (14, (Go.Value.int Go.IntKind.i64 0))]) h67 (blkM 2 (blkM 1 q59))
def d_doormanlaw18_SweepQuiet_9 (s54 : Env) (v64 : Value) (h65 : Heap) (m : List Nat) (v57 : Value) (v58 : Value) (v62 : Value) (v63 : Value) (q59 : Post) : Prop := callM P fn_write_New #[(s54 9), (s54 12), v64] h65 fun v66 h67 => d_doormanlaw18_SweepQuiet_10 m s54 v57 v58 v62 v63 v64 v66 h67 q59
def d_doormanlaw18_SweepQuiet_8 (s54 : Env) (h55 : Heap) (m : List Nat) (v57 : Value) (v58 : Value) (q59 : Post) : Prop := ov (iaV (some (none, 7)) (s54 1) (s54 12)) fun v62 => ov (ldV (some (some 7)) v62 h55) fun v63 => callM P fn_doormanlaw18_writing #[v63] h55 fun v64 h65 => d_doormanlaw18_SweepQuiet_9 s54 v64 h65 m v57 v58 v62 v63 q59
def d_doormanlaw18_SweepQuiet_7 (s54 : Env) (h55 : Heap) (m : List Nat) (v57 : Value) (v58 : Value) (q56 : Post) : Prop := seqM (fun q59 => d_doormanlaw18_SweepQuiet_8 s54 h55 m v57 v58 q59) (fun m s60 h61 => ov (binV Go.BinOp.add 2 true (s60 12) (Go.Value.int Go.IntKind.i64 1)) fun v76 => q56 .normal m (puts s60 [(48, (s60 12)), (49, v76), (12, v76)]) h61) q56
def d_doormanlaw18_SweepQuiet_6 (s54 : Env) (h55 : Heap) (m : List Nat) (q56 : Post) : Prop := ov (lnV 7 (s54 1)) fun v57 => ov (binV Go.BinOp.lss 2 false (s54 12) v57) fun v58 => cdM v58 (d_doormanlaw18_SweepQuiet_7 s54 h55 m v57 v58 q56) (q56 (.exit 0) m (puts s54 [(44, (s54 12)), (45, (s54 1)), (46, v57), (47, v58)]) h55)
def d_doormanlaw18_SweepQuiet_5 (x0 : Value) (x1 : Value) (x2 : Value) (x3 : Value) (v1 : Value) (v3 : Value) (v5 : Value) (v6 : Value) (v10 : Value) (v13 : Value) (v18 : Value) (v22 : Value) (v23 : Value) (v26 : Value) (v30 : Value) (v34 : Value) (v37 : Value) (v38 : Value) (v40 : Value) (v41 : Value) (v42 : Value) (v43 : Value) (v46 : Value) (v50 : Value) (h47 : Heap) (q51 : Post) : Prop := loopM (fun m s54 h55 q56 => d_doormanlaw18_SweepQuiet_6 s54 h55 m q56) [] (puts (envOf [x0, x1, x2, x3]) [(4, v1), (8, (Go.Value.bool false)), (19, v3), (20, v5), (21, v5), (22, v6), (23, v10), (24, v13), (25, v18), (26, v22), (27, v22), (28, v23), (29, v26), (30, v30), (31, v34), (34, v37), (35, v38), (33, v38), (36, v40), (37, v41), (9, v40), (10, v41), (38, v41), (39, v42), (40, v42), (41, v43), (42, v46), (43, v50), (11, (Go.Value.int Go.IntKind.i64 0)), (12, (Go.Value.int Go.IntKind.i64 0))]) h47 (blkM 0 q51)
def d_doormanlaw18_SweepQuiet_21 (s89 : Env) (q91 : Post) (m : List Nat) (v92 : Value) (v93 : Value) (v94 : Value) (v95 : Value) (v96 : Value) (h97 : Heap) : Prop := ov (binV Go.BinOp.add 2 true (s89 11) (Go.Value.int Go.IntKind.i64 1)) fun v98 => ov (binV Go.BinOp.add 2 true (s89 17) (Go.Value.int Go.IntKind.i64 1)) fun v99 => q91 .normal m (puts s89 [(76, (s89 17)), (77, v92), (78, v93), (79, v94), (80, v95), (83, (s89 16)), (84, (s89 9)), (85, (s89 11)), (86, v96), (87, (s89 11)), (88, v98), (11, v98), (81, (s89 17)), (82, v99), (17, v99)]) h97
def d_doormanlaw18_SweepQuiet_20 (s89 : Env) (h90 : Heap) (q91 : Post) (m : List Nat) (v92 : Value) (v93 : Value) (v94 : Value) (v95 : Value) : Prop := callM P fn_sweep_Proc_Step #[(s89 16), (s89 9), (s89 11)] h90 fun v96 h97 => d_doormanlaw18_SweepQuiet_21 s89 q91 m v92 v93 v94 v95 v96 h97
def d_doormanlaw18_SweepQuiet_19 (s89 : Env) (h90 : Heap) (q91 : Post) (m : List Nat) : Prop := ov (faV (some 0) (s89 4)) fun v92 => ov (ldV (some none) v92 h90) fun v93 => ov (binV Go.BinOp.mul 2 true (Go.Value.int Go.IntKind.i64 7) v93) fun v94 => ov (binV Go.BinOp.lss 2 false (s89 17) v94) fun v95 => cdM v95 (d_doormanlaw18_SweepQuiet_20 s89 h90 q91 m v92 v93 v94 v95) (q91 (.exit 4) m (puts s89 [(76, (s89 17)), (77, v92), (78, v93), (79, v94), (80, v95)]) h90)
def d_doormanlaw18_SweepQuiet_18 (m : List Nat) (s52 : Env) (v77 : Value) (v79 : Value) (v81 : Value) (v84 : Value) (h85 : Heap) (q86 : Post) : Prop := loopM (fun m s89 h90 q91 => d_doormanlaw18_SweepQuiet_19 s89 h90 q91 m) m (puts s52 [(68, (s52 9)), (69, (s52 2)), (70, v77), (71, (s52 9)), (72, (s52 3)), (73, v79), (15, v81), (74, (s52 9)), (75, v84), (16, v84), (17, (Go.Value.int Go.IntKind.i64 0))]) h85 (blkM 4 q86)
def d_doormanlaw18_SweepQuiet_27 (q105 : Post) (m : List Nat) (s103 : Env) (v106 : Value) (v107 : Value) (v108 : Value) (v109 : Value) (v111 : Value) (v112 : Value) (v115 : Value) (v118 : Value) (v123 : Value) (v127 : Value) (h124 : Heap) : Prop := q105 .ret m (puts s103 [(89, (s103 18)), (90, v106), (91, v107), (92, v108), (95, (s103 9)), (96, (s103 18)), (97, v109), (98, v111), (99, v111), (100, v112), (101, v115), (102, v118), (103, v123), (104, v127), (8, (Go.Value.bool false))]) h124
def d_doormanlaw18_SweepQuiet_28 (s103 : Env) (q105 : Post) (m : List Nat) (v106 : Value) (v107 : Value) (v108 : Value) (v109 : Value) (v111 : Value) (v112 : Value) (v115 : Value) (v118 : Value) (v123 : Value) (v127 : Value) (h124 : Heap) : Prop := ov (binV Go.BinOp.add 2 true (s103 18) (Go.Value.int Go.IntKind.i64 1)) fun v128 => q105 .normal m (puts s103 [(89, (s103 18)), (90, v106), (91, v107), (92, v108), (95, (s103 9)), (96, (s103 18)), (97, v109), (98, v111), (99, v111), (100, v112), (101, v115), (102, v118), (103, v123), (104, v127), (93, (s103 18)), (94, v128), (18, v128)]) h124
def d_doormanlaw18_SweepQuiet_26 (v109 : Value) (s103 : Env) (h110 : Heap) (q105 : Post) (m : List Nat) (v106 : Value) (v107 : Value) (v108 : Value) : Prop := ov (unV Go.UnOp.not v109) fun v111 => gM (isB v111 false) (fun k114 => k114 (s103 9) h110) h110 fun v112 h113 => gM (isB v111 false) (fun k117 => k117 (s103 18) h113) h113 fun v115 h116 => gM (isB v111 false) (fun k120 => callM P fn_hall_Hall_Free #[v112, v115] h116 fun v121 h122 => k120 v121 h122) h116 fun v118 h119 => gM (isB v111 false) (fun k125 => ov (unV Go.UnOp.not v118) fun v126 => k125 v126 h119) h119 fun v123 h124 => ov (pkV v111 (Go.Value.bool true) v123) fun v127 => cdM v127 (d_doormanlaw18_SweepQuiet_27 q105 m s103 v106 v107 v108 v109 v111 v112 v115 v118 v123 v127 h124) (d_doormanlaw18_SweepQuiet_28 s103 q105 m v106 v107 v108 v109 v111 v112 v115 v118 v123 v127 h124)
def d_doormanlaw18_SweepQuiet_25 (s103 : Env) (h104 : Heap) (q105 : Post) (m : List Nat) (v106 : Value) (v107 : Value) (v108 : Value) : Prop := callM P fn_hall_Hall_Quiet #[(s103 9), (s103 18)] h104 fun v109 h110 => d_doormanlaw18_SweepQuiet_26 v109 s103 h110 q105 m v106 v107 v108
def d_doormanlaw18_SweepQuiet_24 (s103 : Env) (h104 : Heap) (q105 : Post) (m : List Nat) : Prop := ov (faV (some 0) (s103 4)) fun v106 => ov (ldV (some none) v106 h104) fun v107 => ov (binV Go.BinOp.lss 2 false (s103 18) v107) fun v108 => cdM v108 (d_doormanlaw18_SweepQuiet_25 s103 h104 q105 m v106 v107 v108) (q105 (.exit 6) m (puts s103 [(89, (s103 18)), (90, v106), (91, v107), (92, v108)]) h104)
def d_doormanlaw18_SweepQuiet_23 (m : List Nat) (s87 : Env) (h88 : Heap) (q100 : Post) : Prop := loopM (fun m s103 h104 q105 => d_doormanlaw18_SweepQuiet_24 s103 h104 q105 m) m (puts s87 [(18, (Go.Value.int Go.IntKind.i64 0))]) h88 (blkM 6 q100)
def d_doormanlaw18_SweepQuiet_30 (v129 : Value) (s101 : Env) (h130 : Heap) (K : Value → Heap → Prop) (m : List Nat) : Prop := ov (binV Go.BinOp.eql 2 true v129 (Go.Value.int Go.IntKind.i64 1)) fun v131 => gv (isB v131 true) (fun k => k (s101 9)) fun v132 => gv (isB v131 true) (fun k => k (s101 3)) fun v133 => gv (isB v131 true) (ov (ldV (some (some 3)) (s101 15) h130)) fun v134 => gM (isB v131 true) (fun k137 => callM P fn_doormanlaw18_presence #[v132, v133] h130 fun v138 h139 => k137 v138 h139) h130 fun v135 h136 => ((isB v131 true) = true → ldV (some (some 3)) (s101 15) h136 = some v134) ∧ gv (isB v131 true) (pvM P (do eqGuard Go.BinOp.eql ty_api_Presence (Go.Operand.tmp 111) (Go.Operand.tmp 112) v135 v134; binOp Go.BinOp.eql ty_api_Presence v135 v134)) fun v140 => ov (pkV v131 v140 (Go.Value.bool false)) fun v141 => (retM P [.tmp 8] K) .ret m (puts s101 [(105, (s101 16)), (106, v129), (107, v131), (108, v131), (109, v132), (110, v133), (112, v134), (111, v135), (113, v140), (114, v141), (8, v141)]) h136
def d_doormanlaw18_SweepQuiet_29 (s101 : Env) (h102 : Heap) (K : Value → Heap → Prop) (m : List Nat) : Prop := callM P fn_sweep_Proc_Rounds #[(s101 16)] h102 fun v129 h130 => d_doormanlaw18_SweepQuiet_30 v129 s101 h130 K m
def d_doormanlaw18_SweepQuiet_22 (m : List Nat) (s87 : Env) (h88 : Heap) (K : Value → Heap → Prop) : Prop := seqM (fun q100 => d_doormanlaw18_SweepQuiet_23 m s87 h88 q100) (fun m s101 h102 => d_doormanlaw18_SweepQuiet_29 s101 h102 K m) (retM P [.tmp 8] K)
def d_doormanlaw18_SweepQuiet_17 (m : List Nat) (s52 : Env) (v77 : Value) (v79 : Value) (v81 : Value) (v84 : Value) (h85 : Heap) (K : Value → Heap → Prop) : Prop := seqM (fun q86 => d_doormanlaw18_SweepQuiet_18 m s52 v77 v79 v81 v84 h85 q86) (fun m s87 h88 => d_doormanlaw18_SweepQuiet_22 m s87 h88 K) (retM P [.tmp 8] K)
def d_doormanlaw18_SweepQuiet_16 (h80 : Heap) (v79 : Value) (s52 : Env) (m : List Nat) (v77 : Value) (K : Value → Heap → Prop) : Prop := nwM (zc P ty_api_Presence) ty_api_Presence h80 fun v81 h82 => stM (some 3) v81 v79 h82 fun h83 => callM P fn_sweep_New #[(s52 9)] h83 fun v84 h85 => d_doormanlaw18_SweepQuiet_17 m s52 v77 v79 v81 v84 h85 K
def d_doormanlaw18_SweepQuiet_15 (s52 : Env) (h78 : Heap) (m : List Nat) (v77 : Value) (K : Value → Heap → Prop) : Prop := callM P fn_doormanlaw18_presence #[(s52 9), (s52 3)] h78 fun v79 h80 => d_doormanlaw18_SweepQuiet_16 h80 v79 s52 m v77 K
def d_doormanlaw18_SweepQuiet_14 (s52 : Env) (h53 : Heap) (m : List Nat) (K : Value → Heap → Prop) : Prop := callM P fn_hall_Hall_Pass #[(s52 9), (Go.Value.int Go.IntKind.i64 9), (s52 2)] h53 fun v77 h78 => d_doormanlaw18_SweepQuiet_15 s52 h78 m v77 K
def d_doormanlaw18_SweepQuiet_4 (x0 : Value) (x1 : Value) (x2 : Value) (x3 : Value) (v1 : Value) (v3 : Value) (v5 : Value) (v6 : Value) (v10 : Value) (v13 : Value) (v18 : Value) (v22 : Value) (v23 : Value) (v26 : Value) (v30 : Value) (v34 : Value) (v37 : Value) (v38 : Value) (v40 : Value) (v41 : Value) (v42 : Value) (v43 : Value) (v46 : Value) (v50 : Value) (h47 : Heap) (K : Value → Heap → Prop) : Prop := seqM (fun q51 => d_doormanlaw18_SweepQuiet_5 x0 x1 x2 x3 v1 v3 v5 v6 v10 v13 v18 v22 v23 v26 v30 v34 v37 v38 v40 v41 v42 v43 v46 v50 h47 q51) (fun m s52 h53 => d_doormanlaw18_SweepQuiet_14 s52 h53 m K) (retM P [.tmp 8] K)
def d_doormanlaw18_SweepQuiet_3 (v38 : Value) (h39 : Heap) (K : Value → Heap → Prop) (x0 : Value) (x1 : Value) (x2 : Value) (x3 : Value) (v1 : Value) (v3 : Value) (v5 : Value) (v6 : Value) (v10 : Value) (v13 : Value) (v18 : Value) (v22 : Value) (v23 : Value) (v26 : Value) (v30 : Value) (v34 : Value) (v37 : Value) : Prop := ov (exV v38 0) fun v40 => ov (exV v38 1) fun v41 => ov (binV Go.BinOp.neq 2 true v41 (Go.Value.int Go.IntKind.i64 0)) fun v42 => gM (isB v42 false) (fun k45 => k45 v40 h39) h39 fun v43 h44 => gM (isB v42 false) (fun k48 => ov (binV Go.BinOp.eql 4 true v43 (Go.Value.pointer none)) fun v49 => k48 v49 h44) h44 fun v46 h47 => ov (pkV v42 (Go.Value.bool true) v46) fun v50 => cdM v50 (K (Go.Value.bool false) h47) (d_doormanlaw18_SweepQuiet_4 x0 x1 x2 x3 v1 v3 v5 v6 v10 v13 v18 v22 v23 v26 v30 v34 v37 v38 v40 v41 v42 v43 v46 v50 h47 K)
def d_doormanlaw18_SweepQuiet_2 (v1 : Value) (h31 : Heap) (K : Value → Heap → Prop) (x0 : Value) (x1 : Value) (x2 : Value) (x3 : Value) (v3 : Value) (v5 : Value) (v6 : Value) (v10 : Value) (v13 : Value) (v18 : Value) (v22 : Value) (v23 : Value) (v26 : Value) (v30 : Value) (v34 : Value) : Prop := ov (ldV (some (some 7)) v1 h31) fun v37 => callM P fn_hall_New #[v37] h31 fun v38 h39 => d_doormanlaw18_SweepQuiet_3 v38 h39 K x0 x1 x2 x3 v1 v3 v5 v6 v10 v13 v18 v22 v23 v26 v30 v34 v37
def d_doormanlaw18_SweepQuiet_1 (v3 : Value) (v1 : Value) (h4 : Heap) (x1 : Value) (x3 : Value) (K : Value → Heap → Prop) (x0 : Value) (x2 : Value) : Prop := ov (unV Go.UnOp.not v3) fun v5 => gM (isB v5 false) (fun k8 => ov (ldV (some (some 7)) v1 h4) fun v9 => k8 v9 h4) h4 fun v6 h7 => gM (isB v5 false) (fun k12 => k12 x1 h7) h7 fun v10 h11 => gM (isB v5 false) (fun k15 => callM P fn_doormanlaw18_few #[v6, v10, (Go.Value.slice none 0 0)] h11 fun v16 h17 => k15 v16 h17) h11 fun v13 h14 => gM (isB v5 false) (fun k20 => ov (unV Go.UnOp.not v13) fun v21 => k20 v21 h14) h14 fun v18 h19 => ov (pkV v5 (Go.Value.bool true) v18) fun v22 => gM (isB v22 false) (fun k25 => k25 x3 h19) h19 fun v23 h24 => gM (isB v22 false) (fun k28 => ov (lnV 3 v23) fun v29 => k28 v29 h24) h24 fun v26 h27 => gM (isB v22 false) (fun k32 => ov (binV Go.BinOp.gtr 2 true v26 (Go.Value.int Go.IntKind.i64 100)) fun v33 => k32 v33 h27) h27 fun v30 h31 => ov (pkV v22 (Go.Value.bool true) v30) fun v34 => cdM v34 (callM P fn_doormanlaw18_awake #[] h31 fun v35 h36 => K v35 h36) (d_doormanlaw18_SweepQuiet_2 v1 h31 K x0 x1 x2 x3 v3 v5 v6 v10 v13 v18 v22 v23 v26 v30 v34)
def d_doormanlaw18_SweepQuiet (x0 x1 x2 x3 : Value) (h : Heap) (K : Value → Heap → Prop) : Prop := nwM (some x0.cells) ty_api_Config h fun v1 h2 => callM P fn_doormanlaw18_awake #[] h2 fun v3 h4 => d_doormanlaw18_SweepQuiet_1 v3 v1 h4 x1 x3 K x0 x2
theorem e_doormanlaw18_SweepQuiet {x0 x1 x2 x3 : Value} {h : Heap} {K : Value → Heap → Prop} (hd : d_doormanlaw18_SweepQuiet x0 x1 x2 x3 h K) : callM P fn_doormanlaw18_SweepQuiet #[x0, x1, x2, x3] h K :=
  call_of good mixed (fn := Tryz.f14) (args := [x0, x1, x2, x3]) Tryz.func14 rfl (by kernel_rfl) (of_decide_eq_true rfl) (B := d_doormanlaw18_SweepQuiet x0 x1 x2 x3 h K) (by kernel_rfl) hd
end Go.Proofs.YtcnphhhcknhhaaaGreat
namespace Go.Proofs.YtcnphhhcknhhaaaGreat
open Go Go.Den Go.MapKept
set_option linter.unusedSimpArgs false
set_option linter.unusedVariables false
set_option maxRecDepth 20000
theorem presEq (p q : Pres) {x y : Operand} {K : Value → Prop} : pvM P (do eqGuard .eql ty_api_Presence x y (.agg #[.int .i64 p.st, .int .i64 p.pr, .int .i64 p.lv]) (.agg #[.int .i64 q.st, .int .i64 q.pr, .int .i64 q.lv]); binOp .eql ty_api_Presence (.agg #[.int .i64 p.st, .int .i64 p.pr, .int .i64 p.lv]) (.agg #[.int .i64 q.st, .int .i64 q.pr, .int .i64 q.lv])) K = K (.bool (decide (p = q))) := by
  rw [pv_eql (d := 5) (b := (p.st == q.st) && ((p.pr == q.pr) && ((p.lv == q.lv) && true))) (by kernel_rfl) (by omega) (by kernel_rfl)]
  have : ((p.st == q.st) && ((p.pr == q.pr) && ((p.lv == q.lv) && true))) = decide (p = q) := by
    rw [Bool.eq_iff_iff]; cases p; cases q; simp
  rw [this]
set_option maxHeartbeats 8000000 in
theorem sweepQuiet_ok (c : Cfg) (cw : CfgW c) (xs : List OpD) {by_ : Int} (hby : U64 by_) (user : ByteArray) {h : Heap} {v : Value} (x : Sl 7 OpR h v xs) {K : Value → Heap → Prop} (hk : ∀ h', Ext h h' → K (.bool true) h') :
    callM P fn_doormanlaw18_SweepQuiet #[.agg (cfgC c).toArray, v, .int .u64 by_, .string user] h K := by
  apply e_doormanlaw18_SweepQuiet
  unfold d_doormanlaw18_SweepQuiet
  have hlen := x.len
  refine nw_agg fun v1 h1 n1 e1 c1 => ?_
  refine awake18_ok fun h2 e2 => ?_
  have c1 := e2 _ _ c1
  have e02 := e1.trans e2
  unfold d_doormanlaw18_SweepQuiet_1
  have og : ∀ h', h' v1 = some (.cells (cfgC c).toArray ty_api_Config (0, 0)) → ldV (some (some 7)) (ptr v1) h' = some (.agg (cfgC c).toArray) := fun h' hc => by simp [ld_at hc, cfgC]
  have os : ∀ h', h' v1 = some (.cells (cfgC c).toArray ty_api_Config (0, 0)) → cel h' v1 0 = some (.int .i64 c.stripes) := fun h' hc => by simp [cel_of hc, cfgC]
  simp -implicitDefEqProofs [og _ c1]
  refine few18_ok c xs 0 (x.ext (@OpR.ext) e02) rfl fun h3 e3 => ?_
  have c1 := e3 _ _ c1
  have e03 := e02.trans e3
  cases hf : fewB c xs 0 with
  | false =>
    simp -implicitDefEqProofs
    exact awake18_ok fun h4 e4 => hk _ (e03.trans e4)
  | true =>
  have hu : lnV 3 (.string user) = some (.int .i64 user.size) := rfl
  by_cases hus : user.size ≤ 100
  rotate_left
  · have hus' : (100 : Int) < user.size := by omega
    simp -implicitDefEqProofs [hu, hus']
    exact awake18_ok fun h4 e4 => hk _ (e03.trans e4)
  have hus' : ¬ (100 : Int) < user.size := by omega
  simp -implicitDefEqProofs [hu, hus']
  have hr : rightB c = true := by simp [fewB] at hf; exact hf.1.2
  have hl7 : xs.length ≤ 7 := by simp [fewB] at hf; exact hf.1.1
  have hsh : ∀ y ∈ xs, shortB y = true := by simp [fewB] at hf; exact hf.2
  unfold d_doormanlaw18_SweepQuiet_2
  simp -implicitDefEqProofs only [og _ c1, ov_s]
  refine hallNew_ok c cw (wf_nil h3) g1 (fun _ T4 h4 hp o4 y4 => ?_) (fun hr' => by rw [hr] at hr'; cases hr')
  unfold d_doormanlaw18_SweepQuiet_3
  have enil : binV .eql 4 true (ptr hp) (.pointer none) = some (.bool false) := rfl
  simp -implicitDefEqProofs [enil]
  have o34 : Only UW (fun _ => []) h3 T4 h4 := o4.mono fun _ => .inl
  obtain ⟨hnn, hn0⟩ := cfg_nn hr
  have y0 := RW.init cw hr o4.wf y4
  obtain ⟨N, hN⟩ : ∃ N, c.stripes.toNat = N := ⟨_, rfl⟩
  rw [hN] at y0 hnn hn0
  have hN8 : N ≤ 8 := by have := (HS.new cw hr hnn).n8.2; exact this
  have xF : Sl 7 OpR (fz T4 h4) v xs := by
    have : Sl 7 OpR (fz (fun _ => []) h3) v xs := by rw [fz_nil]; exact x.ext (@OpR.ext) e03
    exact this.ext (@OpR.ext) (o34.ext UW.nil)
  unfold d_doormanlaw18_SweepQuiet_4
  rw [seqM_eq]
  unfold d_doormanlaw18_SweepQuiet_5
  refine loop_on [1, 2, 3, 4, 9] (fun s h' => ∃ T' W M, ∃ i : Nat, RW T4 h4 hp (7 * i) N c W M T' h' ∧ s 11 = .int .i64 (7 * i : Nat) ∧ s 12 = .int .i64 i ∧ i ≤ xs.length) (fun s _ => (xs.length - num (s 12)).toNat) ⟨T4, _, _, 0, y0, rfl, rfl, by omega⟩ ?_
  rintro s h5 hf5 ⟨T5, W5, M5, i, y5, s11, s12, hi⟩
  have s1 : s 1 = v := by simpa using hf5 1 (by simp)
  have s2 : s 2 = .int .u64 by_ := by simpa using hf5 2 (by simp)
  have s3 : s 3 = .string user := by simpa using hf5 3 (by simp)
  have s4 : s 4 = ptr v1 := by simpa using hf5 4 (by simp)
  have s9 : s 9 = ptr hp := by simpa using hf5 9 (by simp)
  unfold d_doormanlaw18_SweepQuiet_6
  simp -implicitDefEqProofs only [s1, hlen, s12, bin_lss, ov_s, cd_b]
  refine ⟨fun hc => ?_, fun hc => ?_⟩
  · have hlt : i < xs.length := by have : ((i : Int) < xs.length) := by simpa using hc
                                   omega
    have hw : IntKind.i64.wrap ((i : Int) + 1) = (i + 1 : Nat) := by rw [wrap64_id (by omega) (by omega)]; omega
    obtain ⟨b, p, u, i1, i2, i3, i4⟩ := opsAt xF hlt
    have eF5 : Ext (fz T4 h4) (fz T5 h5) := y5.o.ext UW.nil
    unfold d_doormanlaw18_SweepQuiet_7
    rw [seqM_eq]
    unfold d_doormanlaw18_SweepQuiet_8
    simp -implicitDefEqProofs only [s1, s12, i1, i2 _ (eF5.trans (fz_ext _ _)), ov_s]
    refine writing18_ok _ i3.one fun h6 e6 => ?_
    have y6 := y5.ext e6
    have hsx := hsh _ (List.getElem_mem hlt)
    have lx : xs[i].users.length ≤ 20 := by simp [shortB] at hsx; exact hsx.2.1
    unfold d_doormanlaw18_SweepQuiet_9
    simp -implicitDefEqProofs only [s9, s12]
    refine aw_new y6 (by omega) (wrOp xs[i]) (wrOp_w i4) (by show xs[i].users.length < _; omega) ((i3.ext (@StrR.ext) eF5).ext (@StrR.ext) (fz_of_ext e6)) fun T7 h7 q a7 => ?_
    unfold d_doormanlaw18_SweepQuiet_10
    refine loop_on [1, 2, 3, 4, 9, 12, 13] (fun s h' => ∃ T' , ∃ k : Nat, AwI T4 h4 hp q i k (7 * i) N c (wrOp xs[i]) M5 T' h' ∧ s 11 = .int .i64 (7 * i + k : Nat) ∧ s 14 = .int .i64 k ∧ k ≤ 7) (fun s _ => (9 - num (s 14)).toNat) ⟨T7, 0, a7, by simp [s11], by simp, by omega⟩ ?_
    rintro t h8 hf8 ⟨T8, k, a8, t11, t14, hk7⟩
    have t1 : t 1 = v := by simpa [s1] using hf8 1 (by simp)
    have t2 : t 2 = .int .u64 by_ := by simpa [s2] using hf8 2 (by simp)
    have t3 : t 3 = .string user := by simpa [s3] using hf8 3 (by simp)
    have t4 : t 4 = ptr v1 := by simpa [s4] using hf8 4 (by simp)
    have t9 : t 9 = ptr hp := by simpa [s9] using hf8 9 (by simp)
    have t12 : t 12 = .int .i64 i := by simpa [s12] using hf8 12 (by simp)
    have t13 : t 13 = ptr q := by simpa using hf8 13 (by simp)
    unfold d_doormanlaw18_SweepQuiet_11
    by_cases hkk : k < 7
    · have hki : (k : Int) < 7 := by omega
      have hw1 : IntKind.i64.wrap (((7 * i + k : Nat) : Int) + 1) = (7 * i + (k + 1) : Nat) := by rw [wrap64_id (by omega) (by omega)]; omega
      have hw2 : IntKind.i64.wrap ((k : Int) + 1) = (k + 1 : Nat) := by rw [wrap64_id (by omega) (by omega)]; omega
      simp -implicitDefEqProofs [t14, hki]
      unfold d_doormanlaw18_SweepQuiet_12
      simp -implicitDefEqProofs only [t13, t9, t11]
      refine aw_step a8 hkk (by omega) _ fun T9 h9 a9 => ?_
      unfold d_doormanlaw18_SweepQuiet_13
      simp -implicitDefEqProofs [t11, t14, hw1, hw2, -Int.natCast_add, t1, t2, t3, t4, t9, t12, t13, s1, s2, s3, s4, s9, s12]
      exact ⟨⟨T9, k + 1, a9, rfl, rfl, by omega⟩, by omega⟩
    · obtain rfl : k = 7 := by omega
      simp -implicitDefEqProofs [t14, t12, hw, -Int.natCast_add]
      obtain ⟨W9, p9, r9, -⟩ := aw_done a8
      simp -implicitDefEqProofs [t1, t2, t3, t4, t9, s1, s2, s3, s4, s9, t11, t12, s12, hw, -Int.natCast_add]
      exact ⟨⟨T8, W9, _, i + 1, r9, rfl, rfl, by omega⟩, by omega⟩
  have hil : i = xs.length := by have : ¬ ((i : Int) < xs.length) := by simpa using hc
                                 omega
  simp -implicitDefEqProofs
  unfold d_doormanlaw18_SweepQuiet_14
  simp -implicitDefEqProofs [s9, s2]
  refine rw_pass y5 (by omega) 9 by_ hby fun T6 h6 W6 y6 => ?_
  generalize M5.tick by_ = M0 at y6
  unfold d_doormanlaw18_SweepQuiet_15
  simp -implicitDefEqProofs [s9, s3]
  have hc6 := y6.c
  have hst := stripeOf_lt (u := user) (n := c.stripes) (by omega)
  obtain ⟨su, hsu⟩ : ∃ su : Nat, (stripeOf user c.stripes).toNat = su := ⟨_, rfl⟩
  have hsN : su < N := by omega
  refine presence18_ok user (by unfold maxLen; omega) y6.o.wf y6.hl y6.k.hs (by omega) fun T7 h7 o7 x7 => ?_
  rw [hc6, hsu] at x7 ⊢
  have y7 := rw_did y6 o7 x7
  have hbk := (y6.free hsN).e
  have hbk : M0.bk su = (W6.H.ss su).book := by have := congrArg Prod.fst hbk; exact this
  have ht6 := y6.k.li.t
  rw [← hbk, ← ht6]
  unfold d_doormanlaw18_SweepQuiet_16
  rw [zcPres]
  simp -implicitDefEqProofs only [presC]
  refine nw_st rfl (by simp) (by simp) fun vb h8 n8 e8 c8 => ?_
  have y8 := y7.ext e8
  simp -implicitDefEqProofs [s9]
  refine snew_ok y8.o.wf g3 fun T9 h9 pp o9 x9 => ?_
  have tb8 : T7 vb = [] := y7.o.wf vb n8
  have b9 := o9.see (b := vb) (t := []) ⟨c8, tb8⟩ (by simp [pre])
  have y9 := y8.base o9 d3UW (by simp [pre])
  have z9 := sq_init y9 hn0 x9
  have oall : Only U3 (fun _ => []) h3 T9 h9 := ((o34.trans y8.o).mono fun _ => .inl).trans (o9.mono fun _ => .inr)
  have ts0 := y6.k.ts
  have n0 : M0.n = N := by rw [y6.k.li.n]; exact y6.n
  unfold d_doormanlaw18_SweepQuiet_17
  rw [seqM_eq]
  unfold d_doormanlaw18_SweepQuiet_18
  refine loop_on [3, 4, 9, 15, 16] (fun s h' => ∃ T' M, ∃ k : Nat, SqI T9 h9 hp pp k (7 * i + 1 + 1 + k) N c M T' h' ∧ SwQ M0 N k M ∧ s 11 = .int .i64 (7 * i + k : Nat) ∧ s 17 = .int .i64 k ∧ k ≤ 7 * N) (fun s _ => (100 - num (s 17)).toNat) ⟨T9, M0, 0, z9, SwQ.init M0 N, by simp [s11], by simp, by omega⟩ ?_
  rintro t h10 hf10 ⟨T10, M10, k, z10, q10, t11, t17, hk7⟩
  have t3 : t 3 = .string user := by simpa [s3] using hf10 3 (by simp)
  have t4 : t 4 = ptr v1 := by simpa [s4] using hf10 4 (by simp)
  have t9 : t 9 = ptr hp := by simpa [s9] using hf10 9 (by simp)
  have t15 : t 15 = ptr vb := by simpa using hf10 15 (by simp)
  have t16 : t 16 = ptr pp := by simpa using hf10 16 (by simp)
  have e10 : Ext h3 h10 := ext_of_only (oall.trans z10.o) U3.nil
  have c10 := os _ (e10 _ _ c1)
  rw [← hnn] at c10
  have bmul : binV .mul 2 true (.int .i64 7) (.int .i64 N) = some (.int .i64 (7 * N : Nat)) := by
    have : IntKind.i64.wrap (7 * (N : Int)) = (7 * N : Nat) := by rw [wrap64_id (by omega) (by omega)]; omega
    simp -implicitDefEqProofs [binV, intV, this]
  unfold d_doormanlaw18_SweepQuiet_19
  by_cases hkk : k < 7 * N
  · have hki : (k : Int) < (7 * N : Nat) := by omega
    have hw1 : IntKind.i64.wrap (((7 * i + k : Nat) : Int) + 1) = (7 * i + (k + 1) : Nat) := by rw [wrap64_id (by omega) (by omega)]; omega
    have hw2 : IntKind.i64.wrap ((k : Int) + 1) = (k + 1 : Nat) := by rw [wrap64_id (by omega) (by omega)]; omega
    simp -implicitDefEqProofs only [t4, t17, faV_p, ov_s, ldV_c, Nat.zero_add, c10, bmul, bin_lss, decide_eq_true hki, cd_b, true_implies, reduceCtorEq, false_implies, and_true]
    unfold d_doormanlaw18_SweepQuiet_20
    simp -implicitDefEqProofs only [t16, t9, t11]
    refine sq_step z10 (by omega) (by omega) _ fun T11 h11 z11 => ?_
    unfold d_doormanlaw18_SweepQuiet_21
    simp -implicitDefEqProofs [t11, t17, hw1, hw2, -Int.natCast_add, t3, t4, t9, t15, t16, s3, s4, s9]
    exact ⟨⟨T11, _, k + 1, z11, q10.step n0 hkk, rfl, rfl, by omega⟩, by omega⟩
  obtain rfl : k = 7 * N := by omega
  have hki : ¬ ((7 * N : Nat) : Int) < (7 * N : Nat) := by omega
  simp -implicitDefEqProofs only [t4, t17, faV_p, ov_s, ldV_c, Nat.zero_add, c10, bmul, bin_lss, decide_eq_false hki, cd_b, true_implies, reduceCtorEq, false_implies, true_and]
  simp -implicitDefEqProofs only [blkM, lpM, thenM]
  obtain ⟨W12, p12, hl12, sw12, k12, hn12, hc12, fr12, ro12⟩ := z10.rest (by omega)
  have b10 := z10.o.see b9 U3.nil
  unfold d_doormanlaw18_SweepQuiet_22
  simp -implicitDefEqProofs
  rw [seqM_eq]
  unfold d_doormanlaw18_SweepQuiet_23
  refine loop_on [3, 4, 9, 15, 16] (fun s h' => Ext h10 h' ∧ ∃ j : Nat, s 18 = .int .i64 j ∧ j ≤ N) (fun s _ => (N - num (s 18)).toNat) ⟨Ext.refl _, 0, by simp, by omega⟩ ?_
  rintro r h12 hf12 ⟨e12, j, r18, hj⟩
  have r3 : r 3 = .string user := by simpa [t3] using hf12 3 (by simp)
  have r4 : r 4 = ptr v1 := by simpa [t4] using hf12 4 (by simp)
  have r9 : r 9 = ptr hp := by simpa [t9] using hf12 9 (by simp)
  have r15 : r 15 = ptr vb := by simpa [t15] using hf12 15 (by simp)
  have r16 : r 16 = ptr pp := by simpa [t16] using hf12 16 (by simp)
  have c12 := os _ (e12 _ _ (e10 _ _ c1))
  rw [← hnn] at c12
  have w10 := z10.o.wf
  have o12 : Only non T10 h10 T10 h12 := Only.of_ext w10 e12
  have hl12 := hl12.up o12 (Off.non _) (not_non _)
  have sw12 := sw12.kp o12.k (Off.non _) (not_non _)
  have b12 := o12.see b10 (not_non _)
  unfold d_doormanlaw18_SweepQuiet_24
  by_cases hjN : j < N
  · have hji : (j : Int) < N := by omega
    have hw : IntKind.i64.wrap ((j : Int) + 1) = (j + 1 : Nat) := by rw [wrap64_id (by omega) (by omega)]; omega
    simp -implicitDefEqProofs [r4, r18, c12, hji]
    unfold d_doormanlaw18_SweepQuiet_25
    simp -implicitDefEqProofs [r9, r18]
    refine hquiet_ok o12.wf hl12 k12.hs (by omega) (by omega) fun h13 e13 => ?_
    have o13 : Only non T10 h12 T10 h13 := Only.of_ext o12.wf e13
    rw [(fr12 j hjN).quiet]
    unfold d_doormanlaw18_SweepQuiet_26
    simp -implicitDefEqProofs [r9, r18]
    refine free_ok (hl12.up o13 (Off.non _) (not_non _)) (by omega) fun h14 e14 => ?_
    rw [(fr12 j hjN).wh]
    simp -implicitDefEqProofs
    unfold d_doormanlaw18_SweepQuiet_28
    simp -implicitDefEqProofs [r18, hw, r3, r4, r9, r15, r16, t3, t4, t9, t15, t16, -Int.natCast_add]
    exact ⟨⟨(e12.trans e13).trans e14, j + 1, rfl, by omega⟩, by omega⟩
  have hji : ¬ (j : Int) < N := by omega
  simp -implicitDefEqProofs [r4, r18, c12, hji]
  unfold d_doormanlaw18_SweepQuiet_29
  simp -implicitDefEqProofs [r16]
  refine srounds_ok sw12 ?_
  have hro : p12.rounds = 1 := by rw [ro12, Nat.mul_div_cancel_left _ (by omega)]; exact Nat.div_self hn0
  rw [hro]
  unfold d_doormanlaw18_SweepQuiet_30
  have cb := b12.1
  simp -implicitDefEqProofs [r9, r3, r15, ld_at cb, cel_of cb, stm_at cb, stm_upd, ld_same, cel_same, over]
  refine presence18_ok user (by unfold maxLen; omega) o12.wf hl12 k12.hs (by omega) fun T15 h15 o15 x15 => ?_
  have b15 := o15.see b12 (by simp [pre])
  have cb15 := b15.1
  have hp12 : presB (W12.H.ss (stripeOf user W12.H.c.stripes).toNat).book user W12.H.t.now = presB (M0.bk su) user M0.t.now := by
    rw [hc12, hsu, ← q10.pres ts0 n0 user hsN]
    have h1 := congrArg Prod.fst (fr12 su hsN).e
    have h1 : M10.bk su = (W12.H.ss su).book := h1
    rw [h1, k12.li.t]
  rw [hp12]
  simp -implicitDefEqProofs only [presC, presEq]
  simp -implicitDefEqProofs [ld_at cb15, cel_of cb15, stm_at cb15, stm_upd, ld_same, cel_same, over]
  refine kb (hk _ ?_) (by simp)
  have eall : Ext h3 h15 := ext_of_only (((oall.trans z10.o).up o12 non_up).trans (o15.mono fun _ h => .inl (.inl h))) U3.nil
  exact e03.trans eall
end Go.Proofs.YtcnphhhcknhhaaaGreat
namespace Go.Proofs.YtcnphhhcknhhaaaGreat
open Go Go.Den
theorem sweepQuiet_row {c : Cfg} {xs : List OpD} {by_ : Int} {user : ByteArray} {b0 : Array Value} {v : Value} {h : Heap} {K : Value → Heap → Prop} (hc : CfgR h b0.toList c) (hx : Sl 7 OpR h v xs) (hb : U64 by_) (hk : ∀ h', Ext h h' → K (.bool true) h') :
    callM P fn_doormanlaw18_SweepQuiet #[.agg b0, v, .int .u64 by_, .string user] h K := by
  obtain ⟨e0, cw⟩ := hc
  have h0 : b0 = (cfgC c).toArray := by rw [← e0]
  rw [h0]
  exact sweepQuiet_ok c cw xs hb user hx hk
end Go.Proofs.YtcnphhhcknhhaaaGreat
