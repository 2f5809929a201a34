/- Contract of the law ReadFree. No condition beyond the hypotheses that each theorem states. -/
import Derived.Test.YtcnphhhcknhhaaaBnd
set_option linter.unusedSimpArgs false
set_option linter.unusedVariables false
namespace Go.Proofs.Ytcnphhhcknhhaaa
open Go Go.Den Go.MapKept
set_option linter.unusedSimpArgs false
set_option linter.unusedVariables false
set_option maxRecDepth 20000
theorem act_at {F : Heap} {v : Value} {l : List ActD} (x : Sl 3 ActR F v l) {i : Nat} (hi : i < l.length) {k : IntKind} : ∃ b p, iaV (some (none, 3)) v (.int k i) = some (.pointer (some ⟨b, p, none⟩)) ∧ ∀ h', Ext F h' → cel h' b p = some (.int .i64 l[i].who) ∧ cel h' b (p + 1) = some (.int .i64 l[i].kind) := by
  obtain ⟨b, p, c, h1, h2, h3⟩ := x.at (k := k) (i := i) (by omega) (by omega)
  refine ⟨b, p, h1, fun h' e => ?_⟩
  have hc : c = actC l[i] := h3
  subst hc
  have := (cels_get (cels_ext e h2)).2
  exact ⟨by simpa [actC] using this 0 (by simp [actC]), by simpa [actC] using this 1 (by simp [actC])⟩
def RfL (acts : List ActD) (a0 : Nat) (v14 v15 : Value) : Prop := ∃ i : Nat, a0 ≤ i ∧ i ≤ acts.length ∧ v15 = .int .i64 i ∧ v14 = .int .i64 (bal ((acts.drop a0).take (i - a0)))
theorem bal_rng (l : List ActD) : -(l.length : Int) ≤ bal l ∧ bal l ≤ l.length := by
  induction l with
  | nil => simp [bal]
  | cons x l ih => simp only [bal, List.length_cons]; split <;> split <;> omega
set_option maxHeartbeats 4000000 in
theorem readFree_ok (c : Cfg) (cw : CfgW c) (x : OpD) (xw : OpW x) (sp : Int) (hsp : 0 ≤ sp ∧ sp ≤ 255) {h : Heap} {v : Value} (hv : Sl 1 StrR h v x.users) {K : Value → Heap → Prop} (hk : ∀ h', Ext h h' → K (.bool true) h') :
    callM P fn_doormanlaw16_ReadFree #[.agg (cfgC c).toArray, .agg (opC x v).toArray, .int .u8 sp] h K := by
  apply e_doormanlaw16_ReadFree
  unfold d_doormanlaw16_ReadFree
  refine nw_agg fun v1 h1 n1 e1 c1 => ?_
  refine nw_agg fun v3 h2 n3 e2 c3 => ?_
  have c1 := e2 _ _ c1
  have e0 := e1.trans e2
  refine awake_ok fun h3 e3 => ?_
  have c1 := e3 _ _ c1
  have c3 := e3 _ _ c3
  have e0 := e0.trans e3
  have l1 : ldV (some (some 7)) (ptr v1) h3 = some (.agg (cfgC c).toArray) := by rw [ld_at c1]; rfl
  unfold d_doormanlaw16_ReadFree_1
  simp -implicitDefEqProofs [l1]
  refine refRight_ok c fun h4 e4 => ?_
  cases hr : rightB c with
  | false =>
    simp -implicitDefEqProofs
    exact awake_ok fun h5 e5 => hk h5 ((e0.trans e4).trans e5)
  | true =>
    have l3' : ldV (some (some 7)) (ptr v3) h4 = some (.agg (opC x v).toArray) := by rw [ld_at (e4 _ _ c3)]; rfl
    simp -implicitDefEqProofs [l3']
    refine short_ok x (hv.ext (@StrR.ext) (e0.trans e4)) fun h5 e5 => ?_
    cases hs : shortB x with
    | false =>
      simp -implicitDefEqProofs
      exact awake_ok fun h6 e6 => hk h6 (((e0.trans e4).trans e5).trans e6)
    | true =>
      simp -implicitDefEqProofs
      have e5' := (e0.trans e4).trans e5
      have c1 := e5 _ _ (e4 _ _ c1)
      have c3 := e5 _ _ (e4 _ _ c3)
      have l1 : ldV (some (some 7)) (ptr v1) h5 = some (.agg (cfgC c).toArray) := by rw [ld_at c1]; rfl
      have hr18 : 1 ≤ c.stripes ∧ c.stripes ≤ 8 ∧ 0 ≤ c.retries ∧ c.retries ≤ 4 := by simp [rightB] at hr; omega
      have hsh : x.users.length ≤ 20 := by simp [shortB] at hs; omega
      unfold d_doormanlaw16_ReadFree_2
      simp -implicitDefEqProofs [l1]
      have hg0 := HG.hall0 cw hr
      refine hallNew_ok c cw (wf_nil h5) g1 (fun _ T6 h6 q o6 y6 => ?_) (fun hh => by rw [hr] at hh; cases hh)
      unfold d_doormanlaw16_ReadFree_3
      have enil : binV .eql 4 true (ptr q) (.pointer none) = some (.bool false) := rfl
      have b3 : h5 v3 = _ ∧ (fun _ => [] : Tags) v3 = [] := ⟨c3, rfl⟩
      have b1 : h5 v1 = _ ∧ (fun _ => [] : Tags) v1 = [] := ⟨c1, rfl⟩
      have b3 := o6.see b3 g1.nil
      have b1 := o6.see b1 g1.nil
      have c1 := b1.1
      simp only [cfgC] at c1
      have e56 := o6.ext g1.nil
      rw [fz_nil] at e56
      simp -implicitDefEqProofs [enil]
      have hsm : sp.tmod c.stripes = sp % c.stripes := tmod_pos hsp.1
      have hs0 := Int.emod_nonneg sp (show c.stripes ≠ 0 by omega)
      have hs1 := Int.emod_lt_of_pos sp (show 0 < c.stripes by omega)
      obtain ⟨s, hsn⟩ : ∃ s : Nat, sp % c.stripes = s := ⟨(sp % c.stripes).toNat, by omega⟩
      have w0 : IntKind.i64.wrap sp = sp := wrap64_id (by omega) (by omega)
      unfold d_doormanlaw16_ReadFree_4
      simp -implicitDefEqProofs [ld_at c1, cel_of c1, stm_at c1, stm_upd, ld_same, cel_same, over, w0, show c.stripes ≠ 0 by omega, hsm, hsn]
      rw [seqM_eq]
      unfold d_doormanlaw16_ReadFree_5 d_doormanlaw16_ReadFree_8
      have tail : ∀ (T7 : Tags) (h7 : Heap) (H : Hall), Only (pre [1]) T6 h6 T7 h7 → HallR T7 h7 [1] q H → HG H → H.n = c.stripes.toNat → H.c = c → H.acts.length ≤ 1 → (∀ s, (H.ss s).who = 0) → ∀ t : Env, t 3 = ptr v1 → t 4 = ptr v3 → t 7 = ptr q → d_doormanlaw16_ReadFree_9 t h7 [] K := by
        intro T7 h7 H o7 y7 hg hHn hHc hHa hwh t t3 t4 t7
        have b3 := o7.see b3 g1.nil
        have b1 := o7.see b1 g1.nil
        have e57 := e56.trans (o7.ext g1.nil)
        have c3 := b3.1
        have l3 : ldV (some (some 7)) (ptr v3) h7 = some (.agg (opC x v).toArray) := by rw [ld_at c3]; rfl
        unfold d_doormanlaw16_ReadFree_9
        simp -implicitDefEqProofs [t4, l3]
        refine reading_ok x hv.one fun h8 e8 => ?_
        have o8 : Only non T7 h7 T7 h8 := Only.of_ext o7.wf e8
        have y8 := y7.up o8 (Off.non _) (not_non _)
        have b3 := o8.see b3 (not_non _)
        have b1 := o8.see b1 (not_non _)
        have e58 := e57.trans (o8.ext (not_non _))
        have hc8 : H.c.stripes ≤ 8 := by rw [hHc]; omega
        unfold d_doormanlaw16_ReadFree_10
        rw [t7]
        refine rnew_ok 0 (rdOp x) (rdOp_w xw) o8.wf g2 g1 d21 y8 (hv.ext (@StrR.ext) (e5'.trans e58)) (by simp only [rdOp]; omega) hc8 fun T9 h9 p o9 x9 => ?_
        have y9 := y8.up o9 d21 g2.nil
        have b3 := o9.see b3 g2.nil
        have b1 := o9.see b1 g2.nil
        have e59 := e58.trans (o9.ext g2.nil)
        have hkd := rdOp_kind x
        have hrk : RK H.n (rp0 H 0 (rdOp x)) := RK.rp0 hg (by rw [hHn, hHc]) (by rw [hHc]; exact hr18.1) (by rw [hHc]; exact ⟨hr18.2.2.1, hr18.2.2.2⟩) 0 (by omega) _ (fun hb => (usersOf_bad hb hkd).2)
        unfold d_doormanlaw16_ReadFree_11
        rw [t7]
        refine acts_ok o9.wf y9 (by omega) fun va h10 e10 sa => ?_
        have o10 : Only non T9 h9 T9 h10 := Only.of_ext o9.wf e10
        have y10 := y9.up o10 (Off.non _) (not_non _)
        have x10 := x9.kp o10.k (Off.non _) (not_non _)
        have b3 := o10.see b3 (not_non _)
        have b1 := o10.see b1 (not_non _)
        have e5x := e59.trans (o10.ext (not_non _))
        have hlen := sa.len
        unfold d_doormanlaw16_ReadFree_12
        simp -implicitDefEqProofs [hlen]
        rw [seqM_eq]
        unfold d_doormanlaw16_ReadFree_13
        have hst := RfJ.start (H := H) (x := rdOp x) hkd (by rw [hHc]; omega) hc8 hwh
        rw [hHc] at hst
        obtain ⟨a0, ha0⟩ : ∃ a0, a0 = H.acts.length := ⟨_, rfl⟩
        rw [← ha0] at hst ⊢
        have hN : ∀ n r (H' : Hall), RK H'.n r → RfJ c (rdOp x) a0 n r H' → n ≤ 150 ∧ (r.ph ≠ 8 → n < 150) ∧ (n : Int) ≤ (c.retries + 2) * (3 * c.stripes + 1) := by
          intro n r H' rk j
          have hbig : (2 : Int) * 4 ≤ (c.retries + 2) * (3 * c.stripes + 1) := Int.mul_le_mul (by omega) (by omega) (by omega) (by omega)
          have hsm : (c.retries + 2) * (3 * c.stripes + 1) ≤ (6 : Int) * 25 := Int.mul_le_mul (by omega) (by omega) (by omega) (by omega)
          unfold RfJ at j
          split at j
          · obtain ⟨_, _, _, ⟨rfl, hp⟩ | ⟨rfl, hp⟩⟩ := j
            · exact ⟨by omega, fun _ => by omega, by omega⟩
            · exact ⟨by omega, fun h => absurd hp h, by omega⟩
          · rename_i hb
            have hb' : badB (rdOp x) = false := by simpa using hb
            have hpos := stripesOf_pos hr18.1 hr18.2.1 (usersOf_bad hb' hkd).1
            have hcn := stripesOf_cn (usersOf (rdOp x)) hr18.1
            have htm := j.tm
            have hle : (c.retries + 2) * (3 * ((stripesOf (usersOf (rdOp x)) c.stripes).length : Int) + 1) ≤ (c.retries + 2) * (3 * c.stripes + 1) := Int.mul_le_mul_of_nonneg_left (by omega) (by omega)
            by_cases h8 : r.ph = 8
            · have : leftT r = 0 := by simp [leftT, h8]
              exact ⟨by omega, fun h => absurd h8 h, by omega⟩
            · have := leftT_pos rk h8 (by rw [j.hs]; exact List.length_pos_iff.1 hpos)
              exact ⟨by omega, fun _ => by omega, by omega⟩
        refine loop_on [3, 7, 10, 12] (fun s h' => RdI T9 h10 q p (fun n r H => RfJ c (rdOp x) a0 n r H) 1 (s 11) h') (fun s _ => (1000 - num (s 11)).toNat) ⟨T9, 0, _, _, Only.refl o10.wf, y10, x10, hrk, hg, by omega, hst, rfl, by omega⟩ ?_
        rintro s h11 hf ⟨T11, n, r, H', o11, y11, x11, rk, hg', hl, j, s11, hn⟩
        have s3 : s 3 = ptr v1 := by simpa [t3] using hf 3 (by simp)
        have s7 : s 7 = ptr q := by simpa [t7] using hf 7 (by simp)
        have s10 : s 10 = ptr p := by simpa using hf 10 (by simp)
        have s12 : s 12 = .int .i64 a0 := by simpa using hf 12 (by simp)
        obtain ⟨N1, N2, N3⟩ := hN n r H' rk j
        have hn1 : (n : Int) < 1000 := by omega
        have hw : IntKind.i64.wrap ((n : Int) + 1) = n + 1 := wrap64_id (by omega) (by omega)
        unfold d_doormanlaw16_ReadFree_14
        simp -implicitDefEqProofs [s10, s11, hn1]
        refine rdone_ok x11 ?_
        by_cases h8' : r.ph = 8
        rotate_left
        · simp -implicitDefEqProofs [h8']
          unfold d_doormanlaw16_ReadFree_15
          rw [s7, s10, s11]
          refine rd_step (J := fun n r H => RfJ c (rdOp x) a0 n r H) (a0 := 1) (by omega) (by have := N2 h8'; omega) o11 y11 x11 rk hg' hl (j.next rk hkd hr18.1 hr18.2.1 h8') fun h12 hI => ?_
          unfold d_doormanlaw16_ReadFree_16
          simp -implicitDefEqProofs [s11, hw, s3, s7, s10, s12]
          exact ⟨⟨⟨t3.symm, t7.symm⟩, hI⟩, by omega⟩
        have b1 := o11.see b1 two12
        have e5y := e5x.trans (o11.ext two12)
        have eh11 : Ext h h11 := (e5'.trans e5y).trans (fz_ext _ _)
        simp -implicitDefEqProofs [h8']
        unfold d_doormanlaw16_ReadFree_17
        simp -implicitDefEqProofs [s10]
        refine rdone_ok x11 ?_
        unfold d_doormanlaw16_ReadFree_18
        simp -implicitDefEqProofs [h8']
        unfold d_doormanlaw16_ReadFree_19
        simp -implicitDefEqProofs [s7]
        refine acts_ok o11.wf y11 (by omega) fun vb h12 e12 sb => ?_
        have c1 := e12 _ _ b1.1
        simp only [cfgC] at c1
        unfold d_doormanlaw16_ReadFree_20
        rw [seqM_eq]
        unfold d_doormanlaw16_ReadFree_21
        have hall : a0 ≤ H'.acts.length ∧ (∀ y ∈ H'.acts.drop a0, y.kind ≠ 2 ∧ y.kind ≠ 4 ∧ y.who = 0) ∧ bal (H'.acts.drop a0) = 0 := by
          unfold RfJ at j
          split at j
          · obtain ⟨_, _, ha, _⟩ := j
            refine ⟨by omega, fun y hy => ?_, ?_⟩
            · rw [List.drop_eq_nil_of_le (by omega)] at hy; simp at hy
            · rw [List.drop_eq_nil_of_le (by omega)]; rfl
          · exact ⟨j.la, j.ac, by rw [j.ba]; simp [held, h8']⟩
        obtain ⟨hla, hac, hbal⟩ := hall
        have hlb := sb.len
        have hal : H'.acts.length ≤ 1000 := by omega
        simp -implicitDefEqProofs [s12]
        refine loop_on [3, 11, 13] (fun s h' => h' = h12 ∧ RfL H'.acts a0 (s 14) (s 15)) (fun s _ => (H'.acts.length - num (s 15)).toNat) ⟨rfl, a0, Nat.le_refl _, hla, by simp, by simp [bal]⟩ ?_
        rintro z h13 hfz ⟨rfl, i, hi0, hi, z15, z14⟩
        have z3 : z 3 = ptr v1 := by simpa [s3] using hfz 3 (by simp)
        have z11 : z 11 = .int .i64 n := by simpa [s11] using hfz 11 (by simp)
        have z13 : z 13 = vb := by simpa using hfz 13 (by simp)
        unfold d_doormanlaw16_ReadFree_22
        simp only [z13, z15, hlb, bin_lss, ov_s, cd_b]
        refine ⟨fun hc => ?_, fun hc => ?_⟩
        · have hlt : i < H'.acts.length := by have : ((i : Int) < H'.acts.length) := by simpa using hc
                                              omega
          obtain ⟨ab, ap, i1, i2⟩ := act_at sb (k := .i64) hlt
          have i2 := i2 h13 (fz_ext _ _)
          have hmem : H'.acts[i] ∈ H'.acts.drop a0 := by
            rw [List.mem_iff_getElem]
            exact ⟨i - a0, by simp; omega, by simp [Nat.add_sub_cancel' hi0]⟩
          obtain ⟨k1, k2, k3⟩ := hac _ hmem
          have hb1 := bal_rng ((H'.acts.drop a0).take (i - a0))
          have hb1l : ((H'.acts.drop a0).take (i - a0)).length ≤ 1000 := by simp; omega
          have hnx : bal ((H'.acts.drop a0).take (i + 1 - a0)) = bal ((H'.acts.drop a0).take (i - a0)) + (if H'.acts[i].kind = 5 then 1 else 0) - (if H'.acts[i].kind = 6 then 1 else 0) := by
            have hl2 : i - a0 < (H'.acts.drop a0).length := by simp; omega
            rw [show i + 1 - a0 = (i - a0) + 1 by omega, List.take_succ_eq_append_getElem hl2, bal_app]
            have : (H'.acts.drop a0)[i - a0] = H'.acts[i] := by simp [Nat.add_sub_cancel' hi0]
            rw [this]
            simp only [bal]; omega
          have hw1 : IntKind.i64.wrap ((i : Int) + 1) = i + 1 := wrap64_id (by omega) (by omega)
          generalize bal ((H'.acts.drop a0).take (i - a0)) = B at *
          have hwB : IntKind.i64.wrap (B + 1) = B + 1 := wrap64_id (by omega) (by omega)
          have hwB2 : IntKind.i64.wrap (B - 1) = B - 1 := wrap64_id (by omega) (by omega)
          unfold d_doormanlaw16_ReadFree_23
          rw [seqM_eq]
          unfold d_doormanlaw16_ReadFree_24
          simp -implicitDefEqProofs [z13, z15, i1, i2.1, i2.2, k1, k2, k3]
          unfold d_doormanlaw16_ReadFree_26
          rw [seqM_eq]
          unfold d_doormanlaw16_ReadFree_27
          simp -implicitDefEqProofs [z13, z15, i1, i2.1, i2.2]
          have step : ∀ B' : Int, B' = bal ((H'.acts.drop a0).take (i + 1 - a0)) → RfL H'.acts a0 (.int .i64 B') (.int .i64 (i + 1)) := fun B' hB => ⟨i + 1, by omega, by omega, by simp, by rw [hB]⟩
          by_cases k5 : H'.acts[i].kind = 5
          · unfold d_doormanlaw16_ReadFree_28 d_doormanlaw16_ReadFree_30
            simp -implicitDefEqProofs [k5, z13, z14, z15, i1, i2.1, i2.2, hw1, hwB, z3, z11]
            exact ⟨⟨⟨s3.symm, s11.symm⟩, step _ (by rw [hnx]; simp [k5])⟩, by omega⟩
          · by_cases k6 : H'.acts[i].kind = 6
            · unfold d_doormanlaw16_ReadFree_29 d_doormanlaw16_ReadFree_30 d_doormanlaw16_ReadFree_31
              simp -implicitDefEqProofs [k5, k6, z13, z14, z15, i1, i2.1, i2.2, hw1, hwB2, z3, z11]
              exact ⟨⟨⟨s3.symm, s11.symm⟩, step _ (by rw [hnx]; simp [k5, k6])⟩, by omega⟩
            · unfold d_doormanlaw16_ReadFree_29 d_doormanlaw16_ReadFree_30
              simp -implicitDefEqProofs [k5, k6, z13, z14, z15, i1, i2.1, i2.2, hw1, z3, z11]
              exact ⟨⟨⟨s3.symm, s11.symm⟩, step _ (by rw [hnx]; simp [k5, k6])⟩, by omega⟩
        · have hie : i = H'.acts.length := by have : ¬ ((i : Int) < H'.acts.length) := by simpa using hc
                                              omega
          have hfull : (H'.acts.drop a0).take (i - a0) = H'.acts.drop a0 := List.take_of_length_le (by simp; omega)
          rw [hfull, hbal] at z14
          have w1 : IntKind.i64.wrap (c.retries + 2) = c.retries + 2 := wrap64_id (by omega) (by omega)
          have w2 : IntKind.i64.wrap (3 * c.stripes) = 3 * c.stripes := wrap64_id (by omega) (by omega)
          have w3 : IntKind.i64.wrap (3 * c.stripes + 1) = 3 * c.stripes + 1 := wrap64_id (by omega) (by omega)
          have hsm : (c.retries + 2) * (3 * c.stripes + 1) ≤ (6 : Int) * 25 := Int.mul_le_mul (by omega) (by omega) (by omega) (by omega)
          have hsm0 : (0 : Int) ≤ (c.retries + 2) * (3 * c.stripes + 1) := Int.mul_nonneg (by omega) (by omega)
          have w4 : IntKind.i64.wrap ((c.retries + 2) * (3 * c.stripes + 1)) = (c.retries + 2) * (3 * c.stripes + 1) := wrap64_id (by omega) (by omega)
          simp -implicitDefEqProofs [z14, z3, z11]
          unfold d_doormanlaw16_ReadFree_32
          simp -implicitDefEqProofs [z14, z3, z11, ld_at c1, cel_of c1, stm_at c1, stm_upd, ld_same, cel_same, over, w1, w2, w3, w4, N3]
          exact hk _ (eh11.trans e12)
      simp only [bin_rem _ _ _ _ _ (show (2 : Int) ≠ 0 by decide), ov_s, bin_eql, cd_b]
      refine ⟨fun _ => ?_, fun _ => ?_⟩
      · unfold d_doormanlaw16_ReadFree_6
        have hnn : (hall0 c c.stripes.toNat).n = c.stripes.toNat := rfl
        refine begin2_ok 7 o6.wf g1 y6 (s := s) (by rw [hnn]; omega) hg0.n8 hg0.ac' (hg0.uv s (by rw [hnn]; omega)).1 (hg0.uv s (by rw [hnn]; omega)).2 fun T7 h7 o7 y7 => ?_
        unfold d_doormanlaw16_ReadFree_7
        simp -implicitDefEqProofs
        refine tail T7 h7 _ o7 y7 (hg0.begin (by rw [hnn]; omega) (by simp [hall0])) rfl rfl (by simp [Hall.begin, Hall.put, Hall.did, hall0]) (fun t => ?_) _ (by simp) (by simp) (by simp)
        simp only [Hall.begin, Hall.put, sput, Hall.did]
        split <;> rfl
      · simp -implicitDefEqProofs
        exact tail T6 h6 _ (Only.refl o6.wf) y6 hg0 rfl rfl (by simp [hall0]) (fun t => rfl) _ (by simp) (by simp) (by simp)
end Go.Proofs.Ytcnphhhcknhhaaa
