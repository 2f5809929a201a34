/- Contract of the law ReadBounded. No condition beyond the hypotheses that each theorem states. -/
import Derived.Test.YtcnphhhcknhhaaaRea
set_option linter.unusedSimpArgs false
set_option linter.unusedVariables false
namespace Go.Proofs.Ytcnphhhcknhhaaa
open Go Go.Den Go.MapKept
set_option linter.unusedSimpArgs false
set_option linter.unusedVariables false
set_option maxRecDepth 20000
theorem rdOp_kind (x : OpD) : (rdOp x).kind = 4 ∨ (rdOp x).kind = 5 := by simp only [rdOp]; omega
theorem rdOp_w {x : OpD} (w : OpW x) : OpW (rdOp x) := ⟨by simp only [rdOp, I64]; omega, w.i2, w.i3, w.i4, w.u1, w.s1⟩
/-- Behind how many steps, and how, an undisturbed reading ends; of an op that may not be, too. -/
def RbJ (c : Cfg) (x : OpD) (n : Nat) (r : RP) (H : Hall) : Prop :=
  if badB x then r.ss = [] ∧ ((n = 0 ∧ r.ph = 0) ∨ (n = 1 ∧ r.ph = 8 ∧ r.err = 1)) else Tr c (stripesOf (usersOf x) c.stripes) (usersOf x) n r H
theorem RbJ.start (c : Cfg) {x : OpD} (hk : x.kind = 4 ∨ x.kind = 5) (h1 : 1 ≤ c.stripes) (h8 : c.stripes ≤ 8) : RbJ c x 0 (rp0 (hall0 c c.stripes.toNat) 0 x) (hall0 c c.stripes.toNat) := by
  unfold RbJ
  split
  · rename_i hb
    exact ⟨by simp [rp0, RP.begin, hb, stripesOf_nil], .inl ⟨rfl, rfl⟩⟩
  · rename_i hb
    exact Tr.start (by simpa using hb) hk h1 h8
def RbN (c : Cfg) (x : OpD) : Nat := if badB x then 1 else Nof c (stripesOf (usersOf x) c.stripes)
theorem RbJ.ph8 {c : Cfg} {x : OpD} {n : Nat} {r : RP} {H : Hall} (j : RbJ c x n r H) (hk : x.kind = 4 ∨ x.kind = 5) (h1 : 1 ≤ c.stripes) (h8 : c.stripes ≤ 8) : (r.ph = 8 ↔ n = RbN c x) ∧ n ≤ RbN c x := by
  unfold RbJ at j
  unfold RbN
  split at j
  · rename_i hb
    simp only [hb, if_true]
    obtain ⟨_, ⟨rfl, hp⟩ | ⟨rfl, hp, _⟩⟩ := j <;> simp [hp]
  · rename_i hb
    simp only [hb, if_false]
    exact j.ph8 (stripesOf_pos h1 h8 (usersOf_bad (by simpa using hb) hk).1)
theorem RbJ.next {c : Cfg} {x : OpD} {n : Nat} {r : RP} {H : Hall} (j : RbJ c x n r H) (hk : x.kind = 4 ∨ x.kind = 5) (h1 : 1 ≤ c.stripes) (h8 : c.stripes ≤ 8) (he : 0 ≤ c.epochs) (hn : n < RbN c x) : RbJ c x (n + 1) (r.step H n).1 (r.step H n).2 := by
  unfold RbJ at *
  unfold RbN at hn
  split at j
  · rename_i hb
    simp only [hb, if_true] at hn ⊢
    obtain ⟨h0, ⟨rfl, hp⟩ | ⟨rfl, hp, _⟩⟩ := j
    · have he : r.enabled H = true := by simp [RP.enabled, hp]
      simp -implicitDefEqProofs [RP.step, he, h0]
    · omega
  · rename_i hb
    simp only [hb, if_false] at hn ⊢
    exact j.next (stripesOf_pos h1 h8 (usersOf_bad (by simpa using hb) hk).1) (stripesOf_nodup _ _) hn he
theorem RbN_le (c : Cfg) (x : OpD) : RbN c x ≤ 100 := by
  unfold RbN Nof
  have := stripesOf_le (usersOf x) c.stripes
  split
  · omega
  · split <;> omega
set_option maxHeartbeats 4000000 in
theorem readBounded_ok (c : Cfg) (cw : CfgW c) (x : OpD) (xw : OpW x) {h : Heap} {v : Value} (hv : Sl 1 StrR h v x.users) {K : Value → Heap → Prop} (hk : ∀ h', Ext h h' → K (.bool true) h') :
    callM P fn_doormanlaw16_ReadBounded #[.agg (cfgC c).toArray, .agg (opC x v).toArray] h K := by
  apply e_doormanlaw16_ReadBounded
  unfold d_doormanlaw16_ReadBounded
  refine nw_agg fun v1 h1 n1 e1 c1 => ?_
  refine nw_agg fun v3 h2 n3 e2 c3 => ?_
  have c1 := e2 _ _ c1
  have e0 := e1.trans e2
  refine awake_ok fun h3 e3 => ?_
  have c1 := e3 _ _ c1
  have c3 := e3 _ _ c3
  have e0 := e0.trans e3
  have l1 : ldV (some (some 7)) (ptr v1) h3 = some (.agg (cfgC c).toArray) := by rw [ld_at c1]; rfl
  have l3 : ldV (some (some 7)) (ptr v3) h3 = some (.agg (opC x v).toArray) := by rw [ld_at c3]; rfl
  unfold d_doormanlaw16_ReadBounded_1
  simp -implicitDefEqProofs [l1]
  refine refRight_ok c fun h4 e4 => ?_
  cases hr : rightB c with
  | false =>
    simp -implicitDefEqProofs
    exact awake_ok fun h5 e5 => hk h5 ((e0.trans e4).trans e5)
  | true =>
    have l3' : ldV (some (some 7)) (ptr v3) h4 = some (.agg (opC x v).toArray) := by rw [ld_at (e4 _ _ c3)]; rfl
    simp -implicitDefEqProofs [l3']
    refine short_ok x (hv.ext (@StrR.ext) (e0.trans e4)) fun h5 e5 => ?_
    cases hs : shortB x with
    | false =>
      simp -implicitDefEqProofs
      exact awake_ok fun h6 e6 => hk h6 (((e0.trans e4).trans e5).trans e6)
    | true =>
      have e5' := (e0.trans e4).trans e5
      have c1 := e5 _ _ (e4 _ _ c1)
      have c3 := e5 _ _ (e4 _ _ c3)
      have l1 : ldV (some (some 7)) (ptr v1) h5 = some (.agg (cfgC c).toArray) := by rw [ld_at c1]; rfl
      have hr18 : 1 ≤ c.stripes ∧ c.stripes ≤ 8 ∧ 0 ≤ c.retries ∧ c.retries ≤ 4 := by simp [rightB] at hr; omega
      have hsh : x.users.length ≤ 20 := by simp [shortB] at hs; omega
      unfold d_doormanlaw16_ReadBounded_2
      simp -implicitDefEqProofs [l1]
      have hg0 := HG.hall0 cw hr
      refine hallNew_ok c cw (wf_nil h5) g1 (fun _ T6 h6 q o6 y6 => ?_) (fun hh => by rw [hr] at hh; cases hh)
      unfold d_doormanlaw16_ReadBounded_3
      have enil : binV .eql 4 true (ptr q) (.pointer none) = some (.bool false) := rfl
      have b3 : h5 v3 = _ ∧ (fun _ => [] : Tags) v3 = [] := ⟨c3, rfl⟩
      have b1 : h5 v1 = _ ∧ (fun _ => [] : Tags) v1 = [] := ⟨c1, rfl⟩
      have b3 := o6.see b3 g1.nil
      have b1 := o6.see b1 g1.nil
      have c3 := b3.1
      have l3 : ldV (some (some 7)) (ptr v3) h6 = some (.agg (opC x v).toArray) := by rw [ld_at c3]; rfl
      have e56 := o6.ext g1.nil
      rw [fz_nil] at e56
      simp -implicitDefEqProofs [enil]
      unfold d_doormanlaw16_ReadBounded_4
      simp -implicitDefEqProofs [l3]
      refine reading_ok x hv.one fun h7 e7 => ?_
      have o7 : Only non T6 h6 T6 h7 := Only.of_ext o6.wf e7
      have y7 := y6.up o7 (Off.non _) (not_non _)
      have b3 := o7.see b3 (not_non _)
      have b1 := o7.see b1 (not_non _)
      have e57 := e56.trans (o7.ext (not_non _))
      unfold d_doormanlaw16_ReadBounded_5
      refine rnew_ok 0 (rdOp x) (rdOp_w xw) o7.wf g2 g1 d21 y7 (hv.ext (@StrR.ext) (e5'.trans e57)) (by simp only [rdOp]; omega) hg0.c8 fun T8 h8 p o8 x8 => ?_
      have y8 := y7.up o8 d21 g2.nil
      have b3 := o8.see b3 g2.nil
      have b1 := o8.see b1 g2.nil
      have e58 := e57.trans (o8.ext g2.nil)
      have hkd := rdOp_kind x
      have hrk : RK (hall0 c c.stripes.toNat).n (rp0 (hall0 c c.stripes.toNat) 0 (rdOp x)) := RK.rp0 hg0 rfl hr18.1 ⟨hr18.2.2.1, hr18.2.2.2⟩ 0 (by omega) _ (fun hb => (usersOf_bad hb hkd).2)
      have hN := RbN_le c (rdOp x)
      unfold d_doormanlaw16_ReadBounded_6
      rw [seqM_eq]
      unfold d_doormanlaw16_ReadBounded_7
      refine loop_on [2, 3, 5, 7] (fun s h' => RdI T8 h8 q p (fun n r H => RbJ c (rdOp x) n r H ∧ H.c = c) 0 (s 8) h') (fun s _ => (1000 - num (s 8)).toNat) ⟨T8, 0, _, _, Only.refl o8.wf, y8, x8, hrk, hg0, by simp [hall0], ⟨RbJ.start c hkd hr18.1 hr18.2.1, rfl⟩, rfl, by omega⟩ ?_
      rintro s h9 hf ⟨T9, n, r, H, o9, y9, x9, rk, hg, hl, ⟨j, hcH⟩, s8, hn⟩
      have s2 : s 2 = ptr v1 := by simpa using hf 2 (by simp)
      have s3 : s 3 = ptr v3 := by simpa using hf 3 (by simp)
      have s5 : s 5 = ptr q := by simpa using hf 5 (by simp)
      have s7 : s 7 = ptr p := by simpa using hf 7 (by simp)
      have hp8 := j.ph8 hkd hr18.1 hr18.2.1
      have hn1 : (n : Int) < 1000 := by omega
      have hw : IntKind.i64.wrap ((n : Int) + 1) = n + 1 := wrap64_id (by omega) (by omega)
      unfold d_doormanlaw16_ReadBounded_8
      simp -implicitDefEqProofs [s7, s8, hn1]
      refine rdone_ok x9 ?_
      by_cases h8' : r.ph = 8
      rotate_left
      · have hlt : n < RbN c (rdOp x) := by
          have := hp8.2
          have : ¬ n = RbN c (rdOp x) := fun e => h8' (hp8.1.2 e)
          omega
        simp -implicitDefEqProofs [h8']
        unfold d_doormanlaw16_ReadBounded_9
        rw [s7, s5, s8]
        refine rd_step (J := fun n r H => RbJ c (rdOp x) n r H ∧ H.c = c) (a0 := 0) (by omega) (by omega) o9 y9 x9 rk hg hl ⟨j.next hkd hr18.1 hr18.2.1 cw.u1.1 hlt, (rk.step hg n (by omega)).2.2.2.1.trans hcH⟩ fun h10 hI => ?_
        unfold d_doormanlaw16_ReadBounded_10
        simp -implicitDefEqProofs [s8, hw, s2, s3, s5, s7]
        exact ⟨hI, by omega⟩
      have hnN : n = RbN c (rdOp x) := hp8.1.1 h8'
      have b3 := o9.see b3 two12
      have b1 := o9.see b1 two12
      have e59 := e58.trans (o9.ext two12)
      have eh9 : Ext h h9 := (e5'.trans e59).trans (fz_ext _ _)
      simp -implicitDefEqProofs [h8', s2, s3, s5, s7, s8]
      unfold d_doormanlaw16_ReadBounded_11
      have c3 := b3.1
      have l3 : ldV (some (some 7)) (ptr v3) h9 = some (.agg (opC x v).toArray) := by rw [ld_at c3]; rfl
      simp -implicitDefEqProofs [s3, l3]
      refine reading_ok x hv.one fun h10 e10 => ?_
      have hv10 := hv.ext (@StrR.ext) (eh9.trans e10)
      have o10 : Only non T9 h9 T9 h10 := Only.of_ext o9.wf e10
      have x10 := x9.kp o10.k (Off.non _) (not_non _)
      have y10 := y9.up o10 (Off.non _) (not_non _)
      unfold d_doormanlaw16_ReadBounded_12
      refine refBad_ok (rdOp x) (rdOp_w xw) hv10 (by simp only [rdOp]; omega) fun h11 e11 => ?_
      have o11 : Only non T9 h10 T9 h11 := Only.of_ext o10.wf e11
      have x11 := x10.kp o11.k (Off.non _) (not_non _)
      have y11 := y10.up o11 (Off.non _) (not_non _)
      unfold d_doormanlaw16_ReadBounded_13
      cases hb : badB (rdOp x) with
      | true =>
        unfold RbJ at j
        simp only [hb, if_true] at j
        obtain ⟨_, ⟨_, hp⟩ | ⟨rfl, _, her⟩⟩ := j
        · omega
        unfold d_doormanlaw16_ReadBounded_14
        simp -implicitDefEqProofs [s7, s8]
        refine rreply_ok o11.wf g2 x11 fun h12 vv e12 _ _ => ?_
        simp -implicitDefEqProofs [fdV, h8', her]
        exact hk h12 (((eh9.trans e10).trans e11).trans e12)
      | false =>
        unfold RbJ at j
        simp only [hb] at j
        unfold RbN at hnN
        simp only [hb] at hnN
        unfold d_doormanlaw16_ReadBounded_15
        have c3 := e11 _ _ (e10 _ _ b3.1)
        have c1 := e11 _ _ (e10 _ _ b1.1)
        have l3 : ldV (some (some 7)) (ptr v3) h11 = some (.agg (opC x v).toArray) := by rw [ld_at c3]; rfl
        simp -implicitDefEqProofs [s3, l3]
        refine reading_ok x hv.one fun h12 e12 => ?_
        have o12 : Only non T9 h11 T9 h12 := Only.of_ext o11.wf e12
        have x12 := x11.kp o12.k (Off.non _) (not_non _)
        have y12 := y11.up o12 (Off.non _) (not_non _)
        unfold d_doormanlaw16_ReadBounded_16
        simp -implicitDefEqProofs [s5]
        refine lstripes_ok (rdOp x) (rdOp_w xw) o12.wf y12 (by rw [hcH]; omega) (hv10.ext (@StrR.ext) (e11.trans e12)) (by simp only [rdOp]; omega) fun h13 e13 => ?_
        have o13 : Only non T9 h12 T9 h13 := Only.of_ext o12.wf e13
        have x13 := x12.kp o13.k (Off.non _) (not_non _)
        have c1 := e13 _ _ (e12 _ _ c1)
        simp only [cfgC] at c1
        rw [hcH]
        have hsp := stripesOf_pos hr18.1 hr18.2.1 (usersOf_bad hb hkd).1
        have hs8 := stripesOf_le (usersOf (rdOp x)) c.stripes
        have hlast : ∀ h14, Ext h13 h14 → K (.bool true) h14 := fun h14 e14 => hk h14 (((((eh9.trans e10).trans e11).trans e12).trans e13).trans e14)
        generalize stripesOf (usersOf (rdOp x)) c.stripes = ss at *
        have hE : E0 c = !decide (2 ≤ c.epochs) := by
          unfold E0 evn
          rw [← decide_not]
          have := cw.u1.1
          exact decide_eq_decide.2 (by omega)
        unfold d_doormanlaw16_ReadBounded_17
        simp -implicitDefEqProofs [s2, ld_at c1, cel_of c1, stm_at c1, stm_upd, ld_same, cel_same, over]
        refine ⟨fun h2 => ?_, fun h2 => ?_⟩
        · have he : E0 c = false := by rw [hE]; simp [h2]
          have hn2 : n = 3 * ss.length + 1 := by simpa [Nof, he] using hnN
          have w1 : IntKind.i64.wrap (3 * (ss.length : Int)) = 3 * ss.length := wrap64_id (by omega) (by omega)
          have w2 : IntKind.i64.wrap (3 * (ss.length : Int) + 1) = 3 * ss.length + 1 := wrap64_id (by omega) (by omega)
          have w3 : IntKind.i64.wrap (2 * (ss.length : Int)) = 2 * ss.length := wrap64_id (by omega) (by omega)
          have hni : (n : Int) = 3 * ss.length + 1 := by omega
          unfold d_doormanlaw16_ReadBounded_18
          simp -implicitDefEqProofs [s7, s8, w1, w2, w3, hni]
          refine rplaced_ok x13 ?_
          have hpe : r.placed = 2 * ss.length ∧ r.err = 0 := by
            cases j with
            | a b w h ph at_ va sp => omega
            | b b w h ph at_ va sp => omega
            | c b w h ph at_ va sp => omega
            | d b w h ph at_ va sp tc lo => omega
            | f b w h he' ph at_ => omega
            | g b h he' ph at_ => omega
            | i b h he' ph at_ tc lo pl => omega
            | j b h he' ph at_ tc lo pl => omega
            | k h he' ph pl er => rw [he] at he'; cases he'
            | e h he' ph pl er vl => exact ⟨by rw [pl]; simp, er⟩
          simp -implicitDefEqProofs [hpe.1, w3]
          refine rreply_ok o13.wf g2 x13 fun h14 vv e14 _ _ => ?_
          simp -implicitDefEqProofs [fdV, h8', hpe.2]
          exact hlast h14 e14
        · have he : E0 c = true := by rw [hE]; simp; omega
          have hn2 : n = 6 * ss.length + 2 := by simpa [Nof, he] using hnN
          have w1 : IntKind.i64.wrap (6 * (ss.length : Int)) = 6 * ss.length := wrap64_id (by omega) (by omega)
          have w2 : IntKind.i64.wrap (6 * (ss.length : Int) + 2) = 6 * ss.length + 2 := wrap64_id (by omega) (by omega)
          have w3 : IntKind.i64.wrap (4 * (ss.length : Int)) = 4 * ss.length := wrap64_id (by omega) (by omega)
          have w4 : IntKind.i64.wrap (4 * (ss.length : Int) + 1) = 4 * ss.length + 1 := wrap64_id (by omega) (by omega)
          have hni : (n : Int) = 6 * ss.length + 2 := by omega
          unfold d_doormanlaw16_ReadBounded_19
          simp -implicitDefEqProofs [s7, s8, w1, w2, w3, w4, hni]
          refine rplaced_ok x13 ?_
          have hpe : r.placed = 4 * ss.length + 1 ∧ r.err = 0 := by
            cases j with
            | a b w h ph at_ va sp => omega
            | b b w h ph at_ va sp => omega
            | c b w h ph at_ va sp => omega
            | d b w h ph at_ va sp tc lo => omega
            | f b w h he' ph at_ => omega
            | g b h he' ph at_ => omega
            | i b h he' ph at_ tc lo pl => omega
            | j b h he' ph at_ tc lo pl => omega
            | e h he' ph pl er vl => rw [he] at he'; cases he'
            | k h he' ph pl er => exact ⟨by rw [pl]; simp, er⟩
          simp -implicitDefEqProofs [hpe.1, w3, w4]
          refine rreply_ok o13.wf g2 x13 fun h14 vv e14 _ _ => ?_
          simp -implicitDefEqProofs [fdV, h8', hpe.2]
          exact hlast h14 e14
end Go.Proofs.Ytcnphhhcknhhaaa
