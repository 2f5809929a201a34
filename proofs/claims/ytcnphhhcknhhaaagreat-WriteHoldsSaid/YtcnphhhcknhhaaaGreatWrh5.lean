/- Words, plain data and contracts of the Go functions that this claim reaches. No condition beyond the hypotheses that each theorem states. -/
import Derived.Test.YtcnphhhcknhhaaaGreatWrh4
set_option linter.unusedSimpArgs false
set_option linter.unusedVariables false
namespace Go.Proofs.YtcnphhhcknhhaaaGreat
open Go Go.Den Go.MapKept
set_option linter.unusedSimpArgs false
set_option linter.unusedVariables false
set_option maxRecDepth 20000
section
variable {T : Tags} {h : Heap} {g gh : Tag} {q hp : Nat} {p : WP} {H : Hall} {K : Value → Heap → Prop}
theorem wlock_ok (w : Wf T h) (gg : Gd gh) (x : WPR T h g q p) (y : HallR T h gh hp H) (wg : WG H.n p) (h8 : H.n ≤ 8) (hl : H.acts.length < 1000000) (hk : ∀ T' h', Only (pre gh) T h T' h' → HallR T' h' gh hp (H.lock p.who p.s) → K (.tuple #[]) h') : callM P fn_write_Proc_lock #[ptr q, ptr hp] h K := by
  apply e_write_Proc_lock
  unfold d_write_Proc_lock
  obtain ⟨ap, x⟩ := x
  have cp := x.hp
  simp -implicitDefEqProofs only [wpC] at cp
  simp -implicitDefEqProofs [ld_at cp, cel_of cp, stm_at cp, stm_upd, ld_same, cel_same, over]
  exact lock_ok _ w gg y wg.s h8 hl (by have := wg.w; omega) hk
theorem wbegin_ok (w : Wf T h) (gg : Gd gh) (x : WPR T h g q p) (y : HallR T h gh hp H) (wg : WG H.n p) (h8 : H.n ≤ 8) (hl : H.acts.length < 1000000) (hv : U64 (H.ss p.s).v) (hb : U64 (H.ss p.s).bound) (hk : ∀ T' h', Only (pre gh) T h T' h' → HallR T' h' gh hp (H.begin p.who p.s) → K (.tuple #[]) h') : callM P fn_write_Proc_begin #[ptr q, ptr hp] h K := by
  apply e_write_Proc_begin
  unfold d_write_Proc_begin
  obtain ⟨ap, x⟩ := x
  have cp := x.hp
  simp -implicitDefEqProofs only [wpC] at cp
  simp -implicitDefEqProofs [ld_at cp, cel_of cp, stm_at cp, stm_upd, ld_same, cel_same, over]
  exact begin2_ok _ w gg y wg.s h8 hl hv hb hk
theorem wpub_ok (w : Wf T h) (gg : Gd gh) (x : WPR T h g q p) (y : HallR T h gh hp H) (wg : WG H.n p) (h8 : H.n ≤ 8) (hl : H.acts.length < 900000) (hk : ∀ T' h', Only (pre gh) T h T' h' → HallR T' h' gh hp (H.pub p.who p.s) → K (.tuple #[]) h') : callM P fn_write_Proc_publish #[ptr q, ptr hp] h K := by
  apply e_write_Proc_publish
  unfold d_write_Proc_publish
  obtain ⟨ap, x⟩ := x
  have cp := x.hp
  simp -implicitDefEqProofs only [wpC] at cp
  simp -implicitDefEqProofs [ld_at cp, cel_of cp, stm_at cp, stm_upd, ld_same, cel_same, over]
  exact hpub_ok _ w gg y wg.s h8 (by omega) hk
theorem wend_ok (w : Wf T h) (gg : Gd gh) (x : WPR T h g q p) (y : HallR T h gh hp H) (wg : WG H.n p) (h8 : H.n ≤ 8) (hl : H.acts.length < 1000000) (hv : U64 (H.ss p.s).v) (hw : wrt (H.ss p.s).v = true → (H.ss p.s).v < 18446744073709551615) (hk : ∀ T' h', Only (pre gh) T h T' h' → HallR T' h' gh hp (H.end_ p.who p.s) → K (.tuple #[]) h') : callM P fn_write_Proc_end #[ptr q, ptr hp] h K := by
  apply e_write_Proc_end
  unfold d_write_Proc_end
  obtain ⟨ap, x⟩ := x
  have cp := x.hp
  simp -implicitDefEqProofs only [wpC] at cp
  simp -implicitDefEqProofs [ld_at cp, cel_of cp, stm_at cp, stm_upd, ld_same, cel_same, over]
  exact hend_ok _ w gg y wg.s h8 hl hv hw hk
theorem wunlock_ok (w : Wf T h) (gg : Gd gh) (x : WPR T h g q p) (y : HallR T h gh hp H) (wg : WG H.n p) (h8 : H.n ≤ 8) (hl : H.acts.length < 1000000) (hw : 0 ≤ (H.ss p.s).who ∧ (H.ss p.s).who ≤ 1000) (hk : ∀ T' h', Only (pre gh) T h T' h' → HallR T' h' gh hp (H.unlock p.who p.s) → K (.tuple #[]) h') : callM P fn_write_Proc_unlock #[ptr q, ptr hp] h K := by
  apply e_write_Proc_unlock
  unfold d_write_Proc_unlock
  obtain ⟨ap, x⟩ := x
  have cp := x.hp
  simp -implicitDefEqProofs only [wpC] at cp
  simp -implicitDefEqProofs [ld_at cp, cel_of cp, stm_at cp, stm_upd, ld_same, cel_same, over]
  exact unlock_ok _ w gg y wg.s h8 hl (by omega) hk
theorem wtake_ok (w : Wf T h) (gg : Gd gh) (d1 : Off (pre gh) g) (d2 : Off (pre g) gh) (g2 : Gd g) (x : WPR T h g q p) (y : HallR T h gh hp H) (ht : U64 H.t.seq) (hl : H.acts.length < 1000000) (hk : ∀ T' h', Only (two (pre g) (pre gh)) T h T' h' → WPR T' h' g q { p with t := (H.take p.who).t } → HallR T' h' gh hp (H.take p.who) → K (.tuple #[]) h') : callM P fn_write_Proc_take #[ptr q, ptr hp] h K := by
  apply e_write_Proc_take
  unfold d_write_Proc_take
  obtain ⟨ap, x⟩ := x
  have cp := x.hp
  simp -implicitDefEqProofs only [wpC] at cp
  simp -implicitDefEqProofs [ld_at cp, cel_of cp, stm_at cp, stm_upd, ld_same, cel_same, over]
  refine htake_ok _ w gg y ht hl fun T1 h1 o1 y1 => ?_
  have x1 := x.kp o1.k d1 gg.nil
  have cp := x1.hp
  simp -implicitDefEqProofs only [wpC] at cp
  obtain ⟨o2, x2⟩ := x1.st (p' := { p with t := (H.take p.who).t }) o1.wf (c := _) rfl rfl rfl rfl
  simp -implicitDefEqProofs [ld_at cp, cel_of cp, stm_at cp, stm_upd, ld_same, cel_same, over, tmC]
  refine hk T1 _ ((o1.mono fun _ => .inr).up o2 fun _ hh => .inl (eq_pre hh)) ⟨ap, ?_⟩ (y1.up o2 (fun t ht hh => d2 t ht (eq_pre hh)) (by simp))
  exact x2
theorem wwrite_ok (w : Wf T h) (gg : Gd gh) (d1 : Off (pre gh) g) (d2 : Off (pre g) gh) (g2 : Gd g) (x : WPR T h g q p) (y : HallR T h gh hp H) (wg : WG H.n p) (hb : p.k.isBad = false) (h8 : H.n ≤ 8) (hl : H.acts.length < 1000000) (sg : StG (H.ss p.s)) (hk : ∀ T' h', Only (two (pre g) (pre gh)) T h T' h' → WPR T' h' g q { p with err := (p.k.run H p.who p.s p.t).2 } → HallR T' h' gh hp (p.k.run H p.who p.s p.t).1 → K (.tuple #[]) h') : callM P fn_write_Proc_write #[ptr q, ptr hp] h K := by
  apply e_write_Proc_write
  unfold d_write_Proc_write
  obtain ⟨ap, x⟩ := x
  have cp := x.hp
  simp -implicitDefEqProofs only [wpC] at cp
  have oa : ldV (some (some 3)) (.pointer (some ⟨q, 4, none⟩)) h = some (.agg (tmC p.t).toArray) := by simp [ld_at cp, tmC]
  simp -implicitDefEqProofs [ld_at cp, cel_of cp, stm_at cp, stm_upd, ld_same, cel_same, over, oa]
  refine ap_ok hb wg.o p.t wg.t.1 w gg y wg.s h8 hl sg x.ap fun T1 h1 o1 y1 => ?_
  have x1 := x.kp o1.k d1 gg.nil
  have cp := x1.hp
  simp -implicitDefEqProofs only [wpC] at cp
  obtain ⟨o2, x2⟩ := x1.st (p' := { p with err := (p.k.run H p.who p.s p.t).2 }) o1.wf (c := _) rfl rfl rfl rfl
  simp -implicitDefEqProofs [ld_at cp, cel_of cp, stm_at cp, stm_upd, ld_same, cel_same, over, repC]
  refine hk T1 _ ((o1.mono fun _ => .inr).up o2 fun _ hh => .inl (eq_pre hh)) ⟨ap, ?_⟩ (y1.up o2 (fun t ht hh => d2 t ht (eq_pre hh)) (by simp))
  exact x2
end
/-- The act of a step. -/
theorem wact_ok {T : Tags} {h : Heap} {g gh : Tag} {q hp m : Nat} {p : WP} {H : Hall} {K : Value → Heap → Prop} (n : Int) (w : Wf T h) (gg : Gd gh) (d1 : Off (pre gh) g) (d2 : Off (pre g) gh) (g2 : Gd g) (x : WPR T h g q p) (y : HallR T h gh hp H) (hs : HS m H) (hm : m < 100000) (wg : WG H.n p) (hb : p.k.isBad = false) (h7 : p.at_ < 7) {f : Value}
    (hf : stepA[p.at_]? = some f) (hpl : p.at_ = 2 → p.placed = n)
    (hk : ∀ T' h', Only (two (pre g) (pre gh)) T h T' h' → WPR T' h' g q { (p.stp H n).1 with at_ := p.at_ } → HallR T' h' gh hp (p.stp H n).2 → K (.tuple #[]) h') : nxM P (do let d ← Deferred.ofValue f #[ptr q, ptr hp]; invoke d.target d.args) h K := by
  have st := hs.st p.s wg.s
  have n8 := hs.n8.2
  have ac : H.acts.length < 900000 := by have := hs.ac; omega
  have up : ∀ T' h', Only (pre gh) T h T' h' → Only (two (pre g) (pre gh)) T h T' h' ∧ WPR T' h' g q p := fun T' h' o => ⟨o.mono fun _ => .inr, x.kp o.k d1 gg.nil⟩
  by_cases h0 : p.at_ = 0
  · rw [stp0 H n h0] at hk
    simp -implicitDefEqProofs only [h0] at hf hk
    cases hf
    refine nx_fn good (by kernel_rfl) ?_
    refine wlock_ok w gg x y wg n8 (by omega) fun T1 h1 o1 y1 => hk T1 h1 (up _ _ o1).1 ?_ y1
    have := (up _ _ o1).2
    rw [← h0]; exact this
  by_cases h1 : p.at_ = 1
  · rw [stp1 H n h1] at hk
    simp -implicitDefEqProofs only [h1] at hf hk
    cases hf
    refine nx_fn good (by kernel_rfl) ?_
    refine wbegin_ok w gg x y wg n8 (by omega) st.wr.1 st.wr.2.1 fun T1 h2 o1 y1 => hk T1 h2 (up _ _ o1).1 ?_ y1
    have := (up _ _ o1).2
    rw [← h1]; exact this
  by_cases h2 : p.at_ = 2
  · rw [stp2 H n h2] at hk
    simp -implicitDefEqProofs only [h2] at hf hk
    cases hf
    refine nx_fn good (by kernel_rfl) ?_
    refine wtake_ok w gg d1 d2 g2 x y hs.ts (by omega) fun T1 h3 o1 x1 y1 => hk T1 h3 o1 ?_ y1
    rw [← hpl h2, ← h2]; exact x1
  by_cases h3 : p.at_ = 3
  · rw [stp3 H n h3] at hk
    simp -implicitDefEqProofs only [h3] at hf hk
    cases hf
    refine nx_fn good (by kernel_rfl) ?_
    refine wwrite_ok w gg d1 d2 g2 x y wg hb n8 (by omega) (stG_of st hm) fun T1 h4 o1 x1 y1 => hk T1 h4 o1 ?_ y1
    rw [← h3]; exact x1
  by_cases h4 : p.at_ = 4
  · rw [stp4 H n h4] at hk
    simp -implicitDefEqProofs only [h4] at hf hk
    cases hf
    refine nx_fn good (by kernel_rfl) ?_
    refine wpub_ok w gg x y wg n8 ac fun T1 h5 o1 y1 => hk T1 h5 (up _ _ o1).1 ?_ y1
    have := (up _ _ o1).2
    rw [← h4]; exact this
  by_cases h5 : p.at_ = 5
  · rw [stp5 H n h5] at hk
    simp -implicitDefEqProofs only [h5] at hf hk
    cases hf
    refine nx_fn good (by kernel_rfl) ?_
    refine wend_ok w gg x y wg n8 (by omega) st.wr.1 st.wr.2.2 fun T1 h6 o1 y1 => hk T1 h6 (up _ _ o1).1 ?_ y1
    have := (up _ _ o1).2
    rw [← h5]; exact this
  · have h6 : p.at_ = 6 := by omega
    rw [stp6 H n (by omega)] at hk
    simp -implicitDefEqProofs only [h6] at hf hk
    cases hf
    refine nx_fn good (by kernel_rfl) ?_
    refine wunlock_ok w gg x y wg n8 (by omega) st.wh fun T1 h7 o1 y1 => hk T1 h7 (up _ _ o1).1 ?_ y1
    have := (up _ _ o1).2
    rw [← h6]; exact this
set_option maxHeartbeats 2000000 in
theorem wstep_ok {T : Tags} {h : Heap} {g gh : Tag} {q hp m : Nat} {p : WP} {H : Hall} {K : Value → Heap → Prop} (n : Int) (w : Wf T h) (gg : Gd gh) (d1 : Off (pre gh) g) (d2 : Off (pre g) gh) (g2 : Gd g) (x : WPR T h g q p) (y : HallR T h gh hp H) (hs : HS m H) (hm : m < 100000) (wg : WG H.n p)
    (hk : ∀ T' h', Only (two (pre g) (pre gh)) T h T' h' → WPR T' h' g q (p.step H n).1 → HallR T' h' gh hp (p.step H n).2 → K (.tuple #[]) h') : callM P fn_write_Proc_Step #[ptr q, ptr hp, .int .i64 n] h K := by
  apply e_write_Proc_Step
  unfold d_write_Proc_Step
  refine wenabled_ok w x y wg.s fun h1 e1 => ?_
  have o1 : Only non T h T h1 := Only.of_ext w e1
  obtain ⟨ap, x⟩ := x.kp o1.k (Off.non _) (not_non _)
  have y := y.up o1 (Off.non _) (not_non _)
  have cp := x.hp
  simp -implicitDefEqProofs only [wpC] at cp
  unfold d_write_Proc_Step_1
  cases he : p.enabled H with
  | false =>
    simp -implicitDefEqProofs
    have e : p.step H n = (p, H) := by simp [WP.step, he]
    rw [e] at hk
    exact hk T h1 (o1.mono non_up) ⟨ap, x⟩ y
  | true =>
    have h7 := enabled_at he
    simp -implicitDefEqProofs
    unfold d_write_Proc_Step_2
    have hn := x.ap.nil
    cases hb : p.k.isBad with
    | true =>
      rw [hb] at hn
      have e : p.step H n = ({ p with err := 1, placed := n, at_ := 7 }, H) := by simp [WP.step, he, hb]
      rw [e] at hk
      simp -implicitDefEqProofs [ld_at cp, cel_of cp, stm_at cp, stm_upd, ld_same, cel_same, over, hn]
      unfold d_write_Proc_Step_3
      simp -implicitDefEqProofs [bdRepE]
      refine steps_ok fun b h2 n2 e2 c2 => ?_
      unfold d_write_Proc_Step_4
      have o2 : Only non T h1 T h2 := Only.of_ext o1.wf e2
      have x := x.kp o2.k (Off.non _) (not_non _)
      have y := y.up o2 (Off.non _) (not_non _)
      have cp := x.hp
      simp -implicitDefEqProofs only [wpC] at cp
      obtain ⟨o3, x3⟩ := x.st (p' := { p with err := 1, placed := n, at_ := 7 }) o2.wf (c := _) rfl rfl rfl rfl
      simp -implicitDefEqProofs [ld_at cp, cel_of cp, stm_at cp, stm_upd, ld_same, cel_same, over]
      refine hk T _ (((o1.mono non_up).up o2 non_up).up o3 fun _ hh => .inl (eq_pre hh)) ⟨ap, ?_⟩ (y.up o3 (fun t ht hh => d2 t ht (eq_pre hh)) (by simp))
      exact x3
    | false =>
      rw [hb] at hn
      have e : p.step H n = p.stp H n := by simp [WP.step, he, hb]
      rw [e] at hk
      simp -implicitDefEqProofs [ld_at cp, cel_of cp, stm_at cp, stm_upd, ld_same, cel_same, over, hn]
      unfold d_write_Proc_Step_5
      rw [seqM_eq]
      -- the act, and going on
      have fin : ∀ (p1 : WP) (h3 : Heap) (s : Env), Only (two (pre g) (pre gh)) T h T h3 → WPR T h3 g q p1 → HallR T h3 gh hp H → WG H.n p1 → p1.stp H n = p.stp H n → p1.at_ = p.at_ → p1.k = p.k → (p1.at_ = 2 → p1.placed = n) → s 0 = ptr q → s 1 = ptr hp → d_write_Proc_Step_9 s h3 K [] := by
        intro p1 h3 s o3 x3 y3 g3 est eat ek epl s0 s1
        obtain ⟨ap3, x3'⟩ := x3
        have cp := x3'.hp
        simp -implicitDefEqProofs only [wpC] at cp
        unfold d_write_Proc_Step_9
        simp -implicitDefEqProofs [s0, s1, ld_at cp, cel_of cp, stm_at cp, stm_upd, ld_same, cel_same, over]
        refine steps_ok fun b h4 n4 e4 c4 => ?_
        have o4 : Only non T h3 T h4 := Only.of_ext o3.wf e4
        have x4 := x3'.kp o4.k (Off.non _) (not_non _)
        have y4 := y3.up o4 (Off.non _) (not_non _)
        have cp := x4.hp
        simp -implicitDefEqProofs only [wpC] at cp
        unfold d_write_Proc_Step_10
        have h17 : p1.at_ < 7 := by omega
        obtain ⟨f, hf⟩ : ∃ f, stepA[p1.at_]? = some f := ⟨_, Array.getElem?_eq_getElem (xs := stepA) (i := p1.at_) h17⟩
        have hia : iaV (some (none, 1)) (.slice (some ⟨b, 0, none⟩) 7 7) (.int .i64 p1.at_) = some (.pointer (some ⟨b, p1.at_, none⟩)) := by
          have : (0 : Int) ≤ p1.at_ ∧ (p1.at_ : Int) < 7 := by omega
          simp -implicitDefEqProofs [iaV, this]
        have hcl : cel h4 b p1.at_ = some f := by rw [cel_of c4]; exact hf
        simp -implicitDefEqProofs [ld_at cp, cel_of cp, stm_at cp, stm_upd, ld_same, cel_same, over, hia, hcl, s0, s1]
        refine wact_ok n o4.wf gg d1 d2 g2 ⟨ap3, x4⟩ y4 hs hm g3 (by rw [ek]; exact hb) h17 hf epl fun T5 h5 o5 x5 y5 => ?_
        obtain ⟨ap5, x5⟩ := x5
        have cp := x5.hp
        simp -implicitDefEqProofs only [wpC] at cp
        unfold d_write_Proc_Step_11
        have hw : IntKind.i64.wrap ((p1.at_ : Int) + 1) = (p1.at_ + 1 : Nat) := by rw [wrap64_id (by omega) (by omega)]; omega
        have hat := stp_at p1 H n h17
        obtain ⟨o6, x6⟩ := x5.st (p' := (p1.stp H n).1) o5.wf (c := _) rfl rfl rfl rfl
        have x6' := x6.hp
        simp -implicitDefEqProofs only [wpC, hat] at o6 x6'
        simp -implicitDefEqProofs [ld_at cp, cel_of cp, stm_at cp, stm_upd, ld_same, cel_same, over, hw, s0, s1, -Int.natCast_add]
        refine hk T5 _ (((o3.up o4 non_up).up o5 fun _ hh => hh).up o6 fun _ hh => .inl (eq_pre hh)) ⟨ap5, ?_⟩ (by rw [← est]; exact y5.up o6 (fun t ht hh => d2 t ht (eq_pre hh)) (by simp))
        rw [← est]
        simp -implicitDefEqProofs only [wpC, hat] at x6
        exact x6
      unfold d_write_Proc_Step_6
      simp -implicitDefEqProofs [ld_at cp, cel_of cp, stm_at cp, stm_upd, ld_same, cel_same, over]
      refine ⟨fun h2 => ?_, fun h2 => ?_⟩
      · have h2 : p.at_ = 2 := by omega
        unfold d_write_Proc_Step_7
        obtain ⟨o3, x3⟩ := x.st (p' := { p with placed := n }) o1.wf (c := _) rfl rfl rfl rfl
        simp -implicitDefEqProofs [ld_at cp, cel_of cp, stm_at cp, stm_upd, ld_same, cel_same, over]
        refine fin { p with placed := n } _ _ ((o1.mono non_up).up o3 fun _ hh => .inl (eq_pre hh)) ⟨ap, ?_⟩ (y.up o3 (fun t ht hh => d2 t ht (eq_pre hh)) (by simp)) ⟨wg.s, wg.w, wg.a, wg.t, wg.o⟩ ?_ rfl rfl (fun _ => rfl) ?_ ?_
        · exact x3
        · rw [stp2 H n h2, stp2 H n (by exact h2)]
        · simp -implicitDefEqProofs
        · simp -implicitDefEqProofs
      · have h2 : p.at_ ≠ 2 := by omega
        unfold d_write_Proc_Step_8
        simp -implicitDefEqProofs
        refine fin p h1 _ (o1.mono non_up) ⟨ap, x⟩ y wg rfl rfl rfl (fun h => absurd h h2) ?_ ?_ <;> simp
end Go.Proofs.YtcnphhhcknhhaaaGreat
namespace Go.Den
open Go
set_option linter.unusedVariables false
set_option linter.unusedSimpArgs false
structure SwA (N k : Nat) (p : SwP) (H : Hall) : Prop where
  hn : H.n = N
  n0 : 0 < N
  at_ : p.now.at_ = k % 7
  st : p.stripe = k / 7 % N
  ro : p.rounds = k / 7 / N
  e : p.now.s = p.stripe
  kk : p.now.k = .sweep
  w : p.now.who = 8
  lk : ∀ s, s < N → (H.ss s).who = if k % 7 ≠ 0 ∧ s = k / 7 % N then 9 else 0
theorem SwA.new {H : Hall} {N : Nat} (hn : H.n = N) (n0 : 0 < N) (h : ∀ s, s < N → (H.ss s).who = 0) : SwA N 0 SwP.new H :=
  ⟨hn, n0, rfl, by simp [SwP.new], by simp [SwP.new], rfl, rfl, rfl, fun s hs => by simp [h s hs]⟩
theorem SwA.en {N k : Nat} {p : SwP} {H : Hall} (x : SwA N k p H) : p.now.enabled H = true := by
  have h1 := x.at_; have h2 := x.kk
  have hs : p.stripe < N := by rw [x.st]; exact Nat.mod_lt _ x.n0
  have hlk := x.lk p.stripe hs
  simp only [WP.enabled, WP.done, WP.waits, h1, h2, WK.isBad, x.e, hlk]
  have : ¬ 7 ≤ k % 7 := by omega
  by_cases h0 : k % 7 = 0
  · simp [h0]
  · have : 0 < k % 7 := by omega
    simp [this]; omega
theorem put_who {H : Hall} {s t : Nat} {y : Strp} : ((H.put s y).ss t).who = if t = s then y.who else (H.ss t).who := by
  simp only [Hall.put, sput]; split <;> rfl
theorem succ_div7 {k : Nat} (h : k % 7 ≠ 6) : (k + 1) / 7 = k / 7 ∧ (k + 1) % 7 = k % 7 + 1 := by omega
theorem succ_div7' {k : Nat} (h : k % 7 = 6) : (k + 1) / 7 = k / 7 + 1 ∧ (k + 1) % 7 = 0 := by omega
theorem stp_who (p : WP) (H : Hall) (n : Int) (hk : p.k = .sweep) (s : Nat) : ((p.stp H n).2.ss s).who =
    if s = p.s then (if p.at_ = 0 then (if canTake (H.ss s).who p.who then p.who + 1 else (H.ss s).who) else if 6 ≤ p.at_ then (if canGive (H.ss s).who p.who then 0 else (H.ss s).who) else (H.ss s).who) else (H.ss s).who := by
  by_cases h0 : p.at_ = 0
  · rw [stp0 H n h0, h0]
    simp only [if_true, Hall.lock]
    by_cases hs : s = p.s
    · subst hs
      by_cases hc : canTake (H.ss p.s).who p.who = true
      · simp [hc, put_who]
      · simp [hc]
    · rw [if_neg hs]
      split
      · rw [put_who, if_neg hs]; rfl
      · rfl
  by_cases h1 : p.at_ = 1
  · rw [stp1 H n h1, h1]
    simp only [Hall.begin, put_who]
    by_cases hs : s = p.s
    · subst hs; simp
    · simp [hs, Hall.did]
  by_cases h2 : p.at_ = 2
  · rw [stp2 H n h2, h2]; simp [Hall.take, Hall.did]
  by_cases h3 : p.at_ = 3
  · rw [stp3 H n h3, h3]
    simp only [hk, WK.run, Hall.sweep, put_who]
    by_cases hs : s = p.s
    · subst hs; simp
    · simp [hs, Hall.wr, Hall.did]
  by_cases h4 : p.at_ = 4
  · rw [stp4 H n h4, h4]
    simp only [Hall.pub, put_who]
    by_cases hs : s = p.s
    · subst hs; simp
    · simp [hs, Hall.did]
  by_cases h5 : p.at_ = 5
  · rw [stp5 H n h5, h5]
    simp only [Hall.end_, put_who]
    by_cases hs : s = p.s
    · subst hs; simp
    · simp [hs, Hall.did]
  · have h6 : 6 ≤ p.at_ := by omega
    rw [stp6 H n h6]
    simp only [h0, if_false, h6, if_true, Hall.unlock]
    by_cases hs : s = p.s
    · subst hs
      by_cases hc : canGive (H.ss p.s).who p.who = true
      · simp [hc, put_who]
      · simp [hc]
    · rw [if_neg hs]
      split
      · rw [put_who, if_neg hs]; rfl
      · rfl
theorem stp_t (p : WP) (H : Hall) (n : Int) (hk : p.k = .sweep) : (p.stp H n).2.t = if p.at_ = 2 then { H.t with seq := addU H.t.seq 1 } else H.t := by
  unfold WP.stp
  have hl : (H.lock p.who p.s).t = H.t := by unfold Hall.lock; split <;> rfl
  have hu : (H.unlock p.who p.s).t = H.t := by unfold Hall.unlock; split <;> rfl
  split
  · rename_i h; simp [h, hl]
  split
  · rename_i h; simp [h]; rfl
  split
  · rename_i h; simp [h]; rfl
  split
  · rename_i h; simp [h, hk, WK.run]; rfl
  split
  · rename_i h; simp [h]; rfl
  split
  · rename_i h; simp [h]; rfl
  · rename_i h _ _ _; simp [h, hu]
theorem SwA.step {N k : Nat} {p : SwP} {H : Hall} (x : SwA N k p H) (n : Int) :
    SwA N (k + 1) (p.step H n).1 (p.step H n).2.1 ∧ (p.step H n).2.2 = decide (k % 7 = 6) ∧ (p.step H n).2.1.t = if k % 7 = 2 then { H.t with seq := addU H.t.seq 1 } else H.t := by
  have hen := x.en
  have hat := x.at_
  have hl7 : p.now.at_ < 7 := by omega
  have hst : p.now.step H n = p.now.stp H n := by simp [WP.step, hen, x.kk, WK.isBad]
  obtain ⟨k1, k2, k3⟩ := stp_k p.now H n
  obtain ⟨n1, n2⟩ := stp_n p.now H n
  have a1 := stp_at p.now H n hl7
  have tt := stp_t p.now H n x.kk
  have ww := stp_who p.now H n x.kk
  have hdone : (p.now.stp H n).1.done = decide (k % 7 = 6) := by
    rw [WP.done, a1, hat]; exact decide_eq_decide.2 (by omega)
  have hs : p.stripe < N := by rw [x.st]; exact Nat.mod_lt _ x.n0
  unfold SwP.step
  simp only [hst, hdone]
  have hN := x.n0
  by_cases h6 : k % 7 = 6
  · obtain ⟨d1, d2⟩ := succ_div7' h6
    have tl : ∀ s, s < N → ((p.now.stp H n).2.ss s).who = 0 := fun s hs' => by
      rw [ww s, x.e, hat, h6, x.w, x.lk s hs', h6, x.st]
      by_cases hss : s = k / 7 % N
      · simp [hss, canGive]
      · simp [hss]
    have tt' : (p.now.stp H n).2.t = H.t := by rw [tt, hat, h6]; simp
    rw [h6]
    simp only [decide_true, if_true, d2]
    refine ⟨?_, by simp [h6], by rw [tt']; simp⟩
    unfold SwP.nxt
    have hst' := x.st
    have hro := x.ro
    have hdm := Nat.div_add_mod (k / 7) N
    split
    · rename_i hl
      have hl' : k / 7 % N + 1 = N := by rw [← hst', ← x.hn]; exact hl
      have hq : k / 7 + 1 = N * (k / 7 / N + 1) := by rw [Nat.mul_add]; omega
      refine ⟨n1.trans x.hn, hN, by rw [d2]; rfl, ?_, ?_, rfl, rfl, rfl, fun s hs => by rw [d2]; simp [tl s hs]⟩
      · show 0 = _; rw [d1, hq]; simp
      · show p.rounds + 1 = _; rw [d1, hq, Nat.mul_div_cancel_left _ hN, hro]
    · rename_i hl
      have hl' : k / 7 % N + 1 < N := by have := Nat.mod_lt (k / 7) hN; have : ¬ (p.stripe + 1 = N) := fun h => hl (h.trans x.hn.symm); omega
      have hq : k / 7 + 1 = N * (k / 7 / N) + (k / 7 % N + 1) := by omega
      refine ⟨n1.trans x.hn, hN, by rw [d2]; rfl, ?_, ?_, rfl, rfl, rfl, fun s hs => by rw [d2]; simp [tl s hs]⟩
      · show p.stripe + 1 = _; rw [d1, hq, Nat.mul_add_mod, Nat.mod_eq_of_lt hl', hst']
      · show p.rounds = _; rw [d1, hq, Nat.mul_add_div hN, Nat.div_eq_of_lt hl', hro, Nat.add_zero]
  · obtain ⟨d1, d2⟩ := succ_div7 h6
    simp only [h6, decide_false, Bool.false_eq_true, if_false]
    refine ⟨⟨n1.trans x.hn, hN, by show (p.now.stp H n).1.at_ = _; rw [a1, hat, d2], by rw [d1]; exact x.st, by rw [d1]; exact x.ro, k3.trans x.e, k1.trans x.kk, k2.trans x.w, fun s hs' => ?_⟩, trivial, by rw [tt, hat]⟩
    show ((p.now.stp H n).2.ss s).who = _
    have h6' : ¬ 6 ≤ k % 7 := by omega
    rw [ww s, x.e, hat, x.w, x.lk s hs', x.st, d1, d2]
    by_cases hss : s = k / 7 % N
    · by_cases h0 : k % 7 = 0
      · simp [hss, h0, canTake]
      · simp [hss, h0, h6']
    · simp [hss]
end Go.Den
namespace Go.Den
open Go
set_option linter.unusedVariables false
set_option linter.unusedSimpArgs false
def evt0 : Evt := ⟨⟨#[]⟩, ⟨0, 0, 0⟩, ⟨0, 0, 0⟩, 0⟩
def hdE (l : List Evt) : Evt := l.headD evt0
def nth (r : List (List Evt)) (i : Nat) : List Evt := r.getD i []
/-- The first of the lists whose first event has the least number. -/
def bestE (r : List (List Evt)) : Nat → Option Nat
  | 0 => none
  | k + 1 => match bestE r k with
    | none => if nth r k = [] then none else some k
    | some b => if nth r k ≠ [] ∧ (hdE (nth r k)).seq < (hdE (nth r b)).seq then some k else some b
def mergeF : Nat → List (List Evt) → List Evt
  | 0, _ => []
  | f + 1, r => match bestE r r.length with
    | none => []
    | some b => hdE (nth r b) :: mergeF f (r.set b (nth r b).tail)
def totE (r : List (List Evt)) : Nat := (r.map (·.length)).sum
def mergeE (r : List (List Evt)) : List Evt := mergeF (totE r) r
structure Tbl where
  c : Cfg
  t : Tm
  n : Nat
  bk : Nat → Book
  fd : Nat → Feed
def rep0 : Reply := ⟨0, [], [], false⟩
def repE (e : Int) : Reply := ⟨e, [], [], false⟩
def bset {α : Type} (f : Nat → α) (i : Nat) (x : α) : Nat → α := fun k => if k = i then x else f k
def Tbl.stripe (M : Tbl) (u : ByteArray) : Nat := (stripeOf u M.c.stripes).toNat
def Tbl.take (M : Tbl) : Tbl := { M with t := { M.t with seq := addU M.t.seq 1 } }
def Tbl.sweepAt (M : Tbl) (s : Nat) (t : Tm) : Tbl := { M with bk := bset M.bk s (sweepB (M.bk s) t.now).1, fd := bset M.fd s ((M.fd s).tell (sweepB (M.bk s) t.now).2 t.seq) }
def Tbl.sweep (M : Tbl) (s : Int) : Tbl := if 0 ≤ s ∧ s < M.n then M.take.sweepAt s.toNat M.take.t else M
def Tbl.writeAt (M : Tbl) (s : Nat) (x : OpD) (t : Tm) : Tbl := { M with bk := bset M.bk s (writeB (M.bk s) x t.now M.c.sessions).1, fd := bset M.fd s ((M.fd s).tell (writeB (M.bk s) x t.now M.c.sessions).2.1 t.seq) }
def Tbl.write (M : Tbl) (x : OpD) : Tbl × Reply :=
  if M.t.closed then (M.take, repE 5) else (M.take.writeAt (M.stripe x.user) x M.take.t, repE (writeB (M.bk (M.stripe x.user)) x M.t.now M.c.sessions).2.2)
def Tbl.count (M : Tbl) (who : Int) : Nat := ((List.range M.n).map fun s => (M.fd s).count who).sum
def Tbl.fed (M : Tbl) (s : Nat) (f : Feed) : Tbl := { M with fd := bset M.fd s f }
def Tbl.watch (M : Tbl) (who : Int) (u : ByteArray) : Tbl × Reply :=
  if (M.fd (M.stripe u)).watching who u = false ∧ M.c.watches ≤ M.count who then (M, repE 4) else (M.fed (M.stripe u) ((M.fd (M.stripe u)).watch who u), rep0)
def Tbl.drainTo (M : Tbl) (who : Int) (k : Nat) : Tbl := { M with fd := fun s => if s < k then (M.fd s).drain who else M.fd s }
def Tbl.lostTo (M : Tbl) (who : Int) (k : Nat) : Bool := (List.range k).any fun s => (M.fd s).lost who
def Tbl.toldTo (M : Tbl) (who : Int) (k : Nat) : List (List Evt) := (List.range k).map fun s => (M.fd s).told who
def Tbl.poll (M : Tbl) (who : Int) : Tbl × Reply := (M.drainTo who M.n, ⟨0, [], mergeE (M.toldTo who M.n), M.lostTo who M.n⟩)
def Tbl.pres (M : Tbl) (u : ByteArray) : Pres := presB (M.bk (M.stripe u)) u M.t.now
def Tbl.do_ (M : Tbl) (who : Int) (x : OpD) : Tbl × Reply :=
  if badB x = true ∨ clientB who = false then (M, repE 1)
  else if x.kind = 1 ∨ x.kind = 2 ∨ x.kind = 3 then M.write x
  else if x.kind = 8 then M.poll who
  else if M.t.closed then (M, repE 5)
  else if x.kind = 6 then M.watch who x.user
  else if x.kind = 7 then (M.fed (M.stripe x.user) ((M.fd (M.stripe x.user)).unwatch who x.user), rep0)
  else if x.kind = 9 then ({ M with t := { M.t with closed := true } }, rep0)
  else (M, ⟨0, (usersOf x).map M.pres, [], false⟩)
def Tbl.stored (M : Tbl) : Nat := ((List.range M.n).map fun s => storedB (M.bk s)).sum
def tbl0 (c : Cfg) (n : Nat) : Tbl := ⟨c, ⟨c.start, 0, false⟩, n, fun _ => [], fun _ => feed0 c.queue⟩
/-- What of a hall the model's table has. -/
def Hall.tbl (H : Hall) : Tbl := ⟨H.c, H.t, H.n, fun s => (H.ss s).book, fun s => (H.ss s).feed⟩
def Hall.stored (H : Hall) : Nat := H.tbl.stored
structure TS (m : Nat) (M : Tbl) : Prop where
  rt : rightB M.c = true
  cw : CfgW M.c
  nn : (M.n : Int) = M.c.stripes
  bk : ∀ s, s < M.n → BkM m (M.bk s)
  fd : ∀ s, s < M.n → FdM m (M.fd s)
  tn : U64 M.t.now
  ts : U64 M.t.seq
theorem TS.mono {m k : Nat} {M : Tbl} (x : TS m M) (h : m ≤ k) : TS k M := ⟨x.rt, x.cw, x.nn, fun s hs => (x.bk s hs).mono h, fun s hs => (x.fd s hs).mono h, x.tn, x.ts⟩
theorem stripeOf_lt {u : ByteArray} {n : Int} (h : 1 ≤ n) : 0 ≤ stripeOf u n ∧ stripeOf u n < n := by
  have := fnv_rng u
  unfold stripeOf
  rw [if_neg (by omega)]
  exact ⟨Int.emod_nonneg _ (by omega), Int.emod_lt_of_pos _ (by omega)⟩
theorem TS.stripe {m : Nat} {M : Tbl} (x : TS m M) (u : ByteArray) : M.stripe u < M.n := by
  have h1 := x.rt; have h2 := x.nn
  simp only [rightB, decide_eq_true_eq] at h1
  have := stripeOf_lt (u := u) (n := M.c.stripes) (by omega)
  unfold Tbl.stripe; omega
theorem HS.tbl {m : Nat} {H : Hall} (x : HS m H) : TS m H.tbl := ⟨x.rt, x.cw, x.nn, fun s hs => (x.st s hs).bk, fun s hs => (x.st s hs).fd, x.tn, x.ts⟩
end Go.Den
namespace Go.Den
open Go
set_option linter.unusedVariables false
set_option linter.unusedSimpArgs false
/-- All sessions of a book live. -/
def Lv (b : Book) (now : Int) : Prop := ∀ x ∈ b, ∀ s ∈ x.2.ss, now < s.un
end Go.Den
namespace Go.Den
open Go
set_option linter.unusedVariables false
set_option linter.unusedSimpArgs false
/-- Whom a client knows that it watches: each once. -/
abbrev Mine := List ByteArray
def miset (m : Mine) (u : ByteArray) (on : Bool) : Mine := (m.filter fun k => !decide (k = u)) ++ if on then [u] else []
def mhas (m : Mine) (u : ByteArray) : Bool := m.any fun k => decide (k = u)
theorem mhas_iff {m : Mine} {u : ByteArray} : mhas m u = true ↔ u ∈ m := by simp [mhas]
structure HP where
  who : Int
  x : OpD
  k : Nat
  s : Nat
  at_ : Nat
  t : Tm
  placed : Int
  rep : Reply
  all : List (List Evt)
def HP.one (p : HP) : Bool := badB p.x || decide (p.x.kind = 9)
def HP.poll (p : HP) : Bool := !p.one && decide (p.x.kind = 8)
def HP.steps (p : HP) : Nat := if p.one then 1 else if p.x.kind = 8 then 3 * p.k + 1 else 4
def HP.done (p : HP) : Bool := decide (p.steps ≤ p.at_)
def HP.needs (p : HP) : Int := if p.one then -1 else if p.x.kind = 8 then (if p.at_ < p.k then p.at_ else -1) else if p.at_ = 0 then p.s else -1
def HP.waits (p : HP) : Int := if p.done then -1 else p.needs
def HP.enabled (p : HP) (H : Hall) : Bool := !p.done && (decide (p.needs < 0) || decide ((H.ss p.needs.toNat).who = 0))
def hp0 (H : Hall) (who : Int) (x : OpD) : HP := ⟨who, x, H.n, (stripeOf x.user H.c.stripes).toNat, 0, ⟨0, 0, false⟩, -1, rep0, []⟩
/-- A step of a Poll. -/
def HP.stpP (p : HP) (H : Hall) (n : Int) : HP × Hall :=
  if p.at_ < p.k then ({ p with at_ := p.at_ + 1 }, H.lock p.who p.at_)
  else if p.at_ = p.k then ({ p with at_ := p.at_ + 1, t := H.t, placed := n }, H.look p.who)
  else if p.at_ ≤ 2 * p.k then
    ({ p with at_ := p.at_ + 1, all := p.all ++ [(H.ss (p.at_ - p.k - 1)).feed.told p.who], rep := { p.rep with lost := p.rep.lost || (H.ss (p.at_ - p.k - 1)).feed.lost p.who } }, H.drain p.who (p.at_ - p.k - 1))
  else ({ p with at_ := p.at_ + 1, rep := { p.rep with evs := mergeE p.all } }, H.unlock p.who (p.at_ - 2 * p.k - 1))
/-- A step of a Watch or Unwatch. -/
def HP.stpW (p : HP) (m : Mine) (H : Hall) (n : Int) : HP × Mine × Hall :=
  if p.at_ = 0 then ({ p with at_ := 1 }, m, H.lock p.who p.s)
  else if p.at_ = 1 then ({ p with at_ := 2, t := H.t, placed := n }, m, H.look p.who)
  else if p.at_ = 2 then
    (if p.t.closed then ({ p with at_ := 3, rep := { p.rep with err := 5 } }, m, H)
     else if p.x.kind = 6 ∧ mhas m p.x.user = false ∧ H.c.watches ≤ m.length then ({ p with at_ := 3, rep := { p.rep with err := 4 } }, m, H)
     else ({ p with at_ := 3 }, miset m p.x.user (decide (p.x.kind = 6)), H.watch p.who p.s p.x.user (decide (p.x.kind = 6))))
  else ({ p with at_ := p.at_ + 1 }, m, H.unlock p.who p.s)
def HP.stp (p : HP) (m : Mine) (H : Hall) (n : Int) : HP × Mine × Hall :=
  if badB p.x then ({ p with at_ := 1, placed := n, rep := { p.rep with err := 1 } }, m, H)
  else if p.x.kind = 9 then ({ p with at_ := 1, placed := n, rep := if H.t.closed then { p.rep with err := 5 } else p.rep }, m, H.shut p.who)
  else if p.x.kind = 8 then ((p.stpP H n).1, m, (p.stpP H n).2)
  else p.stpW m H n
def HP.step (p : HP) (m : Mine) (H : Hall) (n : Int) : HP × Mine × Hall := if p.enabled H = true then p.stp m H n else (p, m, H)
structure HPG (n : Nat) (p : HP) : Prop where
  k : p.k = n
  s : p.s < n
  w : -1 ≤ p.who ∧ p.who ≤ 900
  o : OpW p.x
  a : p.at_ ≤ p.steps
theorem HP.lt_of_en {p : HP} {H : Hall} (h : p.enabled H = true) : p.at_ < p.steps := by
  simp [HP.enabled, HP.done] at h; omega
theorem HP.kind_of {p : HP} (h1 : badB p.x = false) (h2 : p.x.kind ≠ 9) (h3 : p.x.kind ≠ 8) : p.one = false ∧ p.steps = 4 := by
  have : p.one = false := by simp [HP.one, h1, h2]
  exact ⟨this, by simp [HP.steps, this, h3]⟩
theorem HP.poll_of {p : HP} (h1 : badB p.x = false) (h3 : p.x.kind = 8) : p.one = false ∧ p.steps = 3 * p.k + 1 := by
  have : p.one = false := by simp [HP.one, h1, h3]
  exact ⟨this, by simp [HP.steps, this, h3]⟩
theorem HS.hstep {m : Nat} {H : Hall} (x : HS m H) {p : HP} (g : HPG H.n p) (M : Mine) (n : Int) : HS (m + 1) (p.step M H n).2.2 := by
  unfold HP.step
  split
  · rename_i he
    have hl := HP.lt_of_en he
    unfold HP.stp
    split
    · exact x.mono (by omega)
    rename_i hb
    have hb : badB p.x = false := by simpa using hb
    split
    · exact x.shut _
    rename_i h9
    split
    · rename_i h8
      obtain ⟨_, hst⟩ := HP.poll_of hb h8
      have hk := g.k
      unfold HP.stpP
      split
      · exact x.lock (by omega) g.w.2
      split
      · exact x.look _
      split
      · exact x.drain (by omega)
      · exact x.unlock (by omega)
    · rename_i h8
      unfold HP.stpW
      split
      · exact x.lock g.s g.w.2
      split
      · exact x.look _
      split
      · split
        · exact x.mono (by omega)
        split
        · exact x.mono (by omega)
        · exact x.watch g.s g.o.s1 _
      · exact x.unlock g.s
  · exact x.mono (by omega)
theorem hstep_n (p : HP) (M : Mine) (H : Hall) (n : Int) : (p.step M H n).2.2.n = H.n ∧ (p.step M H n).2.2.c = H.c := by
  have hl := fun w s => lock_n H w s
  have hu := fun w s => unlock_n H w s
  unfold HP.step
  split
  · unfold HP.stp
    split
    · exact ⟨rfl, rfl⟩
    split
    · exact ⟨rfl, rfl⟩
    split
    · unfold HP.stpP
      split
      · exact ⟨(hl _ _).1, (hl _ _).2.1⟩
      split
      · exact ⟨rfl, rfl⟩
      split
      · exact ⟨rfl, rfl⟩
      · exact ⟨(hu _ _).1, (hu _ _).2.1⟩
    · unfold HP.stpW
      split
      · exact ⟨(hl _ _).1, (hl _ _).2.1⟩
      split
      · exact ⟨rfl, rfl⟩
      split
      · split
        · exact ⟨rfl, rfl⟩
        split <;> exact ⟨rfl, rfl⟩
      · exact ⟨(hu _ _).1, (hu _ _).2.1⟩
  · exact ⟨rfl, rfl⟩
theorem hstep_k (p : HP) (M : Mine) (H : Hall) (n : Int) : (p.step M H n).1.who = p.who ∧ (p.step M H n).1.x = p.x ∧ (p.step M H n).1.k = p.k ∧ (p.step M H n).1.s = p.s := by
  unfold HP.step
  split
  · unfold HP.stp
    split
    · exact ⟨rfl, rfl, rfl, rfl⟩
    split
    · exact ⟨rfl, rfl, rfl, rfl⟩
    split
    · unfold HP.stpP
      split
      · exact ⟨rfl, rfl, rfl, rfl⟩
      split
      · exact ⟨rfl, rfl, rfl, rfl⟩
      split <;> exact ⟨rfl, rfl, rfl, rfl⟩
    · unfold HP.stpW
      split
      · exact ⟨rfl, rfl, rfl, rfl⟩
      split
      · exact ⟨rfl, rfl, rfl, rfl⟩
      split
      · split
        · exact ⟨rfl, rfl, rfl, rfl⟩
        split <;> exact ⟨rfl, rfl, rfl, rfl⟩
      · exact ⟨rfl, rfl, rfl, rfl⟩
  · exact ⟨rfl, rfl, rfl, rfl⟩
theorem hstep_at (p : HP) (M : Mine) (H : Hall) (n : Int) : (p.step M H n).1.at_ = if p.enabled H = true then p.at_ + 1 else p.at_ := by
  unfold HP.step
  split
  · rename_i he
    have hl := HP.lt_of_en he
    unfold HP.stp
    split
    · rename_i hb
      have : p.steps = 1 := by simp [HP.steps, HP.one, hb]
      show 1 = _; omega
    rename_i hb
    split
    · rename_i h9
      have : p.steps = 1 := by simp [HP.steps, HP.one, h9]
      show 1 = _; omega
    split
    · unfold HP.stpP
      split
      · rfl
      split
      · rfl
      split <;> rfl
    · unfold HP.stpW
      split
      · rename_i h; show 1 = _; omega
      split
      · rename_i h; show 2 = _; omega
      split
      · rename_i h
        split
        · show 3 = _; omega
        split
        · show 3 = _; omega
        · show 3 = _; omega
      · rfl
  · rfl
theorem HPG.step {p : HP} {n0 : Nat} {H : Hall} (g : HPG n0 p) (M : Mine) (n : Int) : HPG n0 (p.step M H n).1 := by
  obtain ⟨k1, k2, k3, k4⟩ := hstep_k p M H n
  have ha := hstep_at p M H n
  have hs : (p.step M H n).1.steps = p.steps := by unfold HP.steps HP.one; rw [k2, k3]
  refine ⟨by rw [k3]; exact g.k, by rw [k4]; exact g.s, by rw [k1]; exact g.w, by rw [k2]; exact g.o, ?_⟩
  rw [ha, hs]
  split
  · rename_i he; have := HP.lt_of_en he; omega
  · exact g.a
end Go.Den
namespace Go.Den
open Go
set_option linter.unusedVariables false
set_option linter.unusedSimpArgs false
/-- What a section makes of a book and a feed. -/
def WK.bf (k : WK) (c : Cfg) (t : Tm) (x : Book × Feed) : Book × Feed := match k with
  | .bad => x
  | .op o => if t.closed then x else ((writeB x.1 o t.now c.sessions).1, x.2.tell (writeB x.1 o t.now c.sessions).2.1 t.seq)
  | .sweep => ((sweepB x.1 t.now).1, x.2.tell (sweepB x.1 t.now).2 t.seq)
def WK.er (k : WK) (c : Cfg) (t : Tm) (b : Book) : Int := match k with
  | .bad => 0
  | .op o => if t.closed then 5 else (writeB b o t.now c.sessions).2.2
  | .sweep => 0
def bfH (H : Hall) (s : Nat) : Book × Feed := ((H.ss s).book, (H.ss s).feed)
theorem run_bf (k : WK) (H : Hall) (who : Int) (s : Nat) (t : Tm) (s' : Nat) : bfH (k.run H who s t).1 s' = if s' = s then k.bf H.c t (bfH H s) else bfH H s' := by
  by_cases h : s' = s
  · subst h
    cases k with
    | bad => simp [WK.run, WK.bf]
    | op o => simp only [WK.run, Hall.write, WK.bf, if_true]; split <;> simp [bfH, Hall.put, sput, Hall.wr, Hall.did]
    | sweep => simp [WK.run, Hall.sweep, WK.bf, bfH, Hall.put, sput, Hall.wr, Hall.did]
  · cases k with
    | bad => simp [WK.run, h]
    | op o => simp only [WK.run, Hall.write]; split <;> simp [bfH, Hall.put, sput, Hall.wr, Hall.did, h]
    | sweep => simp [WK.run, Hall.sweep, bfH, Hall.put, sput, Hall.wr, Hall.did, h]
/-- What else a run of a section leaves. -/
theorem run_ss (k : WK) (H : Hall) (who : Int) (s : Nat) (t : Tm) (s' : Nat) : ((k.run H who s t).1.ss s').who = (H.ss s').who ∧ ((k.run H who s t).1.ss s').v = (H.ss s').v ∧ ((k.run H who s t).1.ss s').bound = (H.ss s').bound ∧ ((k.run H who s t).1.ss s').snap = (H.ss s').snap ∧ (k.run H who s t).1.t = H.t := by
  have key : ∀ (y : Strp) (H' : Hall), H'.ss = H.ss → H'.t = H.t → y.who = (H.ss s).who → y.v = (H.ss s).v → y.bound = (H.ss s).bound → y.snap = (H.ss s).snap → ((H'.put s y).ss s').who = (H.ss s').who ∧ ((H'.put s y).ss s').v = (H.ss s').v ∧ ((H'.put s y).ss s').bound = (H.ss s').bound ∧ ((H'.put s y).ss s').snap = (H.ss s').snap ∧ (H'.put s y).t = H.t := by
    intro y H' e1 e2 h1 h2 h3 h4
    simp only [Hall.put, sput, e1, e2]
    by_cases h : s' = s
    · subst h; simp [h1, h2, h3, h4]
    · simp [h]
  cases k with
  | bad => exact ⟨rfl, rfl, rfl, rfl, rfl⟩
  | op o =>
    simp only [WK.run, Hall.write]
    split
    · exact ⟨rfl, rfl, rfl, rfl, rfl⟩
    · exact key _ _ rfl rfl rfl rfl rfl rfl
  | sweep => exact key _ _ rfl rfl rfl rfl rfl rfl
inductive PR where
  | w (p : WP)
  | r (p : RP)
  | h (p : HP)
def PR.done : PR → Bool
  | .w p => p.done
  | .r p => decide (p.ph = 8)
  | .h p => p.done
def PR.placed : PR → Int
  | .w p => p.placed
  | .r p => p.placed
  | .h p => p.placed
def PR.rep : PR → Reply
  | .w p => if p.done then repE p.err else rep0
  | .r p => if p.ph = 8 then ⟨p.err, p.vals, [], false⟩ else rep0
  | .h p => if p.done then p.rep else rep0
def PR.enabled : PR → Hall → Bool
  | .w p, H => p.enabled H
  | .r p, H => p.enabled H
  | .h p, H => p.enabled H
def PR.waits : PR → Int
  | .w p => p.waits
  | .r p => p.waits
  | .h p => p.waits
def PR.step : PR → Mine → Hall → Int → PR × Mine × Hall
  | .w p, m, H, n => (.w (p.step H n).1, m, (p.step H n).2)
  | .r p, m, H, n => (.r (p.step H n).1, m, (p.step H n).2)
  | .h p, m, H, n => (.h (p.step m H n).1, (p.step m H n).2.1, (p.step m H n).2.2)
/-- The locks that a process has. -/
def WP.holds (p : WP) (s : Nat) : Prop := p.k.isBad = false ∧ 1 ≤ p.at_ ∧ p.at_ ≤ 6 ∧ s = p.s
def RP.holds (p : RP) (s : Nat) : Prop := (p.ph = 4 ∧ s ∈ p.ss.take p.at_) ∨ ((p.ph = 5 ∨ p.ph = 6) ∧ s ∈ p.ss) ∨ (p.ph = 7 ∧ s ∈ p.ss.drop p.at_)
def HP.holds (p : HP) (s : Nat) : Prop := p.one = false ∧ if p.x.kind = 8 then s < p.at_ ∧ s < p.k ∧ p.at_ ≤ 2 * p.k + 1 + s else 1 ≤ p.at_ ∧ p.at_ ≤ 3 ∧ s = p.s
def PR.holds : PR → Nat → Prop
  | .w p => p.holds
  | .r p => p.holds
  | .h p => p.holds
/-- What a process is still to do to a stripe, of what it has taken place at. -/
def WP.pend (p : WP) (c : Cfg) (s : Nat) (x : Book × Feed) : Book × Feed := if p.at_ = 3 ∧ s = p.s then p.k.bf c p.t x else x
/-- What a Watch does, by the time that was seen. -/
def HP.wres (p : HP) (m : Mine) (c : Cfg) : Int := if p.t.closed then 5 else if p.x.kind = 6 ∧ mhas m p.x.user = false ∧ c.watches ≤ m.length then 4 else 0
def HP.wfd (p : HP) (f : Feed) : Feed := if decide (p.x.kind = 6) then f.watch p.who p.x.user else f.unwatch p.who p.x.user
def HP.pend (p : HP) (m : Mine) (c : Cfg) (s : Nat) (x : Book × Feed) : Book × Feed :=
  if p.one then x else if p.x.kind = 8 then (if p.k < p.at_ ∧ p.at_ ≤ p.k + 1 + s then (x.1, x.2.drain p.who) else x)
  else if p.at_ = 2 ∧ s = p.s ∧ p.wres m c = 0 then (x.1, p.wfd x.2) else x
def PR.pend : PR → Mine → Cfg → Nat → Book × Feed → Book × Feed
  | .w p, _, c, s, x => p.pend c s x
  | .r _, _, _, _, x => x
  | .h p, m, c, s, x => p.pend m c s x
/-- What a client will know of itself. -/
def HP.em (p : HP) (m : Mine) (c : Cfg) : Mine := if p.one = false ∧ p.x.kind ≠ 8 ∧ p.at_ = 2 ∧ p.wres m c = 0 then miset m p.x.user (decide (p.x.kind = 6)) else m
def PR.em : PR → Mine → Cfg → Mine
  | .w _, m, _ => m
  | .r _, m, _ => m
  | .h p, m, c => p.em m c
/-- At what step a process takes place, and what befalls the table then. -/
def WP.places (p : WP) : Bool := p.k.isBad || decide (p.at_ = 2)
def HP.places (p : HP) : Bool := p.one || if p.x.kind = 8 then decide (p.at_ = p.k) else decide (p.at_ = 1)
def PR.places : PR → Bool
  | .w p => p.places
  | .r _ => false
  | .h p => p.places
def WK.bef (k : WK) (s : Nat) (M : Tbl) : Tbl × Reply := match k with
  | .bad => (M, repE 1)
  | .op x => M.write x
  | .sweep => (M.sweep s, rep0)
def PR.bef : PR → Tbl → Tbl × Reply
  | .w p, M => p.k.bef p.s M
  | .r _, M => (M, rep0)
  | .h p, M => M.do_ p.who p.x
structure Wd where
  H : Hall
  ps : Nat → Option PR
  ms : Nat → Mine
def Wd.pend (W : Wd) (s : Nat) : Book × Feed :=
  if (W.H.ss s).who = 0 then bfH W.H s else match W.ps ((W.H.ss s).who - 1).toNat with
    | some p => p.pend (W.ms ((W.H.ss s).who - 1).toNat) W.H.c s (bfH W.H s)
    | none => bfH W.H s
def Wd.em (W : Wd) (i : Nat) : Mine := match W.ps i with
  | some p => p.em (W.ms i) W.H.c
  | none => W.ms i
def Wd.step (W : Wd) (i : Nat) (n : Int) : Wd := match W.ps i with
  | some p => ⟨(p.step (W.ms i) W.H n).2.2, bset W.ps i (some (p.step (W.ms i) W.H n).1), bset W.ms i (p.step (W.ms i) W.H n).2.1⟩
  | none => W
end Go.Den
namespace Go.Den
open Go
set_option linter.unusedVariables false
set_option linter.unusedSimpArgs false
/-- A stripe that nobody has: the table's is its own. -/
structure Free (x : Strp) (y : Book × Feed) : Prop where
  wh : x.who = 0
  e : y = (x.book, x.feed)
  v : wrt x.v = false
  q : x.snap = x.book
/-- In the midst of a writing. -/
def PR.mid : PR → Nat → Prop
  | .w p, s => p.k.isBad = false ∧ 2 ≤ p.at_ ∧ p.at_ ≤ 5 ∧ s = p.s
  | .r _, _ => False
  | .h _, _ => False
def PR.at5 : PR → Prop
  | .w p => p.at_ = 5
  | .r _ => False
  | .h _ => False
/-- A stripe that a process has. -/
structure Held (p : PR) (m : Mine) (c : Cfg) (s : Nat) (x : Strp) (y : Book × Feed) : Prop where
  e : y = p.pend m c s (x.book, x.feed)
  v : p.mid s → wrt x.v = true ∨ x.bound ≤ x.v
  q : ¬ p.mid s → wrt x.v = false ∧ x.snap = x.book
  f : p.at5 → x.snap = x.book
def Tbl.st (M : Tbl) (s : Nat) : Book × Feed := (M.bk s, M.fd s)
structure Loc (i : Nat) (p p' : PR) (m m' : Mine) (H H' : Hall) (M M' : Tbl) (s : Nat) : Prop where
  a : p.holds s → (H.ss s).who = i + 1 → Held p m H.c s (H.ss s) (M.st s) → (p'.holds s ∧ (H'.ss s).who = i + 1 ∧ Held p' m' H.c s (H'.ss s) (M'.st s)) ∨ (¬ p'.holds s ∧ Free (H'.ss s) (M'.st s))
  b : ¬ p.holds s → (H'.ss s = H.ss s ∧ M'.st s = M.st s ∧ ¬ p'.holds s) ∨
    ((H.ss s).who = 0 ∧ M'.st s = M.st s ∧ p'.holds s ∧ H'.ss s = { H.ss s with who := i + 1 } ∧ ¬ p'.mid s ∧ ¬ p'.at5 ∧ ∀ x, p'.pend m' H.c s x = x)
/-- Nothing happens to a stripe but that the process goes on. -/
theorem Loc.same {i : Nat} {p p' : PR} {m m' : Mine} {H H' : Hall} {M M' : Tbl} {s : Nat} (h1 : H'.ss s = H.ss s) (h2 : M'.st s = M.st s) (h3 : p'.holds s ↔ p.holds s) (h4 : p'.mid s ↔ p.mid s) (h5 : p'.at5 → p.holds s → (H.ss s).snap = (H.ss s).book)
    (h6 : p.holds s → ∀ x, p'.pend m' H.c s x = p.pend m H.c s x) : Loc i p p' m m' H H' M M' s := by
  refine ⟨fun a b c => .inl ⟨h3.2 a, by rw [h1]; exact b, ?_⟩, fun a => .inl ⟨h1, h2, fun h => a (h3.1 h)⟩⟩
  rw [h1, h2]
  exact ⟨by rw [h6 a]; exact c.e, fun h => c.v (h4.1 h), fun h => c.q fun hh => h (h4.2 hh), fun h => h5 h a⟩
theorem lock_ss {H : Hall} {w : Int} {s : Nat} (hw : 0 ≤ w) (h : (H.ss s).who = 0) (s' : Nat) : (H.lock w s).ss s' = if s' = s then { H.ss s with who := w + 1 } else H.ss s' := by
  have hc : canTake (H.ss s).who w = true := by simp [canTake, hw, h]
  simp only [Hall.lock, hc, if_true, Hall.put, sput]; rfl
theorem unlock_ss {H : Hall} {w : Int} {s : Nat} (hw : 0 ≤ w) (h : (H.ss s).who = w + 1) (s' : Nat) : (H.unlock w s).ss s' = if s' = s then { H.ss s with who := 0 } else H.ss s' := by
  have hc : canGive (H.ss s).who w = true := by simp [canGive, h]; omega
  simp only [Hall.unlock, hc, if_true, Hall.put, sput]; rfl
theorem lock_t (H : Hall) (w : Int) (s : Nat) : (H.lock w s).t = H.t := by unfold Hall.lock; split <;> rfl
theorem unlock_t (H : Hall) (w : Int) (s : Nat) : (H.unlock w s).t = H.t := by unfold Hall.unlock; split <;> rfl
/-- What is asked of a writing. -/
structure WA (i : Nat) (p : WP) (c : Cfg) : Prop where
  w : p.who = i
  a : p.at_ ≤ 7
  s : ∀ x, p.k = .op x → p.s = (stripeOf x.user c.stripes).toNat
theorem bef_st {k : WK} {s : Nat} {M : Tbl} (hk : k.isBad = false) (hs : ∀ x, k = .op x → s = M.stripe x.user) (hn : s < M.n) (s' : Nat) : (k.bef s M).1.st s' = if s' = s then k.bf M.c M.take.t (M.st s) else M.st s' := by
  cases k with
  | bad => simp [WK.isBad] at hk
  | op x =>
    have e := hs x rfl
    have hc : M.take.t.closed = M.t.closed := rfl
    simp only [WK.bef, Tbl.write, WK.bf, hc]
    rw [← e]
    by_cases h : s' = s
    · subst h
      split <;> simp [Tbl.st, Tbl.take, Tbl.writeAt, bset]
    · split <;> simp [Tbl.st, Tbl.take, Tbl.writeAt, bset, h]
  | sweep =>
    have hc : (0 : Int) ≤ s ∧ (s : Int) < M.n := by omega
    simp only [WK.bef, Tbl.sweep, hc, and_self, if_true, Int.toNat_natCast, WK.bf]
    by_cases h : s' = s
    · subst h; simp [Tbl.st, Tbl.take, Tbl.sweepAt, bset]
    · simp [Tbl.st, Tbl.take, Tbl.sweepAt, bset, h]
theorem bef_t {k : WK} {s : Nat} {M : Tbl} (hk : k.isBad = false) (hn : s < M.n) : (k.bef s M).1.t = M.take.t ∧ (k.bef s M).1.c = M.c ∧ (k.bef s M).1.n = M.n := by
  cases k with
  | bad => simp [WK.isBad] at hk
  | op x => simp only [WK.bef, Tbl.write]; split <;> exact ⟨rfl, rfl, rfl⟩
  | sweep =>
    have hc : (0 : Int) ≤ s ∧ (s : Int) < M.n := by omega
    simp only [WK.bef, Tbl.sweep, hc, and_self, if_true]; exact ⟨rfl, rfl, rfl⟩
/-- The table's step. -/
def PR.tb (p : PR) (H : Hall) (M : Tbl) : Tbl := if p.enabled H = true ∧ p.places = true then (p.bef M).1 else M
theorem WP.not_holds {p : WP} {s : Nat} (h : s ≠ p.s) : ¬ p.holds s := fun hh => h hh.2.2.2
theorem wloc {i : Nat} {p : WP} {m k : Nat} {ms : Mine} {H : Hall} {M : Tbl} (hs : HS k H) (g : WG H.n p) (a : WA i p H.c) (ht : M.t = H.t) (hc : M.c = H.c) (hn : M.n = H.n) (n : Int) {s : Nat} (hs8 : s < H.n) (he : p.enabled H = true) :
    Loc i (.w p) ((PR.w p).step ms H n).1 ms ms H ((PR.w p).step ms H n).2.2 M ((PR.w p).tb H M) s := by
  have hl := enabled_at he
  have hw := a.w
  by_cases hb : p.k.isBad = true
  · have e1 : p.step H n = ({ p with err := 1, placed := n, at_ := 7 }, H) := by simp [WP.step, he, hb]
    have e2 : (PR.w p).tb H M = M := by
      have : p.k = .bad := by cases hk : p.k <;> simp [hk, WK.isBad] at hb ⊢
      simp [PR.tb, PR.bef, this, WK.bef]
    have e3 : (PR.w p).step ms H n = (.w { p with err := 1, placed := n, at_ := 7 }, ms, H) := by simp [PR.step, e1]
    rw [e2, e3]
    exact Loc.same rfl rfl ⟨fun h => by have := h.1; simp [hb] at this, fun h => by have := h.1; simp [hb] at this⟩ ⟨fun h => by have := h.1; simp [hb] at this, fun h => by have := h.1; simp [hb] at this⟩ (fun h => by simp [PR.at5] at h) (fun h => by have := h.1; simp [hb] at this)
  have hb : p.k.isBad = false := by simpa using hb
  have e1 : p.step H n = p.stp H n := by simp [WP.step, he, hb]
  have e3 : (PR.w p).step ms H n = (.w (p.stp H n).1, ms, (p.stp H n).2) := by simp [PR.step, e1]
  have e2 : p.at_ ≠ 2 → (PR.w p).tb H M = M := fun h => by simp [PR.tb, PR.places, WP.places, hb, h]
  rw [e3]
  have st := hs.st p.s g.s
  by_cases h0 : p.at_ = 0
  · rw [e2 (by omega), stp0 H n h0]
    have hwh : (H.ss p.s).who = 0 := by
      simp [WP.enabled, WP.waits, hb, h0] at he
      rcases he.2 with h | h
      · omega
      · exact h
    have hls := lock_ss (H := H) (w := p.who) (s := p.s) (by omega) hwh s
    by_cases hss : s = p.s
    · subst hss
      rw [if_pos rfl] at hls
      refine ⟨fun h => ?_, fun h => .inr ⟨hwh, rfl, ⟨hb, by simp, by simp, rfl⟩, by rw [hls, hw], fun h => by have := h.2.1; simp at this, fun h => by simp [PR.at5] at h, fun x => by simp [PR.pend, WP.pend]⟩⟩
      have := h.2.1; omega
    · rw [if_neg hss] at hls
      exact Loc.same hls rfl ⟨fun h => absurd h (WP.not_holds hss), fun h => absurd h (WP.not_holds hss)⟩ ⟨fun h => absurd h.2.2.2 hss, fun h => absurd h.2.2.2 hss⟩ (fun h => by simp [PR.at5] at h) (fun h => absurd h (WP.not_holds hss))
  by_cases hss : s = p.s
  rotate_left
  · -- another stripe
    have nh : ¬ (PR.w p).holds s := WP.not_holds hss
    obtain ⟨k1, k2, k3⟩ := stp_k p H n
    have nh' : ¬ (PR.w (p.stp H n).1).holds s := WP.not_holds (by rw [k3]; exact hss)
    refine ⟨fun h => absurd h nh, fun _ => .inl ⟨?_, ?_, nh'⟩⟩
    · by_cases h1 : p.at_ = 1
      · rw [stp1 H n h1]; simp [Hall.begin, Hall.put, sput, hss, Hall.did]
      by_cases h2 : p.at_ = 2
      · rw [stp2 H n h2]; rfl
      by_cases h3 : p.at_ = 3
      · rw [stp3 H n h3]
        have : ∀ (k : WK), (k.run H p.who p.s p.t).1.ss s = H.ss s := fun k => by
          cases k with
          | bad => rfl
          | op o => simp only [WK.run, Hall.write]; split <;> simp [Hall.put, sput, Hall.wr, Hall.did, hss]
          | sweep => simp [WK.run, Hall.sweep, Hall.put, sput, Hall.wr, Hall.did, hss]
        exact this p.k
      by_cases h4 : p.at_ = 4
      · rw [stp4 H n h4]; simp [Hall.pub, Hall.put, sput, hss, Hall.did]
      by_cases h5 : p.at_ = 5
      · rw [stp5 H n h5]; simp [Hall.end_, Hall.put, sput, hss, Hall.did]
      · rw [stp6 H n (by omega)]
        simp only [Hall.unlock]
        split
        · simp [Hall.put, sput, hss, Hall.did]
        · rfl
    · by_cases h2 : p.at_ = 2
      · have e4 : (PR.w p).tb H M = (p.k.bef p.s M).1 := by simp [PR.tb, PR.places, WP.places, PR.enabled, he, h2, PR.bef]
        rw [e4, bef_st hb (fun x hx => by rw [a.s x hx, ← hc]; rfl) (by rw [hn]; exact g.s), if_neg hss]
      · rw [e2 h2]
  subst hss
  have ho : (PR.w p).holds p.s := ⟨hb, by omega, by omega, rfl⟩
  refine ⟨fun _ hwho hd => ?_, fun h => absurd ho h⟩
  by_cases h1 : p.at_ = 1
  · rw [e2 (by omega), stp1 H n h1]
    have hq := hd.q fun h => by have := h.2.1; omega
    have hss : (H.begin p.who p.s).ss p.s = { H.ss p.s with v := bgn (H.ss p.s).v (H.ss p.s).bound } := by simp [Hall.begin, Hall.put, sput, Hall.did]
    refine .inl ⟨⟨hb, by simp, by simp, rfl⟩, by rw [hss]; exact hwho, ?_⟩
    rw [hss]
    refine ⟨?_, fun _ => ?_, fun h => absurd ⟨hb, by simp, by simp, rfl⟩ h, fun h => by simp [PR.at5] at h⟩
    · have := hd.e; simpa [PR.pend, WP.pend, h1] using this
    · have hv := hq.1
      dsimp only
      unfold bgn
      by_cases hlt : (H.ss p.s).v < (H.ss p.s).bound
      · left; rw [if_pos ⟨hlt, hv⟩]; simp [wrt] at hv ⊢; omega
      · right; rw [if_neg (fun h => hlt h.1)]; omega
  by_cases h2 : p.at_ = 2
  · have e4 : (PR.w p).tb H M = (p.k.bef p.s M).1 := by simp [PR.tb, PR.places, WP.places, PR.enabled, he, h2, PR.bef]
    rw [e4, stp2 H n h2, bef_st hb (fun x hx => by rw [a.s x hx, ← hc]; rfl) (by rw [hn]; exact g.s), if_pos rfl]
    refine .inl ⟨⟨hb, by simp, by simp, rfl⟩, hwho, ?_, fun _ => hd.v ⟨hb, by omega, by omega, rfl⟩, fun h => absurd ⟨hb, by simp, by simp, rfl⟩ h, fun h => by simp [PR.at5] at h⟩
    have he' := hd.e
    simp only [PR.pend, WP.pend, h2] at he'
    have he' : M.st p.s = ((H.ss p.s).book, (H.ss p.s).feed) := by simpa using he'
    rw [he', hc]
    have htt : M.take.t = (H.take p.who).t := by simp [Tbl.take, Hall.take, Hall.did, ht]
    rw [htt]
    simp [PR.pend, WP.pend]; rfl
  rw [e2 h2]
  have hmid : 2 ≤ p.at_ → p.at_ ≤ 5 → (PR.w p).mid p.s := fun h h' => ⟨hb, h, h', rfl⟩
  by_cases h3 : p.at_ = 3
  · rw [stp3 H n h3]
    obtain ⟨r1, r2, r3, r4, r5⟩ := run_ss p.k H p.who p.s p.t p.s
    have hbf := run_bf p.k H p.who p.s p.t p.s
    rw [if_pos rfl] at hbf
    refine .inl ⟨⟨hb, by simp, by simp, rfl⟩, by rw [r1]; exact hwho, ?_, fun _ => by dsimp only; rw [r2, r3]; exact hd.v (hmid (by omega) (by omega)), fun h => absurd ⟨hb, by simp, by simp, rfl⟩ h, fun h => by simp [PR.at5] at h⟩
    have he' := hd.e
    simp only [PR.pend, WP.pend, h3] at he'
    simp only [bfH] at hbf
    simp [PR.pend, WP.pend, he', hbf]
  by_cases h4 : p.at_ = 4
  · rw [stp4 H n h4]
    have hss : (H.pub p.who p.s).ss p.s = { H.ss p.s with snap := (H.ss p.s).book } := by simp [Hall.pub, Hall.put, sput, Hall.did]
    refine .inl ⟨⟨hb, by simp, by simp, rfl⟩, by rw [hss]; exact hwho, ?_⟩
    rw [hss]
    refine ⟨?_, fun _ => hd.v (hmid (by omega) (by omega)), fun h => absurd ⟨hb, by simp, by simp, rfl⟩ h, fun _ => rfl⟩
    have := hd.e; simpa [PR.pend, WP.pend, h4] using this
  by_cases h5 : p.at_ = 5
  · rw [stp5 H n h5]
    have hss : (H.end_ p.who p.s).ss p.s = { H.ss p.s with v := endV (H.ss p.s).v } := by simp [Hall.end_, Hall.put, sput, Hall.did]
    refine .inl ⟨⟨hb, by simp, by simp, rfl⟩, by rw [hss]; exact hwho, ?_⟩
    rw [hss]
    refine ⟨?_, fun h => by have := h.2.2.1; simp at this, fun _ => ⟨?_, hd.f h5⟩, fun h => by simp [PR.at5] at h⟩
    · have := hd.e; simpa [PR.pend, WP.pend, h5] using this
    · have hv := hd.v (hmid (by omega) (by omega))
      have h1 := st.v0; have h2 := st.vb
      simp only [endV, wrt] at hv ⊢
      simp at hv ⊢
      split <;> omega
  · have h6 : p.at_ = 6 := by omega
    rw [stp6 H n (by omega)]
    have hls := unlock_ss (H := H) (w := p.who) (s := p.s) (by omega) (by rw [hw]; exact hwho) p.s
    rw [if_pos rfl] at hls
    have hq := hd.q fun h => by have := h.2.2.1; omega
    refine .inr ⟨fun h => by have := h.2.2.1; simp at this, ?_⟩
    rw [hls]
    refine ⟨rfl, ?_, hq.1, hq.2⟩
    have := hd.e; simpa [PR.pend, WP.pend, h6] using this
end Go.Den
namespace Go.Den
open Go
set_option linter.unusedVariables false
set_option linter.unusedSimpArgs false
/-- What is asked of a reading. -/
structure RA (i : Nat) (p : RP) : Prop where
  w : p.who = i
  nd : p.ss.Nodup
theorem RP.next_cases (p : RP) (ph : Int) : (p.at_ + 1 < p.k ∧ p.next ph = { p with at_ := p.at_ + 1 }) ∨ (p.k ≤ p.at_ + 1 ∧ p.next ph = { p with ph := ph, at_ := 0 }) := by
  by_cases h : p.at_ + 1 < p.k
  · exact .inl ⟨h, by simp [RP.next, h]⟩
  · exact .inr ⟨by omega, by simp [RP.next, h]⟩
theorem RP.nh {p : RP} {s : Nat} (h : p.ph ≠ 4) (h5 : p.ph ≠ 5) (h6 : p.ph ≠ 6) (h7 : p.ph ≠ 7) : ¬ p.holds s := by
  rintro (h | h | h)
  · exact absurd h.1 (by omega)
  · rcases h.1 with h | h <;> omega
  · exact absurd h.1 (by omega)
theorem take_succ_mem {l : List Nat} {i : Nat} (hi : i < l.length) (s : Nat) : s ∈ l.take (i + 1) ↔ s ∈ l.take i ∨ s = l[i] := by
  rw [List.take_succ_eq_append_getElem hi, List.mem_append, List.mem_singleton]
theorem drop_mem {l : List Nat} {i : Nat} (hi : i < l.length) (s : Nat) : s ∈ l.drop i ↔ s = l[i] ∨ s ∈ l.drop (i + 1) := by
  rw [List.drop_eq_getElem_cons hi, List.mem_cons]
theorem nodup_drop {l : List Nat} (nd : l.Nodup) {i : Nat} (hi : i < l.length) : l[i] ∉ l.drop (i + 1) := by
  intro h
  obtain ⟨j, hj, e⟩ := List.getElem_of_mem h
  rw [List.getElem_drop] at e
  have := (List.getElem_inj nd).1 e
  omega
theorem nodup_take {l : List Nat} (nd : l.Nodup) {i : Nat} (hi : i < l.length) : l[i] ∉ l.take i := by
  intro h
  obtain ⟨j, hj, e⟩ := List.getElem_of_mem h
  rw [List.getElem_take] at e
  have := (List.getElem_inj nd).1 e
  simp at hj; omega
theorem rloc {i : Nat} {p : RP} {ms : Mine} {H : Hall} {M : Tbl} (rk : RK H.n p) (a : RA i p) (n : Int) {s : Nat} (hs8 : s < H.n) (he : p.enabled H = true) :
    Loc i (.r p) ((PR.r p).step ms H n).1 ms ms H ((PR.r p).step ms H n).2.2 M ((PR.r p).tb H M) s := by
  have hw := a.w
  have e2 : (PR.r p).tb H M = M := by simp [PR.tb, PR.places]
  have e3 : (PR.r p).step ms H n = (.r (p.step H n).1, ms, (p.step H n).2) := rfl
  rw [e2, e3]
  -- nothing is changed, and the locks stay
  have triv : ∀ (q : RP) (H' : Hall), H'.ss s = H.ss s → (q.holds s ↔ p.holds s) → Loc i (.r p) (.r q) ms ms H H' M M s := fun q H' h1 h2 =>
    Loc.same h1 rfl h2 (by rfl) (fun h => h.elim) (fun _ _ => rfl)
  have h8 : p.ph ≠ 8 := fun h => by simp [RP.enabled, h] at he
  by_cases hz : p.ss = []
  · have : p.step H n = ({ p with err := 1, vals := [], placed := n, ph := 8 }, H) := by simp [RP.step, he, hz]
    rw [this]
    refine triv _ _ rfl ⟨fun h => absurd h (RP.nh (by simp) (by simp) (by simp) (by simp)), fun h => ?_⟩
    rcases rk.e0 hz with h0 | h0
    · exact absurd h (RP.nh (by omega) (by omega) (by omega) (by omega))
    · exact absurd h0 h8
  have hat := rk.at_ h8 hz
  have hss : p.s = p.ss[p.at_]'hat := RP.s_lt hat
  have e1 : p.step H n = p.go H n := by simp [RP.step, he, hz]
  rw [e1]
  have hph := rk.ph
  have nhof : p.ph ≠ 4 → p.ph ≠ 5 → p.ph ≠ 6 → p.ph ≠ 7 → ¬ p.holds s := fun a b c d => RP.nh a b c d
  -- nothing is held, nor then
  have nn : ∀ (q : RP) (H' : Hall), H'.ss s = H.ss s → p.ph ≠ 4 → p.ph ≠ 5 → p.ph ≠ 6 → p.ph ≠ 7 → ¬ q.holds s → Loc i (.r p) (.r q) ms ms H H' M M s := fun q H' h a b c d e =>
    triv q H' h ⟨fun hh => absurd hh e, fun hh => absurd hh (nhof a b c d)⟩
  unfold RP.go
  by_cases h0 : p.ph = 0
  · rw [if_pos h0]
    refine nn _ _ rfl (by omega) (by omega) (by omega) (by omega) ?_
    rcases RP.next_cases { p with ep := epset p.ep p.at_ (H.ss p.s).v, spent := p.spent || decide (evn H.c.epochs ≤ (H.ss p.s).v) } 1 with ⟨_, e⟩ | ⟨_, e⟩ <;> rw [e] <;> exact RP.nh (by simp; try omega) (by simp; try omega) (by simp; try omega) (by simp; try omega)
  rw [if_neg h0]
  by_cases h1 : p.ph = 1
  · rw [if_pos h1]
    refine nn _ _ rfl (by omega) (by omega) (by omega) (by omega) ?_
    rcases RP.next_cases { p with seen := seenset p.seen p.s (H.ss p.s).snap } 2 with ⟨_, e⟩ | ⟨_, e⟩ <;> rw [e] <;> exact RP.nh (by simp; try omega) (by simp; try omega) (by simp; try omega) (by simp; try omega)
  rw [if_neg h1]
  by_cases h2 : p.ph = 2
  · rw [if_pos h2]
    exact nn _ _ rfl (by omega) (by omega) (by omega) (by omega) (RP.nh (by simp) (by simp) (by simp) (by simp))
  rw [if_neg h2]
  by_cases h5 : p.ph = 5
  · rw [if_pos h5]
    refine triv _ _ rfl ⟨fun h => ?_, fun h => ?_⟩
    · rcases h with h | h | h
      · have := h.1; simp at this
      · exact .inr (.inl ⟨.inl h5, h.2⟩)
      · have := h.1; simp at this
    · rcases h with h | h | h
      · have := h.1; omega
      · exact .inr (.inl ⟨.inr rfl, h.2⟩)
      · have := h.1; omega
  rw [if_neg h5]
  by_cases h3 : p.ph = 3
  · rw [if_pos h3]
    refine nn _ _ rfl (by omega) (by omega) (by omega) (by omega) ?_
    dsimp only
    split
    · rename_i hl
      have key : ∀ q : RP, q.ss = p.ss → q.at_ = 0 → ¬ q.judge.holds s := fun q hq hq0 => by
        unfold RP.judge
        split
        · exact RP.nh (by simp) (by simp) (by simp) (by simp)
        split
        · rintro (h | h | h)
          · have h' := h.2; rw [show ({ q with ph := 4 } : RP).at_ = q.at_ from rfl, hq0] at h'; simp at h'
          · have := h.1; simp at this
          · have := h.1; simp at this
        · exact RP.nh (by simp [RP.begin]) (by simp [RP.begin]) (by simp [RP.begin]) (by simp [RP.begin])
      rcases RP.next_cases { p with valid := p.valid && validB (p.ep p.at_) (H.ss p.s).v H.c.epochs } 8 with ⟨h, e⟩ | ⟨_, e⟩
      · simp [RP.last] at hl; have : p.at_ + 1 < p.k := h; have : p.k ≤ p.at_ + 1 := hl; omega
      · rw [e]; exact key _ rfl rfl
    · rename_i hl
      rcases RP.next_cases { p with valid := p.valid && validB (p.ep p.at_) (H.ss p.s).v H.c.epochs } 8 with ⟨h, e⟩ | ⟨_, e⟩ <;> rw [e] <;> exact RP.nh (by simp; try omega) (by simp; try omega) (by simp; try omega) (by simp; try omega)
  rw [if_neg h3]
  by_cases h4 : p.ph = 4
  · rw [if_pos h4]
    have hwh : (H.ss p.s).who = 0 := by simp [RP.enabled, h4] at he; exact he
    have hls := lock_ss (H := H) (w := p.who) (s := p.s) (by omega) hwh s
    have hold : (p.next 5).holds s ↔ p.holds s ∨ s = p.s := by
      have e0 : p.holds s ↔ s ∈ p.ss.take p.at_ := by
        constructor
        · rintro (h | h | h)
          · exact h.2
          · have := h.1; omega
          · have := h.1; omega
        · intro h; exact .inl ⟨h4, h⟩
      rw [e0, hss, ← take_succ_mem hat]
      rcases RP.next_cases p 5 with ⟨h, e⟩ | ⟨h, e⟩
      · rw [e]
        constructor
        · rintro (h | h | h)
          · exact h.2
          · have := h.1; simp at this; omega
          · have := h.1; simp at this; omega
        · intro h; exact .inl ⟨h4, h⟩
      · rw [e]
        have : p.ss.take (p.at_ + 1) = p.ss := List.take_of_length_le (by unfold RP.k at h; omega)
        rw [this]
        constructor
        · rintro (h | h | h)
          · have := h.1; simp at this
          · exact h.2
          · have := h.1; simp at this
        · intro h; exact .inr (.inl ⟨.inl rfl, h⟩)
    by_cases hsp : s = p.s
    · subst hsp
      rw [if_pos rfl] at hls
      have nh : ¬ p.holds p.s := by
        rintro (h | h | h)
        · have h' := h.2; rw [hss] at h'; exact nodup_take a.nd hat h'
        · have := h.1; omega
        · have := h.1; omega
      exact ⟨fun h => absurd h nh, fun _ => .inr ⟨hwh, rfl, hold.2 (.inr rfl), by rw [hls, hw], fun h => h, fun h => h, fun _ => rfl⟩⟩
    · rw [if_neg hsp] at hls
      exact triv _ _ hls ⟨fun h => (hold.1 h).resolve_right hsp, fun h => hold.2 (.inl h)⟩
  rw [if_neg h4]
  by_cases h6 : p.ph = 6
  · rw [if_pos h6]
    have e0 : p.holds s ↔ s ∈ p.ss := by
      constructor
      · rintro (h | h | h)
        · have := h.1; omega
        · exact h.2
        · have := h.1; omega
      · intro h; exact .inr (.inl ⟨.inr h6, h⟩)
    refine triv _ _ rfl ?_
    rw [e0]
    rcases RP.next_cases { p with seen := seenset p.seen p.s (H.ss p.s).book } 7 with ⟨h, e⟩ | ⟨h, e⟩
    · rw [e]
      constructor
      · rintro (h | h | h)
        · have := h.1; simp at this; omega
        · exact h.2
        · have := h.1; simp at this; omega
      · intro h; exact .inr (.inl ⟨.inr h6, h⟩)
    · rw [e]
      constructor
      · rintro (h | h | h)
        · have := h.1; simp at this
        · have := h.1; simp at this
        · simpa using h.2
      · intro h; exact .inr (.inr ⟨rfl, by simpa using h⟩)
  rw [if_neg h6]
  have h7 : p.ph = 7 := by omega
  have e0 : p.holds s ↔ s ∈ p.ss.drop p.at_ := by
    constructor
    · rintro (h | h | h)
      · have := h.1; omega
      · have := h.1; omega
      · exact h.2
    · intro h; exact .inr (.inr ⟨h7, h⟩)
  have hold : (if p.last then (p.next 8).answer else p.next 8).holds s ↔ s ∈ p.ss.drop (p.at_ + 1) := by
    rcases RP.next_cases p 8 with ⟨h, e⟩ | ⟨h, e⟩
    · have hl : p.last = false := by simp [RP.last, h]
      rw [hl, e]
      constructor
      · rintro (h | h | h)
        · have := h.1; simp at this; omega
        · have := h.1; simp at this; omega
        · exact h.2
      · intro h; exact .inr (.inr ⟨h7, h⟩)
    · have hl : p.last = true := by simp [RP.last]; omega
      rw [hl, e]
      have : p.ss.drop (p.at_ + 1) = [] := List.drop_eq_nil_iff.2 (by unfold RP.k at h; omega)
      rw [this]
      simp only [if_true, List.not_mem_nil, iff_false]
      exact RP.nh (by rw [answer_ph]; simp) (by rw [answer_ph]; simp) (by rw [answer_ph]; simp) (by rw [answer_ph]; simp)
  by_cases hsp : s = p.s
  · subst hsp
    have hm : p.holds p.s := e0.2 (by rw [hss]; exact (drop_mem hat _).2 (.inl rfl))
    refine ⟨fun _ hwho hd => .inr ⟨fun h => nodup_drop a.nd hat (by rw [← hss]; exact hold.1 h), ?_⟩, fun h => absurd hm h⟩
    have hls := unlock_ss (H := H) (w := p.who) (s := p.s) (by omega) (by rw [hw]; exact hwho) p.s
    rw [if_pos rfl] at hls
    rw [hls]
    have hq := hd.q fun h => h
    exact ⟨rfl, hd.e, hq.1, hq.2⟩
  · have hls : (H.unlock p.who p.s).ss s = H.ss s := by
      simp only [Hall.unlock]
      split
      · simp [Hall.put, sput, hsp, Hall.did]
      · rfl
    refine triv _ _ hls ?_
    rw [hold, e0, drop_mem hat, ← hss]
    simp [hsp]
end Go.Den
namespace Go.Den
open Go
set_option linter.unusedVariables false
set_option linter.unusedSimpArgs false
theorem kind_rng {x : OpD} (h : badB x = false) : 1 ≤ x.kind ∧ x.kind ≤ 9 := by
  unfold badB at h
  split at h
  · omega
  split at h
  · omega
  split at h
  · omega
  split at h
  · omega
  · simp at h; omega
/-- What is asked of a heeding. -/
structure HA (i : Nat) (p : HP) (c : Cfg) : Prop where
  w : p.who = i
  i8 : i < 8
  k6 : badB p.x = false → 6 ≤ p.x.kind
  s : p.s = (stripeOf p.x.user c.stripes).toNat
theorem HA.cl {i : Nat} {p : HP} {c : Cfg} (a : HA i p c) : clientB p.who = true := by
  have := a.w; have := a.i8
  simp [clientB]; omega
/-- What is asked of what a client knows of itself. -/
structure MA (p : HP) (m : Mine) (M : Tbl) : Prop where
  wt : (M.fd (M.stripe p.x.user)).watching p.who p.x.user = mhas m p.x.user
  ct : M.count p.who = m.length
theorem fed_ss (H : Hall) (w : Int) (s : Nat) (f : Feed) (s' : Nat) : (H.fed w s f).ss s' = if s' = s then { H.ss s with feed := f } else H.ss s' := by
  simp only [Hall.fed, Hall.put, sput]; rfl
/-- What a Watch or Unwatch makes of the table. -/
theorem do_watch {i : Nat} {p : HP} {m : Mine} {M : Tbl} {c : Cfg} (a : HA i p c) (hc : M.c = c) (ma : MA p m M) (ht : p.t = M.t) (hb : badB p.x = false) (h9 : p.x.kind ≠ 9) (h8 : p.x.kind ≠ 8) :
    (M.do_ p.who p.x).1 = (if p.wres m c = 0 then M.fed p.s (p.wfd (M.fd p.s)) else M) ∧ (M.do_ p.who p.x).2 = repE (p.wres m c) := by
  have hk := kind_rng hb
  have k6 := a.k6 hb
  have hs : p.s = M.stripe p.x.user := by rw [a.s, Tbl.stripe, hc]
  have hcl := a.cl
  unfold Tbl.do_
  rw [if_neg (by simp [hb, hcl]), if_neg (by omega), if_neg h8]
  cases htc : M.t.closed with
  | true =>
    have e : p.wres m c = 5 := by simp [HP.wres, ht, htc]
    simp [e]
  | false =>
    simp only [Bool.false_eq_true, if_false]
    by_cases h6 : p.x.kind = 6
    · rw [if_pos h6]
      unfold Tbl.watch
      rw [ma.wt, ma.ct, hc]
      by_cases hcc : mhas m p.x.user = false ∧ c.watches ≤ (m.length : Int)
      · have e : p.wres m c = 4 := by simp [HP.wres, ht, htc, h6, hcc.1, hcc.2]
        rw [if_pos hcc, e]; simp
      · have e : p.wres m c = 0 := by
          have h2 : ¬ (p.x.kind = 6 ∧ mhas m p.x.user = false ∧ c.watches ≤ (m.length : Int)) := fun h => hcc h.2
          unfold HP.wres; rw [ht, htc, if_neg (by simp), if_neg h2]
        rw [if_neg hcc, e, hs]
        simp [HP.wfd, h6]; rfl
    · have h7 : p.x.kind = 7 := by omega
      have e : p.wres m c = 0 := by
        have h2 : ¬ (p.x.kind = 6 ∧ mhas m p.x.user = false ∧ c.watches ≤ (m.length : Int)) := fun h => h6 h.1
        unfold HP.wres; rw [ht, htc, if_neg (by simp), if_neg h2]
      rw [if_neg h6, if_pos h7, e, hs]
      simp [HP.wfd, h7]; rfl
theorem drainTo_st (M : Tbl) (who : Int) (s : Nat) (hs : s < M.n) : (M.drainTo who M.n).st s = (M.bk s, (M.fd s).drain who) := by simp [Tbl.st, Tbl.drainTo, hs]
theorem hloc {i : Nat} {p : HP} {ms : Mine} {H : Hall} {M : Tbl} (g : HPG H.n p) (a : HA i p H.c) (ht : M.t = H.t) (hc : M.c = H.c) (hn : M.n = H.n)
    (ma : p.one = false → p.x.kind ≠ 8 → p.at_ = 1 → MA p ms M) (n : Int) {s : Nat} (hs8 : s < H.n) (he : p.enabled H = true) :
    Loc i (.h p) ((PR.h p).step ms H n).1 ms ((PR.h p).step ms H n).2.1 H ((PR.h p).step ms H n).2.2 M ((PR.h p).tb H M) s := by
  have hl := HP.lt_of_en he
  have hw := a.w
  have hcl := a.cl
  have e3 : (PR.h p).step ms H n = (.h (p.stp ms H n).1, (p.stp ms H n).2.1, (p.stp ms H n).2.2) := by simp [PR.step, HP.step, he]
  have etb : p.places = true → (PR.h p).tb H M = (M.do_ p.who p.x).1 := fun h => by simp [PR.tb, PR.enabled, PR.places, he, h, PR.bef]
  have etn : p.places = false → (PR.h p).tb H M = M := fun h => by simp [PR.tb, PR.places, h]
  rw [e3]
  have nm : ∀ (q : HP), ¬ (PR.h q).mid s := fun q h => h
  have n5 : ∀ (q : HP), ¬ (PR.h q).at5 := fun q h => h
  by_cases hb : badB p.x = true
  · have ho : p.one = true := by simp [HP.one, hb]
    have : (M.do_ p.who p.x).1 = M := by simp [Tbl.do_, hb]
    rw [etb (by simp [HP.places, ho]), this]
    simp only [HP.stp, hb, if_true]
    exact Loc.same rfl rfl ⟨fun h => by have h1 := h.1; simp [HP.one, hb] at h1, fun h => by have h1 := h.1; simp [HP.one, hb] at h1⟩ ⟨fun h => h.elim, fun h => h.elim⟩ (fun h => h.elim) (fun h => by have h1 := h.1; simp [HP.one, hb] at h1)
  have hb : badB p.x = false := by simpa using hb
  by_cases h9 : p.x.kind = 9
  · have ho : p.one = true := by simp [HP.one, h9]
    have : (M.do_ p.who p.x).1.st s = M.st s := by
      unfold Tbl.do_
      rw [if_neg (by simp [hb, hcl]), if_neg (by omega), if_neg (by omega)]
      split
      · rfl
      rw [if_neg (by omega), if_neg (by omega)]
      first | rfl | (rw [if_pos h9]; rfl)
    rw [etb (by simp [HP.places, ho])]
    simp only [HP.stp, hb, h9, Bool.false_eq_true, if_false, if_true]
    exact Loc.same rfl this ⟨fun h => by have h1 := h.1; simp [HP.one, h9] at h1, fun h => by have h1 := h.1; simp [HP.one, h9] at h1⟩ ⟨fun h => h.elim, fun h => h.elim⟩ (fun h => h.elim) (fun h => by have h1 := h.1; simp [HP.one, h9] at h1)
  have one : p.one = false := by simp [HP.one, hb, h9]
  have onq : ∀ q : HP, q.x = p.x → q.one = false := fun q h => by simp [HP.one, h, hb, h9]
  by_cases h8 : p.x.kind = 8
  · -- a Poll
    have hk := g.k
    have hst : p.steps = 3 * p.k + 1 := (HP.poll_of hb h8).2
    have hh : ∀ q : HP, q.x = p.x → (q.holds s ↔ s < q.at_ ∧ s < q.k ∧ q.at_ ≤ 2 * q.k + 1 + s) := fun q hq => by
      unfold HP.holds; rw [hq, if_pos h8]; simp [onq q hq]
    have hp : ∀ (q : HP) m x, q.x = p.x → q.pend m H.c s x = if q.k < q.at_ ∧ q.at_ ≤ q.k + 1 + s then (x.1, x.2.drain q.who) else x := fun q m x hq => by
      unfold HP.pend; rw [onq q hq, hq, if_neg (by simp), if_pos h8]
    have estp : p.stp ms H n = ((p.stpP H n).1, ms, (p.stpP H n).2) := by simp [HP.stp, hb, h8]
    rw [estp]
    dsimp only
    unfold HP.stpP
    by_cases hlk : p.at_ < p.k
    · have hpl : p.places = false := by simp [HP.places, one, h8]; omega
      rw [etn hpl, if_pos hlk]
      dsimp only
      have hwh : (H.ss p.at_).who = 0 := by
        have hnd : p.needs = p.at_ := by simp [HP.needs, one, h8, hlk]
        simp [HP.enabled, hnd] at he
        rcases he.2 with h | h
        · omega
        · exact h
      have hls := lock_ss (H := H) (w := p.who) (s := p.at_) (by omega) hwh s
      by_cases hss : s = p.at_
      · rw [if_pos hss] at hls
        refine ⟨fun h => ?_, fun _ => .inr ⟨by rw [hss]; exact hwh, rfl, (hh _ (by rfl)).2 (by dsimp only; omega), by rw [hls, hw, hss], nm _, n5 _, fun x => ?_⟩⟩
        · have := (hh p rfl).1 h; omega
        · show HP.pend _ _ _ _ _ = _
          rw [hp _ _ _ (by rfl), if_neg (by dsimp only; omega)]
      · rw [if_neg hss] at hls
        refine Loc.same hls rfl ?_ ⟨fun h => h.elim, fun h => h.elim⟩ (fun h => h.elim) fun _ x => ?_
        · show HP.holds _ _ ↔ HP.holds _ _
          rw [hh _ (by rfl), hh p rfl]; dsimp only; omega
        · show HP.pend _ _ _ _ _ = HP.pend _ _ _ _ _
          rw [hp _ _ _ (by rfl), hp p _ _ rfl, if_neg (by dsimp only; omega), if_neg (by omega)]
    rw [if_neg hlk]
    by_cases hk2 : p.at_ = p.k
    · have hpl : p.places = true := by simp [HP.places, one, h8, hk2]
      have hdo : (M.do_ p.who p.x).1 = M.drainTo p.who M.n := by
        unfold Tbl.do_
        rw [if_neg (by simp [hb, hcl]), if_neg (by omega), if_pos h8]; rfl
      rw [etb hpl, if_pos hk2, hdo]
      dsimp only
      refine ⟨fun _ hwho hd => .inl ⟨(hh _ (by rfl)).2 (by dsimp only; omega), hwho, ?_⟩, fun h => absurd ((hh p rfl).2 (by omega)) h⟩
      rw [drainTo_st _ _ _ (by omega)]
      have he' := hd.e
      simp only [PR.pend] at he'
      rw [hp p _ _ rfl, if_neg (by omega)] at he'
      refine ⟨?_, fun h => h.elim, fun h => hd.q h, fun h => h.elim⟩
      show _ = HP.pend _ _ _ _ _
      rw [hp _ _ _ (by rfl), if_pos (by dsimp only; omega)]
      simp only [Tbl.st, Prod.mk.injEq] at he'
      rw [he'.1, he'.2]; rfl
    rw [if_neg hk2]
    have hpl : p.places = false := by simp [HP.places, one, h8]; omega
    rw [etn hpl]
    by_cases hk3 : p.at_ ≤ 2 * p.k
    · rw [if_pos hk3]
      dsimp only
      have hfs := fed_ss H p.who (p.at_ - p.k - 1) ((H.ss (p.at_ - p.k - 1)).feed.drain p.who) s
      by_cases hss : s = p.at_ - p.k - 1
      · rw [if_pos hss, ← hss] at hfs
        refine ⟨fun _ hwho hd => .inl ⟨(hh _ (by rfl)).2 (by dsimp only; omega), ?_, ?_⟩, fun h => absurd ((hh p rfl).2 (by omega)) h⟩
        · show ((H.drain p.who (p.at_ - p.k - 1)).ss s).who = _
          rw [← hss]
          show ((H.fed p.who s ((H.ss s).feed.drain p.who)).ss s).who = _
          rw [hfs]; exact hwho
        · show Held _ _ _ _ ((H.drain p.who (p.at_ - p.k - 1)).ss s) _
          rw [← hss]
          show Held _ _ _ _ ((H.fed p.who s ((H.ss s).feed.drain p.who)).ss s) _
          rw [hfs]
          have he' := hd.e
          simp only [PR.pend] at he'
          rw [hp p _ _ rfl, if_pos (by omega)] at he'
          refine ⟨?_, fun h => h.elim, fun h => hd.q h, fun h => h.elim⟩
          show _ = HP.pend _ _ _ _ _
          rw [hp _ _ _ (by rfl), if_neg (by dsimp only; omega)]
          exact he'
      · rw [if_neg hss] at hfs
        refine Loc.same hfs rfl ?_ ⟨fun h => h.elim, fun h => h.elim⟩ (fun h => h.elim) fun _ x => ?_
        · show HP.holds _ _ ↔ HP.holds _ _
          rw [hh _ (by rfl), hh p rfl]; dsimp only; omega
        · show HP.pend _ _ _ _ _ = HP.pend _ _ _ _ _
          rw [hp _ _ _ (by rfl), hp p _ _ rfl]
          dsimp only
          by_cases hcc : p.k < p.at_ ∧ p.at_ ≤ p.k + 1 + s
          · rw [if_pos hcc, if_pos (by omega)]
          · rw [if_neg hcc, if_neg (by omega)]
    · rw [if_neg hk3]
      dsimp only
      by_cases hss : s = p.at_ - 2 * p.k - 1
      · refine ⟨fun _ hwho hd => .inr ⟨fun h => ?_, ?_⟩, fun h => absurd ((hh p rfl).2 (by omega)) h⟩
        · have := (hh _ (by rfl)).1 h
          dsimp only at this; omega
        · have hls := unlock_ss (H := H) (w := p.who) (s := p.at_ - 2 * p.k - 1) (by omega) (by rw [← hss, hw]; exact hwho) s
          rw [if_pos hss, ← hss] at hls
          show Free ((H.unlock p.who (p.at_ - 2 * p.k - 1)).ss s) _
          rw [← hss, hls]
          have he' := hd.e
          simp only [PR.pend] at he'
          rw [hp p _ _ rfl, if_neg (by omega)] at he'
          have hq := hd.q (nm _)
          exact ⟨rfl, he', hq.1, hq.2⟩
      · have hls : (H.unlock p.who (p.at_ - 2 * p.k - 1)).ss s = H.ss s := by
          simp only [Hall.unlock]
          split
          · simp [Hall.put, sput, hss, Hall.did]
          · rfl
        refine Loc.same hls rfl ?_ ⟨fun h => h.elim, fun h => h.elim⟩ (fun h => h.elim) fun _ x => ?_
        · show HP.holds _ _ ↔ HP.holds _ _
          rw [hh _ (by rfl), hh p rfl]; dsimp only; omega
        · show HP.pend _ _ _ _ _ = HP.pend _ _ _ _ _
          rw [hp _ _ _ (by rfl), hp p _ _ rfl, if_neg (by dsimp only; omega), if_neg (by omega)]
  -- a Watch or Unwatch
  have hst : p.steps = 4 := (HP.kind_of hb h9 h8).2
  have hh : ∀ q : HP, q.x = p.x → (q.holds s ↔ 1 ≤ q.at_ ∧ q.at_ ≤ 3 ∧ s = q.s) := fun q hq => by
    unfold HP.holds; rw [hq, if_neg h8]; simp [onq q hq]
  have hp : ∀ (q : HP) m x, q.x = p.x → q.pend m H.c s x = if q.at_ = 2 ∧ s = q.s ∧ q.wres m H.c = 0 then (x.1, q.wfd x.2) else x := fun q m x hq => by
    unfold HP.pend; rw [onq q hq, hq, if_neg (by simp), if_neg h8]
  have estp : p.stp ms H n = p.stpW ms H n := by simp [HP.stp, hb, h9, h8]
  rw [estp]
  unfold HP.stpW
  by_cases h0 : p.at_ = 0
  · have hpl : p.places = false := by simp [HP.places, one, h8]; omega
    rw [etn hpl, if_pos h0]
    dsimp only
    have hwh : (H.ss p.s).who = 0 := by
      have hnd : p.needs = p.s := by simp [HP.needs, one, h8, h0]
      simp [HP.enabled, hnd] at he
      rcases he.2 with h | h
      · omega
      · exact h
    have hls := lock_ss (H := H) (w := p.who) (s := p.s) (by omega) hwh s
    by_cases hss : s = p.s
    · rw [if_pos hss] at hls
      refine ⟨fun h => ?_, fun _ => .inr ⟨by rw [hss]; exact hwh, rfl, (hh _ (by rfl)).2 (by dsimp only; omega), by rw [hls, hw, hss], nm _, n5 _, fun x => ?_⟩⟩
      · have := (hh p rfl).1 h; omega
      · show HP.pend _ _ _ _ _ = _
        rw [hp _ _ _ (by rfl), if_neg (by dsimp only; omega)]
    · rw [if_neg hss] at hls
      refine Loc.same hls rfl ?_ ⟨fun h => h.elim, fun h => h.elim⟩ (fun h => h.elim) fun _ x => ?_
      · show HP.holds _ _ ↔ HP.holds _ _
        rw [hh _ (by rfl), hh p rfl]; dsimp only; omega
      · show HP.pend _ _ _ _ _ = HP.pend _ _ _ _ _
        rw [hp _ _ _ (by rfl), hp p _ _ rfl, if_neg (by dsimp only; omega), if_neg (by omega)]
  rw [if_neg h0]
  by_cases h1 : p.at_ = 1
  · have hpl : p.places = true := by simp [HP.places, one, h8, h1]
    rw [etb hpl, if_pos h1]
    have hdo := (do_watch (i := i) (p := { p with t := H.t }) (m := ms) (M := M) (c := H.c) ⟨a.w, a.i8, a.k6, a.s⟩ hc ⟨(ma one h8 h1).wt, (ma one h8 h1).ct⟩ ht.symm hb h9 h8).1
    dsimp only at hdo
    rw [hdo]
    dsimp only
    by_cases hss : s = p.s
    · refine ⟨fun _ hwho hd => .inl ⟨(hh _ (by rfl)).2 (by dsimp only; omega), hwho, ?_⟩, fun h => absurd ((hh p rfl).2 (by omega)) h⟩
      have he' := hd.e
      simp only [PR.pend] at he'
      rw [hp p _ _ rfl, if_neg (by omega)] at he'
      refine ⟨?_, fun h => h.elim, fun h => hd.q h, fun h => h.elim⟩
      show _ = HP.pend _ _ _ _ _
      rw [hp _ _ _ (by rfl)]
      dsimp only
      have hwr : ({ p with at_ := 2, t := H.t, placed := n } : HP).wres ms H.c = ({ p with t := H.t } : HP).wres ms H.c := rfl
      rw [hwr]
      by_cases hr : ({ p with t := H.t } : HP).wres ms H.c = 0
      · rw [if_pos hr, if_pos ⟨rfl, hss, hr⟩]
        simp only [Tbl.st, Prod.mk.injEq] at he'
        simp only [Tbl.st, Tbl.fed, bset, hss, if_true]
        rw [← hss, he'.1, he'.2]; rfl
      · rw [if_neg hr, if_neg (fun h => hr h.2.2)]
        exact he'
    · refine Loc.same rfl ?_ ?_ ⟨fun h => h.elim, fun h => h.elim⟩ (fun h => h.elim) fun hh' => ?_
      · split
        · simp [Tbl.st, Tbl.fed, bset, hss]
        · rfl
      · show HP.holds _ _ ↔ HP.holds _ _
        rw [hh _ (by rfl), hh p rfl]; dsimp only; omega
      · have := (hh p rfl).1 hh'; omega
  rw [if_neg h1]
  have hpl : p.places = false := by simp [HP.places, one, h8]; omega
  rw [etn hpl]
  by_cases h2 : p.at_ = 2
  · rw [if_pos h2]
    have key : ∀ (q : HP) (m' : Mine) (H' : Hall), q.x = p.x → q.s = p.s → q.at_ = 3 → (∀ s', H'.ss s' = if s' = p.s ∧ p.wres ms H.c = 0 then { H.ss p.s with feed := p.wfd (H.ss p.s).feed } else H.ss s') → Loc i (.h p) (.h q) ms m' H H' M M s := by
      intro q m' H' hq hqs hq3 hH
      have hH := hH s
      by_cases hss : s = p.s
      · refine ⟨fun _ hwho hd => .inl ⟨(hh _ hq).2 (by omega), ?_, ?_⟩, fun h => absurd ((hh p rfl).2 (by omega)) h⟩
        · rw [hH]; split
          · rename_i h; dsimp only; rw [← h.1]; exact hwho
          · exact hwho
        · have he' := hd.e
          simp only [PR.pend] at he'
          rw [hp p _ _ rfl] at he'
          rw [hH]
          by_cases hr : p.wres ms H.c = 0
          · rw [if_pos ⟨h2, hss, hr⟩] at he'
            rw [if_pos ⟨hss, hr⟩, ← hss]
            refine ⟨?_, fun h => h.elim, fun h => hd.q h, fun h => h.elim⟩
            show _ = HP.pend _ _ _ _ _
            rw [hp _ _ _ hq, if_neg (by omega)]
            exact he'
          · rw [if_neg (fun h => hr h.2.2)] at he'
            rw [if_neg (fun h => hr h.2)]
            refine ⟨?_, fun h => h.elim, fun h => hd.q h, fun h => h.elim⟩
            show _ = HP.pend _ _ _ _ _
            rw [hp _ _ _ hq, if_neg (by omega)]
            exact he'
      · rw [if_neg (fun h => hss h.1)] at hH
        refine Loc.same hH rfl ?_ ⟨fun h => h.elim, fun h => h.elim⟩ (fun h => h.elim) fun hh' => ?_
        · show HP.holds _ _ ↔ HP.holds _ _
          rw [hh _ hq, hh p rfl, hqs]; omega
        · have := (hh p rfl).1 hh'; omega
    by_cases hcl' : p.t.closed = true
    · rw [if_pos hcl']
      exact key _ _ _ rfl rfl rfl fun s' => by
        have : ¬ p.wres ms H.c = 0 := by simp [HP.wres, hcl']
        rw [if_neg (fun h => this h.2)]
    rw [if_neg hcl']
    by_cases hcc : p.x.kind = 6 ∧ mhas ms p.x.user = false ∧ H.c.watches ≤ (ms.length : Int)
    · rw [if_pos hcc]
      exact key _ _ _ rfl rfl rfl fun s' => by
        have : ¬ p.wres ms H.c = 0 := by simp [HP.wres, hcl', hcc.1, hcc.2.1, hcc.2.2]
        rw [if_neg (fun h => this h.2)]
    · rw [if_neg hcc]
      have hr : p.wres ms H.c = 0 := by
        unfold HP.wres; rw [if_neg hcl', if_neg hcc]
      exact key _ _ _ rfl rfl rfl fun s' => by
        unfold Hall.watch
        rw [fed_ss]
        by_cases hs' : s' = p.s
        · have hx : s' = p.s ∧ p.wres ms H.c = 0 := ⟨hs', hr⟩
          simp only [if_pos hs', if_pos hx, HP.wfd]
        · have hx : ¬ (s' = p.s ∧ p.wres ms H.c = 0) := fun h => hs' h.1
          simp only [if_neg hs', if_neg hx]
  rw [if_neg h2]
  dsimp only
  have h3 : p.at_ = 3 := by omega
  by_cases hss : s = p.s
  · refine ⟨fun _ hwho hd => .inr ⟨fun h => ?_, ?_⟩, fun h => absurd ((hh p rfl).2 (by omega)) h⟩
    · have := (hh _ (by rfl)).1 h
      dsimp only at this; omega
    · have hls := unlock_ss (H := H) (w := p.who) (s := p.s) (by omega) (by rw [← hss, hw]; exact hwho) s
      rw [if_pos hss] at hls
      rw [hls, ← hss]
      have he' := hd.e
      simp only [PR.pend] at he'
      rw [hp p _ _ rfl, if_neg (by omega)] at he'
      have hq := hd.q (nm _)
      exact ⟨rfl, he', hq.1, hq.2⟩
  · have hls : (H.unlock p.who p.s).ss s = H.ss s := by
      simp only [Hall.unlock]
      split
      · simp [Hall.put, sput, hss, Hall.did]
      · rfl
    refine Loc.same hls rfl ?_ ⟨fun h => h.elim, fun h => h.elim⟩ (fun h => h.elim) fun _ x => ?_
    · show HP.holds _ _ ↔ HP.holds _ _
      rw [hh _ (by rfl), hh p rfl]; dsimp only; omega
    · show HP.pend _ _ _ _ _ = HP.pend _ _ _ _ _
      rw [hp _ _ _ (by rfl), hp p _ _ rfl, if_neg (by dsimp only; omega), if_neg (by omega)]
end Go.Den
namespace Go.Den
open Go
set_option linter.unusedVariables false
set_option linter.unusedSimpArgs false
theorem TS.take {m : Nat} {M : Tbl} (x : TS m M) : TS m M.take := ⟨x.rt, x.cw, x.nn, x.bk, x.fd, x.tn, addU_rng x.ts (by simp [U64])⟩
theorem TS.set {m : Nat} {M : Tbl} (x : TS m M) {s : Nat} {b : Book} {f : Feed} (hb : BkM m b) (hf : FdM m f) : TS m { M with bk := bset M.bk s b, fd := bset M.fd s f } :=
  ⟨x.rt, x.cw, x.nn, fun t ht => by simp only [bset]; split; exact hb; exact x.bk t ht, fun t ht => by simp only [bset]; split; exact hf; exact x.fd t ht, x.tn, x.ts⟩
theorem TS.fed {m : Nat} {M : Tbl} (x : TS m M) {s : Nat} {f : Feed} (hf : FdM m f) : TS m (M.fed s f) :=
  ⟨x.rt, x.cw, x.nn, x.bk, fun t ht => by simp only [Tbl.fed, bset]; split; exact hf; exact x.fd t ht, x.tn, x.ts⟩
theorem TS.sweep {m : Nat} {M : Tbl} (x : TS m M) (s : Int) : TS m (M.sweep s) := by
  unfold Tbl.sweep
  split
  · rename_i h
    have hs : s.toNat < M.n := by omega
    exact x.take.set ((x.bk _ hs).sweepTo _ _ (Nat.le_refl _)) ((x.fd _ hs).tell _ _)
  · exact x
theorem TS.write {m : Nat} {M : Tbl} (x : TS m M) {o : OpD} (ow : OpW o) : TS (m + 1) (M.write o).1 := by
  have y := x.mono (Nat.le_succ m)
  have hs := x.stripe o.user
  unfold Tbl.write
  split
  · exact y.take
  · exact y.take.set ((x.bk _ hs).write ow x.tn _) ((y.fd _ hs).tell _ _)
theorem TS.do_ {m : Nat} {M : Tbl} (x : TS m M) (who : Int) {o : OpD} (ow : OpW o) : TS (m + 1) (M.do_ who o).1 := by
  have y := x.mono (Nat.le_succ m)
  have hs := x.stripe o.user
  unfold Tbl.do_
  split
  · exact y
  split
  · exact x.write ow
  split
  · exact ⟨y.rt, y.cw, y.nn, y.bk, fun t ht => by simp only [Tbl.poll, Tbl.drainTo]; split; exact (y.fd t ht).drain _; exact y.fd t ht, y.tn, y.ts⟩
  split
  · exact y
  split
  · unfold Tbl.watch
    split
    · exact y
    · exact y.fed ((x.fd _ hs).watch _ _ ow.s1)
  split
  · exact y.fed ((x.fd _ hs).unwatch _ _ ow.s1)
  split
  · exact ⟨y.rt, y.cw, y.nn, y.bk, y.fd, y.tn, y.ts⟩
  · exact y
def PR.owd : PR → Prop
  | .w p => ∀ o, p.k = .op o → OpW o
  | .r _ => True
  | .h p => OpW p.x
theorem TS.bef {m : Nat} {M : Tbl} (x : TS m M) {p : PR} (h : p.owd) : TS (m + 1) (p.bef M).1 := by
  have y := x.mono (Nat.le_succ m)
  cases p with
  | w p =>
    simp only [PR.bef]
    cases hk : p.k with
    | bad => exact y
    | op o => exact x.write (h o hk)
    | sweep => exact y.sweep _
  | r p => exact y
  | h p => exact x.do_ _ h
theorem TS.tb {m : Nat} {M : Tbl} (x : TS m M) {p : PR} {H : Hall} (h : p.owd) : TS (m + 1) (p.tb H M) := by
  unfold PR.tb
  split
  · exact x.bef h
  · exact x.mono (Nat.le_succ m)
def allWs (M : Tbl) (i : Nat) : List ByteArray := (List.range M.n).flatMap fun s => wsOf (M.fd s).ws i
structure WsI (M : Tbl) (e : Nat → Mine) : Prop where
  pm : ∀ i, i < 8 → (allWs M i).Perm (e i)
  lo : ∀ s i u, s < M.n → i < 8 → u ∈ wsOf (M.fd s).ws i → M.stripe u = s
theorem sum_map_len {α β : Type} (l : List α) (f : α → List β) : (l.map fun a => (f a).length).sum = (l.flatMap f).length := by
  induction l with
  | nil => rfl
  | cons a l ih => rw [List.map_cons, List.sum_cons, List.flatMap_cons, List.length_append, ih]
theorem WsI.count {M : Tbl} {e : Nat → Mine} (x : WsI M e) {i : Nat} (hi : i < 8) : M.count i = (e i).length := by
  rw [← (x.pm i hi).length_eq]
  unfold allWs Tbl.count
  rw [← sum_map_len]
  congr 1
  apply List.map_congr_left
  intro s _
  have hc : clientB (i : Int) = true := by simp [clientB]; omega
  simp [Feed.count, hc, wsOf]
theorem WsI.watching {M : Tbl} {e : Nat → Mine} {m : Nat} (x : WsI M e) (ts : TS m M) {i : Nat} (hi : i < 8) (u : ByteArray) : (M.fd (M.stripe u)).watching i u = mhas (e i) u := by
  have hs := ts.stripe u
  have hc : clientB (i : Int) = true := by simp [clientB]; omega
  unfold Feed.watching
  rw [hc, Bool.true_and, Bool.eq_iff_iff, ← wsOf_mem (ts.fd _ hs).so, mhas_iff, ← (x.pm i hi).mem_iff]
  unfold allWs
  rw [List.mem_flatMap]
  constructor
  · intro h; exact ⟨M.stripe u, List.mem_range.2 hs, h⟩
  · rintro ⟨s, h1, h2⟩
    have := x.lo s i u (List.mem_range.1 h1) hi h2
    rw [this]; exact h2
theorem WsI.same {M M' : Tbl} {e e' : Nat → Mine} (x : WsI M e) (hn : M'.n = M.n) (hc : M'.c = M.c) (hw : ∀ s, s < M.n → (M'.fd s).ws = (M.fd s).ws) (he : ∀ i, i < 8 → e' i = e i) : WsI M' e' := by
  have ha : ∀ i, allWs M' i = allWs M i := fun i => by
    unfold allWs; rw [hn]
    rw [List.flatMap_def, List.flatMap_def]
    congr 1
    exact List.map_congr_left fun s hs => by rw [hw s (by simpa using hs)]
  refine ⟨fun i hi => by rw [ha, he i hi]; exact x.pm i hi, fun s i u hs hi hu => ?_⟩
  rw [hw s (by omega)] at hu
  have := x.lo s i u (by omega) hi hu
  unfold Tbl.stripe at this ⊢
  rw [hc]; exact this
theorem tell_ws (f : Feed) (l : List Chg) (seq : Int) : (f.tell l seq).ws = f.ws := by
  unfold Feed.tell
  induction l generalizing f with
  | nil => rfl
  | cons c l ih => rw [List.foldl_cons, ih, tell1_ws]
theorem drain_ws (f : Feed) (who : Int) : (f.drain who).ws = f.ws := by unfold Feed.drain; split <;> rfl
theorem range_split {n s : Nat} (hs : s < n) : List.range n = List.range s ++ s :: (List.range (n - s - 1)).map (· + (s + 1)) := by
  have h1 : n = s + (1 + (n - s - 1)) := by omega
  rw [h1, List.range_add]
  congr 1
  rw [List.range_add]
  simp only [List.range_one, List.map_append, List.map_cons, List.map_nil, Nat.add_zero, List.map_map, List.singleton_append]
  rw [show s + (1 + (n - s - 1)) - s - 1 = n - s - 1 by omega]
  congr 1
  apply List.map_congr_left
  intro k _
  simp only [Function.comp]; omega
theorem flatMap_perm {β : Type} {n s : Nat} (hs : s < n) {f g : Nat → List β} (h : ∀ k, k ≠ s → (g k).Perm (f k)) (x y : List β) (hxy : (x ++ g s).Perm (y ++ f s)) : (x ++ (List.range n).flatMap g).Perm (y ++ (List.range n).flatMap f) := by
  have hl : ∀ l : List Nat, s ∉ l → (l.flatMap g).Perm (l.flatMap f) := fun l hl => by
    induction l with
    | nil => exact List.Perm.refl _
    | cons a l ih =>
      simp only [List.mem_cons, not_or] at hl
      simp only [List.flatMap_cons]
      exact (h a (Ne.symm hl.1)).append (ih hl.2)
  rw [range_split hs]
  simp only [List.flatMap_append, List.flatMap_cons]
  have h1 := hl (List.range s) (by simp)
  have h2 := hl ((List.range (n - s - 1)).map (· + (s + 1))) (by simp; omega)
  generalize (List.range s).flatMap g = A at *
  generalize (List.range s).flatMap f = A' at *
  generalize ((List.range (n - s - 1)).map (· + (s + 1))).flatMap g = B at *
  generalize ((List.range (n - s - 1)).map (· + (s + 1))).flatMap f = B' at *
  have e1 : (x ++ (A ++ (g s ++ B))).Perm ((x ++ g s) ++ (A ++ B)) := by
    rw [List.append_assoc]
    refine List.Perm.append_left x ?_
    rw [← List.append_assoc, ← List.append_assoc]
    exact (List.perm_append_comm).append_right B
  have e2 : ((y ++ f s) ++ (A' ++ B')).Perm (y ++ (A' ++ (f s ++ B'))) := by
    rw [List.append_assoc]
    refine List.Perm.append_left y ?_
    rw [← List.append_assoc, ← List.append_assoc]
    exact (List.perm_append_comm).append_right B'
  exact (e1.trans (hxy.append (h1.append h2))).trans e2
/-- What a Watch or Unwatch makes of whom clients watch. -/
theorem wsOf_watch {f : Feed} (so : SrtK (keysL f.ws)) (ms : ∀ x ∈ f.ws, 0 ≤ x.2 ∧ x.2 < 4294967296) {w j : Nat} (hw : w < 8) (hj : j < 8) (u : ByteArray) :
    (wsOf (f.watch w u).ws j).Perm (if j = w then (wsOf f.ws j).filter (fun k => !decide (k = u)) ++ [u] else wsOf f.ws j) := by
  have hc : clientB (w : Int) = true := by simp [clientB]; omega
  obtain ⟨m0, m1⟩ := valL_rng (u := u) ms
  have e0 := wsOf_self so u j
  have e1 : wsOf (f.watch w u).ws j = wsOf (putB f.ws u (mor (valL 0 f.ws u) w)) j := by simp [Feed.watch, hc]
  rw [e1]
  refine (wsOf_put so u _ j).trans ?_
  rw [mbit_mor m0 m1 hw hj]
  by_cases h : j = w
  · have e2 : (wsOf (delB f.ws u) j).filter (fun k => !decide (k = u)) = wsOf (delB f.ws u) j := List.filter_eq_self.2 fun k hk => by
      have : ¬ k = u := fun h => wsOf_del_not (h ▸ hk)
      simp [this]
    have e3 := e0.filter (fun k => !decide (k = u))
    rw [List.filter_append, e2] at e3
    have e4 : (if mbit (valL 0 f.ws u) j = true then [u] else []).filter (fun k => !decide (k = u)) = [] := by split <;> simp
    rw [e4, List.nil_append] at e3
    simp only [h, decide_true, Bool.or_true, if_true]
    rw [h] at e3
    exact (List.perm_append_comm).trans (e3.symm.append_right [u])
  · simp only [h, decide_false, Bool.or_false, if_false]
    exact e0.symm
theorem wsOf_unwatch {f : Feed} (so : SrtK (keysL f.ws)) (ms : ∀ x ∈ f.ws, 0 ≤ x.2 ∧ x.2 < 4294967296) {w j : Nat} (hw : w < 8) (hj : j < 8) (u : ByteArray) :
    (wsOf (f.unwatch w u).ws j).Perm (if j = w then (wsOf f.ws j).filter (fun k => !decide (k = u)) else wsOf f.ws j) := by
  have hc : clientB (w : Int) = true := by simp [clientB]; omega
  obtain ⟨m0, m1⟩ := valL_rng (u := u) ms
  have e0 := wsOf_self so u j
  have e2 : (wsOf (delB f.ws u) j).filter (fun k => !decide (k = u)) = wsOf (delB f.ws u) j := List.filter_eq_self.2 fun k hk => by
    have : ¬ k = u := fun h => wsOf_del_not (h ▸ hk)
    simp [this]
  have e3 := e0.filter (fun k => !decide (k = u))
  rw [List.filter_append, e2] at e3
  have e4 : (if mbit (valL 0 f.ws u) j = true then [u] else []).filter (fun k => !decide (k = u)) = [] := by split <;> simp
  rw [e4, List.nil_append] at e3
  have main : ∀ ws' : List (ByteArray × Int), (wsOf ws' j).Perm ((if mbit (mclr (valL 0 f.ws u) w) j then [u] else []) ++ wsOf (delB f.ws u) j) → (wsOf ws' j).Perm (if j = w then (wsOf f.ws j).filter (fun k => !decide (k = u)) else wsOf f.ws j) := fun ws' h => by
    rw [mbit_mclr m0 m1 hw hj] at h
    by_cases hjw : j = w
    · rw [if_pos hjw]
      simp only [hjw, decide_true, Bool.not_true, Bool.and_false, Bool.false_eq_true, if_false, List.nil_append] at h
      rw [hjw] at e3 ⊢
      exact h.trans e3.symm
    · rw [if_neg hjw]
      simp only [hjw, decide_false, Bool.not_false, Bool.and_true] at h
      exact h.trans e0.symm
  unfold Feed.unwatch
  simp only [hc, true_and]
  by_cases hv : valL 0 f.ws u = 0
  · simp only [hv, ne_eq, not_true_eq_false, if_false]
    split
    · rw [hv, mbit_zero] at e0
      simp only [Bool.false_eq_true, if_false, List.nil_append] at e0
      exact e0.trans e3.symm
    · exact List.Perm.refl _
  · simp only [ne_eq, hv, not_false_eq_true, if_true]
    split
    · rename_i h0
      refine main _ ?_
      rw [h0, mbit_zero]; simp
    · exact main _ (wsOf_put so u _ j)
theorem WsI.put {M : Tbl} {e e' : Nat → Mine} {m : Nat} (x : WsI M e) (ts : TS m M) {p : HP} {w : Nat} (hw : w < 8) (hp : p.who = w) (hs : p.s = M.stripe p.x.user)
    (he : e' w = miset (e w) p.x.user (decide (p.x.kind = 6))) (ho : ∀ j, j ≠ w → e' j = e j) : WsI (M.fed p.s (p.wfd (M.fd p.s))) e' := by
  have hsn : p.s < M.n := by rw [hs]; exact ts.stripe _
  have fm := ts.fd p.s hsn
  obtain ⟨u, hu⟩ : ∃ u, p.x.user = u := ⟨_, rfl⟩
  have hwf : p.wfd (M.fd p.s) = if decide (p.x.kind = 6) then (M.fd p.s).watch w u else (M.fd p.s).unwatch w u := by unfold HP.wfd; rw [hp, hu]
  have key : ∀ j, j < 8 → (wsOf (p.wfd (M.fd p.s)).ws j).Perm (if j = w then (wsOf (M.fd p.s).ws j).filter (fun k => !decide (k = u)) ++ (if decide (p.x.kind = 6) then [u] else []) else wsOf (M.fd p.s).ws j) := fun j hj => by
    rw [hwf]
    cases hk : decide (p.x.kind = 6) with
    | true => simpa using wsOf_watch fm.so fm.ms hw hj u
    | false => simpa using wsOf_unwatch fm.so fm.ms hw hj u
  have hfd : ∀ s, s ≠ p.s → (M.fed p.s (p.wfd (M.fd p.s))).fd s = M.fd s := fun s h => by simp [Tbl.fed, bset, h]
  have hfs : (M.fed p.s (p.wfd (M.fd p.s))).fd p.s = p.wfd (M.fd p.s) := by simp [Tbl.fed, bset]
  refine ⟨fun j hj => ?_, fun s j v hs' hj hv => ?_⟩
  · have kj := key j hj
    by_cases hjw : j = w
    · subst hjw
      rw [if_pos rfl] at kj
      rw [he, hu]
      unfold miset
      -- the others have none of this user's
      have hno : ∀ s, s < M.n → s ≠ p.s → (wsOf (M.fd s).ws j).filter (fun k => !decide (k = u)) = wsOf (M.fd s).ws j := fun s h1 h2 => List.filter_eq_self.2 fun k hk => by
        have : ¬ k = u := fun h => by
          subst h
          have := x.lo s j k h1 hj hk
          rw [← hu, ← hs] at this
          exact h2 this.symm
        simp [this]
      have h1 := (x.pm j hj).filter (fun k => !decide (k = u))
      refine List.Perm.trans ?_ (h1.append_right _)
      unfold allWs
      rw [List.filter_flatMap]
      have := flatMap_perm (s := p.s) hsn (f := fun s => (wsOf (M.fd s).ws j).filter (fun k => !decide (k = u))) (g := fun s => if s < M.n then wsOf ((M.fed p.s (p.wfd (M.fd p.s))).fd s).ws j else (wsOf (M.fd s).ws j).filter (fun k => !decide (k = u)))
        (fun k hk => by
          by_cases hkn : k < M.n
          · simp only [if_pos hkn]; rw [hfd k hk, hno k hkn hk]
          · simp only [if_neg hkn]; exact List.Perm.refl _) [] (if decide (p.x.kind = 6) then [u] else [])
        (by
          simp only [if_pos hsn]; rw [hfs, List.nil_append]
          exact kj.trans List.perm_append_comm)
      rw [List.nil_append] at this
      have e1 : (List.range M.n).flatMap (fun s => if s < M.n then wsOf ((M.fed p.s (p.wfd (M.fd p.s))).fd s).ws j else (wsOf (M.fd s).ws j).filter (fun k => !decide (k = u))) = (List.range M.n).flatMap fun s => wsOf ((M.fed p.s (p.wfd (M.fd p.s))).fd s).ws j := by
        rw [List.flatMap_def, List.flatMap_def]
        congr 1
        exact List.map_congr_left fun s hs => by rw [if_pos (by simpa using hs)]
      rw [e1] at this
      exact this.trans List.perm_append_comm
    · rw [if_neg hjw] at kj
      rw [ho j hjw]
      refine List.Perm.trans ?_ (x.pm j hj)
      have := flatMap_perm (s := p.s) hsn (f := fun s => wsOf (M.fd s).ws j) (g := fun s => wsOf ((M.fed p.s (p.wfd (M.fd p.s))).fd s).ws j) (fun k hk => by rw [hfd k hk]) [] [] (by rw [hfs]; exact kj)
      rw [List.nil_append, List.nil_append] at this
      exact this
  · show M.stripe v = s
    have hs' : s < M.n := hs'
    by_cases hsp : s = p.s
    · subst hsp
      rw [hfs] at hv
      have hv := (key j hj).mem_iff.1 hv
      split at hv
      · rcases List.mem_append.1 hv with hv | hv
        · exact x.lo _ j v hs' hj (List.mem_filter.1 hv).1
        · split at hv
          · simp at hv; rw [hv, ← hu, hs]
          · simp at hv
      · exact x.lo _ j v hs' hj hv
    · rw [hfd s hsp] at hv
      exact x.lo s j v hs' hj hv
end Go.Den
namespace Go.Den
open Go
set_option linter.unusedVariables false
set_option linter.unusedSimpArgs false
/-- What is asked of a process. -/
def PA (n i : Nat) (c : Cfg) : PR → Prop
  | .w p => WG n p ∧ WA i p c
  | .r p => RK n p ∧ RA i p
  | .h p => HPG n p ∧ HA i p c
structure LI (W : Wd) (M : Tbl) : Prop where
  t : M.t = W.H.t
  c : M.c = W.H.c
  n : M.n = W.H.n
  st : ∀ s, s < W.H.n → Free (W.H.ss s) (M.st s) ∨ ∃ i p, W.ps i = some p ∧ p.holds s ∧ (W.H.ss s).who = i + 1 ∧ Held p (W.ms i) W.H.c s (W.H.ss s) (M.st s)
  own : ∀ i p s, s < W.H.n → W.ps i = some p → p.holds s → (W.H.ss s).who = i + 1
  pa : ∀ i p, W.ps i = some p → PA W.H.n i W.H.c p
  ws : WsI M W.em
theorem bset_same {α : Type} (f : Nat → α) (i : Nat) (x : α) : bset f i x i = x := by simp [bset]
theorem bset_ne {α : Type} {f : Nat → α} {i j : Nat} {x : α} (h : j ≠ i) : bset f i x j = f j := by simp [bset, h]
theorem bset_id {α : Type} (f : Nat → α) (i : Nat) : bset f i (f i) = f := by
  funext j; unfold bset; split
  · rename_i h; rw [h]
  · rfl
theorem pstep_off {p : PR} {m : Mine} {H : Hall} {n : Int} (h : p.enabled H = false) : p.step m H n = (p, m, H) := by
  cases p with
  | w p => have h : p.enabled H = false := h
           simp [PR.step, WP.step, h]
  | r p => have h : p.enabled H = false := h
           simp [PR.step, RP.step, h]
  | h p => have h : p.enabled H = false := h
           simp [PR.step, HP.step, h]
theorem pstep_n {k i : Nat} {p : PR} {m : Mine} {H : Hall} (hs : HS k H) (n : Int) (hk : k < 100000) (g : PA H.n i H.c p) : (p.step m H n).2.2.n = H.n ∧ (p.step m H n).2.2.c = H.c ∧ HS (k + 1) (p.step m H n).2.2 ∧ PA H.n i H.c (p.step m H n).1 := by
  cases p with
  | w p =>
    obtain ⟨k1, k2, k3⟩ := wstep_k p H n
    obtain ⟨n1, n2⟩ := wstep_n p H n
    exact ⟨n1, n2, hs.wstep g.1 n, g.1.step hs n, by rw [show (p.step H n).1.who = p.who from k2]; exact g.2.w, (g.1.step hs n).a, fun x hx => by rw [k3]; exact g.2.s x (by rw [← k1]; exact hx)⟩
  | r p =>
    have hg := hs.g hk
    obtain ⟨k1, k2, k3, k4, k5⟩ := g.1.step hg n (by have := hs.ac; omega)
    refine ⟨k3, k4, ?_, by have := k1; exact k1, ?_⟩
    · show HS (k + 1) (p.step H n).2
      unfold RP.step
      split
      · exact hs.mono (by omega)
      rename_i hen
      split
      · exact hs.mono (by omega)
      rename_i hz
      have h8 : p.ph ≠ 8 := fun h => by simp [RP.enabled, h] at hen
      have hat := g.1.at_ h8 hz
      have hss : p.s < H.n := by rw [RP.s_lt hat]; exact g.1.ss _ (List.getElem_mem _)
      unfold RP.go
      split
      · exact hs.epoch _ _
      split
      · exact hs.snap _ _
      split
      · exact hs.look _
      split
      · exact hs.look _
      split
      · exact hs.epoch _ _
      split
      · exact hs.lock hss g.1.wr.2
      split
      · exact hs.read _ _
      · exact hs.unlock hss
    · show RA i (p.step H n).1
      have hkeep : (p.step H n).1.who = p.who ∧ (p.step H n).1.ss = p.ss := by
        unfold RP.step
        split
        · exact ⟨rfl, rfl⟩
        split
        · exact ⟨rfl, rfl⟩
        have hnx : ∀ (q : RP) ph, (q.next ph).who = q.who ∧ (q.next ph).ss = q.ss := fun q ph => by unfold RP.next; split <;> exact ⟨rfl, rfl⟩
        have han : ∀ q : RP, q.answer.who = q.who ∧ q.answer.ss = q.ss := fun q => by unfold RP.answer; split <;> exact ⟨rfl, rfl⟩
        have hju : ∀ q : RP, q.judge.who = q.who ∧ q.judge.ss = q.ss := fun q => by
          unfold RP.judge
          split
          · exact han q
          split <;> exact ⟨rfl, rfl⟩
        unfold RP.go
        split
        · exact hnx _ _
        split
        · exact hnx _ _
        split
        · exact ⟨rfl, rfl⟩
        split
        · exact ⟨rfl, rfl⟩
        split
        · dsimp only; split
          · exact ⟨(hju _).1.trans (hnx _ _).1, (hju _).2.trans (hnx _ _).2⟩
          · exact hnx _ _
        split
        · exact hnx _ _
        split
        · exact hnx _ _
        · dsimp only; split
          · exact ⟨(han _).1.trans (hnx _ _).1, (han _).2.trans (hnx _ _).2⟩
          · exact hnx _ _
      exact ⟨by rw [hkeep.1]; exact g.2.w, by rw [hkeep.2]; exact g.2.nd⟩
  | h p =>
    obtain ⟨k1, k2, k3, k4⟩ := hstep_k p m H n
    obtain ⟨n1, n2⟩ := hstep_n p m H n
    exact ⟨n1, n2, hs.hstep g.1 m n, g.1.step m n, by rw [show (p.step m H n).1.who = p.who from k1]; exact g.2.w, g.2.i8, fun h => by rw [show (p.step m H n).1.x = p.x from k2] at h ⊢; exact g.2.k6 h, by rw [show (p.step m H n).1.s = p.s from k4, show (p.step m H n).1.x = p.x from k2]; exact g.2.s⟩
theorem tb_n {i : Nat} {p : PR} {H : Hall} {M : Tbl} (hn : M.n = H.n) (g : PA H.n i H.c p) : (p.tb H M).n = M.n ∧ (p.tb H M).c = M.c := by
  unfold PR.tb
  split
  · cases p with
    | w p =>
      cases hk : p.k with
      | bad => simp [PR.bef, hk, WK.bef]
      | op x => have := bef_t (k := p.k) (s := p.s) (M := M) (by simp [hk, WK.isBad]) (by rw [hn]; exact g.1.s); exact ⟨this.2.2, this.2.1⟩
      | sweep => have := bef_t (k := p.k) (s := p.s) (M := M) (by simp [hk, WK.isBad]) (by rw [hn]; exact g.1.s); exact ⟨this.2.2, this.2.1⟩
    | r p => exact ⟨rfl, rfl⟩
    | h p =>
      simp only [PR.bef]
      unfold Tbl.do_
      split
      · exact ⟨rfl, rfl⟩
      split
      · unfold Tbl.write; split <;> exact ⟨rfl, rfl⟩
      split
      · exact ⟨rfl, rfl⟩
      split
      · exact ⟨rfl, rfl⟩
      split
      · unfold Tbl.watch; split <;> exact ⟨rfl, rfl⟩
      split
      · exact ⟨rfl, rfl⟩
      split <;> exact ⟨rfl, rfl⟩
  · exact ⟨rfl, rfl⟩
/-- The time: the hall's, and the table's. -/
theorem tb_t {i : Nat} {p : PR} {m : Mine} {H : Hall} {M : Tbl} (ht : M.t = H.t) (hn : M.n = H.n) (g : PA H.n i H.c p) (n : Int) : (p.tb H M).t = (p.step m H n).2.2.t := by
  cases hen : p.enabled H with
  | false =>
    rw [pstep_off hen]
    simp [PR.tb, hen, ht]
  | true =>
    cases p with
    | w p =>
      have he : p.enabled H = true := hen
      by_cases hb : p.k.isBad = true
      · have : p.k = .bad := by cases hk : p.k <;> simp [hk, WK.isBad] at hb ⊢
        simp [PR.tb, PR.bef, this, WK.bef, PR.step, WP.step, he, hb, ht]
        simp [this, WK.isBad, ht]
      have hb : p.k.isBad = false := by simpa using hb
      have e3 : ((PR.w p).step m H n).2.2 = (p.stp H n).2 := by simp [PR.step, WP.step, he, hb]
      rw [e3]
      by_cases h2 : p.at_ = 2
      · have e4 : (PR.w p).tb H M = (p.k.bef p.s M).1 := by simp [PR.tb, PR.places, WP.places, hen, h2, PR.bef]
        rw [e4, (bef_t hb (by rw [hn]; exact g.1.s)).1, stp2 H n h2]
        simp [Tbl.take, Hall.take, Hall.did, ht]
      · have e4 : (PR.w p).tb H M = M := by simp [PR.tb, PR.places, WP.places, hb, h2]
        rw [e4, ht]
        by_cases h0 : p.at_ = 0
        · rw [stp0 H n h0]; exact (lock_t _ _ _).symm
        by_cases h1 : p.at_ = 1
        · rw [stp1 H n h1]; rfl
        by_cases h3 : p.at_ = 3
        · rw [stp3 H n h3]; exact (run_ss p.k H p.who p.s p.t p.s).2.2.2.2.symm
        by_cases h4 : p.at_ = 4
        · rw [stp4 H n h4]; rfl
        by_cases h5 : p.at_ = 5
        · rw [stp5 H n h5]; rfl
        · rw [stp6 H n (by have := enabled_at he; omega)]; exact (unlock_t _ _ _).symm
    | r p =>
      have e4 : (PR.r p).tb H M = M := by simp [PR.tb, PR.places]
      rw [e4, ht]
      show H.t = (p.step H n).2.t
      unfold RP.step
      split
      · rfl
      split
      · rfl
      unfold RP.go
      split
      · rfl
      split
      · rfl
      split
      · rfl
      split
      · rfl
      split
      · rfl
      split
      · exact (lock_t _ _ _).symm
      split
      · rfl
      · exact (unlock_t _ _ _).symm
    | h p =>
      have he : p.enabled H = true := hen
      have e3 : ((PR.h p).step m H n).2.2 = (p.stp m H n).2.2 := by simp [PR.step, HP.step, he]
      rw [e3]
      have hcl := g.2.cl
      have hpt : ∀ (who : Int) (x : OpD), badB x = true ∨ x.kind ≠ 9 → (badB x = false → 6 ≤ x.kind) → (M.do_ who x).1.t = M.t := fun who x h h6 => by
        unfold Tbl.do_
        split
        · rfl
        rename_i hnb
        have hb : badB x = false := by
          cases hbb : badB x with
          | true => exact absurd (.inl hbb) hnb
          | false => rfl
        have hk := h6 hb
        split
        · omega
        split
        · rfl
        split
        · rfl
        split
        · unfold Tbl.watch; split <;> rfl
        split
        · rfl
        split
        · rcases h with h | h
          · rw [hb] at h; cases h
          · contradiction
        · rfl
      by_cases hb : badB p.x = true
      · have : ((PR.h p).tb H M).t = M.t := by
          unfold PR.tb; split
          · exact hpt _ _ (.inl hb) g.2.k6
          · rfl
        rw [this, ht]; simp [HP.stp, hb]
      have hb : badB p.x = false := by simpa using hb
      by_cases h9 : p.x.kind = 9
      · have e4 : (PR.h p).tb H M = (M.do_ p.who p.x).1 := by simp [PR.tb, PR.places, HP.places, HP.one, h9, hen, PR.bef]
        have e5 : (p.stp m H n).2.2 = H.shut p.who := by simp [HP.stp, hb, h9]
        rw [e4, e5]
        unfold Tbl.do_
        rw [if_neg (by simp [hb, hcl]), if_neg (by omega), if_neg (by omega)]
        cases htc : M.t.closed with
        | true =>
          simp only [if_true]
          rw [ht] at htc ⊢
          have : (H.shut p.who).t = { H.t with closed := true } := rfl
          rw [this, ← htc]
        | false =>
          simp only [Bool.false_eq_true, if_false]
          rw [if_neg (by omega), if_neg (by omega), if_pos h9]
          show _ = { H.t with closed := true }
          rw [← ht]
      · have : ((PR.h p).tb H M).t = M.t := by
          unfold PR.tb; split
          · exact hpt _ _ (.inr h9) g.2.k6
          · rfl
        rw [this, ht]
        simp only [HP.stp, hb, h9, Bool.false_eq_true, if_false]
        split
        · unfold HP.stpP
          split
          · exact (lock_t _ _ _).symm
          split
          · rfl
          split
          · rfl
          · exact (unlock_t _ _ _).symm
        · unfold HP.stpW
          split
          · exact (lock_t _ _ _).symm
          split
          · rfl
          split
          · split
            · rfl
            split <;> rfl
          · exact (unlock_t _ _ _).symm
theorem em_of {W : Wd} {i : Nat} {p : PR} (h : W.ps i = some p) : W.em i = p.em (W.ms i) W.H.c := by simp [Wd.em, h]
theorem LI.ma {W : Wd} {M : Tbl} {k : Nat} (x : LI W M) (ts : TS k M) {i : Nat} {p : HP} (hp : W.ps i = some (.h p)) (h1 : p.at_ ≠ 2) : MA p (W.ms i) M := by
  have hpa := x.pa i _ hp
  have he : W.em i = W.ms i := by rw [em_of hp]; simp [PR.em, HP.em, h1]
  have hw := hpa.2.w
  exact ⟨by rw [hw, x.ws.watching ts hpa.2.i8, he], by rw [hw, x.ws.count hpa.2.i8, he]⟩
theorem LI.loc {W : Wd} {M : Tbl} {k j : Nat} (x : LI W M) (hs : HS k W.H) (ts : TS j M) {i : Nat} {p : PR} (hp : W.ps i = some p) (n : Int) (he : p.enabled W.H = true) {s : Nat} (hn : s < W.H.n) :
    Loc i p (p.step (W.ms i) W.H n).1 (W.ms i) (p.step (W.ms i) W.H n).2.1 W.H (p.step (W.ms i) W.H n).2.2 M (p.tb W.H M) s := by
  have hpa := x.pa i _ hp
  cases p with
  | w p => exact wloc (m := 0) hs hpa.1 hpa.2 x.t x.c x.n n hn he
  | r p => exact rloc hpa.1 hpa.2 n hn he
  | h p => exact hloc hpa.1 hpa.2 x.t x.c x.n (fun _ _ h => x.ma ts hp (by omega)) n hn he
end Go.Den
namespace Go.Den
open Go
set_option linter.unusedVariables false
set_option linter.unusedSimpArgs false
theorem bef_ws {k : WK} {s : Nat} {M : Tbl} (s' : Nat) : ((k.bef s M).1.fd s').ws = (M.fd s').ws := by
  cases k with
  | bad => rfl
  | op x =>
    simp only [WK.bef, Tbl.write]
    split
    · rfl
    · simp only [Tbl.writeAt, bset]
      split
      · rename_i h; rw [tell_ws, h]; rfl
      · rfl
  | sweep =>
    simp only [WK.bef, Tbl.sweep]
    split
    · simp only [Tbl.sweepAt, bset]
      split
      · rename_i h; rw [tell_ws, h]; rfl
      · rfl
    · rfl
theorem step_em_ne {W : Wd} {i : Nat} {n : Int} (hc : (W.step i n).H.c = W.H.c) {j : Nat} (h : j ≠ i) : (W.step i n).em j = W.em j := by
  unfold Wd.em
  unfold Wd.step at hc ⊢
  cases hp : W.ps i with
  | none => rfl
  | some p =>
    simp only [hp] at hc ⊢
    rw [bset_ne h, bset_ne h, hc]
theorem HP.em_def (p : HP) (m : Mine) (c : Cfg) : p.em m c = if p.one = false ∧ p.x.kind ≠ 8 ∧ p.at_ = 2 ∧ p.wres m c = 0 then miset m p.x.user (decide (p.x.kind = 6)) else m := rfl
theorem LI.ws_step {W : Wd} {M : Tbl} {j : Nat} (x : LI W M) (ts : TS j M) {i : Nat} {p : PR} (hp : W.ps i = some p) (n : Int) (hc : (W.step i n).H.c = W.H.c) (hm : (p.tb W.H M).n = M.n ∧ (p.tb W.H M).c = M.c) : WsI (p.tb W.H M) (W.step i n).em := by
  have hpa := x.pa i p hp
  have hWi : (W.step i n).em i = (p.step (W.ms i) W.H n).1.em (p.step (W.ms i) W.H n).2.1 W.H.c := by
    have : (W.step i n).ps i = some (p.step (W.ms i) W.H n).1 := by simp only [Wd.step, hp, bset_same]
    rw [em_of this, hc]
    simp only [Wd.step, hp, bset_same]
  have hWn := fun j (h : j ≠ i) => step_em_ne (W := W) (i := i) (n := n) hc h
  have he0 := em_of hp
  -- nothing is changed
  have same : (∀ s, s < M.n → ((p.tb W.H M).fd s).ws = (M.fd s).ws) → (p.step (W.ms i) W.H n).1.em (p.step (W.ms i) W.H n).2.1 W.H.c = p.em (W.ms i) W.H.c → WsI (p.tb W.H M) (W.step i n).em := fun h1 h2 =>
    x.ws.same hm.1 hm.2 h1 fun j hj => by
      by_cases h : j = i
      · subst h; rw [hWi, he0, h2]
      · exact hWn j h
  cases hen : p.enabled W.H with
  | false =>
    refine same (fun s _ => by simp [PR.tb, hen]) ?_
    rw [pstep_off hen]
  | true =>
    cases p with
    | w p =>
      refine same (fun s _ => ?_) rfl
      unfold PR.tb; split
      · exact bef_ws s
      · rfl
    | r p => exact same (fun s _ => by simp [PR.tb, PR.places]) rfl
    | h p =>
      have he : p.enabled W.H = true := hen
      have hl := HP.lt_of_en he
      have e3 : (PR.h p).step (W.ms i) W.H n = (.h (p.stp (W.ms i) W.H n).1, (p.stp (W.ms i) W.H n).2.1, (p.stp (W.ms i) W.H n).2.2) := by simp [PR.step, HP.step, he]
      rw [e3] at same hWi
      dsimp only [PR.em] at same hWi he0
      have hcl := hpa.2.cl
      by_cases hb : badB p.x = true
      · refine same (fun s _ => ?_) ?_
        · unfold PR.tb; split
          · simp [PR.bef, Tbl.do_, hb]
          · rfl
        · simp [HP.stp, hb, HP.em, HP.one]
      have hb : badB p.x = false := by simpa using hb
      by_cases h9 : p.x.kind = 9
      · refine same (fun s _ => ?_) ?_
        · unfold PR.tb; split
          · simp only [PR.bef]
            unfold Tbl.do_
            rw [if_neg (by simp [hb, hcl]), if_neg (by omega), if_neg (by omega)]
            split
            · rfl
            rw [if_neg (by omega), if_neg (by omega)]
            try rw [if_pos h9]
          · rfl
        · simp [HP.stp, hb, HP.em, HP.one, h9]
      have one : p.one = false := by simp [HP.one, hb, h9]
      by_cases h8 : p.x.kind = 8
      · have hem : ∀ q : HP, q.x = p.x → q.em (W.ms i) W.H.c = W.ms i := fun q hq => by rw [HP.em_def, if_neg (by rw [hq]; simp [h8])]
        have hx : (p.stpP W.H n).1.x = p.x := by
          unfold HP.stpP; split
          · rfl
          split
          · rfl
          split <;> rfl
        have estp : p.stp (W.ms i) W.H n = ((p.stpP W.H n).1, W.ms i, (p.stpP W.H n).2) := by simp [HP.stp, hb, h8]
        refine same (fun s _ => ?_) (by rw [estp]; dsimp only; rw [hem _ hx, hem p rfl])
        unfold PR.tb; split
        · simp only [PR.bef]
          unfold Tbl.do_
          rw [if_neg (by simp [hb, hcl]), if_neg (by omega), if_pos h8]
          have hdw := drain_ws (M.fd s) p.who
          show (if s < M.n then (M.fd s).drain p.who else M.fd s).ws = _
          by_cases hsn : s < M.n
          · rw [if_pos hsn]; exact hdw
          · rw [if_neg hsn]
        · rfl
      -- a Watch or Unwatch
      have estp : p.stp (W.ms i) W.H n = p.stpW (W.ms i) W.H n := by simp [HP.stp, hb, h9, h8]
      rw [estp] at same hWi
      have hst : p.steps = 4 := (HP.kind_of hb h9 h8).2
      by_cases h1 : p.at_ = 1
      · have hpl : p.places = true := by simp [HP.places, one, h8, h1]
        have etb : (PR.h p).tb W.H M = (M.do_ p.who p.x).1 := by simp [PR.tb, PR.places, hen, hpl, PR.bef]
        have ma := x.ma ts hp (by omega)
        have hdo := (do_watch (i := i) (p := { p with t := W.H.t }) (m := W.ms i) (M := M) (c := W.H.c) ⟨hpa.2.w, hpa.2.i8, hpa.2.k6, hpa.2.s⟩ x.c ⟨ma.wt, ma.ct⟩ x.t.symm hb h9 h8).1
        dsimp only at hdo
        have e1 : p.stpW (W.ms i) W.H n = ({ p with at_ := 2, t := W.H.t, placed := n }, W.ms i, W.H.look p.who) := by simp [HP.stpW, h1]
        rw [e1] at hWi
        dsimp only at hWi
        rw [HP.em_def] at hWi
        dsimp only at hWi
        have hwr : ({ p with at_ := 2, t := W.H.t, placed := n } : HP).wres (W.ms i) W.H.c = ({ p with t := W.H.t } : HP).wres (W.ms i) W.H.c := rfl
        have ho : ({ p with at_ := 2, t := W.H.t, placed := n } : HP).one = false := one
        rw [hwr, ho] at hWi
        have hei : W.em i = W.ms i := by rw [he0, HP.em_def, if_neg (by omega)]
        rw [etb, hdo]
        by_cases hr : ({ p with t := W.H.t } : HP).wres (W.ms i) W.H.c = 0
        · rw [if_pos hr]
          rw [if_pos ⟨rfl, h8, rfl, hr⟩] at hWi
          refine WsI.put (p := { p with t := W.H.t }) x.ws ts hpa.2.i8 hpa.2.w (by rw [hpa.2.s, Tbl.stripe, x.c]) ?_ fun j hj => hWn j hj
          rw [hWi, hei]
        · rw [if_neg hr]
          rw [if_neg (fun h => hr h.2.2.2)] at hWi
          refine x.ws.same rfl rfl (fun _ _ => rfl) fun j hj => ?_
          by_cases h : j = i
          · subst h; rw [hWi, hei]
          · exact hWn j h
      have hpl : p.places = false := by simp [HP.places, one, h8, h1]
      have etn : (PR.h p).tb W.H M = M := by simp [PR.tb, PR.places, hpl]
      refine same (fun s _ => by rw [etn]) ?_
      rw [HP.em_def p]
      unfold HP.stpW
      by_cases h0 : p.at_ = 0
      · rw [if_pos h0, if_neg (by omega)]
        dsimp only
        rw [HP.em_def, if_neg (by dsimp only; omega)]
      rw [if_neg h0, if_neg h1]
      by_cases h2 : p.at_ = 2
      · rw [if_pos h2]
        by_cases hcl' : p.t.closed = true
        · have hr : p.wres (W.ms i) W.H.c = 5 := by simp [HP.wres, hcl']
          rw [if_pos hcl', if_neg (by omega)]
          dsimp only
          rw [HP.em_def, if_neg (by dsimp only; omega)]
        by_cases hcc : p.x.kind = 6 ∧ mhas (W.ms i) p.x.user = false ∧ W.H.c.watches ≤ ((W.ms i).length : Int)
        · have hr : p.wres (W.ms i) W.H.c = 4 := by simp [HP.wres, hcl', hcc.1, hcc.2.1, hcc.2.2]
          rw [if_neg hcl', if_pos hcc, if_neg (by omega)]
          dsimp only
          rw [HP.em_def, if_neg (by dsimp only; omega)]
        · have hr : p.wres (W.ms i) W.H.c = 0 := by unfold HP.wres; rw [if_neg hcl', if_neg hcc]
          rw [if_neg hcl', if_neg hcc, if_pos ⟨one, h8, h2, hr⟩]
          dsimp only
          rw [HP.em_def, if_neg (by dsimp only; omega)]
      · rw [if_neg h2, if_neg (by omega)]
        dsimp only
        rw [HP.em_def, if_neg (by dsimp only; omega)]
theorem PA.ow {n i : Nat} {c : Cfg} {p : PR} (g : PA n i c p) : p.owd := by
  cases p with
  | w p => exact g.1.o
  | r p => trivial
  | h p => exact g.1.o
theorem LI.step {W : Wd} {M : Tbl} {k j : Nat} (x : LI W M) (hs : HS k W.H) (hk : k < 100000) (ts : TS j M) {i : Nat} {p : PR} (hp : W.ps i = some p) (n : Int) :
    LI (W.step i n) (p.tb W.H M) ∧ HS (k + 1) (W.step i n).H ∧ TS (j + 1) (p.tb W.H M) := by
  have hpa := x.pa i p hp
  obtain ⟨n1, n2, n3, n4⟩ := pstep_n (m := W.ms i) hs n hk hpa
  have hH : (W.step i n).H = (p.step (W.ms i) W.H n).2.2 := by simp only [Wd.step, hp]
  have hP : ∀ j, (W.step i n).ps j = if j = i then some (p.step (W.ms i) W.H n).1 else W.ps j := fun j => by simp only [Wd.step, hp, bset]
  have hM : ∀ j, (W.step i n).ms j = if j = i then (p.step (W.ms i) W.H n).2.1 else W.ms j := fun j => by simp only [Wd.step, hp, bset]
  have tbn := tb_n x.n hpa
  have hc : (W.step i n).H.c = W.H.c := by rw [hH]; exact n2
  have hpa' : ∀ j q, (W.step i n).ps j = some q → PA W.H.n j W.H.c q := fun j q hq => by
    rw [hP] at hq
    split at hq
    · rename_i h; simp only [Option.some.injEq] at hq; subst hq; subst h; exact n4
    · exact x.pa j q hq
  refine ⟨?_, by rw [hH]; exact n3, ts.tb hpa.ow⟩
  cases hen : p.enabled W.H with
  | false =>
    have e := pstep_off (m := W.ms i) (n := n) hen
    have e1 : W.step i n = W := by
      simp only [Wd.step, hp, e]
      rw [← hp, bset_id, bset_id]
    have e2 : p.tb W.H M = M := by simp [PR.tb, hen]
    rw [e1, e2]; exact x
  | true =>
    have L := fun s hn => x.loc hs ts hp n hen (s := s) hn
    rw [← hH] at L
    refine ⟨by rw [hH]; exact tb_t x.t x.n hpa n, tbn.2.trans (x.c.trans hc.symm), tbn.1.trans (x.n.trans (by rw [hH]; exact n1.symm)), fun s hs' => ?_, fun j q s hs' hq hh => ?_, fun j q hq => ?_, x.ws_step ts hp n hc tbn⟩
    · have hsn : s < W.H.n := by rw [hH, n1] at hs'; exact hs'
      have Ls := L s hsn
      by_cases hh : p.holds s
      · have hwho := x.own i p s hsn hp hh
        have hd : Held p (W.ms i) W.H.c s (W.H.ss s) (M.st s) := by
          rcases x.st s hsn with h | ⟨j, q, h1, h2, h3, h4⟩
          · have := h.wh; omega
          · have : j = i := by omega
            subst this
            rw [hp] at h1; cases h1
            exact h4
        rcases Ls.a hh hwho hd with ⟨h1, h2, h3⟩ | ⟨h1, h2⟩
        · refine .inr ⟨i, _, by rw [hP, if_pos rfl], h1, h2, ?_⟩
          rw [hM, if_pos rfl, hc]; exact h3
        · exact .inl h2
      · rcases Ls.b hh with ⟨h1, h2, h3⟩ | ⟨h1, h2, h3, h4, h5, h6, h7⟩
        · rw [h1, h2]
          rcases x.st s hsn with h | ⟨j, q, g1, g2, g3, g4⟩
          · exact .inl h
          · have hji : j ≠ i := fun h => by
              subst h
              rw [hp] at g1; cases g1
              exact hh g2
            refine .inr ⟨j, q, by rw [hP, if_neg hji]; exact g1, g2, g3, ?_⟩
            rw [hM, if_neg hji, hc]; exact g4
        · rw [h2, h4]
          rcases x.st s hsn with h | ⟨j, q, g1, g2, g3, g4⟩
          · refine .inr ⟨i, _, by rw [hP, if_pos rfl], h3, rfl, ?_⟩
            rw [hM, if_pos rfl, hc]
            exact ⟨by rw [h7]; exact h.e, fun hh => absurd hh h5, fun _ => ⟨h.v, h.q⟩, fun hh => absurd hh h6⟩
          · omega
    · have hsn : s < W.H.n := by rw [hH, n1] at hs'; exact hs'
      have Ls := L s hsn
      rw [hP] at hq
      by_cases hji : j = i
      · subst hji
        rw [if_pos rfl] at hq
        simp only [Option.some.injEq] at hq
        subst hq
        by_cases hph : p.holds s
        · have hwho := x.own j p s hsn hp hph
          have hd : Held p (W.ms j) W.H.c s (W.H.ss s) (M.st s) := by
            rcases x.st s hsn with h | ⟨j', q, h1, h2, h3, h4⟩
            · have := h.wh; omega
            · have : j' = j := by omega
              subst this
              rw [hp] at h1; cases h1
              exact h4
          rcases Ls.a hph hwho hd with ⟨h1, h2, h3⟩ | ⟨h1, h2⟩
          · exact h2
          · exact absurd hh h1
        · rcases Ls.b hph with ⟨h1, h2, h3⟩ | ⟨h1, h2, h3, h4, h5, h6, h7⟩
          · exact absurd hh h3
          · rw [h4]
      · rw [if_neg hji] at hq
        have hwho := x.own j q s hsn hq hh
        have hph : ¬ p.holds s := fun h => by
          have := x.own i p s hsn hp h
          omega
        rcases Ls.b hph with ⟨h1, h2, h3⟩ | ⟨h1, h2, h3, h4, h5, h6, h7⟩
        · rw [h1]; exact hwho
        · omega
    · rw [hH, n1, n2]; exact hpa' j q hq
end Go.Den
namespace Go.Den
open Go
set_option linter.unusedVariables false
set_option linter.unusedSimpArgs false
/-- A writing's reply is what the table answered. -/
structure WO (p : WP) (H : Hall) (r : Reply) : Prop where
  b : p.k.isBad = true → p.at_ = 0 ∨ (p.at_ = 7 ∧ p.err = 1 ∧ r = repE 1)
  g : p.k.isBad = false → 3 ≤ p.at_ → r = repE (if p.at_ = 3 then p.k.er H.c p.t (H.ss p.s).book else p.err)
/-- What a Poll still has to be told. -/
def HP.rest (p : HP) (H : Hall) (j : Nat) : List (List Evt) := ((List.range p.k).drop j).map fun s => (H.ss s).feed.told p.who
def HP.restL (p : HP) (H : Hall) (j : Nat) : Bool := ((List.range p.k).drop j).any fun s => (H.ss s).feed.lost p.who
structure HO (p : HP) (m : Mine) (H : Hall) (r : Reply) : Prop where
  o : p.one = true → (p.at_ = 0 ∧ p.rep = rep0) ∨ (p.at_ = 1 ∧ p.rep = r)
  p0 : p.one = false → p.x.kind = 8 → p.rep.err = 0 ∧ p.rep.vals = [] ∧ (p.at_ ≤ p.k → p.all = [] ∧ p.rep.lost = false ∧ p.rep.evs = []) ∧
    (p.k < p.at_ → r = ⟨0, [], mergeE (p.all ++ p.rest H (p.at_ - p.k - 1)), p.rep.lost || p.restL H (p.at_ - p.k - 1)⟩) ∧ (2 * p.k + 1 < p.at_ → p.rep.evs = mergeE p.all)
  w : p.one = false → p.x.kind ≠ 8 → (p.at_ ≤ 2 → p.rep = rep0) ∧ (p.at_ = 2 → r = repE (p.wres m H.c)) ∧ (3 ≤ p.at_ → r = p.rep)
def PO : PR → Mine → Hall → Reply → Prop
  | .w p, _, H, r => WO p H r
  | .r _, _, _, _ => True
  | .h p, m, H, r => HO p m H r
theorem rest_congr {p q : HP} {H H' : Hall} (hk : q.k = p.k) (hw : q.who = p.who) {j : Nat} (h : ∀ s, j ≤ s → s < p.k → (H'.ss s).feed = (H.ss s).feed) : q.rest H' j = p.rest H j ∧ q.restL H' j = p.restL H j := by
  have key : ∀ s ∈ (List.range p.k).drop j, (H'.ss s).feed = (H.ss s).feed := fun s hs => by
    obtain ⟨i, hi, e⟩ := List.getElem_of_mem hs
    rw [List.getElem_drop, List.getElem_range] at e
    simp at hi
    exact h s (by omega) (by omega)
  unfold HP.rest HP.restL
  rw [hk, hw]
  constructor
  · exact List.map_congr_left fun s hs => by rw [key s hs]
  · rw [Bool.eq_iff_iff]
    simp only [List.any_eq_true]
    constructor
    · rintro ⟨s, h1, h2⟩; exact ⟨s, h1, by rw [← key s h1]; exact h2⟩
    · rintro ⟨s, h1, h2⟩; exact ⟨s, h1, by rw [key s h1]; exact h2⟩
/-- Others' steps leave it. -/
theorem PO.frame {i n : Nat} {p : PR} {m : Mine} {H H' : Hall} {r : Reply} (x : PO p m H r) (g : PA n i H.c p) (hc : H'.c = H.c) (h : ∀ s, p.holds s → s < n → H'.ss s = H.ss s) : PO p m H' r := by
  cases p with
  | w p =>
    refine ⟨x.b, fun h1 h2 => ?_⟩
    rw [x.g h1 h2, hc]
    by_cases h3 : p.at_ = 3
    · rw [if_pos h3, if_pos h3, h p.s ⟨h1, by omega, by omega, rfl⟩ g.1.s]
    · rw [if_neg h3, if_neg h3]
  | r p => trivial
  | h p =>
    refine ⟨x.o, fun h1 h8 => ?_, fun h1 h8 => by rw [hc]; exact x.w h1 h8⟩
    obtain ⟨a1, a2, a3, a4, a5⟩ := x.p0 h1 h8
    refine ⟨a1, a2, a3, fun hk => ?_, a5⟩
    rw [a4 hk]
    have := rest_congr (p := p) (q := p) (H := H) (H' := H') rfl rfl (j := p.at_ - p.k - 1) fun s hs1 hs2 => by
      rw [h s]
      · unfold PR.holds HP.holds
        dsimp only
        rw [if_pos h8]
        exact ⟨h1, by have := g.1.a; have := (HP.poll_of (p := p) (by simp [HP.one] at h1; exact h1.1) h8).2; omega, hs2, by omega⟩
      · have := g.1.k; omega
    rw [this.1, this.2]
end Go.Den
namespace Go.Den
open Go
set_option linter.unusedVariables false
set_option linter.unusedSimpArgs false
/-- From a stripe to what it is behind a step of somebody else: while its epoch stays even and below its bound, what was published stays. -/
structure Vm (x x' : Strp) : Prop where
  b : x'.bound = x.bound
  v : x.v ≤ x'.v
  q : x'.v = x.v → wrt x.v = false → x.v < x.bound → x'.snap = x.snap
theorem Vm.refl (x : Strp) : Vm x x := ⟨rfl, Int.le_refl _, fun _ _ _ => rfl⟩
theorem Vm.put {H : Hall} {s : Nat} {y : Strp} (h : Vm (H.ss s) y) (H' : Hall) (e : H'.ss = H.ss) (t : Nat) : Vm (H.ss t) ((H'.put s y).ss t) := by
  simp only [Hall.put, sput, e]
  by_cases hh : t = s
  · subst hh; rw [if_pos rfl]; exact h
  · rw [if_neg hh]; exact Vm.refl _
theorem Vm.lock (H : Hall) (w : Int) (s t : Nat) : Vm (H.ss t) ((H.lock w s).ss t) := by
  unfold Hall.lock; split
  · refine Vm.put ?_ _ rfl t
    exact ⟨rfl, Int.le_refl _, fun _ _ _ => rfl⟩
  · exact Vm.refl _
theorem Vm.unlock (H : Hall) (w : Int) (s t : Nat) : Vm (H.ss t) ((H.unlock w s).ss t) := by
  unfold Hall.unlock; split
  · refine Vm.put ?_ _ rfl t
    exact ⟨rfl, Int.le_refl _, fun _ _ _ => rfl⟩
  · exact Vm.refl _
theorem Vm.fed (H : Hall) (w : Int) (s : Nat) (f : Feed) (t : Nat) : Vm (H.ss t) ((H.fed w s f).ss t) := by
  refine Vm.put ?_ _ rfl t
  exact ⟨rfl, Int.le_refl _, fun _ _ _ => rfl⟩
theorem Vm.run (k : WK) (H : Hall) (w : Int) (s : Nat) (t : Tm) (s' : Nat) : Vm (H.ss s') ((k.run H w s t).1.ss s') := by
  obtain ⟨h1, h2, h3, h4, h5⟩ := run_ss k H w s t s'
  exact ⟨h3, by rw [h2]; exact Int.le_refl _, fun _ _ _ => h4⟩
def clean (H : Hall) (s : Nat) (e : Int) : Prop := (H.ss s).v = e ∧ wrt e = false ∧ e < (H.ss s).bound
structure RO (p : RP) (H : Hall) (x : OpD) (L : Tbl) (tn : Int) : Prop where
  us : p.users = if badB x then [] else usersOf x
  of : p.of = H.c.stripes
  ss : p.ss = stripesOf p.users p.of
  lc : L.c = H.c
  e : ∀ j (hj : j < p.ss.length), ((p.ph = 0 ∧ j < p.at_) ∨ (1 ≤ p.ph ∧ p.ph ≤ 3)) → p.ep j ≤ (H.ss p.ss[j]).v ∧
    (clean H p.ss[j] (p.ep j) → (((p.ph = 1 ∧ j < p.at_) ∨ p.ph = 2) → p.seen p.ss[j] = some (H.ss p.ss[j]).snap) ∧ (p.ph = 3 → p.seen p.ss[j] = some (L.bk p.ss[j])))
  t3 : p.ph = 3 → p.t = L.t ∧ p.looked = tn
  va : p.ph = 3 → p.valid = true → ∀ j (hj : j < p.ss.length), j < p.at_ → p.seen p.ss[j] = some (L.bk p.ss[j])
  k6 : p.ph = 6 → (p.t = L.t ∧ p.looked = tn) ∧ (∀ s ∈ p.ss, (H.ss s).book = L.bk s) ∧ ∀ j (hj : j < p.ss.length), j < p.at_ → p.seen p.ss[j] = some (L.bk p.ss[j])
  k7 : p.ph = 7 → (p.t = L.t ∧ p.looked = tn) ∧ ∀ s ∈ p.ss, p.seen s = some (L.bk s)
  f8 : p.ph = 8 → p.placed = tn ∧ (p.ss = [] → p.err = 1 ∧ p.vals = []) ∧ (p.ss ≠ [] → (L.t.closed = true → p.err = 5 ∧ p.vals = []) ∧ (L.t.closed = false → p.err = 0 ∧ p.vals = p.users.map L.pres))
  n8 : p.ph ≠ 8 → p.err = 0 ∧ p.vals = []
  a0 : p.ph = 2 ∨ p.ph = 5 → p.at_ = 0
/-- Others' steps leave it. -/
theorem RO.frame {p : RP} {n : Nat} {H H' : Hall} {x : OpD} {L : Tbl} {tn : Int} (r : RO p H x L tn) (rk : RK n p) (hc : H'.c = H.c) (hv : ∀ s, s < n → Vm (H.ss s) (H'.ss s)) (hh : ∀ s, p.holds s → s < n → H'.ss s = H.ss s) : RO p H' x L tn := by
  refine ⟨r.us, by rw [hc]; exact r.of, r.ss, by rw [hc]; exact r.lc, fun j hj hph => ?_, r.t3, r.va, fun h6 => ?_, r.k7, r.f8, r.n8, r.a0⟩
  · obtain ⟨e1, e2⟩ := r.e j hj hph
    have hsn : p.ss[j] < n := rk.ss _ (List.getElem_mem _)
    have v := hv _ hsn
    have hle := v.v
    refine ⟨by omega, fun hcl => ?_⟩
    obtain ⟨c1, c2, c3⟩ := hcl
    have hve : (H.ss p.ss[j]).v = p.ep j := by omega
    have hb := v.b
    have hcl' : clean H p.ss[j] (p.ep j) := ⟨hve, c2, by omega⟩
    obtain ⟨f1, f2⟩ := e2 hcl'
    have hsn := v.q (by omega) (by rw [hve]; exact c2) (by omega)
    exact ⟨fun h => by rw [hsn]; exact f1 h, f2⟩
  · obtain ⟨a, b, c⟩ := r.k6 h6
    exact ⟨a, fun s hs => by rw [hh s (.inr (.inl ⟨.inr h6, hs⟩)) (rk.ss s hs)]; exact b s hs, c⟩
end Go.Den
namespace Go.Proofs.YtcnphhhcknhhaaaGreat
open Go Go.Den Go.MapKept
set_option linter.unusedSimpArgs false
set_option linter.unusedVariables false
set_option maxRecDepth 20000
@[simp] theorem cells_nilF : Value.cells .nilFunc = #[.nilFunc] := rfl
theorem bdWP (who s : Int) (f : FuncId) (a b : Array Value) : bdV (binf P ty_write_Proc) [(0, .int .i64 who), (1, .int .i64 s), (2, .func (.func f) a b), (5, .int .i64 (-1))] = some (.agg #[.int .i64 who, .int .i64 s, .func (.func f) a b, .int .i64 0, .int .u64 0, .int .u64 0, .bool false, .int .i64 (-1), .int .i64 0, .slice none 0 0, .slice none 0 0, .bool false]) := by kernel_rfl
theorem section_ok (who : Int) (s : Nat) (k : WK) (f : FuncId) (a b : Array Value) {h : Heap} {K : Value → Heap → Prop} (hk : ∀ q h', h q = none → Ext h h' → h' q = some (.cells (wpC (sect who s k) (.func (.func f) a b)).toArray ty_write_Proc (0, 0)) → K (ptr q) h') : callM P fn_write_Section #[.int .i64 who, .int .i64 s, .func (.func f) a b] h K := by
  apply e_write_Section
  unfold d_write_Section
  simp -implicitDefEqProofs only [bdWP, ov_s]
  exact nw_intro fun q h' n e c => hk q h' n e c
def wp0 (H : Hall) (who : Int) (x : OpD) : WP := sect who (stripeOf x.user H.c.stripes).toNat (if badB x then .bad else .op x)
theorem wnew_ok (who : Int) (x : OpD) (xw : OpW x) {T : Tags} {h : Heap} {g gh : Tag} {hp : Nat} {H : Hall} (w : Wf T h) (gg : Gd g) (y : HallR T h gh hp H) {v : Value} (hv : Sl 1 StrR (fz T h) v x.users) (hl : x.users.length < 1000000) (c8 : 1 ≤ H.c.stripes ∧ H.c.stripes ≤ 8) {K : Value → Heap → Prop}
    (hk : ∀ T' h' q, Only non T h T' h' → h q = none → WPR T' h' g q (wp0 H who x) → K (ptr q) h') : callM P fn_write_New #[ptr hp, .int .i64 who, .agg (opC x v).toArray] h K := by
  apply e_write_New
  unfold d_write_New
  have hone := hv.one
  refine nw_intro fun v1 h1 n1 e1 c1 => ?_
  refine nw_agg fun v3 h3 n3 e3 c3 => ?_
  have o1 : Only non T h T h3 := Only.of_ext w (e1.trans e3)
  have c1 := e3 _ _ c1
  have c3' := c3
  simp -implicitDefEqProofs only [opC] at c3
  simp -implicitDefEqProofs [ld_at c3, cel_of c3, stm_at c3, stm_upd, ld_same, cel_same, over]
  refine hstripe_ok x.user xw.s1 (y.up o1 (Off.non _) (not_non _)) c8.2 ?_
  unfold d_write_New_1
  rw [zcInt]
  refine nw_st rfl rfl (by simp) fun v9 h9 n9 e9 c9 => ?_
  have c1 := e9 _ _ c1
  have c3 := e9 _ _ c3
  have c3' := e9 _ _ c3'
  obtain ⟨s, hs⟩ : ∃ s, (stripeOf x.user H.c.stripes).toNat = s := ⟨_, rfl⟩
  have hsi : stripeOf x.user H.c.stripes = (s : Int) := by have := stripeOf_lt (u := x.user) (n := H.c.stripes) c8.1; omega
  rw [hsi] at c9
  simp -implicitDefEqProofs only [cells_i] at c1 c9
  simp -implicitDefEqProofs [ld_at c1, cel_of c1, stm_at c1, ld_at c9, cel_of c9, stm_at c9, stm_upd, ld_same, cel_same, over, hsi]
  refine section_ok who s (.op x) fn_write_New_c1 _ _ fun q h4 n4 e4 c4 => ?_
  have c1 := e4 _ _ c1
  have c3 := e4 _ _ c3
  have c3' := e4 _ _ c3'
  have c9' := e4 _ _ c9
  have e04 := ((e1.trans e3).trans e9).trans e4
  have nq : h q = none := fresh_of ((e1.trans e3).trans e9) n4
  have oa : ldV (some (some 7)) (ptr v3) h4 = some (.agg (opC x v).toArray) := by simp [ld_at c3', opC]
  have ne1 : v1 ≠ q := ne_fresh (e9 _ _ (e3 _ _ ‹_›)) n4
  have ne3 : v3 ≠ q := ne_fresh (e9 _ _ ‹_›) n4
  have ne9 : v9 ≠ q := ne_fresh c9 n4
  unfold d_write_New_2
  rw [seqM_eq]
  unfold d_write_New_3
  simp -implicitDefEqProofs only [oa, ov_s]
  refine modBad_ok x xw (hv.ext (@StrR.ext) ((fz_ext T h).trans e04)) hl fun h5 e5 => ?_
  unfold d_write_New_4
  have c4 := e5 _ _ c4
  have cb1 := e5 _ _ c1
  have cb3 := e5 _ _ c3'
  have cb9 := e5 _ _ c9'
  have e05 := e04.trans e5
  have on : Only non T h (tset T q (g ++ [0])) h5 := Only.enew _ w e05 nq c4
  have hz : ∀ b, b ≠ q → h b = none → ∀ o, h5 b = some o → fz (tset T q (g ++ [0])) h5 b = some o := fun b hb hn o ho => fz_at ho (by rw [tset_ne hb]; exact w b hn)
  have n3' : h v3 = none := fresh_of e1 n3
  have n9' : h v9 = none := fresh_of (e1.trans e3) n9
  unfold wp0 at hk
  rw [hs] at hk
  cases hb : badB x with
  | false =>
    rw [hb] at hk
    simp -implicitDefEqProofs only [Bool.false_eq_true, if_false] at hk
    unfold d_write_New_6
    simp -implicitDefEqProofs
    exact hk _ h5 q on nq ⟨_, c4, tset_same _ _ _, v1, v9, v3, v, rfl, hz _ ne1 n1 _ cb1, hz _ ne9 n9' _ cb9, hz _ ne3 n3' _ cb3, hone⟩
  | true =>
    rw [hb] at hk
    simp -implicitDefEqProofs only [if_true] at hk
    unfold d_write_New_5
    simp -implicitDefEqProofs only [wpC, sect] at c4
    simp -implicitDefEqProofs [ld_at c4, cel_of c4, stm_at c4, stm_upd, ld_same, cel_same, over]
    rw [stm_at (n := 1) (v := .nilFunc) c4 rfl (by simp) rfl]
    refine hk _ _ q (on.own nq c4) nq ⟨.nilFunc, ?_, tset_same _ _ _, rfl⟩
    rw [upd_same']; simp [wpC, sect, over]
end Go.Proofs.YtcnphhhcknhhaaaGreat
namespace Go.Proofs.YtcnphhhcknhhaaaGreat
open Go Go.Den Go.MapKept
set_option linter.unusedSimpArgs false
set_option linter.unusedVariables false
set_option maxRecDepth 20000
def swC (st ro : Nat) (v : Value) : List Value := [.int .i64 st, .int .i64 ro, v]
structure SwX (T : Tags) (h : Heap) (g : Tag) (q : Nat) (p : SwP) (np : Nat) : Prop where
  hp : h q = some (.cells (swC p.stripe p.rounds (ptr np)).toArray ty_sweep_Proc (0, 0))
  tp : T q = g ++ [0]
  nw : WPR T h (g ++ [1]) np p.now
def SwR (T : Tags) (h : Heap) (g : Tag) (q : Nat) (p : SwP) : Prop := ∃ np, SwX T h g q p np
theorem SwX.kp {U : Tag → Prop} {T T' : Tags} {h h' : Heap} {g : Tag} {q : Nat} {p : SwP} {np : Nat} (x : SwX T h g q p np) (k : Kp U T h T' h') (o : Off U g) (n : ¬ U []) : SwX T' h' g q p np :=
  ⟨(k.at x.hp x.tp (o.at _)).1, (k.at x.hp x.tp (o.at _)).2, x.nw.kp k (o.app _) n⟩
theorem SwR.kp {U : Tag → Prop} {T T' : Tags} {h h' : Heap} {g : Tag} {q : Nat} {p : SwP} (x : SwR T h g q p) (k : Kp U T h T' h') (o : Off U g) (n : ¬ U []) : SwR T' h' g q p := by
  obtain ⟨np, x⟩ := x
  exact ⟨np, x.kp k o n⟩
section
variable {T : Tags} {h : Heap} {g gh : Tag} {q hp : Nat} {p : SwP} {H : Hall} {K : Value → Heap → Prop}
end
end Go.Proofs.YtcnphhhcknhhaaaGreat
namespace Go.Den
open Go
set_option linter.unusedVariables false
def wo (h : Heap) (l : List Nat) : Heap := fun q => if q ∈ l then none else h q
theorem wo_out {h : Heap} {l : List Nat} {q : Nat} (hq : q ∉ l) : wo h l q = h q := if_neg hq
theorem wo_ext {F h : Heap} {l : List Nat} (e : Ext F h) (hl : ∀ q ∈ l, F q = none) : Ext F (wo h l) := fun b o hb => by
  rw [wo_out (fun hm => by rw [hl b hm] at hb; cases hb)]; exact e b o hb
theorem wo_get {h : Heap} {l : List Nat} {q : Nat} {o : Obj} (e : wo h l q = some o) : q ∉ l ∧ h q = some o := by
  unfold wo at e
  split at e
  · cases e
  · rename_i hq; exact ⟨hq, e⟩
theorem wo_keep {h h' h'' : Heap} {l : List Nat} {b : Nat} (e : Ext (wo h l) h') (hb : h b = none) (k : Keep (some b) h' h'') : Ext (wo h l) h'' := fun q o hq => by
  refine k q o (e q o hq) fun hh => ?_
  cases hh
  rw [(wo_get hq).2] at hb; cases hb
/-- Writes to the blocks that are left out. -/
theorem wo_upd {h h' : Heap} {l : List Nat} {b : Nat} {o : Obj} (e : Ext (wo h l) h') (hb : b ∈ l) : Ext (wo h l) (upd h' b o) := fun q x hq => by
  rw [upd_ne (fun hh => (wo_get hq).1 (by rw [hh]; exact hb))]; exact e q x hq
theorem ext_wo {h0 h h' : Heap} {l : List Nat} (e0 : Ext h0 h) (hl : ∀ q ∈ l, h0 q = none) (e : Ext (wo h l) h') : Ext h0 h' := (wo_ext e0 hl).trans e
def stoTo (b : Book) (i : Nat) : Nat := storedB (b.take i)
theorem stoTo_s {b : Book} {i : Nat} (hi : i < b.length) : stoTo b (i + 1) = stoTo b i + b[i].2.ss.length := by
  unfold stoTo storedB
  rw [List.take_succ_eq_append_getElem hi, List.map_append, List.sum_append_nat, List.map_cons, List.map_nil, List.sum_cons, List.sum_nil, Nat.add_zero]
theorem stored_le {m k : Nat} {b : Book} (h1 : b.length ≤ m) (h2 : ∀ y ∈ b, y.2.ss.length ≤ k) : storedB b ≤ m * k := by
  unfold storedB
  have : ∀ (l : Book), (∀ y ∈ l, y.2.ss.length ≤ k) → (l.map fun x => x.2.ss.length).sum ≤ l.length * k := by
    intro l hl
    induction l with
    | nil => simp
    | cons a l ih =>
      have h3 := hl a (by simp)
      have h4 := ih fun y hy => hl y (by simp [hy])
      simp only [List.map_cons, List.sum_cons, List.length_cons, Nat.add_mul]; omega
  exact Nat.le_trans (this b h2) (Nat.mul_le_mul_right _ h1)
theorem stoTo_le {b : Book} (i : Nat) : stoTo b i ≤ storedB b := by
  unfold stoTo storedB
  have : (b.map fun x => x.2.ss.length).sum = ((b.take i).map fun x => x.2.ss.length).sum + ((b.drop i).map fun x => x.2.ss.length).sum := by
    rw [← List.sum_append_nat, ← List.map_append, List.take_append_drop]
  omega
def stoH (H : Hall) (i : Nat) : Nat := ((List.range i).map fun s => storedB (H.ss s).book).sum
theorem stoH_s (H : Hall) (i : Nat) : stoH H (i + 1) = stoH H i + storedB (H.ss i).book := by
  unfold stoH
  rw [List.range_succ, List.map_append, List.sum_append_nat, List.map_cons, List.map_nil, List.sum_cons, List.sum_nil, Nat.add_zero]
theorem stoH_all (H : Hall) : stoH H H.n = H.stored := rfl
theorem stoH_le {m : Nat} {H : Hall} (x : HS m H) : ∀ i, i ≤ H.n → stoH H i ≤ i * (m * m)
  | 0, _ => by simp [stoH]
  | i + 1, hi => by
    have ih := stoH_le x i (by omega)
    have b := (x.st i (by omega)).bk
    have := stored_le b.bl b.bn
    rw [stoH_s, Nat.add_mul]; omega
end Go.Den
namespace Go.Proofs.YtcnphhhcknhhaaaGreat
open Go Go.Den Go.MapKept
set_option linter.unusedSimpArgs false
set_option linter.unusedVariables false
set_option maxRecDepth 20000
/-- An entry of a book that is gone through. -/
theorem allX_at {b : Book} {Lv : List (List Value)} {F : Heap} (l2 : El 4 EntR F Lv (b.map (·.2))) {i : Nat} (hi : i < (allX b Lv).length) : ∃ (hb : i < b.length) (v : Value), (allX b Lv)[i] = #[.string b[i].1, .agg (v :: presC b[i].2.told).toArray] ∧ Sl 4 SessR F v b[i].2.ss ∧ Sn v := by
  have hb : i < b.length := by simpa [allX] using hi
  have hL : i < Lv.length := by rw [l2.len]; simpa using hb
  have he := l2.el i hL (by simpa using hb)
  obtain ⟨v, h1, h2, h3⟩ := he
  simp -implicitDefEqProofs only [List.getElem_map] at h1 h2
  refine ⟨hb, v, ?_, h2, h3⟩
  simp -implicitDefEqProofs only [allX, List.getElem_map, List.getElem_range]
  have e1 : b.getD i (⟨#[]⟩, ent0) = b[i] := by rw [List.getD_eq_getElem?_getD, List.getElem?_eq_getElem hb]; rfl
  have e2 : Lv.getD i [] = Lv[i] := by rw [List.getD_eq_getElem?_getD, List.getElem?_eq_getElem hL]; rfl
  rw [e1, e2, h1]
def StoJ (hB : Heap) (v3 : Nat) (b : Book) (i : Nat) (h' : Heap) : Prop := Ext (wo hB [v3]) h' ∧ h' v3 = some (.cells #[.int .i64 (stoTo b i)] ty_int (0, 0))
def StoC (hB F : Heap) (v3 : Nat) (b : Book) (l i : Nat) (s2 : Env) (h' : Heap) : Prop := StoJ hB v3 b i h' ∧ s2 3 = ptr v3 ∧ ∃ (hi : i < b.length) (xb : Nat) (sv : Value), s2 5 = ptr xb ∧ xb ≠ l ∧ h' xb = some (.cells (sv :: presC b[i].2.told).toArray ty_book_Entry (0, 0)) ∧ Sl 4 SessR F sv b[i].2.ss
theorem stored_ok (b : Book) (hl : b.length ≤ 100000) (hn : ∀ y ∈ b, y.2.ss.length ≤ 900000) {F h : Heap} (eF : Ext F h) {kw vw : Value} (x : BookR F kw vw b) {K : Value → Heap → Prop} (hk : ∀ h', Ext h h' → K (.int .i64 (storedB b)) h') : callM P fn_book_Stored #[.agg #[kw, vw]] h K := by
  apply e_book_Stored
  unfold d_book_Stored
  refine nw_agg fun v1 h1 n1 e1 c1 => ?_
  rw [zcInt]
  refine nw_intro fun v3 h3 n3 e3 c3 => ?_
  have c1 := e3 _ _ c1
  have e0 := e1.trans e3
  have n3' : h v3 = none := fresh_of e1 n3
  have o1 := x.1.one
  have o2 := x.2.1.one
  have ec3 : upd h3 v3 (.cells #[.int .i64 0] ty_int (0, 0)) = h3 := (upd_of (fun _ _ => rfl) c3).symm
  simp -implicitDefEqProofs [ld_at c3, cel_of c3, stm_at c3, stm_upd, ld_same, cel_same, over]
  rw [ec3, seqM_eq]
  unfold d_book_Stored_1
  simp -implicitDefEqProofs [ld_at c1, cel_of c1, stm_at c1, stm_upd, ld_same, cel_same, over]
  refine all_ok b (eF.trans e0) x fun pA hB nA eA cA => ?_
  have nA3 : v3 ≠ pA := ne_fresh c3 nA
  have c3 := eA _ _ c3
  have e0B := e0.trans eA
  obtain ⟨Lv, l1, l2⟩ := x.2.1.els EntR.one
  simp -implicitDefEqProofs only [List.length_map] at l1
  have hF3 : F v3 = none := by
    cases hh : F v3 with
    | none => rfl
    | some o => rw [eF _ _ hh] at n3'; cases n3'
  have F1 : Ext F (wo hB [v3]) := wo_ext (eF.trans e0B) (by simpa using hF3)
  have hsb : stoTo b b.length = storedB b := by simp [stoTo]
  have hbound : storedB b ≤ 90000000000 := Nat.le_trans (stored_le hl hn) (by decide)
  unfold d_book_Stored_2
  refine rf_go good mixed rfl (by kernel_rfl) (all_it b (hA := wo hB [v3]) (p := pA) (kw := kw) (vw := vw) (Lv := Lv) (by rw [wo_out (by simpa using Ne.symm nA3)]; exact cA) (x.ext F1) (l1.ext F1) l2.size (by simpa using l2.len))
    (fun l b' i h' => StoJ hB v3 b i h') (fun _ _ _ _ => False) (fun l b' i s2 h' => StoC hB F v3 b l i s2 h') ?_ ?_ ?_ (fun _ _ _ _ _ _ _ h _ => h) ?_ ?_ ?_ ?_ ?_ (fun _ _ _ _ _ _ _ h => h.elim) (fun _ _ _ _ _ _ _ _ h => h.elim)
  · intro l b' hl' hb'
    exact ⟨fun q o hq => (wo_get hq).2, by simpa [stoTo, storedB] using c3⟩
  · intro l b' i h' J; exact J.1
  · intro l b' hl' hb' i h' h'' J k
    exact ⟨wo_keep J.1 hl' k, k _ _ J.2 (fun hh => by cases hh; rw [hl'] at c3; cases c3)⟩
  · rintro l b' i s2 ha hb hl' hb' ⟨J, s3, hi, xb, sv, s5, nx, cx, sx⟩ k
    exact ⟨⟨wo_keep J.1 hl' k, k _ _ J.2 (fun hh => by cases hh; rw [hl'] at c3; cases c3)⟩, s3, hi, xb, sv, s5, nx, k _ _ cx (fun hh => nx (by cases hh; rfl)), sx⟩
  · intro i hi; simp [allX]
  · rintro i hi l b' h2 hl' hb' ⟨ol, hol⟩ ⟨ob, hob⟩ J
    rw [ea_book_Stored_0]
    unfold da_book_Stored_0
    rw [zcEnt]
    obtain ⟨hib, sv, hx, hsv, hsn⟩ := allX_at l2 hi
    rw [hx]
    have hso := hsv.one
    simp -implicitDefEqProofs
    refine nw_st rfl (by simp [presC]) (by simp [presC, hso.1]) fun xb h4 n4 e4 c4 => ?_
    refine ⟨⟨⟨J.1.trans e4, e4 _ _ J.2⟩, by simp, hib, xb, sv, by simp, fun hh => (by subst hh; rw [hol] at n4; cases n4), ?_, hsv⟩, by rw [hol, e4 _ _ hol], by rw [hob, e4 _ _ hob]⟩
    simpa using c4
  · rintro i hi l b' s2 h3 hl' hb' ⟨ol, hol⟩ ⟨ob, hob⟩ ⟨J, s3, hib, xb, sv, s5, nx, cx, sx⟩
    rw [eb_book_Stored_0]
    unfold db_book_Stored_0
    have cv := J.2
    have hlen := sx.len
    simp -implicitDefEqProofs only [presC] at cx
    have hw : IntKind.i64.wrap ((stoTo b i : Int) + b[i].2.ss.length) = (stoTo b (i + 1) : Nat) := by
      have h1 := stoTo_le (b := b) (i + 1)
      rw [stoTo_s hib] at h1 ⊢
      rw [wrap64_id (by omega) (by omega)]; omega
    have hl3 : l ≠ v3 := fun hh => by subst hh; rw [hl'] at c3; cases c3
    have hb3 : b' ≠ v3 := fun hh => by subst hh; rw [hb'] at c3; cases c3
    simp -implicitDefEqProofs [s3, s5, ld_at cv, cel_of cv, stm_at cv, ld_at cx, cel_of cx, stm_at cx, stm_upd, ld_same, cel_same, over, hlen, hw]
    refine ⟨by rw [upd_ne hl3], by rw [upd_ne hb3], wo_upd J.1 (by simp), upd_same' _ _ _⟩
  · intro l b' h' hl' hlb hb' hd J
    have hlx : (allX b Lv).length = b.length := by simp [allX]
    rw [hlx] at J
    have cv := J.2
    rw [hsb] at cv
    have nb3 : v3 ≠ b' := fun hh => by subst hh; rw [hb'] at c3; cases c3
    simp -implicitDefEqProofs only [blkM_n, thenM_n]
    simp -implicitDefEqProofs [ld_at cv, cel_of cv, stm_at cv, stm_upd, ld_same, cel_same, over, hd, ld_skip nb3, cel_skip nb3]
    refine hk _ ?_
    exact ext_upd (o := .deferred none) (fresh_of e0B hb') (ext_wo e0B (by simpa using n3') J.1)
theorem zcStripe : zc P ty_hall_stripe = some #[.int .i64 0, .int .u64 0, .int .u64 0, .slice none 0 0, .slice none 0 0, .slice none 0 0, .slice none 0 0, .pointer none] := by kernel_rfl
theorem hstored_ok {T : Tags} {h : Heap} {g : Tag} {p m : Nat} {H : Hall} (w : Wf T h) (x : HallR T h g p H) (hs : HS m H) (hm : m ≤ 100000) {K : Value → Heap → Prop} (hk : ∀ h', Ext h h' → K (.int .i64 H.stored) h') : callM P fn_hall_Hall_Stored #[ptr p] h K := by
  apply e_hall_Hall_Stored
  unfold d_hall_Hall_Stored
  rw [seqM_eq]
  unfold d_hall_Hall_Stored_1
  obtain ⟨sv, av, Y, x⟩ := x
  have cp := x.hp
  simp -implicitDefEqProofs only [hallC] at cp
  have hlen := x.st.len
  have h8 := hs.n8.2
  have hmm : m * m ≤ 10000000000 := Nat.le_trans (Nat.mul_le_mul hm hm) (by decide)
  have hst : ∀ i, i ≤ H.n → stoH H i ≤ 80000000000 := fun i hi => Nat.le_trans (stoH_le hs i hi) (Nat.le_trans (Nat.mul_le_mul (Nat.le_trans hi h8) hmm) (by decide))
  simp -implicitDefEqProofs [ld_at cp, cel_of cp, stm_at cp, stm_upd, ld_same, cel_same, over, hlen]
  refine loop_on [9, 10] (fun s h' => Ext h h' ∧ ∃ i : Nat, i ≤ H.n ∧ s 11 = .int .i64 i ∧ s 3 = .int .i64 (stoH H i)) (fun s _ => (H.n - num (s 11)).toNat) ⟨Ext.refl h, 0, by omega, rfl, rfl⟩ ?_
  rintro s h1 hf ⟨e1, i, hi, s11, s3⟩
  have s9 : s 9 = sv := by simpa using hf 9 (by simp)
  have s10 : s 10 = .int .i64 H.n := by simpa using hf 10 (by simp)
  unfold d_hall_Hall_Stored_2
  simp -implicitDefEqProofs only [s11, s10, bin_lss, ov_s, cd_b]
  refine ⟨fun hc => ?_, fun hc => ?_⟩
  rotate_left
  · have : i = H.n := by have : ¬ ((i : Int) < H.n) := by simpa using hc
                         omega
    subst this
    simp -implicitDefEqProofs [s3, stoH_all]
    exact hk _ e1
  have hlt : i < H.n := by have : ((i : Int) < H.n) := by simpa using hc
                           omega
  have hw : IntKind.i64.wrap ((i : Int) + 1) = (i + 1 : Nat) := by rw [wrap64_id (by omega) (by omega)]; omega
  have hw2 : IntKind.i64.wrap ((stoH H i : Int) + storedB (H.ss i).book) = (stoH H (i + 1) : Nat) := by
    have h1 := hst (i + 1) (by omega)
    rw [stoH_s] at h1 ⊢
    rw [wrap64_id (by omega) (by omega)]; omega
  have o1 : Only non T h T h1 := Only.of_ext w e1
  have x1 := x.own o1.k
  obtain ⟨b, ob, rb, hb1, tb, ia, l1, l2, l3, l4, l5, l6⟩ := x1.lds (s := i) (k := .i64) hlt
  have hsr := x1.sr i hlt
  have st := hs.st i hlt
  have u1 := hsr.1.1.one
  have u2 := hsr.1.2.1.one
  have u3 := hsr.2.1.1.one
  have u4 := hsr.2.1.2.1.one
  unfold d_hall_Hall_Stored_3
  rw [s9, s11, ia, zcStripe]
  simp -implicitDefEqProofs only [strC] at l6
  simp -implicitDefEqProofs only [ov_s, l6]
  refine nw_st (by simp) (by simp) (by simp [u1.1, u2.1, u3.1, u4.1]) fun yb h2 n2 e2 c2 => ?_
  simp -implicitDefEqProofs only [cells_agg] at c2
  simp -implicitDefEqProofs [ld_at c2, cel_of c2, stm_at c2, stm_upd, ld_same, cel_same, over]
  refine stored_ok _ (by have := st.bk.bl; omega) (fun y hy => by have := st.bk.bn y hy; omega) ((fz_ext T h1).trans e2) hsr.2.1 fun h3 e3 => ?_
  unfold d_hall_Hall_Stored_4
  simp -implicitDefEqProofs [s3, s9, s10, s11, hw, hw2, -Int.natCast_add]
  exact ⟨⟨(e1.trans e2).trans e3, i + 1, by omega, rfl, rfl⟩, by omega⟩
end Go.Proofs.YtcnphhhcknhhaaaGreat
namespace Go.Proofs.YtcnphhhcknhhaaaGreat
open Go Go.Den Go.MapKept
set_option linter.unusedSimpArgs false
set_option linter.unusedVariables false
set_option maxRecDepth 20000
def small : Cfg := ⟨3, 2, 16, 4, 1, 100, 0⟩
theorem bdSmall : bdV (binf P ty_api_Config) [(0, .int .i64 3), (1, .int .i64 2), (2, .int .i64 16), (3, .int .i64 4), (4, .int .i64 1), (5, .int .u64 100)] = some (.agg (cfgC small).toArray) := by kernel_rfl
theorem smallW : CfgW small := by constructor <;> simp [small, I64, U64]
theorem small_ok {h : Heap} {K : Value → Heap → Prop} (hk : ∀ h', Ext h h' → K (.agg (cfgC small).toArray) h') : callM P fn_doormanlaw10_Small #[] h K := by
  apply e_doormanlaw10_Small
  unfold d_doormanlaw10_Small
  rw [zcCfg, bdSmall]
  simp -implicitDefEqProofs only [nwM_s]
  intro v1 n1
  simp -implicitDefEqProofs [stm_upd, ld_same, cel_same, over, cfgC]
  exact hk _ (Ext.upd n1 _)
theorem zcOp : zc P ty_api_Op = some #[.int .i64 0, .string ⟨#[]⟩, .int .i64 0, .int .i64 0, .int .i64 0, .int .u64 0, .slice none 0 0] := by kernel_rfl
end Go.Proofs.YtcnphhhcknhhaaaGreat
namespace Go.Den
open Go
set_option linter.unusedVariables false
set_option linter.unusedSimpArgs false
theorem evn_u {b : Int} (hb : U64 b) : U64 (evn b) := by unfold U64 evn at *; omega
theorem HG.hall0 {c : Cfg} (cw : CfgW c) (hr : rightB c = true) : HG (hall0 c c.stripes.toNat) := by
  have h8 : 1 ≤ c.stripes ∧ c.stripes ≤ 8 := by simp [rightB] at hr; omega
  exact ⟨by simp [Den.hall0]; omega, by simp [Den.hall0], fun s _ => ⟨BkG.nil, BkG.nil⟩, fun s _ => ⟨by simp [Den.hall0, strp0, U64], by simpa [Den.hall0, strp0] using evn_u cw.u1⟩, fun s _ => by simp [Den.hall0, strp0], cw, h8.2⟩
theorem stripesOf_lt {us : List ByteArray} {n : Int} (hn : 1 ≤ n) : ∀ s ∈ stripesOf us n, (s : Int) < n := by
  intro s hs
  simp only [stripesOf, List.mem_filter, inS, List.any_eq_true, decide_eq_true_eq] at hs
  obtain ⟨_, u, _, hu⟩ := hs
  rw [← hu]
  unfold stripeOf
  rw [if_neg (by omega)]
  exact Int.emod_lt_of_pos _ (by omega)
theorem stripesOf_pos {us : List ByteArray} {n : Int} (hn : 1 ≤ n) (h8 : n ≤ 8) (hu : us ≠ []) : 0 < (stripesOf us n).length := by
  obtain ⟨u, us', rfl⟩ := List.exists_cons_of_ne_nil hu
  refine List.length_pos_of_mem (a := (stripeOf u n).toNat) ?_
  have h : 0 ≤ stripeOf u n ∧ stripeOf u n < n := by
    unfold stripeOf
    rw [if_neg (by omega)]
    exact ⟨Int.emod_nonneg _ (by omega), Int.emod_lt_of_pos _ (by omega)⟩
  simp only [stripesOf, List.mem_filter, List.mem_range, inS, List.any_cons, Bool.or_eq_true, decide_eq_true_eq]
  exact ⟨by omega, .inl (by omega)⟩
theorem stripesOf_le (us : List ByteArray) (n : Int) : (stripesOf us n).length ≤ 8 := by
  have := List.length_filter_le (inS us n) (List.range 8)
  simpa [stripesOf] using this
theorem usersOf_bad {x : OpD} (h : badB x = false) (hk : x.kind = 4 ∨ x.kind = 5) : usersOf x ≠ [] ∧ (usersOf x).length ≤ 8 := by
  unfold badB at h
  unfold usersOf
  rcases hk with hk | hk
  · simp [hk]
  · simp [hk] at h ⊢
    constructor
    · intro e; rw [e] at h; simp at h
    · omega
theorem RK.rp0 {H : Hall} (hg : HG H) (hn : H.n = H.c.stripes.toNat) (h1 : 1 ≤ H.c.stripes) (tr : 0 ≤ H.c.retries ∧ H.c.retries ≤ 4) (who : Int) (hw : -1000 ≤ who ∧ who ≤ 900) (x : OpD) (hx : badB x = false → (usersOf x).length ≤ 8) : RK H.n (rp0 H who x) := by
  have hul : (if badB x then ([] : List ByteArray) else usersOf x).length ≤ 8 := by
    cases hb : badB x with
    | true => simp
    | false => simpa using hx hb
  have c8 := hg.c8
  refine ⟨⟨by simp only [Den.rp0, RP.begin]; omega, by simp only [Den.rp0, RP.begin]; omega, stripesOf_le _ _, tr, by simp [Den.rp0, RP.begin], fun i b h => by simp [Den.rp0, RP.begin] at h⟩, fun _ h0 => by simpa [Den.rp0, RP.begin, RP.k] using List.length_pos_iff.2 h0, fun s hs => ?_, fun _ => rfl, by simp [Den.rp0, RP.begin], fun _ => .inl rfl, fun i _ => by simp [Den.rp0, RP.begin, U64], hw⟩
  have := stripesOf_lt h1 s hs
  omega
theorem Tr.start {c : Cfg} {who : Int} {x : OpD} (hb : badB x = false) (hk : x.kind = 4 ∨ x.kind = 5) (h1 : 1 ≤ c.stripes) (h8 : c.stripes ≤ 8) : Tr c (stripesOf (usersOf x) c.stripes) (usersOf x) 0 (rp0 (hall0 c c.stripes.toNat) who x) (hall0 c c.stripes.toNat) := by
  have hu := usersOf_bad hb hk
  refine .a ⟨by simp [rp0, RP.begin, hb, hall0], rfl, fun _ => rfl, rfl, rfl, fun _ => rfl, by simp [rp0, RP.begin, hb], rfl⟩ (fun _ => rfl) (stripesOf_pos h1 h8 hu.1) rfl rfl rfl (by simp [rp0, RP.begin])
end Go.Den
namespace Go.Proofs.YtcnphhhcknhhaaaGreat
open Go Go.Den Go.MapKept
set_option linter.unusedSimpArgs false
set_option linter.unusedVariables false
set_option maxRecDepth 20000
theorem g1 : Gd [1] := ⟨0, [], rfl⟩
theorem g2 : Gd [2] := ⟨1, [], rfl⟩
end Go.Proofs.YtcnphhhcknhhaaaGreat
namespace Go.Proofs.YtcnphhhcknhhaaaGreat
open Go Go.Den Go.MapKept
set_option linter.unusedSimpArgs false
set_option linter.unusedVariables false
set_option maxRecDepth 20000
def wrOp (x : OpD) : OpD := { x with kind := 1 + x.kind % 3 }
theorem wrOp_w {x : OpD} (w : OpW x) : OpW (wrOp x) := ⟨(by show I64 (1 + x.kind % 3); unfold I64; omega), w.i2, w.i3, w.i4, w.u1, w.s1⟩
theorem writing15_ok (x : OpD) {h : Heap} {v : Value} (ho : One v) {K : Value → Heap → Prop} (hk : ∀ h', Ext h h' → K (.agg (opC (wrOp x) v).toArray) h') : callM P fn_doormanlaw15_writing #[.agg (opC x v).toArray] h K := by
  apply e_doormanlaw15_writing
  unfold d_doormanlaw15_writing
  refine nw_agg fun v1 h1 n1 e1 c1 => ?_
  rw [zcOp]
  refine nw_intro fun v3 h3 n3 e3 c3 => ?_
  have ne := ne_fresh c1 n3
  have c1 := e3 _ _ c1
  simp -implicitDefEqProofs only [opC] at c1
  have m1 := tmod_rng x.kind (show (0 : Int) < 3 by omega)
  have m2 := Int.mul_tdiv_add_tmod x.kind 3
  have e2 : (x.kind.tmod 3 + 3).tmod 3 = x.kind % 3 := by rw [tmod_pos (by omega)]; omega
  have w1 : IntKind.i64.wrap (x.kind.tmod 3 + 3) = x.kind.tmod 3 + 3 := wrap64_id (by omega) (by omega)
  have w2 : IntKind.i64.wrap (1 + x.kind % 3) = 1 + x.kind % 3 := wrap64_id (by omega) (by omega)
  simp -implicitDefEqProofs [ld_at c1, cel_of c1, stm_at c1, ld_at c3, cel_of c3, stm_at c3, stm_skip ne, stm_skip (Ne.symm ne), ld_skip ne, ld_skip (Ne.symm ne), cel_skip ne, cel_skip (Ne.symm ne), stm_upd, ld_same, cel_same, over, w1, e2, w2, ho.1, ho.2]
  refine kv (hk _ ?_) rfl
  exact ext_upd n1 (ext_upd (fresh_of e1 n3) (e1.trans e3))
end Go.Proofs.YtcnphhhcknhhaaaGreat
namespace Go.Proofs.YtcnphhhcknhhaaaGreat
open Go Go.Den Go.MapKept
set_option linter.unusedSimpArgs false
set_option linter.unusedVariables false
set_option maxRecDepth 20000
theorem ext_of_only {U : Tag → Prop} {h : Heap} {T' : Tags} {h' : Heap} (o : Only U (fun _ => []) h T' h') (u : ¬ U []) : Ext h h' := by
  have := (o.ext u).trans (fz_ext _ _)
  rw [fz_nil] at this; exact this
def c2 : Cfg := ⟨2, 2, 16, 4, 1, 100, 0⟩
end Go.Proofs.YtcnphhhcknhhaaaGreat
namespace Go.Den
open Go
set_option linter.unusedVariables false
set_option linter.unusedSimpArgs false
/-- A process that has nothing and owes nothing. -/
structure Idle (p : PR) (m : Mine) (c : Cfg) : Prop where
  h : ∀ s, ¬ p.holds s
  e : p.em m c = m
theorem PR.done_w {p : WP} (h : p.done = true) : 7 ≤ p.at_ := by simpa [WP.done] using h
theorem Idle.done {n i : Nat} {c : Cfg} {p : PR} {m : Mine} (g : PA n i c p) (hd : p.done = true) (h1 : 1 ≤ n) : Idle p m c := by
  cases p with
  | w p =>
    have h7 := PR.done_w (p := p) hd
    exact ⟨fun s hs => by have := hs.2.2.1; omega, rfl⟩
  | r p =>
    have h8 : p.ph = 8 := by simpa [PR.done] using hd
    exact ⟨fun s => RP.nh (by omega) (by omega) (by omega) (by omega), rfl⟩
  | h p =>
    have hd' : p.steps ≤ p.at_ := by simpa [PR.done, HP.done] using hd
    have hk := g.1.k
    by_cases ho : p.one = true
    · refine ⟨fun s hs => ?_, ?_⟩
      · have := hs.1; rw [ho] at this; cases this
      · show p.em m c = m
        rw [HP.em_def, if_neg (by simp [ho])]
    · have ho : p.one = false := by simpa using ho
      have hb : badB p.x = false := by simp [HP.one] at ho; exact ho.1
      have h9 : p.x.kind ≠ 9 := by simp [HP.one] at ho; exact ho.2
      by_cases h8 : p.x.kind = 8
      · have := (HP.poll_of hb h8).2
        refine ⟨fun s hs => ?_, ?_⟩
        · have h2 := hs.2; rw [if_pos h8] at h2; omega
        · show p.em m c = m
          rw [HP.em_def, if_neg (by simp [h8])]
      · have := (HP.kind_of hb h9 h8).2
        refine ⟨fun s hs => ?_, ?_⟩
        · have h2 := hs.2; rw [if_neg h8] at h2; omega
        · show p.em m c = m
          rw [HP.em_def, if_neg (by omega)]
theorem Idle.w {p : WP} (m : Mine) (c : Cfg) (h : p.at_ = 0) : Idle (.w p) m c := ⟨fun s hs => by have := hs.2.1; omega, rfl⟩
theorem Idle.r {p : RP} (m : Mine) (c : Cfg) (h : p.ph = 0) : Idle (.r p) m c := ⟨fun s => RP.nh (by omega) (by omega) (by omega) (by omega), rfl⟩
theorem Idle.hh {p : HP} (m : Mine) (c : Cfg) (h : p.at_ = 0) : Idle (.h p) m c := by
  refine ⟨fun s hs => ?_, ?_⟩
  · have h2 := hs.2
    split at h2 <;> omega
  · show p.em m c = m
    rw [HP.em_def, if_neg (by omega)]
def wd0 (c : Cfg) (n : Nat) : Wd := ⟨hall0 c n, fun _ => none, fun _ => []⟩
theorem LI.init {c : Cfg} {n : Nat} : LI (wd0 c n) (tbl0 c n) := by
  refine ⟨rfl, rfl, rfl, fun s hs => .inl ⟨rfl, rfl, rfl, rfl⟩, fun i p s _ h => by simp [wd0] at h, fun i p h => by simp [wd0] at h, ⟨fun i hi => ?_, fun s i u hs hi hu => ?_⟩⟩
  · have : allWs (tbl0 c n) i = [] := by
      unfold allWs
      rw [List.flatMap_eq_nil_iff]
      intro s _
      rfl
    rw [this]; exact List.Perm.refl _
  · simp [tbl0, feed0, wsOf] at hu
theorem TS.init {c : Cfg} (cw : CfgW c) (hr : rightB c = true) {n : Nat} (hn : (n : Int) = c.stripes) : TS 0 (tbl0 c n) := (HS.new cw hr hn).tbl
/-- A process begins, in the place of one that is done, or of none. -/
theorem LI.start {W : Wd} {M : Tbl} (x : LI W M) {i : Nat} {p : PR} (hp : PA W.H.n i W.H.c p) (h0 : Idle p (W.ms i) W.H.c) (hi : ∀ q, W.ps i = some q → Idle q (W.ms i) W.H.c) : LI { W with ps := bset W.ps i (some p) } M := by
  have hP : ∀ j, bset W.ps i (some p) j = if j = i then some p else W.ps j := fun j => rfl
  refine ⟨x.t, x.c, x.n, fun s hs => ?_, fun j q s hs hq hh => ?_, fun j q hq => ?_, ?_⟩
  · rcases x.st s hs with h | ⟨j, q, h1, h2, h3, h4⟩
    · exact .inl h
    · have hji : j ≠ i := fun h => by subst h; exact (hi q h1).h s h2
      exact .inr ⟨j, q, by show bset _ _ _ _ = _; rw [hP, if_neg hji]; exact h1, h2, h3, h4⟩
  · have hq : bset W.ps i (some p) j = some q := hq
    rw [hP] at hq
    split at hq
    · simp only [Option.some.injEq] at hq; subst hq; exact absurd hh (h0.h s)
    · exact x.own j q s hs hq hh
  · have hq : bset W.ps i (some p) j = some q := hq
    rw [hP] at hq
    split at hq
    · rename_i h; simp only [Option.some.injEq] at hq; subst hq; subst h; exact hp
    · exact x.pa j q hq
  · refine x.ws.same rfl rfl (fun _ _ => rfl) fun j hj => ?_
    unfold Wd.em
    show (match bset W.ps i (some p) j with | some p => p.em (W.ms j) W.H.c | none => W.ms j) = _
    rw [hP]
    by_cases h : j = i
    · subst h
      rw [if_pos rfl]
      dsimp only
      rw [h0.e]
      cases hq : W.ps j with
      | none => rfl
      | some q => exact (hi q hq).e.symm
    · rw [if_neg h] <;> rfl
/-- What is no process's: acts, and the time. -/
theorem LI.other {W : Wd} {M M' : Tbl} {H' : Hall} (x : LI W M) (h1 : H'.ss = W.H.ss) (h2 : H'.c = W.H.c) (h3 : H'.n = W.H.n) (t : M'.t = H'.t) (m1 : M'.c = M.c) (m2 : M'.n = M.n) (m3 : M'.bk = M.bk) (m4 : M'.fd = M.fd) : LI { W with H := H' } M' := by
  have hst : ∀ s, M'.st s = M.st s := fun s => by simp [Tbl.st, m3, m4]
  refine ⟨t, m1.trans (x.c.trans h2.symm), m2.trans (x.n.trans h3.symm), fun s hs => ?_, fun j q s hs hq hh => ?_, fun j q hq => ?_, ?_⟩
  · have hs : s < W.H.n := by rw [← h3]; exact hs
    show Free (H'.ss s) _ ∨ _
    rw [hst, h1]
    rcases x.st s hs with h | ⟨j, q, g1, g2, g3, g4⟩
    · exact .inl h
    · exact .inr ⟨j, q, g1, g2, g3, by show Held q (W.ms j) H'.c s _ _; rw [h2]; exact g4⟩
  · show (H'.ss s).who = _
    rw [h1]; exact x.own j q s (by rw [← h3]; exact hs) hq hh
  · show PA H'.n j H'.c q
    rw [h2, h3]; exact x.pa j q hq
  · refine x.ws.same m2 m1 (fun s _ => by rw [m4]) fun j hj => ?_
    unfold Wd.em
    show (match W.ps j with | some p => p.em (W.ms j) H'.c | none => W.ms j) = _
    rw [h2] <;> rfl
theorem LI.did {W : Wd} {M : Tbl} (x : LI W M) (w k p : Int) : LI { W with H := W.H.did w k p } M := x.other rfl rfl rfl x.t rfl rfl rfl rfl
/-- Where nobody has a lock, the table is the hall's, and all is quiet. -/
theorem LI.rest {W : Wd} {M : Tbl} (x : LI W M) {s : Nat} (hs : s < W.H.n) (h : ∀ i p, W.ps i = some p → ¬ p.holds s) : Free (W.H.ss s) (M.st s) := by
  rcases x.st s hs with h' | ⟨i, p, h1, h2, _⟩
  · exact h'
  · exact absurd h2 (h i p h1)
theorem LI.free_iff {W : Wd} {M : Tbl} (x : LI W M) {s : Nat} (hs : s < W.H.n) : (W.H.ss s).who = 0 ↔ ∀ i p, W.ps i = some p → ¬ p.holds s := by
  constructor
  · intro h i p hp hh
    have := x.own i p s hs hp hh; omega
  · intro h; exact (x.rest hs h).wh
end Go.Den
namespace Go.Proofs.YtcnphhhcknhhaaaGreat
open Go Go.Den Go.MapKept
set_option linter.unusedSimpArgs false
set_option linter.unusedVariables false
set_option maxRecDepth 20000
def UW (t : Tag) : Prop := pre [1] t ∨ pre [2] t
theorem UW.nil : ¬ UW [] := by rintro (h | h) <;> simp [pre] at h
theorem UW.two (i : Nat) {t : Tag} (h : two (pre [2, i]) (pre [1]) t) : UW t := h.elim (fun h => .inr (pre_trans (g := [2]) (s := [i]) h)) .inl
theorem g2i (i : Nat) : Gd [2, i] := ⟨1, [i], rfl⟩
theorem d12i (i : Nat) : Off (pre [1]) [2, i] := off_pre (g := []) (x := [1]) (y := [2, i]) (by simp) (by simp)
theorem d2i1 (i : Nat) : Off (pre [2, i]) [1] := off_pre (g := []) (x := [2, i]) (y := [1]) (by simp) (by simp)
theorem d2ij {i j : Nat} (h : i ≠ j) : Off (pre [2, i]) [2, j] := off_pre (g := [2]) (x := [i]) (y := [j]) (by simpa using h) (by simpa using Ne.symm h)
theorem dtwo {i j : Nat} (h : i ≠ j) : Off (two (pre [2, i]) (pre [1])) [2, j] := fun t ht hh => hh.elim (d2ij h t ht) (d12i j t ht)
def PRm (T : Tags) (h : Heap) (g : Tag) (q : Nat) : PR → Prop
  | .w p => WPR T h g q p
  | .r p => RPR T h g q p
  | .h _ => False
theorem PRm.kp {U : Tag → Prop} {T T' : Tags} {h h' : Heap} {g : Tag} {q : Nat} {p : PR} (x : PRm T h g q p) (k : Kp U T h T' h') (o : Off U g) (n : ¬ U []) : PRm T' h' g q p := by
  cases p with
  | w p => exact WPR.kp x k o n
  | r p => exact RPR.kp x k o n
  | h p => exact x
structure WdM (T : Tags) (h : Heap) (hp : Nat) (A : Nat → Nat) (W : Wd) : Prop where
  hl : HallR T h [1] hp W.H
  ps : ∀ i p, W.ps i = some p → PRm T h [2, i] (A i) p
theorem WdM.up {U : Tag → Prop} {T T' : Tags} {h h' : Heap} {hp : Nat} {A : Nat → Nat} {W : Wd} (x : WdM T h hp A W) (o : Only U T h T' h') (f : ∀ t, UW t → ¬ U t) (n : ¬ U []) : WdM T' h' hp A W :=
  ⟨x.hl.up o (fun t ht => f t (.inl ht)) n, fun i p hp => (x.ps i p hp).kp o.k (fun t ht => f t (.inr (pre_trans (g := [2]) (s := [i]) ht))) n⟩
theorem WdM.ext {T : Tags} {h h' : Heap} {hp : Nat} {A : Nat → Nat} {W : Wd} (x : WdM T h hp A W) (w : Wf T h) (e : Ext h h') : WdM T h' hp A W := x.up (Only.of_ext (U := non) w e) (fun _ _ h => h) (not_non _)
/-- What is kept beside. -/
structure WdK (k : Nat) (W : Wd) (M : Tbl) : Prop where
  li : LI W M
  hs : HS k W.H
  ts : TS k M
theorem WdK.step {k : Nat} {W : Wd} {M : Tbl} (x : WdK k W M) (hk : k < 100000) {i : Nat} {p : PR} (hp : W.ps i = some p) (n : Int) : WdK (k + 1) (W.step i n) (p.tb W.H M) :=
  have y := x.li.step x.hs hk x.ts hp n
  ⟨y.1, y.2.1, y.2.2⟩
theorem WdM.put {U : Tag → Prop} {T T' : Tags} {h h' : Heap} {hp i : Nat} {A : Nat → Nat} {W : Wd} {p : PR} (x : WdM T h hp A W) (o : Only U T h T' h') (u : ∀ j, j ≠ i → Off U [2, j]) (n : ¬ U []) {k : Int} (hp' : W.ps i = some p)
    (y' : HallR T' h' [1] hp (p.step (W.ms i) W.H k).2.2) (x' : PRm T' h' [2, i] (A i) (p.step (W.ms i) W.H k).1) : WdM T' h' hp A (W.step i k) := by
  refine ⟨?_, fun j q hq => ?_⟩
  · have : (W.step i k).H = (p.step (W.ms i) W.H k).2.2 := by simp only [Wd.step, hp']
    rw [this]; exact y'
  · have hP : (W.step i k).ps j = if j = i then some (p.step (W.ms i) W.H k).1 else W.ps j := by simp only [Wd.step, hp', bset]
    rw [hP] at hq
    split at hq
    · rename_i hj; subst hj
      simp -implicitDefEqProofs only [Option.some.injEq] at hq; subst hq
      exact x'
    · rename_i hj
      exact (x.ps j q hq).kp o.k (u j hj) n
theorem wdstep_w {T : Tags} {h : Heap} {hp k i : Nat} {A : Nat → Nat} {W : Wd} {M : Tbl} {p : WP} (n : Int) (w : Wf T h) (x : WdM T h hp A W) (y : WdK k W M) (hk : k < 100000) (hp' : W.ps i = some (.w p)) {K : Value → Heap → Prop}
    (hK : ∀ T' h', Only UW T h T' h' → WdM T' h' hp A (W.step i n) → K (.tuple #[]) h') : callM P fn_write_Proc_Step #[ptr (A i), ptr hp, .int .i64 n] h K := by
  have hpa := y.li.pa i _ hp'
  refine wstep_ok n w g1 (d12i i) (d2i1 i) (g2i i) (x.ps i _ hp') x.hl y.hs hk hpa.1 fun T' h' o x' y' => ?_
  exact hK T' h' (o.mono fun _ => UW.two i) (x.put o (fun j hj => dtwo (Ne.symm hj)) (by rintro (h | h) <;> simp [pre] at h) hp' y' x')
/-- A writing begins. -/
theorem wdnew_w {T : Tags} {h : Heap} {hp k i : Nat} {A : Nat → Nat} {W : Wd} {M : Tbl} (hi : i ≤ 900) (o : OpD) (ow : OpW o) (hl : o.users.length < 1000000) {v : Value} (hv : Sl 1 StrR (fz T h) v o.users) (w : Wf T h) (x : WdM T h hp A W) (y : WdK k W M) (hi' : ∀ q, W.ps i = some q → Idle q (W.ms i) W.H.c) {K : Value → Heap → Prop}
    (hK : ∀ T' h' q, Only non T h T' h' → WdM T' h' hp (bset A i q) { W with ps := bset W.ps i (some (.w (wp0 W.H i o))) } → WdK k { W with ps := bset W.ps i (some (.w (wp0 W.H i o))) } M → K (ptr q) h') : callM P fn_write_New #[ptr hp, .int .i64 i, .agg (opC o v).toArray] h K := by
  have n8 := y.hs.n8
  have nn := y.hs.nn
  refine wnew_ok i o ow w (g2i i) x.hl hv hl (by omega) fun T' h' q o' nq x' => ?_
  have hst := stripeOf_lt (u := o.user) (n := W.H.c.stripes) (by omega)
  have hsn : (stripeOf o.user W.H.c.stripes).toNat < W.H.n := by omega
  refine hK T' h' q o' ⟨x.hl.up o' (Off.non _) (not_non _), fun j p hj => ?_⟩ ⟨y.li.start ?_ (Idle.w _ _ rfl) hi', y.hs, y.ts⟩
  · have hj : bset W.ps i (some (.w (wp0 W.H i o))) j = some p := hj
    by_cases hji : j = i
    · subst hji
      rw [bset_same] at hj ⊢
      simp -implicitDefEqProofs only [Option.some.injEq] at hj; subst hj
      exact x'
    · rw [bset_ne hji] at hj ⊢
      exact (x.ps j p hj).kp o'.k (Off.non _) (not_non _)
  · refine ⟨sect_g hsn (by omega) fun z hz => ?_, rfl, by simp [wp0, sect], fun z hz => ?_⟩
    · split at hz
      · cases hz
      · cases hz; exact ow
    · have hz : (if badB o then WK.bad else .op o) = .op z := hz
      split at hz
      · cases hz
      · cases hz; rfl
def annW : OpD := ⟨1, ⟨#[97, 110, 110]⟩, 0, 1, 0, 5, []⟩
theorem bdOpAnnW : bdV (binf P ty_api_Op) [(0, .int .i64 1), (1, .string ⟨#[97, 110, 110]⟩), (3, .int .i64 1), (5, .int .u64 5)] = some (.agg (opC annW (.slice none 0 0)).toArray) := by kernel_rfl
theorem annWW : OpW annW := ⟨by simp [annW, I64], by simp [annW, I64], by simp [annW, I64], by simp [annW, I64], by simp [annW, U64], by simp [annW, maxLen]; decide⟩
theorem wd0M {T : Tags} {h : Heap} {hp : Nat} {c : Cfg} {n : Nat} (x : HallR T h [1] hp (hall0 c n)) (A : Nat → Nat) : WdM T h hp A (wd0 c n) := ⟨x, fun i p h => by simp [wd0] at h⟩
theorem wd0K {c : Cfg} (cw : CfgW c) (hr : rightB c = true) {n : Nat} (hn : (n : Int) = c.stripes) : WdK 0 (wd0 c n) (tbl0 c n) := ⟨LI.init, HS.new cw hr hn, TS.init cw hr hn⟩
end Go.Proofs.YtcnphhhcknhhaaaGreat
namespace Go.Proofs.YtcnphhhcknhhaaaGreat
open Go Go.Den Go.MapKept
set_option linter.unusedSimpArgs false
set_option linter.unusedVariables false
set_option maxRecDepth 20000
def aw15 : Nat → WP × Hall
  | 0 => (wp0 (hall0 small 3) 0 annW, hall0 small 3)
  | n + 1 => (aw15 n).1.step (aw15 n).2 n
theorem aw15_done : ∀ n, n ≤ 7 → ((aw15 n).1.done = true ↔ n = 7) := by decide +kernel
theorem aw15_end : (aw15 7).1.placed = 2 ∧ (aw15 7).2.stored = 1 := by decide +kernel
def Aw15 (T0 : Tags) (h0 : Heap) (hp pp : Nat) (v : Value) (h' : Heap) : Prop :=
  ∃ (T' : Tags) (k : Nat) (W : Wd) (M : Tbl), Only UW T0 h0 T' h' ∧ WdM T' h' hp (fun _ => pp) W ∧ WdK k W M ∧ W.H = (aw15 k).2 ∧ W.ps 0 = some (.w (aw15 k).1) ∧ v = .int .i64 k ∧ k ≤ 7
set_option maxHeartbeats 1000000 in
theorem awake15_ok {h : Heap} {K : Value → Heap → Prop} (hk : ∀ h', Ext h h' → K (.bool true) h') : callM P fn_doormanlaw15_awake #[] h K := by
  apply e_doormanlaw15_awake
  unfold d_doormanlaw15_awake
  refine small_ok fun h1 e1 => ?_
  unfold d_doormanlaw15_awake_1
  have w1 := wf_nil h1
  refine hallNew_ok small smallW w1 g1 (fun hr T2 h2 q o2 y2 => ?_) (fun hr => by simp [rightB, small] at hr)
  have hn3 : small.stripes.toNat = 3 := by decide
  rw [hn3] at y2
  unfold d_doormanlaw15_awake_2
  have enil : binV .eql 4 true (ptr q) (.pointer none) = some (.bool false) := rfl
  simp -implicitDefEqProofs [enil]
  unfold d_doormanlaw15_awake_3
  rw [bdOpAnnW]
  simp -implicitDefEqProofs only [ov_s]
  refine wdnew_w (i := 0) (A := fun _ => 0) (by omega) annW annWW (by simp [annW]) (.inl ⟨rfl, _, _, rfl⟩) o2.wf (wd0M y2 _) (wd0K smallW hr (by decide)) (fun q h => by simp [wd0] at h) fun T3 h3 p o3 x3 k3 => ?_
  have o0 : Only UW (fun _ => []) h1 T3 h3 := (o2.mono fun _ => .inl).up o3 non_up
  unfold d_doormanlaw15_awake_4
  rw [seqM_eq]
  unfold d_doormanlaw15_awake_5
  have hA : bset (fun _ => 0) 0 p 0 = p := rfl
  refine loop_on [1, 3] (fun s h' => Aw15 T3 h3 q p (s 4) h') (fun s _ => (9 - num (s 4)).toNat) ⟨T3, 0, _, _, Only.refl o3.wf, ⟨x3.hl, fun i r hr => ?_⟩, k3, rfl, rfl, rfl, by omega⟩ ?_
  · by_cases hi : i = 0
    · subst hi; exact x3.ps 0 r hr
    · have hr : bset (wd0 small 3).ps 0 (some (.w (wp0 (hall0 small 3) 0 annW))) i = some r := hr
      rw [bset_ne hi] at hr; simp [wd0] at hr
  rintro s h4 hf ⟨T4, k, W, M, o4, x4, k4, hH, hP, s4, hk7⟩
  have s1 : s 1 = ptr q := by simpa using hf 1 (by simp)
  have s3 : s 3 = ptr p := by simpa using hf 3 (by simp)
  have hw : IntKind.i64.wrap ((k : Int) + 1) = (k + 1 : Nat) := by rw [wrap64_id (by omega) (by omega)]; omega
  have hd := aw15_done k hk7
  have hn9 : (k : Int) < 9 := by omega
  have xp := x4.ps 0 _ hP
  unfold d_doormanlaw15_awake_6
  simp -implicitDefEqProofs [s4, s3, hn9]
  refine wdone_ok xp fun h5 e5 => ?_
  by_cases h7 : k = 7
  · subst h7
    rw [hd.2 rfl]
    simp -implicitDefEqProofs [s3, s4]
    unfold d_doormanlaw15_awake_9
    have o5 : Only non T4 h4 T4 h5 := Only.of_ext o4.wf e5
    have x5 := x4.ext o4.wf e5
    have xp := x5.ps 0 _ hP
    simp -implicitDefEqProofs [s3, s4]
    refine wplaced_ok xp ?_
    rw [aw15_end.1]
    simp -implicitDefEqProofs [s3]
    refine wdone_ok xp fun h6 e6 => ?_
    rw [hd.2 rfl]
    simp -implicitDefEqProofs [s1]
    have x6 := x5.ext o5.wf e6
    refine hstored_ok (o5.wf.ext e6) x6.hl k4.hs (by omega) fun h7 e7 => ?_
    rw [hH, aw15_end.2]
    simp -implicitDefEqProofs
    exact hk _ (e1.trans ((ext_of_only (o0.trans o4) UW.nil).trans (e5.trans (e6.trans e7))))
  · have hdf : (aw15 k).1.done = false := by
      cases hh : (aw15 k).1.done with
      | false => rfl
      | true => exact absurd (hd.1 hh) h7
    rw [hdf]
    simp -implicitDefEqProofs
    unfold d_doormanlaw15_awake_7
    simp -implicitDefEqProofs only [s3, s1, s4]
    have x5 := x4.ext o4.wf e5
    refine wdstep_w (i := 0) k (o4.wf.ext e5) x5 k4 (by omega) hP fun T6 h6 o6 x6 => ?_
    unfold d_doormanlaw15_awake_8
    simp -implicitDefEqProofs [s1, s3, s4, hw, -Int.natCast_add]
    have hst : W.step 0 k = ⟨((aw15 k).1.step (aw15 k).2 k).2, bset W.ps 0 (some (.w ((aw15 k).1.step (aw15 k).2 k).1)), bset W.ms 0 (W.ms 0)⟩ := by
      simp -implicitDefEqProofs only [Wd.step, hP, PR.step, hH]
    refine ⟨⟨T6, k + 1, _, _, (o4.up (Only.of_ext (U := non) o4.wf e5) non_up).trans o6, x6, k4.step (by omega) hP k, by rw [hst]; rfl, by rw [hst]; rfl, rfl, by omega⟩, by omega⟩
end Go.Proofs.YtcnphhhcknhhaaaGreat
namespace Go.Proofs.YtcnphhhcknhhaaaGreat
open Go Go.Den
set_option maxRecDepth 100000
set_option linter.unusedVariables false
set_option maxHeartbeats 40000000
def d_doormanlaw15_WriteHolds_7 (h46 : Heap) (v43 : Value) (v45 : Value) (q38 : Post) (x0 : Value) (x1 : Value) (x2 : Value) (v1 : Value) (v3 : Value) (v5 : Value) (v7 : Value) (v8 : Value) (v12 : Value) (v17 : Value) (v21 : Value) (v22 : Value) (v26 : Value) (v31 : Value) (v35 : Value) (v41 : Value) (v42 : Value) : Prop := nwM (zc P ty_api_Op) ty_api_Op h46 fun v47 h48 => nwM (zc P ty_api_Op) ty_api_Op h48 fun v49 h50 => stM (some 7) v47 v43 h50 fun h51 => stM (some 7) v49 v45 h51 fun h52 => q38 .normal [] (puts (envOf [x0, x1, x2]) [(4, v1), (5, v3), (6, (Go.Value.bool false)), (18, v5), (19, v7), (20, v7), (21, v8), (22, v12), (23, v17), (24, v21), (25, v21), (26, v22), (27, v26), (28, v31), (29, v35), (31, v41), (33, v42), (32, v43), (34, v45), (7, v47), (8, v49)]) h52
def d_doormanlaw15_WriteHolds_8 (h46 : Heap) (v43 : Value) (v45 : Value) (q38 : Post) (x0 : Value) (x1 : Value) (x2 : Value) (v1 : Value) (v3 : Value) (v5 : Value) (v7 : Value) (v8 : Value) (v12 : Value) (v17 : Value) (v21 : Value) (v22 : Value) (v26 : Value) (v31 : Value) (v35 : Value) (v41 : Value) (v42 : Value) : Prop := nwM (zc P ty_api_Op) ty_api_Op h46 fun v53 h54 => nwM (zc P ty_api_Op) ty_api_Op h54 fun v55 h56 => stM (some 7) v55 v43 h56 fun h57 => stM (some 7) v53 v45 h57 fun h58 => q38 .normal [] (puts (envOf [x0, x1, x2]) [(4, v1), (5, v3), (6, (Go.Value.bool false)), (18, v5), (19, v7), (20, v7), (21, v8), (22, v12), (23, v17), (24, v21), (25, v21), (26, v22), (27, v26), (28, v31), (29, v35), (31, v41), (33, v42), (32, v43), (34, v45), (8, v53), (7, v55)]) h58
def d_doormanlaw15_WriteHolds_6 (h46 : Heap) (v43 : Value) (v45 : Value) (q38 : Post) (x0 : Value) (x1 : Value) (x2 : Value) (v1 : Value) (v3 : Value) (v5 : Value) (v7 : Value) (v8 : Value) (v12 : Value) (v17 : Value) (v21 : Value) (v22 : Value) (v26 : Value) (v31 : Value) (v35 : Value) (v41 : Value) (v42 : Value) : Prop := (d_doormanlaw15_WriteHolds_7 h46 v43 v45 q38 x0 x1 x2 v1 v3 v5 v7 v8 v12 v17 v21 v22 v26 v31 v35 v41 v42) ∧ (d_doormanlaw15_WriteHolds_8 h46 v43 v45 q38 x0 x1 x2 v1 v3 v5 v7 v8 v12 v17 v21 v22 v26 v31 v35 v41 v42)
def d_doormanlaw15_WriteHolds_9 (h62 : Heap) (v59 : Value) (v43 : Value) (v61 : Value) (q38 : Post) (x0 : Value) (x1 : Value) (x2 : Value) (v1 : Value) (v3 : Value) (v5 : Value) (v7 : Value) (v8 : Value) (v12 : Value) (v17 : Value) (v21 : Value) (v22 : Value) (v26 : Value) (v31 : Value) (v35 : Value) (v41 : Value) (v42 : Value) : Prop := nwM (zc P ty_api_Op) ty_api_Op h62 fun v63 h64 => stM (some 7) v59 v43 h64 fun h65 => stM (some 7) v63 v61 h65 fun h66 => q38 .normal [] (puts (envOf [x0, x1, x2]) [(4, v1), (5, v3), (6, (Go.Value.bool false)), (18, v5), (19, v7), (20, v7), (21, v8), (22, v12), (23, v17), (24, v21), (25, v21), (26, v22), (27, v26), (28, v31), (29, v35), (31, v41), (33, v42), (32, v43), (7, v59), (34, v61), (8, v63)]) h66
def d_doormanlaw15_WriteHolds_10 (h76 : Heap) (v43 : Value) (v73 : Value) (v75 : Value) (q38 : Post) (x0 : Value) (x1 : Value) (x2 : Value) (v1 : Value) (v3 : Value) (v5 : Value) (v7 : Value) (v8 : Value) (v12 : Value) (v17 : Value) (v21 : Value) (v22 : Value) (v26 : Value) (v31 : Value) (v35 : Value) (v41 : Value) (v42 : Value) : Prop := nwM (zc P ty_api_Op) ty_api_Op h76 fun v77 h78 => stM (some 7) v77 v43 h78 fun h79 => stM (some 7) v73 v75 h79 fun h80 => q38 .normal [] (puts (envOf [x0, x1, x2]) [(4, v1), (5, v3), (6, (Go.Value.bool false)), (18, v5), (19, v7), (20, v7), (21, v8), (22, v12), (23, v17), (24, v21), (25, v21), (26, v22), (27, v26), (28, v31), (29, v35), (31, v41), (33, v42), (32, v43), (8, v73), (34, v75), (7, v77)]) h80
def d_doormanlaw15_WriteHolds_5 (v3 : Value) (h44 : Heap) (v42 : Value) (v43 : Value) (q38 : Post) (x0 : Value) (x1 : Value) (x2 : Value) (v1 : Value) (v5 : Value) (v7 : Value) (v8 : Value) (v12 : Value) (v17 : Value) (v21 : Value) (v22 : Value) (v26 : Value) (v31 : Value) (v35 : Value) (v41 : Value) : Prop := ldV (some (some 7)) v3 h44 = some v42 ∧ (callM P fn_doormanlaw15_writing #[v42] h44 fun v45 h46 => d_doormanlaw15_WriteHolds_6 h46 v43 v45 q38 x0 x1 x2 v1 v3 v5 v7 v8 v12 v17 v21 v22 v26 v31 v35 v41 v42) ∧ (nwM (zc P ty_api_Op) ty_api_Op h44 fun v59 h60 => ldV (some (some 7)) v3 h60 = some v42 ∧ (callM P fn_doormanlaw15_writing #[v42] h60 fun v61 h62 => d_doormanlaw15_WriteHolds_9 h62 v59 v43 v61 q38 x0 x1 x2 v1 v3 v5 v7 v8 v12 v17 v21 v22 v26 v31 v35 v41 v42) ∧ (nwM (zc P ty_api_Op) ty_api_Op h60 fun v67 h68 => ldV (some (some 7)) v3 h68 = some v42 ∧ callM P fn_doormanlaw15_writing #[v42] h68 fun v69 h70 => stM (some 7) v59 v43 h70 fun h71 => stM (some 7) v67 v69 h71 fun h72 => q38 .normal [] (puts (envOf [x0, x1, x2]) [(4, v1), (5, v3), (6, (Go.Value.bool false)), (18, v5), (19, v7), (20, v7), (21, v8), (22, v12), (23, v17), (24, v21), (25, v21), (26, v22), (27, v26), (28, v31), (29, v35), (31, v41), (33, v42), (32, v43), (7, v59), (8, v67), (34, v69)]) h72)) ∧ (nwM (zc P ty_api_Op) ty_api_Op h44 fun v73 h74 => ldV (some (some 7)) v3 h74 = some v42 ∧ (callM P fn_doormanlaw15_writing #[v42] h74 fun v75 h76 => d_doormanlaw15_WriteHolds_10 h76 v43 v73 v75 q38 x0 x1 x2 v1 v3 v5 v7 v8 v12 v17 v21 v22 v26 v31 v35 v41 v42) ∧ (nwM (zc P ty_api_Op) ty_api_Op h74 fun v81 h82 => ldV (some (some 7)) v3 h82 = some v42 ∧ callM P fn_doormanlaw15_writing #[v42] h82 fun v83 h84 => stM (some 7) v81 v43 h84 fun h85 => stM (some 7) v73 v83 h85 fun h86 => q38 .normal [] (puts (envOf [x0, x1, x2]) [(4, v1), (5, v3), (6, (Go.Value.bool false)), (18, v5), (19, v7), (20, v7), (21, v8), (22, v12), (23, v17), (24, v21), (25, v21), (26, v22), (27, v26), (28, v31), (29, v35), (31, v41), (33, v42), (32, v43), (8, v73), (7, v81), (34, v83)]) h86))
def d_doormanlaw15_WriteHolds_4 (v41 : Value) (h32 : Heap) (v3 : Value) (v42 : Value) (q38 : Post) (x0 : Value) (x1 : Value) (x2 : Value) (v1 : Value) (v5 : Value) (v7 : Value) (v8 : Value) (v12 : Value) (v17 : Value) (v21 : Value) (v22 : Value) (v26 : Value) (v31 : Value) (v35 : Value) : Prop := callM P fn_doormanlaw15_writing #[v41] h32 fun v43 h44 => d_doormanlaw15_WriteHolds_5 v3 h44 v42 v43 q38 x0 x1 x2 v1 v5 v7 v8 v12 v17 v21 v22 v26 v31 v35 v41
def d_doormanlaw15_WriteHolds_13 (h92 : Heap) (v87 : Value) (v89 : Value) (v91 : Value) (q38 : Post) (x0 : Value) (x1 : Value) (x2 : Value) (v1 : Value) (v3 : Value) (v5 : Value) (v7 : Value) (v8 : Value) (v12 : Value) (v17 : Value) (v21 : Value) (v22 : Value) (v26 : Value) (v31 : Value) (v35 : Value) (v41 : Value) (v42 : Value) : Prop := nwM (zc P ty_api_Op) ty_api_Op h92 fun v93 h94 => stM (some 7) v87 v89 h94 fun h95 => stM (some 7) v93 v91 h95 fun h96 => q38 .normal [] (puts (envOf [x0, x1, x2]) [(4, v1), (5, v3), (6, (Go.Value.bool false)), (18, v5), (19, v7), (20, v7), (21, v8), (22, v12), (23, v17), (24, v21), (25, v21), (26, v22), (27, v26), (28, v31), (29, v35), (31, v41), (33, v42), (7, v87), (32, v89), (34, v91), (8, v93)]) h96
def d_doormanlaw15_WriteHolds_12 (v3 : Value) (h90 : Heap) (v42 : Value) (v87 : Value) (v89 : Value) (q38 : Post) (x0 : Value) (x1 : Value) (x2 : Value) (v1 : Value) (v5 : Value) (v7 : Value) (v8 : Value) (v12 : Value) (v17 : Value) (v21 : Value) (v22 : Value) (v26 : Value) (v31 : Value) (v35 : Value) (v41 : Value) : Prop := ldV (some (some 7)) v3 h90 = some v42 ∧ (callM P fn_doormanlaw15_writing #[v42] h90 fun v91 h92 => d_doormanlaw15_WriteHolds_13 h92 v87 v89 v91 q38 x0 x1 x2 v1 v3 v5 v7 v8 v12 v17 v21 v22 v26 v31 v35 v41 v42) ∧ (nwM (zc P ty_api_Op) ty_api_Op h90 fun v97 h98 => ldV (some (some 7)) v3 h98 = some v42 ∧ callM P fn_doormanlaw15_writing #[v42] h98 fun v99 h100 => stM (some 7) v87 v89 h100 fun h101 => stM (some 7) v97 v99 h101 fun h102 => q38 .normal [] (puts (envOf [x0, x1, x2]) [(4, v1), (5, v3), (6, (Go.Value.bool false)), (18, v5), (19, v7), (20, v7), (21, v8), (22, v12), (23, v17), (24, v21), (25, v21), (26, v22), (27, v26), (28, v31), (29, v35), (31, v41), (33, v42), (7, v87), (32, v89), (8, v97), (34, v99)]) h102)
def d_doormanlaw15_WriteHolds_11 (h32 : Heap) (v1 : Value) (v41 : Value) (v3 : Value) (v42 : Value) (q38 : Post) (x0 : Value) (x1 : Value) (x2 : Value) (v5 : Value) (v7 : Value) (v8 : Value) (v12 : Value) (v17 : Value) (v21 : Value) (v22 : Value) (v26 : Value) (v31 : Value) (v35 : Value) : Prop := nwM (zc P ty_api_Op) ty_api_Op h32 fun v87 h88 => ldV (some (some 7)) v1 h88 = some v41 ∧ ldV (some (some 7)) v3 h88 = some v42 ∧ (callM P fn_doormanlaw15_writing #[v41] h88 fun v89 h90 => d_doormanlaw15_WriteHolds_12 v3 h90 v42 v87 v89 q38 x0 x1 x2 v1 v5 v7 v8 v12 v17 v21 v22 v26 v31 v35 v41) ∧ (nwM (zc P ty_api_Op) ty_api_Op h88 fun v103 h104 => ldV (some (some 7)) v1 h104 = some v41 ∧ ldV (some (some 7)) v3 h104 = some v42 ∧ callM P fn_doormanlaw15_writing #[v41] h104 fun v105 h106 => ldV (some (some 7)) v3 h106 = some v42 ∧ callM P fn_doormanlaw15_writing #[v42] h106 fun v107 h108 => stM (some 7) v87 v105 h108 fun h109 => stM (some 7) v103 v107 h109 fun h110 => q38 .normal [] (puts (envOf [x0, x1, x2]) [(4, v1), (5, v3), (6, (Go.Value.bool false)), (18, v5), (19, v7), (20, v7), (21, v8), (22, v12), (23, v17), (24, v21), (25, v21), (26, v22), (27, v26), (28, v31), (29, v35), (31, v41), (33, v42), (7, v87), (8, v103), (32, v105), (34, v107)]) h110)
def d_doormanlaw15_WriteHolds_16 (h116 : Heap) (v113 : Value) (v111 : Value) (v115 : Value) (q38 : Post) (x0 : Value) (x1 : Value) (x2 : Value) (v1 : Value) (v3 : Value) (v5 : Value) (v7 : Value) (v8 : Value) (v12 : Value) (v17 : Value) (v21 : Value) (v22 : Value) (v26 : Value) (v31 : Value) (v35 : Value) (v41 : Value) (v42 : Value) : Prop := nwM (zc P ty_api_Op) ty_api_Op h116 fun v117 h118 => stM (some 7) v117 v113 h118 fun h119 => stM (some 7) v111 v115 h119 fun h120 => q38 .normal [] (puts (envOf [x0, x1, x2]) [(4, v1), (5, v3), (6, (Go.Value.bool false)), (18, v5), (19, v7), (20, v7), (21, v8), (22, v12), (23, v17), (24, v21), (25, v21), (26, v22), (27, v26), (28, v31), (29, v35), (31, v41), (33, v42), (8, v111), (32, v113), (34, v115), (7, v117)]) h120
def d_doormanlaw15_WriteHolds_15 (v3 : Value) (h114 : Heap) (v42 : Value) (v113 : Value) (v111 : Value) (q38 : Post) (x0 : Value) (x1 : Value) (x2 : Value) (v1 : Value) (v5 : Value) (v7 : Value) (v8 : Value) (v12 : Value) (v17 : Value) (v21 : Value) (v22 : Value) (v26 : Value) (v31 : Value) (v35 : Value) (v41 : Value) : Prop := ldV (some (some 7)) v3 h114 = some v42 ∧ (callM P fn_doormanlaw15_writing #[v42] h114 fun v115 h116 => d_doormanlaw15_WriteHolds_16 h116 v113 v111 v115 q38 x0 x1 x2 v1 v3 v5 v7 v8 v12 v17 v21 v22 v26 v31 v35 v41 v42) ∧ (nwM (zc P ty_api_Op) ty_api_Op h114 fun v121 h122 => ldV (some (some 7)) v3 h122 = some v42 ∧ callM P fn_doormanlaw15_writing #[v42] h122 fun v123 h124 => stM (some 7) v121 v113 h124 fun h125 => stM (some 7) v111 v123 h125 fun h126 => q38 .normal [] (puts (envOf [x0, x1, x2]) [(4, v1), (5, v3), (6, (Go.Value.bool false)), (18, v5), (19, v7), (20, v7), (21, v8), (22, v12), (23, v17), (24, v21), (25, v21), (26, v22), (27, v26), (28, v31), (29, v35), (31, v41), (33, v42), (8, v111), (32, v113), (7, v121), (34, v123)]) h126)
def d_doormanlaw15_WriteHolds_14 (h32 : Heap) (v1 : Value) (v41 : Value) (v3 : Value) (v42 : Value) (q38 : Post) (x0 : Value) (x1 : Value) (x2 : Value) (v5 : Value) (v7 : Value) (v8 : Value) (v12 : Value) (v17 : Value) (v21 : Value) (v22 : Value) (v26 : Value) (v31 : Value) (v35 : Value) : Prop := nwM (zc P ty_api_Op) ty_api_Op h32 fun v111 h112 => ldV (some (some 7)) v1 h112 = some v41 ∧ ldV (some (some 7)) v3 h112 = some v42 ∧ (callM P fn_doormanlaw15_writing #[v41] h112 fun v113 h114 => d_doormanlaw15_WriteHolds_15 v3 h114 v42 v113 v111 q38 x0 x1 x2 v1 v5 v7 v8 v12 v17 v21 v22 v26 v31 v35 v41) ∧ (nwM (zc P ty_api_Op) ty_api_Op h112 fun v127 h128 => ldV (some (some 7)) v1 h128 = some v41 ∧ ldV (some (some 7)) v3 h128 = some v42 ∧ callM P fn_doormanlaw15_writing #[v41] h128 fun v129 h130 => ldV (some (some 7)) v3 h130 = some v42 ∧ callM P fn_doormanlaw15_writing #[v42] h130 fun v131 h132 => stM (some 7) v127 v129 h132 fun h133 => stM (some 7) v111 v131 h133 fun h134 => q38 .normal [] (puts (envOf [x0, x1, x2]) [(4, v1), (5, v3), (6, (Go.Value.bool false)), (18, v5), (19, v7), (20, v7), (21, v8), (22, v12), (23, v17), (24, v21), (25, v21), (26, v22), (27, v26), (28, v31), (29, v35), (31, v41), (33, v42), (8, v111), (7, v127), (32, v129), (34, v131)]) h134)
def d_doormanlaw15_WriteHolds_3 (v1 : Value) (h32 : Heap) (v3 : Value) (q38 : Post) (x0 : Value) (x1 : Value) (x2 : Value) (v5 : Value) (v7 : Value) (v8 : Value) (v12 : Value) (v17 : Value) (v21 : Value) (v22 : Value) (v26 : Value) (v31 : Value) (v35 : Value) : Prop := ov (ldV (some (some 7)) v1 h32) fun v41 => ov (ldV (some (some 7)) v3 h32) fun v42 => (d_doormanlaw15_WriteHolds_4 v41 h32 v3 v42 q38 x0 x1 x2 v1 v5 v7 v8 v12 v17 v21 v22 v26 v31 v35) ∧ (d_doormanlaw15_WriteHolds_11 h32 v1 v41 v3 v42 q38 x0 x1 x2 v5 v7 v8 v12 v17 v21 v22 v26 v31 v35) ∧ (d_doormanlaw15_WriteHolds_14 h32 v1 v41 v3 v42 q38 x0 x1 x2 v5 v7 v8 v12 v17 v21 v22 v26 v31 v35)
def d_doormanlaw15_WriteHolds_22 (K : Value → Heap → Prop) (m : List Nat) (s39 : Env) (v135 : Value) (v136 : Value) (v138 : Value) (v142 : Value) (v147 : Value) (v148 : Value) (v150 : Value) (v152 : Value) (v153 : Value) (v154 : Value) (v155 : Value) (v158 : Value) (v162 : Value) (h159 : Heap) : Prop := (retM P [.tmp 6] K) .ret m (puts s39 [(35, v135), (36, v136), (37, v136), (38, v138), (39, v142), (40, v147), (42, v148), (43, v150), (41, v150), (44, v152), (45, v153), (9, v152), (10, v153), (46, v153), (47, v154), (48, v154), (49, v155), (50, v158), (51, v162), (6, (Go.Value.bool false))]) h159
def d_doormanlaw15_WriteHolds_28 (s175 : Env) (q177 : Post) (m : List Nat) (v178 : Value) (v179 : Value) (h180 : Heap) : Prop := ov (binV Go.BinOp.add 2 true (s175 14) (Go.Value.int Go.IntKind.i64 1)) fun v181 => q177 .normal m (puts s175 [(62, (s175 14)), (63, (s175 13)), (64, v178), (67, (s175 11)), (68, (s175 9)), (69, (s175 14)), (70, v179), (65, (s175 14)), (66, v181), (14, v181)]) h180
def d_doormanlaw15_WriteHolds_27 (s175 : Env) (h176 : Heap) (q177 : Post) (m : List Nat) (v178 : Value) : Prop := callM P fn_write_Proc_Step #[(s175 11), (s175 9), (s175 14)] h176 fun v179 h180 => d_doormanlaw15_WriteHolds_28 s175 q177 m v178 v179 h180
def d_doormanlaw15_WriteHolds_26 (s175 : Env) (h176 : Heap) (q177 : Post) (m : List Nat) : Prop := ov (binV Go.BinOp.lss 2 false (s175 14) (s175 13)) fun v178 => cdM v178 (d_doormanlaw15_WriteHolds_27 s175 h176 q177 m v178) (q177 (.exit 0) m (puts s175 [(62, (s175 14)), (63, (s175 13)), (64, v178)]) h176)
def d_doormanlaw15_WriteHolds_25 (m : List Nat) (s39 : Env) (v135 : Value) (v136 : Value) (v138 : Value) (v142 : Value) (v147 : Value) (v148 : Value) (v150 : Value) (v152 : Value) (v153 : Value) (v154 : Value) (v155 : Value) (v158 : Value) (v162 : Value) (v163 : Value) (v164 : Value) (v165 : Value) (v167 : Value) (v169 : Value) (v170 : Value) (v171 : Value) (h168 : Heap) (q172 : Post) : Prop := loopM (fun m s175 h176 q177 => d_doormanlaw15_WriteHolds_26 s175 h176 q177 m) m (puts s39 [(35, v135), (36, v136), (37, v136), (38, v138), (39, v142), (40, v147), (42, v148), (43, v150), (41, v150), (44, v152), (45, v153), (9, v152), (10, v153), (46, v153), (47, v154), (48, v154), (49, v155), (50, v158), (51, v162), (52, v152), (53, v163), (55, v152), (56, v164), (54, v165), (57, v167), (11, v165), (12, v167), (58, (s39 0)), (59, v169), (60, v170), (61, v171), (13, v171), (14, (Go.Value.int Go.IntKind.i64 0))]) h168 (blkM 0 q172)
def d_doormanlaw15_WriteHolds_33 (s185 : Env) (q187 : Post) (m : List Nat) (v188 : Value) (v189 : Value) (v190 : Value) (h191 : Heap) : Prop := ov (binV Go.BinOp.add 2 true (s185 15) (Go.Value.int Go.IntKind.i64 1)) fun v192 => q187 .normal m (puts s185 [(71, (s185 15)), (72, v188), (75, (s185 12)), (76, (s185 9)), (77, (s185 15)), (78, v189), (79, v190), (73, (s185 15)), (74, v192), (15, v192)]) h191
def d_doormanlaw15_WriteHolds_32 (s185 : Env) (h186 : Heap) (q187 : Post) (m : List Nat) (v188 : Value) : Prop := ov (binV Go.BinOp.add 2 true (Go.Value.int Go.IntKind.i64 100) (s185 15)) fun v189 => callM P fn_write_Proc_Step #[(s185 12), (s185 9), v189] h186 fun v190 h191 => d_doormanlaw15_WriteHolds_33 s185 q187 m v188 v189 v190 h191
def d_doormanlaw15_WriteHolds_31 (s185 : Env) (h186 : Heap) (q187 : Post) (m : List Nat) : Prop := ov (binV Go.BinOp.lss 2 true (s185 15) (Go.Value.int Go.IntKind.i64 20)) fun v188 => cdM v188 (d_doormanlaw15_WriteHolds_32 s185 h186 q187 m v188) (q187 (.exit 2) m (puts s185 [(71, (s185 15)), (72, v188)]) h186)
def d_doormanlaw15_WriteHolds_30 (m : List Nat) (s173 : Env) (h174 : Heap) (q182 : Post) : Prop := loopM (fun m s185 h186 q187 => d_doormanlaw15_WriteHolds_31 s185 h186 q187 m) m (puts s173 [(15, (Go.Value.int Go.IntKind.i64 0))]) h174 (blkM 2 q182)
def d_doormanlaw15_WriteHolds_39 (q193 : Post) (m : List Nat) (s183 : Env) (v196 : Value) (v197 : Value) (v198 : Value) (v199 : Value) (v200 : Value) (v202 : Value) (v204 : Value) (v205 : Value) (v207 : Value) (v208 : Value) (v213 : Value) (v214 : Value) (v215 : Value) (v216 : Value) (v217 : Value) (v222 : Value) (v223 : Value) (v224 : Value) (v225 : Value) (v226 : Value) (v227 : Value) (v232 : Value) (v237 : Value) (v238 : Value) (h233 : Heap) : Prop := q193 .ret m (puts s183 [(80, (s183 9)), (81, v196), (82, v197), (84, (s183 9)), (85, v198), (86, v199), (83, v200), (87, v202), (88, v204), (89, (s183 12)), (90, v205), (91, v205), (92, v207), (93, v208), (94, v213), (95, v214), (96, v214), (97, v215), (98, v216), (99, v217), (100, v222), (101, v222), (102, v223), (104, v224), (105, v225), (106, v226), (103, v227), (107, v232), (108, v237), (109, v238), (6, (Go.Value.bool false))]) h233
def d_doormanlaw15_WriteHolds_40 (q193 : Post) (m : List Nat) (s183 : Env) (v196 : Value) (v197 : Value) (v198 : Value) (v199 : Value) (v200 : Value) (v202 : Value) (v204 : Value) (v205 : Value) (v207 : Value) (v208 : Value) (v213 : Value) (v214 : Value) (v215 : Value) (v216 : Value) (v217 : Value) (v222 : Value) (v223 : Value) (v224 : Value) (v225 : Value) (v226 : Value) (v227 : Value) (v232 : Value) (v237 : Value) (v238 : Value) (h233 : Heap) : Prop := q193 .normal m (puts s183 [(80, (s183 9)), (81, v196), (82, v197), (84, (s183 9)), (85, v198), (86, v199), (83, v200), (87, v202), (88, v204), (89, (s183 12)), (90, v205), (91, v205), (92, v207), (93, v208), (94, v213), (95, v214), (96, v214), (97, v215), (98, v216), (99, v217), (100, v222), (101, v222), (102, v223), (104, v224), (105, v225), (106, v226), (103, v227), (107, v232), (108, v237), (109, v238)]) h233
def d_doormanlaw15_WriteHolds_38 (v205 : Value) (s183 : Env) (h206 : Heap) (q193 : Post) (m : List Nat) (v196 : Value) (v197 : Value) (v198 : Value) (v199 : Value) (v200 : Value) (v202 : Value) (v204 : Value) : Prop := gv (isB v205 false) (fun k => k (s183 12)) fun v207 => gM (isB v205 false) (fun k210 => callM P fn_write_Proc_Placed #[v207] h206 fun v211 h212 => k210 v211 h212) h206 fun v208 h209 => gv (isB v205 false) (ov (binV Go.BinOp.neq 2 true v208 (Go.Value.int Go.IntKind.i64 (-1)))) fun v213 => ov (pkV v205 (Go.Value.bool true) v213) fun v214 => gv (isB v214 false) (fun k => k (s183 12)) fun v215 => gv (isB v214 false) (fun k => k (s183 9)) fun v216 => gM (isB v214 false) (fun k219 => callM P fn_write_Proc_Enabled #[v215, v216] h209 fun v220 h221 => k219 v220 h221) h209 fun v217 h218 => ov (pkV v214 (Go.Value.bool true) v217) fun v222 => gv (isB v222 false) (fun k => k (s183 12)) fun v223 => gv (isB v222 false) (fun k => k (s183 9)) fun v224 => gv (isB v222 false) (ov (faV (some 1) (s183 7))) fun v225 => gv (isB v222 false) (ov (ldV (some none) v225 h218)) fun v226 => gM (isB v222 false) (fun k229 => callM P fn_write_Proc_Waits #[v223] h218 fun v230 h231 => k229 v230 h231) h218 fun v227 h228 => ((isB v222 false) = true → ldV (some none) v225 h228 = some v226) ∧ gM (isB v222 false) (fun k234 => callM P fn_hall_Hall_Stripe #[v224, v226] h228 fun v235 h236 => k234 v235 h236) h228 fun v232 h233 => gv (isB v222 false) (ov (binV Go.BinOp.neq 2 false v227 v232)) fun v237 => ov (pkV v222 (Go.Value.bool true) v237) fun v238 => cdM v238 (d_doormanlaw15_WriteHolds_39 q193 m s183 v196 v197 v198 v199 v200 v202 v204 v205 v207 v208 v213 v214 v215 v216 v217 v222 v223 v224 v225 v226 v227 v232 v237 v238 h233) (d_doormanlaw15_WriteHolds_40 q193 m s183 v196 v197 v198 v199 v200 v202 v204 v205 v207 v208 v213 v214 v215 v216 v217 v222 v223 v224 v225 v226 v227 v232 v237 v238 h233)
def d_doormanlaw15_WriteHolds_37 (s183 : Env) (h203 : Heap) (q193 : Post) (m : List Nat) (v196 : Value) (v197 : Value) (v198 : Value) (v199 : Value) (v200 : Value) (v202 : Value) (v204 : Value) : Prop := callM P fn_write_Proc_Done #[(s183 12)] h203 fun v205 h206 => d_doormanlaw15_WriteHolds_38 v205 s183 h206 q193 m v196 v197 v198 v199 v200 v202 v204
def d_doormanlaw15_WriteHolds_43 (q193 : Post) (m : List Nat) (s183 : Env) (v196 : Value) (v197 : Value) (v198 : Value) (v199 : Value) (v200 : Value) (v202 : Value) (v204 : Value) (v239 : Value) (v241 : Value) (h240 : Heap) : Prop := q193 .ret m (puts s183 [(80, (s183 9)), (81, v196), (82, v197), (84, (s183 9)), (85, v198), (86, v199), (83, v200), (87, v202), (88, v204), (110, (s183 12)), (111, v239), (112, v241), (6, (Go.Value.bool false))]) h240
def d_doormanlaw15_WriteHolds_44 (q193 : Post) (m : List Nat) (s183 : Env) (v196 : Value) (v197 : Value) (v198 : Value) (v199 : Value) (v200 : Value) (v202 : Value) (v204 : Value) (v239 : Value) (v241 : Value) (h240 : Heap) : Prop := q193 .normal m (puts s183 [(80, (s183 9)), (81, v196), (82, v197), (84, (s183 9)), (85, v198), (86, v199), (83, v200), (87, v202), (88, v204), (110, (s183 12)), (111, v239), (112, v241)]) h240
def d_doormanlaw15_WriteHolds_42 (v239 : Value) (q193 : Post) (m : List Nat) (s183 : Env) (v196 : Value) (v197 : Value) (v198 : Value) (v199 : Value) (v200 : Value) (v202 : Value) (v204 : Value) (h240 : Heap) : Prop := ov (unV Go.UnOp.not v239) fun v241 => cdM v241 (d_doormanlaw15_WriteHolds_43 q193 m s183 v196 v197 v198 v199 v200 v202 v204 v239 v241 h240) (d_doormanlaw15_WriteHolds_44 q193 m s183 v196 v197 v198 v199 v200 v202 v204 v239 v241 h240)
def d_doormanlaw15_WriteHolds_41 (s183 : Env) (h203 : Heap) (q193 : Post) (m : List Nat) (v196 : Value) (v197 : Value) (v198 : Value) (v199 : Value) (v200 : Value) (v202 : Value) (v204 : Value) : Prop := callM P fn_write_Proc_Done #[(s183 12)] h203 fun v239 h240 => d_doormanlaw15_WriteHolds_42 v239 q193 m s183 v196 v197 v198 v199 v200 v202 v204 h240
def d_doormanlaw15_WriteHolds_36 (v198 : Value) (h201 : Heap) (v199 : Value) (s183 : Env) (v200 : Value) (q193 : Post) (m : List Nat) (v196 : Value) (v197 : Value) : Prop := ldV (some none) v198 h201 = some v199 ∧ callM P fn_hall_Hall_Stripe #[(s183 9), v199] h201 fun v202 h203 => ov (binV Go.BinOp.eql 2 false v200 v202) fun v204 => cdM v204 (d_doormanlaw15_WriteHolds_37 s183 h203 q193 m v196 v197 v198 v199 v200 v202 v204) (d_doormanlaw15_WriteHolds_41 s183 h203 q193 m v196 v197 v198 v199 v200 v202 v204)
def d_doormanlaw15_WriteHolds_35 (s183 : Env) (h184 : Heap) (q193 : Post) (m : List Nat) : Prop := ov (faV (some 1) (s183 7)) fun v196 => ov (ldV (some none) v196 h184) fun v197 => ov (faV (some 1) (s183 8)) fun v198 => ov (ldV (some none) v198 h184) fun v199 => callM P fn_hall_Hall_Stripe #[(s183 9), v197] h184 fun v200 h201 => d_doormanlaw15_WriteHolds_36 v198 h201 v199 s183 v200 q193 m v196 v197
def d_doormanlaw15_WriteHolds_49 (s245 : Env) (q247 : Post) (m : List Nat) (v248 : Value) (v249 : Value) (h250 : Heap) : Prop := ov (binV Go.BinOp.add 2 true (s245 16) (Go.Value.int Go.IntKind.i64 1)) fun v251 => q247 .normal m (puts s245 [(114, (s245 16)), (115, v248), (118, (s245 11)), (119, (s245 9)), (120, (s245 16)), (121, v249), (116, (s245 16)), (117, v251), (16, v251)]) h250
def d_doormanlaw15_WriteHolds_48 (s245 : Env) (h246 : Heap) (q247 : Post) (m : List Nat) (v248 : Value) : Prop := callM P fn_write_Proc_Step #[(s245 11), (s245 9), (s245 16)] h246 fun v249 h250 => d_doormanlaw15_WriteHolds_49 s245 q247 m v248 v249 h250
def d_doormanlaw15_WriteHolds_47 (s245 : Env) (h246 : Heap) (q247 : Post) (m : List Nat) : Prop := ov (binV Go.BinOp.lss 2 true (s245 16) (Go.Value.int Go.IntKind.i64 7)) fun v248 => cdM v248 (d_doormanlaw15_WriteHolds_48 s245 h246 q247 m v248) (q247 (.exit 4) m (puts s245 [(114, (s245 16)), (115, v248)]) h246)
def d_doormanlaw15_WriteHolds_46 (m : List Nat) (s194 : Env) (h195 : Heap) (q242 : Post) : Prop := loopM (fun m s245 h246 q247 => d_doormanlaw15_WriteHolds_47 s245 h246 q247 m) m (puts s194 [(113, (s194 13)), (16, (s194 13))]) h195 (blkM 4 q242)
def d_doormanlaw15_WriteHolds_54 (s255 : Env) (q257 : Post) (m : List Nat) (v258 : Value) (v259 : Value) (v260 : Value) (h261 : Heap) : Prop := ov (binV Go.BinOp.add 2 true (s255 17) (Go.Value.int Go.IntKind.i64 1)) fun v262 => q257 .normal m (puts s255 [(122, (s255 17)), (123, v258), (126, (s255 12)), (127, (s255 9)), (128, (s255 17)), (129, v259), (130, v260), (124, (s255 17)), (125, v262), (17, v262)]) h261
def d_doormanlaw15_WriteHolds_53 (s255 : Env) (h256 : Heap) (q257 : Post) (m : List Nat) (v258 : Value) : Prop := ov (binV Go.BinOp.add 2 true (Go.Value.int Go.IntKind.i64 200) (s255 17)) fun v259 => callM P fn_write_Proc_Step #[(s255 12), (s255 9), v259] h256 fun v260 h261 => d_doormanlaw15_WriteHolds_54 s255 q257 m v258 v259 v260 h261
def d_doormanlaw15_WriteHolds_52 (s255 : Env) (h256 : Heap) (q257 : Post) (m : List Nat) : Prop := ov (binV Go.BinOp.lss 2 true (s255 17) (Go.Value.int Go.IntKind.i64 7)) fun v258 => cdM v258 (d_doormanlaw15_WriteHolds_53 s255 h256 q257 m v258) (q257 (.exit 6) m (puts s255 [(122, (s255 17)), (123, v258)]) h256)
def d_doormanlaw15_WriteHolds_51 (m : List Nat) (s243 : Env) (h244 : Heap) (q252 : Post) : Prop := loopM (fun m s255 h256 q257 => d_doormanlaw15_WriteHolds_52 s255 h256 q257 m) m (puts s243 [(17, (Go.Value.int Go.IntKind.i64 0))]) h244 (blkM 6 q252)
def d_doormanlaw15_WriteHolds_56 (v263 : Value) (s253 : Env) (h264 : Heap) (K : Value → Heap → Prop) (m : List Nat) : Prop := gM (isB v263 true) (fun k267 => k267 (s253 12) h264) h264 fun v265 h266 => gM (isB v263 true) (fun k270 => callM P fn_write_Proc_Done #[v265] h266 fun v271 h272 => k270 v271 h272) h266 fun v268 h269 => ov (pkV v263 v268 (Go.Value.bool false)) fun v273 => (retM P [.tmp 6] K) .ret m (puts s253 [(131, (s253 11)), (132, v263), (133, v263), (134, v265), (135, v268), (136, v273), (6, v273)]) h269
def d_doormanlaw15_WriteHolds_55 (s253 : Env) (h254 : Heap) (K : Value → Heap → Prop) (m : List Nat) : Prop := callM P fn_write_Proc_Done #[(s253 11)] h254 fun v263 h264 => d_doormanlaw15_WriteHolds_56 v263 s253 h264 K m
def d_doormanlaw15_WriteHolds_50 (m : List Nat) (s243 : Env) (h244 : Heap) (K : Value → Heap → Prop) : Prop := seqM (fun q252 => d_doormanlaw15_WriteHolds_51 m s243 h244 q252) (fun m s253 h254 => d_doormanlaw15_WriteHolds_55 s253 h254 K m) (retM P [.tmp 6] K)
def d_doormanlaw15_WriteHolds_45 (m : List Nat) (s194 : Env) (h195 : Heap) (K : Value → Heap → Prop) : Prop := seqM (fun q242 => d_doormanlaw15_WriteHolds_46 m s194 h195 q242) (fun m s243 h244 => d_doormanlaw15_WriteHolds_50 m s243 h244 K) (retM P [.tmp 6] K)
def d_doormanlaw15_WriteHolds_34 (s183 : Env) (h184 : Heap) (m : List Nat) (K : Value → Heap → Prop) : Prop := seqM (fun q193 => d_doormanlaw15_WriteHolds_35 s183 h184 q193 m) (fun m s194 h195 => d_doormanlaw15_WriteHolds_45 m s194 h195 K) (retM P [.tmp 6] K)
def d_doormanlaw15_WriteHolds_29 (m : List Nat) (s173 : Env) (h174 : Heap) (K : Value → Heap → Prop) : Prop := seqM (fun q182 => d_doormanlaw15_WriteHolds_30 m s173 h174 q182) (fun m s183 h184 => d_doormanlaw15_WriteHolds_34 s183 h184 m K) (retM P [.tmp 6] K)
def d_doormanlaw15_WriteHolds_24 (s39 : Env) (h166 : Heap) (v164 : Value) (v152 : Value) (m : List Nat) (v135 : Value) (v136 : Value) (v138 : Value) (v142 : Value) (v147 : Value) (v148 : Value) (v150 : Value) (v153 : Value) (v154 : Value) (v155 : Value) (v158 : Value) (v162 : Value) (v163 : Value) (v165 : Value) (K : Value → Heap → Prop) : Prop := ldV (some (some 7)) (s39 8) h166 = some v164 ∧ callM P fn_write_New #[v152, (Go.Value.int Go.IntKind.i64 1), v164] h166 fun v167 h168 => ov (cvV (some .i64) (s39 0)) fun v169 => ov (binV Go.BinOp.rem 2 true v169 (Go.Value.int Go.IntKind.i64 6)) fun v170 => ov (binV Go.BinOp.add 2 true (Go.Value.int Go.IntKind.i64 1) v170) fun v171 => seqM (fun q172 => d_doormanlaw15_WriteHolds_25 m s39 v135 v136 v138 v142 v147 v148 v150 v152 v153 v154 v155 v158 v162 v163 v164 v165 v167 v169 v170 v171 h168 q172) (fun m s173 h174 => d_doormanlaw15_WriteHolds_29 m s173 h174 K) (retM P [.tmp 6] K)
def d_doormanlaw15_WriteHolds_23 (s39 : Env) (h159 : Heap) (v152 : Value) (m : List Nat) (v135 : Value) (v136 : Value) (v138 : Value) (v142 : Value) (v147 : Value) (v148 : Value) (v150 : Value) (v153 : Value) (v154 : Value) (v155 : Value) (v158 : Value) (v162 : Value) (K : Value → Heap → Prop) : Prop := ov (ldV (some (some 7)) (s39 7) h159) fun v163 => ov (ldV (some (some 7)) (s39 8) h159) fun v164 => callM P fn_write_New #[v152, (Go.Value.int Go.IntKind.i64 0), v163] h159 fun v165 h166 => d_doormanlaw15_WriteHolds_24 s39 h166 v164 v152 m v135 v136 v138 v142 v147 v148 v150 v153 v154 v155 v158 v162 v163 v165 K
def d_doormanlaw15_WriteHolds_21 (v150 : Value) (h151 : Heap) (K : Value → Heap → Prop) (m : List Nat) (s39 : Env) (v135 : Value) (v136 : Value) (v138 : Value) (v142 : Value) (v147 : Value) (v148 : Value) : Prop := ov (exV v150 0) fun v152 => ov (exV v150 1) fun v153 => ov (binV Go.BinOp.neq 2 true v153 (Go.Value.int Go.IntKind.i64 0)) fun v154 => gM (isB v154 false) (fun k157 => k157 v152 h151) h151 fun v155 h156 => gM (isB v154 false) (fun k160 => ov (binV Go.BinOp.eql 4 true v155 (Go.Value.pointer none)) fun v161 => k160 v161 h156) h156 fun v158 h159 => ov (pkV v154 (Go.Value.bool true) v158) fun v162 => cdM v162 (d_doormanlaw15_WriteHolds_22 K m s39 v135 v136 v138 v142 v147 v148 v150 v152 v153 v154 v155 v158 v162 h159) (d_doormanlaw15_WriteHolds_23 s39 h159 v152 m v135 v136 v138 v142 v147 v148 v150 v153 v154 v155 v158 v162 K)
def d_doormanlaw15_WriteHolds_20 (v148 : Value) (h149 : Heap) (K : Value → Heap → Prop) (m : List Nat) (s39 : Env) (v135 : Value) (v136 : Value) (v138 : Value) (v142 : Value) (v147 : Value) : Prop := callM P fn_hall_New #[v148] h149 fun v150 h151 => d_doormanlaw15_WriteHolds_21 v150 h151 K m s39 v135 v136 v138 v142 v147 v148
def d_doormanlaw15_WriteHolds_19 (h143 : Heap) (K : Value → Heap → Prop) (m : List Nat) (s39 : Env) (v135 : Value) (v136 : Value) (v138 : Value) (v142 : Value) (v147 : Value) : Prop := callM P fn_doormanlaw10_Small #[] h143 fun v148 h149 => d_doormanlaw15_WriteHolds_20 v148 h149 K m s39 v135 v136 v138 v142 v147
def d_doormanlaw15_WriteHolds_18 (v136 : Value) (s39 : Env) (h137 : Heap) (K : Value → Heap → Prop) (m : List Nat) (v135 : Value) : Prop := gM (isB v136 false) (fun k140 => ov (ldV (some (some 7)) (s39 8) h137) fun v141 => k140 v141 h137) h137 fun v138 h139 => gM (isB v136 false) (fun k144 => callM P fn_model_Bad #[v138] h139 fun v145 h146 => k144 v145 h146) h139 fun v142 h143 => ov (pkV v136 (Go.Value.bool true) v142) fun v147 => cdM v147 ((retM P [.tmp 6] K) .ret m (puts s39 [(35, v135), (36, v136), (37, v136), (38, v138), (39, v142), (40, v147), (6, (Go.Value.bool true))]) h143) (d_doormanlaw15_WriteHolds_19 h143 K m s39 v135 v136 v138 v142 v147)
def d_doormanlaw15_WriteHolds_17 (s39 : Env) (h40 : Heap) (K : Value → Heap → Prop) (m : List Nat) : Prop := ov (ldV (some (some 7)) (s39 7) h40) fun v135 => callM P fn_model_Bad #[v135] h40 fun v136 h137 => d_doormanlaw15_WriteHolds_18 v136 s39 h137 K m v135
def d_doormanlaw15_WriteHolds_2 (v1 : Value) (h32 : Heap) (v3 : Value) (x0 : Value) (x1 : Value) (x2 : Value) (v5 : Value) (v7 : Value) (v8 : Value) (v12 : Value) (v17 : Value) (v21 : Value) (v22 : Value) (v26 : Value) (v31 : Value) (v35 : Value) (K : Value → Heap → Prop) : Prop := seqM (fun q38 => d_doormanlaw15_WriteHolds_3 v1 h32 v3 q38 x0 x1 x2 v5 v7 v8 v12 v17 v21 v22 v26 v31 v35) (fun m s39 h40 => d_doormanlaw15_WriteHolds_17 s39 h40 K m) (retM P [.tmp 6] K)
def d_doormanlaw15_WriteHolds_1 (v5 : Value) (v1 : Value) (h6 : Heap) (v3 : Value) (K : Value → Heap → Prop) (x0 : Value) (x1 : Value) (x2 : Value) : Prop := ov (unV Go.UnOp.not v5) fun v7 => gM (isB v7 false) (fun k10 => ov (ldV (some (some 7)) v1 h6) fun v11 => k10 v11 h6) h6 fun v8 h9 => gM (isB v7 false) (fun k14 => callM P fn_doormanref10_Short #[v8] h9 fun v15 h16 => k14 v15 h16) h9 fun v12 h13 => gM (isB v7 false) (fun k19 => ov (unV Go.UnOp.not v12) fun v20 => k19 v20 h13) h13 fun v17 h18 => ov (pkV v7 (Go.Value.bool true) v17) fun v21 => gM (isB v21 false) (fun k24 => ov (ldV (some (some 7)) v3 h18) fun v25 => k24 v25 h18) h18 fun v22 h23 => gM (isB v21 false) (fun k28 => callM P fn_doormanref10_Short #[v22] h23 fun v29 h30 => k28 v29 h30) h23 fun v26 h27 => gM (isB v21 false) (fun k33 => ov (unV Go.UnOp.not v26) fun v34 => k33 v34 h27) h27 fun v31 h32 => ov (pkV v21 (Go.Value.bool true) v31) fun v35 => cdM v35 (callM P fn_doormanlaw15_awake #[] h32 fun v36 h37 => K v36 h37) (d_doormanlaw15_WriteHolds_2 v1 h32 v3 x0 x1 x2 v5 v7 v8 v12 v17 v21 v22 v26 v31 v35 K)
def d_doormanlaw15_WriteHolds (x0 x1 x2 : Value) (h : Heap) (K : Value → Heap → Prop) : Prop := nwM (some x1.cells) ty_api_Op h fun v1 h2 => nwM (some x2.cells) ty_api_Op h2 fun v3 h4 => callM P fn_doormanlaw15_awake #[] h4 fun v5 h6 => d_doormanlaw15_WriteHolds_1 v5 v1 h6 v3 K x0 x1 x2
theorem e_doormanlaw15_WriteHolds {x0 x1 x2 : Value} {h : Heap} {K : Value → Heap → Prop} (hd : d_doormanlaw15_WriteHolds x0 x1 x2 h K) : callM P fn_doormanlaw15_WriteHolds #[x0, x1, x2] h K :=
  call_of good mixed (fn := Tryz.f5) (args := [x0, x1, x2]) Tryz.func5 rfl (by kernel_rfl) (of_decide_eq_true rfl) (B := d_doormanlaw15_WriteHolds x0 x1 x2 h K) (by kernel_rfl) hd
end Go.Proofs.YtcnphhhcknhhaaaGreat
namespace Go.Proofs.YtcnphhhcknhhaaaGreat
open Go Go.Den Go.MapKept
set_option linter.unusedSimpArgs false
set_option linter.unusedVariables false
set_option maxRecDepth 20000
/-- Two results are stored in two new boxes. -/
theorem st2 {h0 h : Heap} {va vb n : Nat} {z z' : Array Value} {ty : TypeId} {a b : Value} (e0 : Ext h0 h) (na : h0 va = none) (nb : h0 vb = none) (ca : h va = some (.cells z ty (0, 0))) (cb : h vb = some (.cells z' ty (0, 0))) (ne : va ≠ vb)
    (sa : a.cells.size = n) (sb : b.cells.size = n) (oa : a.cells.toList.all (fun u => u.oneCell') = true) (ob : b.cells.toList.all (fun u => u.oneCell') = true) (hz : z.size = n) (hz' : z'.size = n) {K : Heap → Prop}
    (hk : ∀ h5, Ext h0 h5 → h5 va = some (.cells a.cells ty (0, 0)) → h5 vb = some (.cells b.cells ty (0, 0)) → K h5) :
    stM (some n) (ptr va) a h fun h1 => stM (some n) (ptr vb) b h1 K := by
  rw [stm_at ca sa (by omega) oa, stm_at (by rw [upd_ne (Ne.symm ne)]; exact cb) sb (by omega) ob]
  refine hk _ (ext_upd nb (ext_upd na e0)) ?_ ?_
  · rw [upd_ne ne, upd_same', over_all _ _ (by simp; omega)]
  · rw [upd_same', over_all _ _ (by simp; omega)]
theorem wstep_at {p : WP} {H : Hall} (hb : p.k.isBad = false) (n : Int) : (p.step H n).1.at_ = if p.enabled H = true then p.at_ + 1 else p.at_ := by
  unfold WP.step
  split
  · rename_i he
    rw [if_neg (by simp [hb])]
    exact stp_at p H n (enabled_at he)
  · rfl
theorem wstep_pl {p : WP} {H : Hall} (hb : p.k.isBad = false) (n : Int) (h : p.enabled H = false ∨ p.at_ ≠ 2) : (p.step H n).1.placed = p.placed := by
  cases he : p.enabled H with
  | false => simp [WP.step, he]
  | true =>
    have h2 : p.at_ ≠ 2 := h.resolve_left (by rw [he]; simp)
    have e1 : p.step H n = p.stp H n := by simp [WP.step, he, hb]
    have hl := enabled_at he
    rw [e1]
    have hc : p.at_ = 0 ∨ p.at_ = 1 ∨ p.at_ = 3 ∨ p.at_ = 4 ∨ p.at_ = 5 ∨ 6 ≤ p.at_ := by omega
    rcases hc with h | h | h | h | h | h
    · rw [stp0 H n h]
    · rw [stp1 H n h]
    · rw [stp3 H n h]
    · rw [stp4 H n h]
    · rw [stp5 H n h]
    · rw [stp6 H n h]
/-- Two writings beside each other. -/
structure Wh (sa sb : Nat) (p q : WP) : Prop where
  pb : p.k.isBad = false
  qb : q.k.isBad = false
  ps : p.s = sa
  qs : q.s = sb
def WhI (T0 : Tags) (h0 : Heap) (hp : Nat) (A : Nat → Nat) (sa sb : Nat) (J : Nat → WP → WP → Prop) (c0 k0 B : Nat) (v : Value) (h' : Heap) : Prop :=
  ∃ (T' : Tags) (n : Nat) (W : Wd) (M : Tbl) (p q : WP), Only UW T0 h0 T' h' ∧ WdM T' h' hp A W ∧ WdK (k0 + n) W M ∧ W.ps 0 = some (.w p) ∧ W.ps 1 = some (.w q) ∧ (∀ i, 2 ≤ i → W.ps i = none) ∧ W.H.n = 3 ∧ W.H.c = small ∧ Wh sa sb p q ∧ J n p q ∧ v = .int .i64 (c0 + n : Nat) ∧ n ≤ B
theorem wh_free {k : Nat} {W : Wd} {M : Tbl} {p q : WP} (x : WdK k W M) (h0 : W.ps 0 = some (.w p)) (h1 : W.ps 1 = some (.w q)) (h2 : ∀ i, 2 ≤ i → W.ps i = none) {s : Nat} (hs : s < W.H.n) : (W.H.ss s).who = 0 ↔ ¬ p.holds s ∧ ¬ q.holds s := by
  rw [x.li.free_iff hs]
  constructor
  · intro h; exact ⟨h 0 _ h0, h 1 _ h1⟩
  · rintro ⟨a, b⟩ i r hr
    match i with
    | 0 => rw [h0] at hr; cases hr; exact a
    | 1 => rw [h1] at hr; cases hr; exact b
    | i + 2 => rw [h2 (i + 2) (by omega)] at hr; cases hr
theorem wenabled_iff {p : WP} {H : Hall} (hb : p.k.isBad = false) : p.enabled H = true ↔ p.at_ < 7 ∧ (0 < p.at_ ∨ (H.ss p.s).who = 0) := by
  unfold WP.enabled WP.done WP.waits
  by_cases h0 : 0 < p.at_
  · simp -implicitDefEqProofs [hb, h0]
  · have : p.at_ = 0 := by omega
    simp -implicitDefEqProofs [hb, this]; omega
/-- A step of one of the two. -/
theorem wh_step {T0 : Tags} {h0 : Heap} {hp : Nat} {A : Nat → Nat} {sa sb c0 k0 B : Nat} {J : Nat → WP → WP → Prop} {T' : Tags} {h' : Heap} {n : Nat} {W : Wd} {M : Tbl} {p q : WP} (i : Nat) (hi : i = 0 ∨ i = 1) (m : Int) (hk : k0 + n < 100000) (hB : n + 1 ≤ B)
    (o : Only UW T0 h0 T' h') (x : WdM T' h' hp A W) (y : WdK (k0 + n) W M) (hp0 : W.ps 0 = some (.w p)) (hp1 : W.ps 1 = some (.w q)) (h2 : ∀ i, 2 ≤ i → W.ps i = none) (hn : W.H.n = 3) (hc : W.H.c = small) (wh : Wh sa sb p q)
    (hJ : J (n + 1) (if i = 0 then (p.step W.H m).1 else p) (if i = 1 then (q.step W.H m).1 else q)) {K : Value → Heap → Prop}
    (hK : ∀ h'', WhI T0 h0 hp A sa sb J c0 k0 B (.int .i64 (c0 + (n + 1) : Nat)) h'' → K (.tuple #[]) h'') : callM P fn_write_Proc_Step #[ptr (A i), ptr hp, .int .i64 m] h' K := by
  obtain ⟨r, hr⟩ : ∃ r, W.ps i = some (.w r) := by rcases hi with rfl | rfl; exact ⟨p, hp0⟩; exact ⟨q, hp1⟩
  refine wdstep_w m o.wf x y hk hr fun T2 h3 o2 x2 => ?_
  have hst : W.step i m = ⟨(r.step W.H m).2, bset W.ps i (some (.w (r.step W.H m).1)), bset W.ms i (W.ms i)⟩ := by simp only [Wd.step, hr, PR.step]
  have hn' := wstep_n r W.H m
  have e0 : (W.step i m).ps 0 = some (.w (if i = 0 then (p.step W.H m).1 else p)) := by
    rw [hst]
    rcases hi with rfl | rfl
    · rw [hp0] at hr; cases hr; rfl
    · exact hp0
  have e1 : (W.step i m).ps 1 = some (.w (if i = 1 then (q.step W.H m).1 else q)) := by
    rw [hst]
    rcases hi with rfl | rfl
    · exact hp1
    · rw [hp1] at hr; cases hr; rfl
  refine hK h3 ⟨T2, n + 1, _, _, _, _, o.trans o2, x2, y.step hk hr m, e0, e1, fun j hj => ?_, by rw [hst]; exact hn'.1.trans hn, by rw [hst]; exact hn'.2.trans hc, ?_, hJ, rfl, hB⟩
  · rw [hst]
    show bset _ _ _ _ = _
    rw [bset_ne (by omega)]; exact h2 j hj
  · have kp := wstep_k p W.H m
    have kq := wstep_k q W.H m
    refine ⟨?_, ?_, ?_, ?_⟩
    · split
      · rw [kp.1]; exact wh.pb
      · exact wh.pb
    · split
      · rw [kq.1]; exact wh.qb
      · exact wh.qb
    · split
      · rw [kp.2.2]; exact wh.ps
      · exact wh.ps
    · split
      · rw [kq.2.2]; exact wh.qs
      · exact wh.qs
/-- Which of the two may step. -/
theorem wh_en0 {k sa sb : Nat} {W : Wd} {M : Tbl} {p q : WP} (x : WdK k W M) (wh : Wh sa sb p q) (h0 : W.ps 0 = some (.w p)) (h1 : W.ps 1 = some (.w q)) (h2 : ∀ i, 2 ≤ i → W.ps i = none) (hs : sa < W.H.n) : p.enabled W.H = true ↔ p.at_ < 7 ∧ (0 < p.at_ ∨ ¬ (sa = sb ∧ 0 < q.at_ ∧ q.at_ < 7)) := by
  rw [wenabled_iff wh.pb, wh.ps, wh_free x h0 h1 h2 hs]
  simp -implicitDefEqProofs only [WP.holds, wh.pb, wh.qb, wh.ps, wh.qs, true_and, and_true]
  constructor
  · rintro ⟨a, b⟩; refine ⟨a, ?_⟩
    rcases b with b | b
    · exact .inl b
    · exact .inr (by omega)
  · rintro ⟨a, b⟩; refine ⟨a, ?_⟩
    rcases b with b | b
    · exact .inl b
    · by_cases hz : 0 < p.at_
      · exact .inl hz
      · exact .inr (by omega)
theorem wh_en1 {k sa sb : Nat} {W : Wd} {M : Tbl} {p q : WP} (x : WdK k W M) (wh : Wh sa sb p q) (h0 : W.ps 0 = some (.w p)) (h1 : W.ps 1 = some (.w q)) (h2 : ∀ i, 2 ≤ i → W.ps i = none) (hs : sb < W.H.n) : q.enabled W.H = true ↔ q.at_ < 7 ∧ (0 < q.at_ ∨ ¬ (sa = sb ∧ 0 < p.at_ ∧ p.at_ < 7)) := by
  rw [wenabled_iff wh.qb, wh.qs, wh_free x h0 h1 h2 hs]
  simp -implicitDefEqProofs only [WP.holds, wh.pb, wh.qb, wh.ps, wh.qs, true_and, and_true]
  constructor
  · rintro ⟨a, b⟩; refine ⟨a, ?_⟩
    rcases b with b | b
    · exact .inl b
    · exact .inr (by omega)
  · rintro ⟨a, b⟩; refine ⟨a, ?_⟩
    rcases b with b | b
    · exact .inl b
    · by_cases hz : 0 < q.at_
      · exact .inl hz
      · exact .inr (by omega)
def J1 (n : Nat) (p q : WP) : Prop := p.at_ = n ∧ q.at_ = 0 ∧ q.placed = -1
def J2 (N sa sb n : Nat) (p q : WP) : Prop := p.at_ = N ∧ (sa = sb → q.at_ = 0 ∧ q.placed = -1) ∧ (sa ≠ sb → q.at_ = min n 7)
def J3 (N sa sb n : Nat) (p q : WP) : Prop := p.at_ = N + n ∧ (sa = sb → q.at_ = 0) ∧ (sa ≠ sb → q.at_ = 7)
def J4 (sa sb n : Nat) (p q : WP) : Prop := p.at_ = 7 ∧ (sa = sb → q.at_ = n) ∧ (sa ≠ sb → q.at_ = 7)
end Go.Proofs.YtcnphhhcknhhaaaGreat
namespace Go.Proofs.YtcnphhhcknhhaaaGreat
open Go Go.Den Go.MapKept
set_option linter.unusedSimpArgs false
set_option linter.unusedVariables false
set_option maxRecDepth 20000
set_option maxHeartbeats 8000000 in
theorem whEnd {T0 : Tags} {h0 : Heap} {hp : Nat} {A : Nat → Nat} {sa sb N k0 : Nat} (hN : 1 ≤ N ∧ N ≤ 6) (hk0 : k0 ≤ 50) (ls : sa < 3 ∧ sb < 3) {h : Heap} {s : Env} (e9 : s 9 = ptr hp) (e11 : s 11 = ptr (A 0)) (e12 : s 12 = ptr (A 1)) (e13 : s 13 = .int .i64 N) (hI : WhI T0 h0 hp A sa sb (J3 N sa sb) N k0 (7 - N) (.int .i64 N) h)
    {K : Value → Heap → Prop} (hk : ∀ T' h' h'', Only UW T0 h0 T' h' → Ext h' h'' → K (.bool true) h'') : d_doormanlaw15_WriteHolds_45 [] s h K := by
  unfold d_doormanlaw15_WriteHolds_45
  rw [seqM_eq]
  unfold d_doormanlaw15_WriteHolds_46
  refine loop_on [9, 11, 12, 13] (fun s h' => WhI T0 h0 hp A sa sb (J3 N sa sb) N k0 (7 - N) (s 16) h') (fun s _ => (200 - num (s 16)).toNat) (by simpa [e13] using hI) ?_
  rintro s1 h' hf ⟨T', n, W, M, p, q, o, xm, ym, p0, p1, p2, hn, hc, wh, hJ, sv, hB⟩
  have f9 : s1 9 = ptr hp := (hf 9 (by simp)).trans (by simpa using e9)
  have f11 : s1 11 = ptr (A 0) := (hf 11 (by simp)).trans (by simpa using e11)
  have f12 : s1 12 = ptr (A 1) := (hf 12 (by simp)).trans (by simpa using e12)
  have f13 : s1 13 = .int .i64 N := (hf 13 (by simp)).trans (by simpa using e13)
  have en0 := wh_en0 ym wh p0 p1 p2 (by omega)
  have en1 := wh_en1 ym wh p0 p1 p2 (by omega)
  unfold d_doormanlaw15_WriteHolds_47
  by_cases hlt : N + n < 7
  · have hlt' : ((N + n : Nat) : Int) < (7 : Int) := by omega
    have hw : IntKind.i64.wrap (((N + n : Nat) : Int) + 1) = (N + (n + 1) : Nat) := by rw [wrap64_id (by omega) (by omega)]; omega
    have hoff : IntKind.i64.wrap (0 + ((N + n : Nat) : Int)) = 0 + ((N + n : Nat) : Int) := by rw [wrap64_id (by omega) (by omega)]
    have bl : binV .lss 2 true (.int .i64 (N + n : Nat)) (.int .i64 7) = some (.bool true) := by rw [bin_lss, decide_eq_true hlt']
    have b1 : binV .add 2 true (.int .i64 (N + n : Nat)) (.int .i64 1) = some (.int .i64 (N + (n + 1) : Nat)) := by rw [bin_add, hw]
    have b2 : binV .add 2 true (.int .i64 0) (.int .i64 (N + n : Nat)) = some (.int .i64 (0 + ((N + n : Nat) : Int))) := by rw [bin_add, hoff]
    simp -implicitDefEqProofs only [sv, bl, ov_s, cd_b, true_implies, reduceCtorEq, false_implies, and_true]
    unfold d_doormanlaw15_WriteHolds_48
    simp -implicitDefEqProofs only [f11, f9, sv]
    refine wh_step (A := A) (c0 := N) (k0 := k0) (B := (7 - N)) (J := (J3 N sa sb)) 0 (.inl rfl) _ (by omega) (by omega) o xm ym p0 p1 p2 hn hc wh ?_ fun h'' hI => ?_
    · simp -implicitDefEqProofs only [if_true, if_false, Nat.one_ne_zero, Nat.zero_ne_one]
      obtain ⟨a1, a2, a3⟩ := hJ
      refine ⟨?_, a2, a3⟩
      show (WP.step p W.H _).1.at_ = N + (n + 1)
      rw [wstep_at wh.pb, if_pos (en0.2 ⟨by omega, by omega⟩)]; omega
    unfold d_doormanlaw15_WriteHolds_49
    simp -implicitDefEqProofs [sv, b1, e9, e11, e12, e13, f9, f11, f12, f13, -Int.natCast_add, -Nat.zero_add]
    refine ⟨hI, ?_⟩
    omega
  · have bl : binV .lss 2 true (.int .i64 (N + n : Nat)) (.int .i64 7) = some (.bool false) := by
      rw [bin_lss]
      have : ¬ ((N + n : Nat) : Int) < (7 : Int) := by omega
      rw [decide_eq_false this]
    simp -implicitDefEqProofs only [sv, bl, ov_s, cd_b, true_implies, reduceCtorEq, false_implies, true_and]
    simp -implicitDefEqProofs only [blkM, lpM, thenM, reduceCtorEq, if_true, if_false]
    obtain rfl : (7 - N) = n := by omega
    unfold d_doormanlaw15_WriteHolds_50
    rw [seqM_eq]
    unfold d_doormanlaw15_WriteHolds_51
    refine loop_on [9, 11, 12, 13] (fun s h' => WhI T0 h0 hp A sa sb (J4 sa sb) 0 (k0 + (7 - N)) 7 (s 17) h') (fun s _ => (200 - num (s 17)).toNat) ⟨T', 0, W, M, p, q, o, xm, ym, p0, p1, p2, hn, hc, wh, ⟨by have := hJ.1; omega, fun e => hJ.2.1 e, fun e => hJ.2.2 e⟩, by simp, by omega⟩ ?_
    rintro s2 h' hf ⟨T', n, W, M, p, q, o, xm, ym, p0, p1, p2, hn, hc, wh, hJ, sv, hB⟩
    have g9 : s2 9 = ptr hp := (hf 9 (by simp)).trans (by simpa using f9)
    have g11 : s2 11 = ptr (A 0) := (hf 11 (by simp)).trans (by simpa using f11)
    have g12 : s2 12 = ptr (A 1) := (hf 12 (by simp)).trans (by simpa using f12)
    have g13 : s2 13 = .int .i64 N := (hf 13 (by simp)).trans (by simpa using f13)
    have en0 := wh_en0 ym wh p0 p1 p2 (by omega)
    have en1 := wh_en1 ym wh p0 p1 p2 (by omega)
    unfold d_doormanlaw15_WriteHolds_52
    by_cases hlt : 0 + n < 7
    · have hlt' : ((0 + n : Nat) : Int) < (7 : Int) := by omega
      have hw : IntKind.i64.wrap (((0 + n : Nat) : Int) + 1) = (0 + (n + 1) : Nat) := by rw [wrap64_id (by omega) (by omega)]; omega
      have hoff : IntKind.i64.wrap (200 + ((0 + n : Nat) : Int)) = 200 + ((0 + n : Nat) : Int) := by rw [wrap64_id (by omega) (by omega)]
      have bl : binV .lss 2 true (.int .i64 (0 + n : Nat)) (.int .i64 7) = some (.bool true) := by rw [bin_lss, decide_eq_true hlt']
      have b1 : binV .add 2 true (.int .i64 (0 + n : Nat)) (.int .i64 1) = some (.int .i64 (0 + (n + 1) : Nat)) := by rw [bin_add, hw]
      have b2 : binV .add 2 true (.int .i64 200) (.int .i64 (0 + n : Nat)) = some (.int .i64 (200 + ((0 + n : Nat) : Int))) := by rw [bin_add, hoff]
      simp -implicitDefEqProofs only [sv, bl, ov_s, cd_b, true_implies, reduceCtorEq, false_implies, and_true]
      unfold d_doormanlaw15_WriteHolds_53
      simp -implicitDefEqProofs only [g12, g9, sv, b2, ov_s]
      refine wh_step (A := A) (c0 := 0) (k0 := (k0 + (7 - N))) (B := 7) (J := (J4 sa sb)) 1 (.inr rfl) _ (by omega) (by omega) o xm ym p0 p1 p2 hn hc wh ?_ fun h'' hI => ?_
      · simp -implicitDefEqProofs only [if_true, if_false, Nat.one_ne_zero, Nat.zero_ne_one]
        obtain ⟨a1, a2, a3⟩ := hJ
        refine ⟨a1, fun e => ?_, fun e => ?_⟩
        · have b := a2 e
          show (WP.step q W.H _).1.at_ = n + 1
          rw [wstep_at wh.qb, if_pos (en1.2 ⟨by omega, by omega⟩)]; omega
        · have b := a3 e
          have en : ¬ q.enabled W.H = true := by rw [en1]; omega
          show (WP.step q W.H _).1.at_ = 7
          rw [wstep_at wh.qb, if_neg en]; exact b
      unfold d_doormanlaw15_WriteHolds_54
      simp -implicitDefEqProofs [sv, b1, f9, f11, f12, f13, g9, g11, g12, g13, -Int.natCast_add, -Nat.zero_add]
      refine ⟨hI, ?_⟩
      omega
    · have bl : binV .lss 2 true (.int .i64 (0 + n : Nat)) (.int .i64 7) = some (.bool false) := by
        rw [bin_lss]
        have : ¬ ((0 + n : Nat) : Int) < (7 : Int) := by omega
        rw [decide_eq_false this]
      simp -implicitDefEqProofs only [sv, bl, ov_s, cd_b, true_implies, reduceCtorEq, false_implies, true_and]
      simp -implicitDefEqProofs only [blkM, lpM, thenM, reduceCtorEq, if_true, if_false]
      obtain rfl : 7 = n := by omega
      unfold d_doormanlaw15_WriteHolds_55
      simp -implicitDefEqProofs [g11, g12]
      have dp : p.done = true := by simp [WP.done, hJ.1]
      have dq : q.done = true := by
        by_cases e : sa = sb
        · simp -implicitDefEqProofs [WP.done, hJ.2.1 e]
        · simp -implicitDefEqProofs [WP.done, hJ.2.2 e]
      refine wdone_ok (xm.ps 0 _ p0) fun h5 e5 => ?_
      rw [dp]
      unfold d_doormanlaw15_WriteHolds_56
      simp -implicitDefEqProofs [g12]
      refine wdone_ok ((xm.ext o.wf e5).ps 1 _ p1) fun h6 e6 => ?_
      rw [dq]
      exact hk _ _ _ o (e5.trans e6)
set_option maxHeartbeats 8000000 in
theorem whTail (x y : OpD) (xw : OpW x) (yw : OpW y) (lx : x.users.length ≤ 20) (ly : y.users.length ≤ 20) {stop : Int} (hs : 0 ≤ stop ∧ stop ≤ 255) {h : Heap} {ux uy : Value} (hx : Sl 1 StrR h ux x.users) (hy : Sl 1 StrR h uy y.users) {K : Value → Heap → Prop} (hk : ∀ h', Ext h h' → K (.bool true) h')
    (va vb : Nat) (s : Env) (ca : h va = some (.cells (opC (wrOp x) ux).toArray ty_api_Op (0, 0))) (cb : h vb = some (.cells (opC (wrOp y) uy).toArray ty_api_Op (0, 0))) (s0 : s 0 = .int .u8 stop) (s7 : s 7 = ptr va) (s8 : s 8 = ptr vb) : d_doormanlaw15_WriteHolds_17 s h K [] := by
  have og : ∀ (h' : Heap) (v : Nat) (o : OpD × Value), h' v = some (.cells (opC o.1 o.2).toArray ty_api_Op (0, 0)) → ldV (some (some 7)) (ptr v) h' = some (.agg (opC o.1 o.2).toArray) := fun h' v o hc => by simp [ld_at hc, opC]
  have oe : ∀ (h' : Heap) (v : Nat) (o : OpD × Value), h' v = some (.cells (opC o.1 o.2).toArray ty_api_Op (0, 0)) → cel h' v 1 = some (.string o.1.user) := fun h' v o hc => by simp [cel_of hc, opC]
  unfold d_doormanlaw15_WriteHolds_17
  simp -implicitDefEqProofs only [s7, og _ _ (wrOp x, ux) ca, ov_s]
  refine modBad_ok (wrOp x) (wrOp_w xw) hx (by show x.users.length < _; omega) fun h1 e1 => ?_
  have ca := e1 _ _ ca
  have cb := e1 _ _ cb
  unfold d_doormanlaw15_WriteHolds_18
  cases hbx : badB (wrOp x) with
  | true =>
    simp -implicitDefEqProofs
    exact hk _ e1
  | false =>
  simp -implicitDefEqProofs [s8, og _ _ (wrOp y, uy) cb]
  refine modBad_ok (wrOp y) (wrOp_w yw) (hy.ext (@StrR.ext) e1) (by show y.users.length < _; omega) fun h2 e2 => ?_
  have ca := e2 _ _ ca
  have cb := e2 _ _ cb
  cases hby : badB (wrOp y) with
  | true =>
    simp -implicitDefEqProofs
    exact hk _ (e1.trans e2)
  | false =>
  simp -implicitDefEqProofs
  unfold d_doormanlaw15_WriteHolds_19
  refine small_ok fun h3 e3 => ?_
  have ca := e3 _ _ ca
  have cb := e3 _ _ cb
  unfold d_doormanlaw15_WriteHolds_20
  have w3 := wf_nil h3
  refine hallNew_ok small smallW w3 g1 (fun hr T4 h4 hp o4 y4 => ?_) (fun hr => by simp [rightB, small] at hr)
  have hn3 : small.stripes.toNat = 3 := by decide
  rw [hn3] at y4
  have o4 : Only UW (fun _ => []) h3 T4 h4 := o4.mono fun _ => .inl
  have e4 := ext_of_only o4 UW.nil
  have ca4 := e4 _ _ ca
  have cb4 := e4 _ _ cb
  unfold d_doormanlaw15_WriteHolds_21
  have enil : binV .eql 4 true (ptr hp) (.pointer none) = some (.bool false) := rfl
  simp -implicitDefEqProofs [enil]
  unfold d_doormanlaw15_WriteHolds_23
  simp -implicitDefEqProofs only [s7, s8, og _ _ (wrOp x, ux) ca4, og _ _ (wrOp y, uy) cb4, ov_s]
  have hx3 : Sl 1 StrR (fz (fun _ => []) h3) ux x.users := by rw [fz_nil]; exact hx.ext (@StrR.ext) (e1.trans (e2.trans e3))
  have hy3 : Sl 1 StrR (fz (fun _ => []) h3) uy y.users := by rw [fz_nil]; exact hy.ext (@StrR.ext) (e1.trans (e2.trans e3))
  have hx4 : Sl 1 StrR (fz T4 h4) ux (wrOp x).users := (hx3).ext (@StrR.ext) (o4.ext UW.nil)
  have hy4 : Sl 1 StrR (fz T4 h4) uy (wrOp y).users := (hy3).ext (@StrR.ext) (o4.ext UW.nil)
  refine wdnew_w (i := 0) (A := fun _ => 0) (by omega) (wrOp x) (wrOp_w xw) (by show x.users.length < _; omega) hx4 o4.wf (wd0M y4 _) (wd0K smallW hr (by decide)) (fun q h => by simp [wd0] at h) fun T5 h5 pp o5 x5 k5 => ?_
  have o35 := o4.up o5 non_up
  have cb5 := ext_of_only o35 UW.nil _ _ cb
  unfold d_doormanlaw15_WriteHolds_24
  simp -implicitDefEqProofs only [s8, og _ _ (wrOp y, uy) cb5, true_and]
  refine wdnew_w (i := 1) (by omega) (wrOp y) (wrOp_w yw) (by show y.users.length < _; omega) (hy4.ext (@StrR.ext) (o5.ext (not_non _))) o5.wf x5 k5 (fun q h => by simp [wd0, bset] at h) fun T6 h6 qq o6 x6 k6 => ?_
  have o36 := o35.up o6 non_up
  have e36 := ext_of_only o36 UW.nil
  obtain ⟨A, hA⟩ : ∃ A, A = bset (bset (fun _ => 0) 0 pp) 1 qq := ⟨_, rfl⟩
  have A0 : pp = A 0 := by rw [hA]; rfl
  have A1 : qq = A 1 := by rw [hA]; rfl
  rw [← hA] at x6
  clear hA
  subst A0 A1
  obtain ⟨n0, rfl⟩ : ∃ n0 : Nat, stop = n0 := ⟨stop.toNat, by omega⟩
  obtain ⟨N, hN⟩ : ∃ N, N = 1 + n0 % 6 := ⟨_, rfl⟩
  have hN' : 1 ≤ N ∧ N ≤ 6 := by omega
  have hcv : cvV (some .i64) (.int .u8 n0) = some (.int .i64 n0) := by rw [cvV_i, wrap64_id (by omega) (by omega)]
  have bR : binV .rem 2 true (.int .i64 n0) (.int .i64 6) = some (.int .i64 (n0 % 6 : Nat)) := by
    have r6 : ((n0 : Int)).tmod 6 = (n0 % 6 : Nat) := by rw [Int.tmod_eq_emod_of_nonneg (by omega)]; simp
    have : ¬ (6 : Int) = 0 := by omega
    simp -implicitDefEqProofs only [binV, intV, if_true, if_neg this, r6]
  have bA : binV .add 2 true (.int .i64 1) (.int .i64 (n0 % 6 : Nat)) = some (.int .i64 N) := by
    rw [bin_add, wrap64_id (by omega) (by omega), hN]; rfl
  simp -implicitDefEqProofs only [s0, hcv, ov_s, bR, bA]
  rw [seqM_eq]
  obtain ⟨W, M, x6, k6, hp0, hp1, hp2, hWn, hWc⟩ : ∃ (W : Wd) (M : Tbl), WdM T6 h6 hp A W ∧ WdK 0 W M ∧ W.ps 0 = some (.w (wp0 (hall0 small 3) 0 (wrOp x))) ∧ W.ps 1 = some (.w (wp0 (hall0 small 3) 1 (wrOp y))) ∧ (∀ i, 2 ≤ i → W.ps i = none) ∧ W.H.n = 3 ∧ W.H.c = small :=
    ⟨_, _, x6, k6, rfl, rfl, (fun i hi => by show bset (bset _ _ _) _ _ i = _; rw [bset_ne (by omega), bset_ne (by omega)]; rfl), rfl, rfl⟩
  obtain ⟨sa, hsa⟩ : ∃ sa, sa = (stripeOf x.user 3).toNat := ⟨_, rfl⟩
  obtain ⟨sb, hsb⟩ : ∃ sb, sb = (stripeOf y.user 3).toNat := ⟨_, rfl⟩
  have la := stripeOf_lt (u := x.user) (n := 3) (by omega)
  have lb := stripeOf_lt (u := y.user) (n := 3) (by omega)
  have hsa' : stripeOf x.user 3 = sa := by omega
  have hsb' : stripeOf y.user 3 = sb := by omega
  have wh : Wh sa sb (wp0 (hall0 small 3) 0 (wrOp x)) (wp0 (hall0 small 3) 1 (wrOp y)) := ⟨by simp [wp0, sect, hbx, WK.isBad], by simp [wp0, sect, hby, WK.isBad], hsa.symm, hsb.symm⟩
  have e16 := (e1.trans (e2.trans e3))
  unfold d_doormanlaw15_WriteHolds_25
  refine loop_on [7, 8, 9, 11, 12, 13] (fun s h' => WhI (fun _ => []) h3 hp A sa sb J1 0 0 N (s 14) h') (fun s _ => (200 - num (s 14)).toNat) ⟨T6, 0, W, M, _, _, o36, x6, k6, hp0, hp1, hp2, hWn, hWc, wh, ⟨rfl, rfl, rfl⟩, by simp, by omega⟩ ?_
  rintro s1 h' hf ⟨T', n, W, M, p, q, o, xm, ym, p0, p1, p2, hn, hc, wh, hJ, sv, hB⟩
  have f7 : s1 7 = ptr va := (hf 7 (by simp)).trans (by simp [s7, s8])
  have f8 : s1 8 = ptr vb := (hf 8 (by simp)).trans (by simp [s7, s8])
  have f9 : s1 9 = ptr hp := (hf 9 (by simp)).trans (by simp [s7, s8])
  have f11 : s1 11 = ptr (A 0) := (hf 11 (by simp)).trans (by simp [s7, s8])
  have f12 : s1 12 = ptr (A 1) := (hf 12 (by simp)).trans (by simp [s7, s8])
  have f13 : s1 13 = .int .i64 N := (hf 13 (by simp)).trans (by simp [s7, s8])
  have en0 := wh_en0 ym wh p0 p1 p2 (by omega)
  have en1 := wh_en1 ym wh p0 p1 p2 (by omega)
  unfold d_doormanlaw15_WriteHolds_26
  by_cases hlt : 0 + n < N
  · have hlt' : ((0 + n : Nat) : Int) < (N : Nat) := by omega
    have hw : IntKind.i64.wrap (((0 + n : Nat) : Int) + 1) = (0 + (n + 1) : Nat) := by rw [wrap64_id (by omega) (by omega)]; omega
    have hoff : IntKind.i64.wrap (0 + ((0 + n : Nat) : Int)) = 0 + ((0 + n : Nat) : Int) := by rw [wrap64_id (by omega) (by omega)]
    have bl : binV .lss 2 false (.int .i64 (0 + n : Nat)) (.int .i64 N) = some (.bool true) := by rw [bin_lss, decide_eq_true hlt']
    have b1 : binV .add 2 true (.int .i64 (0 + n : Nat)) (.int .i64 1) = some (.int .i64 (0 + (n + 1) : Nat)) := by rw [bin_add, hw]
    have b2 : binV .add 2 true (.int .i64 0) (.int .i64 (0 + n : Nat)) = some (.int .i64 (0 + ((0 + n : Nat) : Int))) := by rw [bin_add, hoff]
    simp -implicitDefEqProofs only [sv, f13, bl, ov_s, cd_b, true_implies, reduceCtorEq, false_implies, and_true]
    unfold d_doormanlaw15_WriteHolds_27
    simp -implicitDefEqProofs only [f11, f9, sv]
    refine wh_step (A := A) (c0 := 0) (k0 := 0) (B := N) (J := J1) 0 (.inl rfl) _ (by omega) (by omega) o xm ym p0 p1 p2 hn hc wh ?_ fun h'' hI => ?_
    · simp -implicitDefEqProofs only [if_true, if_false, Nat.one_ne_zero, Nat.zero_ne_one]
      obtain ⟨a1, a2, a3⟩ := hJ
      refine ⟨?_, a2, a3⟩
      show (WP.step p W.H _).1.at_ = n + 1
      rw [wstep_at wh.pb, if_pos (en0.2 ⟨by omega, by omega⟩)]; omega
    unfold d_doormanlaw15_WriteHolds_28
    simp -implicitDefEqProofs [sv, b1, s7, s8, f7, f8, f9, f11, f12, f13, -Int.natCast_add, -Nat.zero_add]
    refine ⟨hI, ?_⟩
    omega
  · have bl : binV .lss 2 false (.int .i64 (0 + n : Nat)) (.int .i64 N) = some (.bool false) := by
      rw [bin_lss]
      have : ¬ ((0 + n : Nat) : Int) < (N : Nat) := by omega
      rw [decide_eq_false this]
    simp -implicitDefEqProofs only [sv, f13, bl, ov_s, cd_b, true_implies, reduceCtorEq, false_implies, true_and]
    simp -implicitDefEqProofs only [blkM, lpM, thenM, reduceCtorEq, if_true, if_false]
    obtain rfl : N = n := by omega
    unfold d_doormanlaw15_WriteHolds_29
    rw [seqM_eq]
    unfold d_doormanlaw15_WriteHolds_30
    refine loop_on [7, 8, 9, 11, 12, 13] (fun s h' => WhI (fun _ => []) h3 hp A sa sb (J2 N sa sb) 0 (0 + N) 20 (s 15) h') (fun s _ => (200 - num (s 15)).toNat) ⟨T', 0, W, M, p, q, o, xm, ym, p0, p1, p2, hn, hc, wh, ⟨hJ.1, fun e => ⟨hJ.2.1, hJ.2.2⟩, fun e => by have := hJ.2.1; omega⟩, by simp, by omega⟩ ?_
    rintro s2 h' hf ⟨T', n, W, M, p, q, o, xm, ym, p0, p1, p2, hn, hc, wh, hJ, sv, hB⟩
    have g7 : s2 7 = ptr va := (hf 7 (by simp)).trans (by simpa using f7)
    have g8 : s2 8 = ptr vb := (hf 8 (by simp)).trans (by simpa using f8)
    have g9 : s2 9 = ptr hp := (hf 9 (by simp)).trans (by simpa using f9)
    have g11 : s2 11 = ptr (A 0) := (hf 11 (by simp)).trans (by simpa using f11)
    have g12 : s2 12 = ptr (A 1) := (hf 12 (by simp)).trans (by simpa using f12)
    have g13 : s2 13 = .int .i64 N := (hf 13 (by simp)).trans (by simpa using f13)
    have en0 := wh_en0 ym wh p0 p1 p2 (by omega)
    have en1 := wh_en1 ym wh p0 p1 p2 (by omega)
    unfold d_doormanlaw15_WriteHolds_31
    by_cases hlt : 0 + n < 20
    · have hlt' : ((0 + n : Nat) : Int) < (20 : Int) := by omega
      have hw : IntKind.i64.wrap (((0 + n : Nat) : Int) + 1) = (0 + (n + 1) : Nat) := by rw [wrap64_id (by omega) (by omega)]; omega
      have hoff : IntKind.i64.wrap (100 + ((0 + n : Nat) : Int)) = 100 + ((0 + n : Nat) : Int) := by rw [wrap64_id (by omega) (by omega)]
      have bl : binV .lss 2 true (.int .i64 (0 + n : Nat)) (.int .i64 20) = some (.bool true) := by rw [bin_lss, decide_eq_true hlt']
      have b1 : binV .add 2 true (.int .i64 (0 + n : Nat)) (.int .i64 1) = some (.int .i64 (0 + (n + 1) : Nat)) := by rw [bin_add, hw]
      have b2 : binV .add 2 true (.int .i64 100) (.int .i64 (0 + n : Nat)) = some (.int .i64 (100 + ((0 + n : Nat) : Int))) := by rw [bin_add, hoff]
      simp -implicitDefEqProofs only [sv, bl, ov_s, cd_b, true_implies, reduceCtorEq, false_implies, and_true]
      unfold d_doormanlaw15_WriteHolds_32
      simp -implicitDefEqProofs only [g12, g9, sv, b2, ov_s]
      refine wh_step (A := A) (c0 := 0) (k0 := (0 + N)) (B := 20) (J := (J2 N sa sb)) 1 (.inr rfl) _ (by omega) (by omega) o xm ym p0 p1 p2 hn hc wh ?_ fun h'' hI => ?_
      · simp -implicitDefEqProofs only [if_true, if_false, Nat.one_ne_zero, Nat.zero_ne_one]
        obtain ⟨a1, a2, a3⟩ := hJ
        refine ⟨a1, fun e => ?_, fun e => ?_⟩
        · obtain ⟨b1, b2⟩ := a2 e
          have en : ¬ q.enabled W.H = true := by rw [en1]; omega
          refine ⟨?_, ?_⟩
          · show (WP.step q W.H _).1.at_ = 0
            rw [wstep_at wh.qb, if_neg en]; exact b1
          · show (WP.step q W.H _).1.placed = -1
            rw [wstep_pl wh.qb _ (.inl (by simpa using en))]; exact b2
        · have b := a3 e
          show (WP.step q W.H _).1.at_ = min (n + 1) 7
          rw [wstep_at wh.qb]
          split
          · rename_i he; rw [en1] at he; omega
          · rename_i he; rw [en1] at he; omega
      unfold d_doormanlaw15_WriteHolds_33
      simp -implicitDefEqProofs [sv, b1, f7, f8, f9, f11, f12, f13, g7, g8, g9, g11, g12, g13, -Int.natCast_add, -Nat.zero_add]
      refine ⟨hI, ?_⟩
      omega
    · have bl : binV .lss 2 true (.int .i64 (0 + n : Nat)) (.int .i64 20) = some (.bool false) := by
        rw [bin_lss]
        have : ¬ ((0 + n : Nat) : Int) < (20 : Int) := by omega
        rw [decide_eq_false this]
      simp -implicitDefEqProofs only [sv, bl, ov_s, cd_b, true_implies, reduceCtorEq, false_implies, true_and]
      simp -implicitDefEqProofs only [blkM, lpM, thenM, reduceCtorEq, if_true, if_false]
      obtain rfl : 20 = n := by omega
      unfold d_doormanlaw15_WriteHolds_34
      rw [seqM_eq]
      unfold d_doormanlaw15_WriteHolds_35
      have cx := ext_of_only o UW.nil _ _ ca
      have cy := ext_of_only o UW.nil _ _ cb
      have hc3 : W.H.c.stripes = 3 := by rw [hc]; rfl
      have fin : ∀ (s : Env) (h9 : Heap), Ext h' h9 → s 9 = ptr hp → s 11 = ptr (A 0) → s 12 = ptr (A 1) → s 13 = .int .i64 N → d_doormanlaw15_WriteHolds_45 [] s h9 K := by
        intro s h9 e9 z9 z11 z12 z13
        refine whEnd hN' (k0 := 0 + N + 20) (by omega) ⟨by omega, by omega⟩ z9 z11 z12 z13 ⟨T', 0, W, M, p, q, o.up (Only.of_ext (U := non) o.wf e9) non_up, xm.ext o.wf e9, ym, p0, p1, p2, hn, hc, wh, ⟨hJ.1, fun e => (hJ.2.1 e).1, fun e => by have := hJ.2.2 e; omega⟩, rfl, by omega⟩ (fun Ta ha hb oa eb => hk _ ((e16.trans (ext_of_only oa UW.nil)).trans eb))
      simp -implicitDefEqProofs [g7, g8, oe _ _ (wrOp x, ux) cx, oe _ _ (wrOp y, uy) cy, g9]
      refine hstripe_ok _ xw.s1 xm.hl (by rw [hc3]; omega) ?_
      rw [hc3]
      unfold d_doormanlaw15_WriteHolds_36
      simp -implicitDefEqProofs [oe _ _ (wrOp y, uy) cy, g9]
      refine hstripe_ok _ yw.s1 xm.hl (by rw [hc3]; omega) ?_
      rw [hc3]
      show (ov (binV .eql 2 false (.int .i64 (stripeOf x.user 3)) (.int .i64 (stripeOf y.user 3))) _)
      rw [hsa', hsb']
      by_cases hss : sa = sb
      · subst hss
        simp -implicitDefEqProofs
        unfold d_doormanlaw15_WriteHolds_37
        simp -implicitDefEqProofs [g12]
        have q0 := (hJ.2.1 rfl).1
        have dq : q.done = false := by simp [WP.done]; omega
        refine wdone_ok (xm.ps 1 _ p1) fun h7 e7 => ?_
        rw [dq]
        unfold d_doormanlaw15_WriteHolds_38
        have x7 := xm.ext o.wf e7
        simp -implicitDefEqProofs [g12]
        refine wplaced_ok (x7.ps 1 _ p1) ?_
        rw [(hJ.2.1 rfl).2]
        simp -implicitDefEqProofs [g12, g9]
        refine wenabled_ok (o.wf.ext e7) (x7.ps 1 _ p1) x7.hl (by rw [wh.qs]; omega) fun h8 e8 => ?_
        have en : q.enabled W.H = false := by
          cases hq : q.enabled W.H with
          | false => rfl
          | true => rw [en1] at hq; have := hJ.1; omega
        rw [en]
        have x8 := x7.ext (o.wf.ext e7) e8
        have cx8 := e8 _ _ (e7 _ _ cx)
        simp -implicitDefEqProofs [g12, g9, g7, oe _ _ (wrOp x, ux) cx8]
        refine wwaits_ok (x8.ps 1 _ p1) ?_
        have hwt : q.waits = sa := by simp [WP.waits, wh.qb, q0, wh.qs]
        rw [hwt]
        simp -implicitDefEqProofs [oe _ _ (wrOp x, ux) cx8, g9]
        refine hstripe_ok _ xw.s1 x8.hl (by rw [hc3]; omega) ?_
        rw [hc3]
        show (ov (binV .neq 2 false (.int .i64 sa) (.int .i64 (stripeOf x.user 3))) _)
        rw [hsa']
        simp -implicitDefEqProofs
        unfold d_doormanlaw15_WriteHolds_40
        exact fin _ _ (e7.trans e8) (by simp [g9]) (by simp [g11]) (by simp [g12]) (by simp [g13])
      · have hss' : ¬ (sa : Int) = sb := by omega
        simp -implicitDefEqProofs [hss']
        unfold d_doormanlaw15_WriteHolds_41
        simp -implicitDefEqProofs [g12]
        have dq : q.done = true := by have := hJ.2.2 hss; simp [WP.done]; omega
        refine wdone_ok (xm.ps 1 _ p1) fun h8 e8 => ?_
        rw [dq]
        unfold d_doormanlaw15_WriteHolds_42
        simp -implicitDefEqProofs
        unfold d_doormanlaw15_WriteHolds_44
        exact fin _ _ e8 (by simp [g9]) (by simp [g11]) (by simp [g12]) (by simp [g13])
end Go.Proofs.YtcnphhhcknhhaaaGreat
namespace Go.Proofs.YtcnphhhcknhhaaaGreat
open Go Go.Den Go.MapKept
set_option linter.unusedSimpArgs false
set_option linter.unusedVariables false
set_option maxRecDepth 20000
set_option maxHeartbeats 4000000 in
theorem writeHolds_ok (x y : OpD) (xw : OpW x) (yw : OpW y) {stop : Int} (hs : 0 ≤ stop ∧ stop ≤ 255) {h : Heap} {ux uy : Value} (hx : Sl 1 StrR h ux x.users) (hy : Sl 1 StrR h uy y.users) {K : Value → Heap → Prop} (hk : ∀ h', Ext h h' → K (.bool true) h') :
    callM P fn_doormanlaw15_WriteHolds #[.int .u8 stop, .agg (opC x ux).toArray, .agg (opC y uy).toArray] h K := by
  apply e_doormanlaw15_WriteHolds
  unfold d_doormanlaw15_WriteHolds
  have ox := hx.one
  have oy := hy.one
  refine nw_agg fun v1 h1 n1 e1 c1 => ?_
  refine nw_agg fun v3 h3 n3 e3 c3 => ?_
  have c1 := e3 _ _ c1
  have e0 := e1.trans e3
  refine awake15_ok fun h4 e4 => ?_
  have c1 := e4 _ _ c1
  have c3 := e4 _ _ c3
  have e0 := e0.trans e4
  unfold d_doormanlaw15_WriteHolds_1
  have og : ∀ (h' : Heap) (v : Nat) (o : OpD × Value), h' v = some (.cells (opC o.1 o.2).toArray ty_api_Op (0, 0)) → ldV (some (some 7)) (ptr v) h' = some (.agg (opC o.1 o.2).toArray) := fun h' v o hc => by simp [ld_at hc, opC]
  simp -implicitDefEqProofs [og _ _ (x, ux) c1]
  refine short_ok x (hx.ext (@StrR.ext) e0) fun h5 e5 => ?_
  have c1 := e5 _ _ c1
  have c3 := e5 _ _ c3
  have e0 := e0.trans e5
  cases hsx : shortB x with
  | false =>
    simp -implicitDefEqProofs
    exact awake15_ok fun h6 e6 => hk _ (e0.trans e6)
  | true =>
  simp -implicitDefEqProofs [og _ _ (y, uy) c3]
  refine short_ok y (hy.ext (@StrR.ext) e0) fun hB e6 => ?_
  have c1 := e6 _ _ c1
  have c3 := e6 _ _ c3
  have e0 := e0.trans e6
  cases hsy : shortB y with
  | false =>
    simp -implicitDefEqProofs
    exact awake15_ok fun h7 e7 => hk _ (e0.trans e7)
  | true =>
  simp -implicitDefEqProofs
  unfold d_doormanlaw15_WriteHolds_2
  rw [seqM_eq]
  have lx : x.users.length ≤ 20 := by simp [shortB] at hsx; exact hsx.2.1
  have ly : y.users.length ≤ 20 := by simp [shortB] at hsy; exact hsy.2.1
  have fin : ∀ (h5 : Heap) (va vb : Nat) (s : Env), Ext hB h5 → h5 va = some (.cells (opC (wrOp x) ux).toArray ty_api_Op (0, 0)) → h5 vb = some (.cells (opC (wrOp y) uy).toArray ty_api_Op (0, 0)) → s 0 = .int .u8 stop → s 7 = ptr va → s 8 = ptr vb → d_doormanlaw15_WriteHolds_17 s h5 K [] := by
    intro h5 va vb s e5 ca cb s0 s7 s8
    exact whTail x y xw yw lx ly hs (hx.ext (@StrR.ext) (e0.trans e5)) (hy.ext (@StrR.ext) (e0.trans e5)) (fun h' e => hk h' ((e0.trans e5).trans e)) va vb s ca cb s0 s7 s8
  have eB := Ext.refl hB
  unfold d_doormanlaw15_WriteHolds_3
  simp -implicitDefEqProofs only [og _ _ (x, ux) c1, og _ _ (y, uy) c3, ov_s]
  refine ⟨?_, ?_, ?_⟩
  · unfold d_doormanlaw15_WriteHolds_4
    refine writing15_ok x ox fun h44 e44 => ?_
    have c1 := e44 _ _ c1
    have c3 := e44 _ _ c3
    have eB := eB.trans e44
    unfold d_doormanlaw15_WriteHolds_5
    refine ⟨og _ _ (y, uy) c3, ?_⟩
    refine ⟨?_, ?_, ?_⟩
    · refine writing15_ok y oy fun h46 e46 => ?_
      have c1 := e46 _ _ c1
      have c3 := e46 _ _ c3
      have eB := eB.trans e46
      unfold d_doormanlaw15_WriteHolds_6
      refine ⟨?_, ?_⟩
      · unfold d_doormanlaw15_WriteHolds_7
        try rw [zcOp]
        refine nw_intro fun v47 h48 n47 e48 c47 => ?_
        have c1 := e48 _ _ c1
        have c3 := e48 _ _ c3
        have m47 : hB v47 = none := fresh_of eB n47
        have eB := eB.trans e48
        try rw [zcOp]
        refine nw_intro fun v49 h50 n49 e50 c49 => ?_
        have c1 := e50 _ _ c1
        have c3 := e50 _ _ c3
        have ne47_49 : v47 ≠ v49 := ne_fresh c47 n49
        have c47 := e50 _ _ c47
        have m49 : hB v49 = none := fresh_of eB n49
        have eB := eB.trans e50
        refine st2 eB m47 m49 c47 c49 ne47_49 (by simp [opC]) (by simp [opC]) (by simp [opC, ox.1, oy.1]) (by simp [opC, ox.1, oy.1]) rfl rfl fun h5 e5 ca cb => ?_
        try simp only [thenM_n]
        exact fin h5 v47 v49 _ e5 ca cb (by simp) (by simp) (by simp)
      · unfold d_doormanlaw15_WriteHolds_8
        try rw [zcOp]
        refine nw_intro fun v53 h54 n53 e54 c53 => ?_
        have c1 := e54 _ _ c1
        have c3 := e54 _ _ c3
        have m53 : hB v53 = none := fresh_of eB n53
        have eB := eB.trans e54
        try rw [zcOp]
        refine nw_intro fun v55 h56 n55 e56 c55 => ?_
        have c1 := e56 _ _ c1
        have c3 := e56 _ _ c3
        have ne53_55 : v53 ≠ v55 := ne_fresh c53 n55
        have c53 := e56 _ _ c53
        have m55 : hB v55 = none := fresh_of eB n55
        have eB := eB.trans e56
        refine st2 eB m55 m53 c55 c53 (Ne.symm ne53_55) (by simp [opC]) (by simp [opC]) (by simp [opC, ox.1, oy.1]) (by simp [opC, ox.1, oy.1]) rfl rfl fun h5 e5 ca cb => ?_
        try simp only [thenM_n]
        exact fin h5 v55 v53 _ e5 ca cb (by simp) (by simp) (by simp)
    · try rw [zcOp]
      refine nw_intro fun v59 h60 n59 e60 c59 => ?_
      have c1 := e60 _ _ c1
      have c3 := e60 _ _ c3
      have m59 : hB v59 = none := fresh_of eB n59
      have eB := eB.trans e60
      refine ⟨og _ _ (y, uy) c3, ?_⟩
      refine ⟨?_, ?_⟩
      · refine writing15_ok y oy fun h62 e62 => ?_
        have c1 := e62 _ _ c1
        have c3 := e62 _ _ c3
        have c59 := e62 _ _ c59
        have eB := eB.trans e62
        unfold d_doormanlaw15_WriteHolds_9
        try rw [zcOp]
        refine nw_intro fun v63 h64 n63 e64 c63 => ?_
        have c1 := e64 _ _ c1
        have c3 := e64 _ _ c3
        have ne59_63 : v59 ≠ v63 := ne_fresh c59 n63
        have c59 := e64 _ _ c59
        have m63 : hB v63 = none := fresh_of eB n63
        have eB := eB.trans e64
        refine st2 eB m59 m63 c59 c63 ne59_63 (by simp [opC]) (by simp [opC]) (by simp [opC, ox.1, oy.1]) (by simp [opC, ox.1, oy.1]) rfl rfl fun h5 e5 ca cb => ?_
        try simp only [thenM_n]
        exact fin h5 v59 v63 _ e5 ca cb (by simp) (by simp) (by simp)
      · try rw [zcOp]
        refine nw_intro fun v67 h68 n67 e68 c67 => ?_
        have c1 := e68 _ _ c1
        have c3 := e68 _ _ c3
        have ne59_67 : v59 ≠ v67 := ne_fresh c59 n67
        have c59 := e68 _ _ c59
        have m67 : hB v67 = none := fresh_of eB n67
        have eB := eB.trans e68
        refine ⟨og _ _ (y, uy) c3, ?_⟩
        refine writing15_ok y oy fun h70 e70 => ?_
        have c1 := e70 _ _ c1
        have c3 := e70 _ _ c3
        have c59 := e70 _ _ c59
        have c67 := e70 _ _ c67
        have eB := eB.trans e70
        refine st2 eB m59 m67 c59 c67 ne59_67 (by simp [opC]) (by simp [opC]) (by simp [opC, ox.1, oy.1]) (by simp [opC, ox.1, oy.1]) rfl rfl fun h5 e5 ca cb => ?_
        try simp only [thenM_n]
        exact fin h5 v59 v67 _ e5 ca cb (by simp) (by simp) (by simp)
    · try rw [zcOp]
      refine nw_intro fun v73 h74 n73 e74 c73 => ?_
      have c1 := e74 _ _ c1
      have c3 := e74 _ _ c3
      have m73 : hB v73 = none := fresh_of eB n73
      have eB := eB.trans e74
      refine ⟨og _ _ (y, uy) c3, ?_⟩
      refine ⟨?_, ?_⟩
      · refine writing15_ok y oy fun h76 e76 => ?_
        have c1 := e76 _ _ c1
        have c3 := e76 _ _ c3
        have c73 := e76 _ _ c73
        have eB := eB.trans e76
        unfold d_doormanlaw15_WriteHolds_10
        try rw [zcOp]
        refine nw_intro fun v77 h78 n77 e78 c77 => ?_
        have c1 := e78 _ _ c1
        have c3 := e78 _ _ c3
        have ne73_77 : v73 ≠ v77 := ne_fresh c73 n77
        have c73 := e78 _ _ c73
        have m77 : hB v77 = none := fresh_of eB n77
        have eB := eB.trans e78
        refine st2 eB m77 m73 c77 c73 (Ne.symm ne73_77) (by simp [opC]) (by simp [opC]) (by simp [opC, ox.1, oy.1]) (by simp [opC, ox.1, oy.1]) rfl rfl fun h5 e5 ca cb => ?_
        try simp only [thenM_n]
        exact fin h5 v77 v73 _ e5 ca cb (by simp) (by simp) (by simp)
      · try rw [zcOp]
        refine nw_intro fun v81 h82 n81 e82 c81 => ?_
        have c1 := e82 _ _ c1
        have c3 := e82 _ _ c3
        have ne73_81 : v73 ≠ v81 := ne_fresh c73 n81
        have c73 := e82 _ _ c73
        have m81 : hB v81 = none := fresh_of eB n81
        have eB := eB.trans e82
        refine ⟨og _ _ (y, uy) c3, ?_⟩
        refine writing15_ok y oy fun h84 e84 => ?_
        have c1 := e84 _ _ c1
        have c3 := e84 _ _ c3
        have c73 := e84 _ _ c73
        have c81 := e84 _ _ c81
        have eB := eB.trans e84
        refine st2 eB m81 m73 c81 c73 (Ne.symm ne73_81) (by simp [opC]) (by simp [opC]) (by simp [opC, ox.1, oy.1]) (by simp [opC, ox.1, oy.1]) rfl rfl fun h5 e5 ca cb => ?_
        try simp only [thenM_n]
        exact fin h5 v81 v73 _ e5 ca cb (by simp) (by simp) (by simp)
  · unfold d_doormanlaw15_WriteHolds_11
    try rw [zcOp]
    refine nw_intro fun v87 h88 n87 e88 c87 => ?_
    have c1 := e88 _ _ c1
    have c3 := e88 _ _ c3
    have m87 : hB v87 = none := fresh_of eB n87
    have eB := eB.trans e88
    refine ⟨og _ _ (x, ux) c1, ?_⟩
    refine ⟨og _ _ (y, uy) c3, ?_⟩
    refine ⟨?_, ?_⟩
    · refine writing15_ok x ox fun h90 e90 => ?_
      have c1 := e90 _ _ c1
      have c3 := e90 _ _ c3
      have c87 := e90 _ _ c87
      have eB := eB.trans e90
      unfold d_doormanlaw15_WriteHolds_12
      refine ⟨og _ _ (y, uy) c3, ?_⟩
      refine ⟨?_, ?_⟩
      · refine writing15_ok y oy fun h92 e92 => ?_
        have c1 := e92 _ _ c1
        have c3 := e92 _ _ c3
        have c87 := e92 _ _ c87
        have eB := eB.trans e92
        unfold d_doormanlaw15_WriteHolds_13
        try rw [zcOp]
        refine nw_intro fun v93 h94 n93 e94 c93 => ?_
        have c1 := e94 _ _ c1
        have c3 := e94 _ _ c3
        have ne87_93 : v87 ≠ v93 := ne_fresh c87 n93
        have c87 := e94 _ _ c87
        have m93 : hB v93 = none := fresh_of eB n93
        have eB := eB.trans e94
        refine st2 eB m87 m93 c87 c93 ne87_93 (by simp [opC]) (by simp [opC]) (by simp [opC, ox.1, oy.1]) (by simp [opC, ox.1, oy.1]) rfl rfl fun h5 e5 ca cb => ?_
        try simp only [thenM_n]
        exact fin h5 v87 v93 _ e5 ca cb (by simp) (by simp) (by simp)
      · try rw [zcOp]
        refine nw_intro fun v97 h98 n97 e98 c97 => ?_
        have c1 := e98 _ _ c1
        have c3 := e98 _ _ c3
        have ne87_97 : v87 ≠ v97 := ne_fresh c87 n97
        have c87 := e98 _ _ c87
        have m97 : hB v97 = none := fresh_of eB n97
        have eB := eB.trans e98
        refine ⟨og _ _ (y, uy) c3, ?_⟩
        refine writing15_ok y oy fun h100 e100 => ?_
        have c1 := e100 _ _ c1
        have c3 := e100 _ _ c3
        have c87 := e100 _ _ c87
        have c97 := e100 _ _ c97
        have eB := eB.trans e100
        refine st2 eB m87 m97 c87 c97 ne87_97 (by simp [opC]) (by simp [opC]) (by simp [opC, ox.1, oy.1]) (by simp [opC, ox.1, oy.1]) rfl rfl fun h5 e5 ca cb => ?_
        try simp only [thenM_n]
        exact fin h5 v87 v97 _ e5 ca cb (by simp) (by simp) (by simp)
    · try rw [zcOp]
      refine nw_intro fun v103 h104 n103 e104 c103 => ?_
      have c1 := e104 _ _ c1
      have c3 := e104 _ _ c3
      have ne87_103 : v87 ≠ v103 := ne_fresh c87 n103
      have c87 := e104 _ _ c87
      have m103 : hB v103 = none := fresh_of eB n103
      have eB := eB.trans e104
      refine ⟨og _ _ (x, ux) c1, ?_⟩
      refine ⟨og _ _ (y, uy) c3, ?_⟩
      refine writing15_ok x ox fun h106 e106 => ?_
      have c1 := e106 _ _ c1
      have c3 := e106 _ _ c3
      have c87 := e106 _ _ c87
      have c103 := e106 _ _ c103
      have eB := eB.trans e106
      refine ⟨og _ _ (y, uy) c3, ?_⟩
      refine writing15_ok y oy fun h108 e108 => ?_
      have c1 := e108 _ _ c1
      have c3 := e108 _ _ c3
      have c87 := e108 _ _ c87
      have c103 := e108 _ _ c103
      have eB := eB.trans e108
      refine st2 eB m87 m103 c87 c103 ne87_103 (by simp [opC]) (by simp [opC]) (by simp [opC, ox.1, oy.1]) (by simp [opC, ox.1, oy.1]) rfl rfl fun h5 e5 ca cb => ?_
      try simp only [thenM_n]
      exact fin h5 v87 v103 _ e5 ca cb (by simp) (by simp) (by simp)
  · unfold d_doormanlaw15_WriteHolds_14
    try rw [zcOp]
    refine nw_intro fun v111 h112 n111 e112 c111 => ?_
    have c1 := e112 _ _ c1
    have c3 := e112 _ _ c3
    have m111 : hB v111 = none := fresh_of eB n111
    have eB := eB.trans e112
    refine ⟨og _ _ (x, ux) c1, ?_⟩
    refine ⟨og _ _ (y, uy) c3, ?_⟩
    refine ⟨?_, ?_⟩
    · refine writing15_ok x ox fun h114 e114 => ?_
      have c1 := e114 _ _ c1
      have c3 := e114 _ _ c3
      have c111 := e114 _ _ c111
      have eB := eB.trans e114
      unfold d_doormanlaw15_WriteHolds_15
      refine ⟨og _ _ (y, uy) c3, ?_⟩
      refine ⟨?_, ?_⟩
      · refine writing15_ok y oy fun h116 e116 => ?_
        have c1 := e116 _ _ c1
        have c3 := e116 _ _ c3
        have c111 := e116 _ _ c111
        have eB := eB.trans e116
        unfold d_doormanlaw15_WriteHolds_16
        try rw [zcOp]
        refine nw_intro fun v117 h118 n117 e118 c117 => ?_
        have c1 := e118 _ _ c1
        have c3 := e118 _ _ c3
        have ne111_117 : v111 ≠ v117 := ne_fresh c111 n117
        have c111 := e118 _ _ c111
        have m117 : hB v117 = none := fresh_of eB n117
        have eB := eB.trans e118
        refine st2 eB m117 m111 c117 c111 (Ne.symm ne111_117) (by simp [opC]) (by simp [opC]) (by simp [opC, ox.1, oy.1]) (by simp [opC, ox.1, oy.1]) rfl rfl fun h5 e5 ca cb => ?_
        try simp only [thenM_n]
        exact fin h5 v117 v111 _ e5 ca cb (by simp) (by simp) (by simp)
      · try rw [zcOp]
        refine nw_intro fun v121 h122 n121 e122 c121 => ?_
        have c1 := e122 _ _ c1
        have c3 := e122 _ _ c3
        have ne111_121 : v111 ≠ v121 := ne_fresh c111 n121
        have c111 := e122 _ _ c111
        have m121 : hB v121 = none := fresh_of eB n121
        have eB := eB.trans e122
        refine ⟨og _ _ (y, uy) c3, ?_⟩
        refine writing15_ok y oy fun h124 e124 => ?_
        have c1 := e124 _ _ c1
        have c3 := e124 _ _ c3
        have c111 := e124 _ _ c111
        have c121 := e124 _ _ c121
        have eB := eB.trans e124
        refine st2 eB m121 m111 c121 c111 (Ne.symm ne111_121) (by simp [opC]) (by simp [opC]) (by simp [opC, ox.1, oy.1]) (by simp [opC, ox.1, oy.1]) rfl rfl fun h5 e5 ca cb => ?_
        try simp only [thenM_n]
        exact fin h5 v121 v111 _ e5 ca cb (by simp) (by simp) (by simp)
    · try rw [zcOp]
      refine nw_intro fun v127 h128 n127 e128 c127 => ?_
      have c1 := e128 _ _ c1
      have c3 := e128 _ _ c3
      have ne111_127 : v111 ≠ v127 := ne_fresh c111 n127
      have c111 := e128 _ _ c111
      have m127 : hB v127 = none := fresh_of eB n127
      have eB := eB.trans e128
      refine ⟨og _ _ (x, ux) c1, ?_⟩
      refine ⟨og _ _ (y, uy) c3, ?_⟩
      refine writing15_ok x ox fun h130 e130 => ?_
      have c1 := e130 _ _ c1
      have c3 := e130 _ _ c3
      have c111 := e130 _ _ c111
      have c127 := e130 _ _ c127
      have eB := eB.trans e130
      refine ⟨og _ _ (y, uy) c3, ?_⟩
      refine writing15_ok y oy fun h132 e132 => ?_
      have c1 := e132 _ _ c1
      have c3 := e132 _ _ c3
      have c111 := e132 _ _ c111
      have c127 := e132 _ _ c127
      have eB := eB.trans e132
      refine st2 eB m127 m111 c127 c111 (Ne.symm ne111_127) (by simp [opC]) (by simp [opC]) (by simp [opC, ox.1, oy.1]) (by simp [opC, ox.1, oy.1]) rfl rfl fun h5 e5 ca cb => ?_
      try simp only [thenM_n]
      exact fin h5 v127 v111 _ e5 ca cb (by simp) (by simp) (by simp)
end Go.Proofs.YtcnphhhcknhhaaaGreat
namespace Go.Proofs.YtcnphhhcknhhaaaGreat
open Go Go.Den
theorem writeHolds_row {n : Int} {x y : OpD} {b1 b2 : Array Value} {h : Heap} {K : Value → Heap → Prop} (hn : 0 ≤ n ∧ n ≤ 255) (hx : OpR h b1.toList x) (hy : OpR h b2.toList y) (hk : ∀ h', Ext h h' → K (.bool true) h') :
    callM P fn_doormanlaw15_WriteHolds #[.int .u8 n, .agg b1, .agg b2] h K := by
  obtain ⟨v, e1, hv, xw⟩ := hx
  obtain ⟨u, e2, hu, yw⟩ := hy
  have h1 : b1 = (opC x v).toArray := by rw [← e1]
  have h2 : b2 = (opC y u).toArray := by rw [← e2]
  rw [h1, h2]
  exact writeHolds_ok x y xw yw hn hv hu hk
end Go.Proofs.YtcnphhhcknhhaaaGreat
