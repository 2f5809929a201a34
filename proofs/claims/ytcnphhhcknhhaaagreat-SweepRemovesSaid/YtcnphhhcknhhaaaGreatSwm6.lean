/- Words, plain data and contracts of the Go functions that this claim reaches. No condition beyond the hypotheses that each theorem states. -/
import Derived.Test.YtcnphhhcknhhaaaGreatSwm5
set_option linter.unusedSimpArgs false
set_option linter.unusedVariables false
namespace Go.Proofs.YtcnphhhcknhhaaaGreat
open Go Go.Den Go.MapKept
set_option linter.unusedSimpArgs false
set_option linter.unusedVariables false
set_option maxRecDepth 20000
def UW (t : Tag) : Prop := pre [1] t ∨ pre [2] t
theorem UW.nil : ¬ UW [] := by rintro (h | h) <;> simp [pre] at h
theorem UW.two (i : Nat) {t : Tag} (h : two (pre [2, i]) (pre [1]) t) : UW t := h.elim (fun h => .inr (pre_trans (g := [2]) (s := [i]) h)) .inl
theorem g2i (i : Nat) : Gd [2, i] := ⟨1, [i], rfl⟩
theorem d12i (i : Nat) : Off (pre [1]) [2, i] := off_pre (g := []) (x := [1]) (y := [2, i]) (by simp) (by simp)
theorem d2i1 (i : Nat) : Off (pre [2, i]) [1] := off_pre (g := []) (x := [2, i]) (y := [1]) (by simp) (by simp)
theorem d2ij {i j : Nat} (h : i ≠ j) : Off (pre [2, i]) [2, j] := off_pre (g := [2]) (x := [i]) (y := [j]) (by simpa using h) (by simpa using Ne.symm h)
theorem dtwo {i j : Nat} (h : i ≠ j) : Off (two (pre [2, i]) (pre [1])) [2, j] := fun t ht hh => hh.elim (d2ij h t ht) (d12i j t ht)
def PRm (T : Tags) (h : Heap) (g : Tag) (q : Nat) : PR → Prop
  | .w p => WPR T h g q p
  | .r p => RPR T h g q p
  | .h _ => False
theorem PRm.kp {U : Tag → Prop} {T T' : Tags} {h h' : Heap} {g : Tag} {q : Nat} {p : PR} (x : PRm T h g q p) (k : Kp U T h T' h') (o : Off U g) (n : ¬ U []) : PRm T' h' g q p := by
  cases p with
  | w p => exact WPR.kp x k o n
  | r p => exact RPR.kp x k o n
  | h p => exact x
structure WdM (T : Tags) (h : Heap) (hp : Nat) (A : Nat → Nat) (W : Wd) : Prop where
  hl : HallR T h [1] hp W.H
  ps : ∀ i p, W.ps i = some p → PRm T h [2, i] (A i) p
theorem WdM.up {U : Tag → Prop} {T T' : Tags} {h h' : Heap} {hp : Nat} {A : Nat → Nat} {W : Wd} (x : WdM T h hp A W) (o : Only U T h T' h') (f : ∀ t, UW t → ¬ U t) (n : ¬ U []) : WdM T' h' hp A W :=
  ⟨x.hl.up o (fun t ht => f t (.inl ht)) n, fun i p hp => (x.ps i p hp).kp o.k (fun t ht => f t (.inr (pre_trans (g := [2]) (s := [i]) ht))) n⟩
theorem WdM.ext {T : Tags} {h h' : Heap} {hp : Nat} {A : Nat → Nat} {W : Wd} (x : WdM T h hp A W) (w : Wf T h) (e : Ext h h') : WdM T h' hp A W := x.up (Only.of_ext (U := non) w e) (fun _ _ h => h) (not_non _)
/-- What is kept beside. -/
structure WdK (k : Nat) (W : Wd) (M : Tbl) : Prop where
  li : LI W M
  hs : HS k W.H
  ts : TS k M
theorem WdK.step {k : Nat} {W : Wd} {M : Tbl} (x : WdK k W M) (hk : k < 100000) {i : Nat} {p : PR} (hp : W.ps i = some p) (n : Int) : WdK (k + 1) (W.step i n) (p.tb W.H M) :=
  have y := x.li.step x.hs hk x.ts hp n
  ⟨y.1, y.2.1, y.2.2⟩
theorem WdM.put {U : Tag → Prop} {T T' : Tags} {h h' : Heap} {hp i : Nat} {A : Nat → Nat} {W : Wd} {p : PR} (x : WdM T h hp A W) (o : Only U T h T' h') (u : ∀ j, j ≠ i → Off U [2, j]) (n : ¬ U []) {k : Int} (hp' : W.ps i = some p)
    (y' : HallR T' h' [1] hp (p.step (W.ms i) W.H k).2.2) (x' : PRm T' h' [2, i] (A i) (p.step (W.ms i) W.H k).1) : WdM T' h' hp A (W.step i k) := by
  refine ⟨?_, fun j q hq => ?_⟩
  · have : (W.step i k).H = (p.step (W.ms i) W.H k).2.2 := by simp only [Wd.step, hp']
    rw [this]; exact y'
  · have hP : (W.step i k).ps j = if j = i then some (p.step (W.ms i) W.H k).1 else W.ps j := by simp only [Wd.step, hp', bset]
    rw [hP] at hq
    split at hq
    · rename_i hj; subst hj
      simp -implicitDefEqProofs only [Option.some.injEq] at hq; subst hq
      exact x'
    · rename_i hj
      exact (x.ps j q hq).kp o.k (u j hj) n
theorem wdstep_w {T : Tags} {h : Heap} {hp k i : Nat} {A : Nat → Nat} {W : Wd} {M : Tbl} {p : WP} (n : Int) (w : Wf T h) (x : WdM T h hp A W) (y : WdK k W M) (hk : k < 100000) (hp' : W.ps i = some (.w p)) {K : Value → Heap → Prop}
    (hK : ∀ T' h', Only UW T h T' h' → WdM T' h' hp A (W.step i n) → K (.tuple #[]) h') : callM P fn_write_Proc_Step #[ptr (A i), ptr hp, .int .i64 n] h K := by
  have hpa := y.li.pa i _ hp'
  refine wstep_ok n w g1 (d12i i) (d2i1 i) (g2i i) (x.ps i _ hp') x.hl y.hs hk hpa.1 fun T' h' o x' y' => ?_
  exact hK T' h' (o.mono fun _ => UW.two i) (x.put o (fun j hj => dtwo (Ne.symm hj)) (by rintro (h | h) <;> simp [pre] at h) hp' y' x')
/-- A writing begins. -/
theorem wdnew_w {T : Tags} {h : Heap} {hp k i : Nat} {A : Nat → Nat} {W : Wd} {M : Tbl} (hi : i ≤ 900) (o : OpD) (ow : OpW o) (hl : o.users.length < 1000000) {v : Value} (hv : Sl 1 StrR (fz T h) v o.users) (w : Wf T h) (x : WdM T h hp A W) (y : WdK k W M) (hi' : ∀ q, W.ps i = some q → Idle q (W.ms i) W.H.c) {K : Value → Heap → Prop}
    (hK : ∀ T' h' q, Only non T h T' h' → WdM T' h' hp (bset A i q) { W with ps := bset W.ps i (some (.w (wp0 W.H i o))) } → WdK k { W with ps := bset W.ps i (some (.w (wp0 W.H i o))) } M → K (ptr q) h') : callM P fn_write_New #[ptr hp, .int .i64 i, .agg (opC o v).toArray] h K := by
  have n8 := y.hs.n8
  have nn := y.hs.nn
  refine wnew_ok i o ow w (g2i i) x.hl hv hl (by omega) fun T' h' q o' nq x' => ?_
  have hst := stripeOf_lt (u := o.user) (n := W.H.c.stripes) (by omega)
  have hsn : (stripeOf o.user W.H.c.stripes).toNat < W.H.n := by omega
  refine hK T' h' q o' ⟨x.hl.up o' (Off.non _) (not_non _), fun j p hj => ?_⟩ ⟨y.li.start ?_ (Idle.w _ _ rfl) hi', y.hs, y.ts⟩
  · have hj : bset W.ps i (some (.w (wp0 W.H i o))) j = some p := hj
    by_cases hji : j = i
    · subst hji
      rw [bset_same] at hj ⊢
      simp -implicitDefEqProofs only [Option.some.injEq] at hj; subst hj
      exact x'
    · rw [bset_ne hji] at hj ⊢
      exact (x.ps j p hj).kp o'.k (Off.non _) (not_non _)
  · refine ⟨sect_g hsn (by omega) fun z hz => ?_, rfl, by simp [wp0, sect], fun z hz => ?_⟩
    · split at hz
      · cases hz
      · cases hz; exact ow
    · have hz : (if badB o then WK.bad else .op o) = .op z := hz
      split at hz
      · cases hz
      · cases hz; rfl
theorem wd0M {T : Tags} {h : Heap} {hp : Nat} {c : Cfg} {n : Nat} (x : HallR T h [1] hp (hall0 c n)) (A : Nat → Nat) : WdM T h hp A (wd0 c n) := ⟨x, fun i p h => by simp [wd0] at h⟩
theorem wd0K {c : Cfg} (cw : CfgW c) (hr : rightB c = true) {n : Nat} (hn : (n : Int) = c.stripes) : WdK 0 (wd0 c n) (tbl0 c n) := ⟨LI.init, HS.new cw hr hn, TS.init cw hr hn⟩
end Go.Proofs.YtcnphhhcknhhaaaGreat
namespace Go.Proofs.YtcnphhhcknhhaaaGreat
open Go Go.Den Go.MapKept
set_option linter.unusedSimpArgs false
set_option linter.unusedVariables false
set_option maxRecDepth 20000
def KyJ (hB : Heap) (v3 : Nat) (b : Book) (l b' i : Nat) (h' : Heap) : Prop :=
  ∃ kv, h' v3 = some (.cells #[kv] ty_Sl_string (0, 0)) ∧ Row 1 ty_string h' kv i (((keysB b).take i).flatMap strC1) ∧ Ext (wo hB [v3]) h' ∧ ∀ r, rowOf kv = some r → r ≠ v3 ∧ r ≠ l ∧ r ≠ b' ∧ hB r = none
theorem KyJ.keep {hB : Heap} {v3 : Nat} {b : Book} {l b' i : Nat} {h' h'' : Heap} (J : KyJ hB v3 b l b' i h') (hl' : hB l = none) (h3 : hB v3 ≠ none) (k : Keep (some l) h' h'') : KyJ hB v3 b l b' i h'' := by
  obtain ⟨kv, c, r, e, n⟩ := J
  refine ⟨kv, k _ _ c (fun hh => by cases hh; exact h3 hl'), r.of_at fun g hg => ?_, wo_keep e hl' k, n⟩
  obtain ⟨o, ho⟩ := r.lt g hg
  rw [ho]; exact k _ _ ho (fun hh => (n g hg).2.1 (by cases hh; rfl))
end Go.Proofs.YtcnphhhcknhhaaaGreat
namespace Go.Den
open Go
set_option linter.unusedVariables false
set_option linter.unusedSimpArgs false
def AR (W : Wd) (i : Nat) : Prop := ∀ j q, j ≠ i → W.ps j = some q → ∀ s, ¬ q.holds s
def wkOf (x : OpD) : WK := if badB x then .bad else .op x
theorem wkOf_bad (x : OpD) : (wkOf x).isBad = badB x := by unfold wkOf; split <;> simp_all [WK.isBad]
def wPl (x : OpD) (k : Nat) : Bool := if badB x then decide (0 < k) else decide (2 < k)
structure AW (i k : Nat) (W : Wd) (M M0 : Tbl) (x : OpD) (p : WP) : Prop where
  hp : W.ps i = some (.w p)
  ar : AR W i
  kk : p.k = wkOf x
  at_ : p.at_ = if badB x then (if k = 0 then 0 else 7) else k
  m : M = if wPl x k then ((wkOf x).bef p.s M0).1 else M0
  po : WO p W.H (if wPl x k then ((wkOf x).bef p.s M0).2 else rep0)
theorem AR.step {W : Wd} {i : Nat} (x : AR W i) (n : Int) : AR (W.step i n) i := fun j q hj hq => by
  unfold Wd.step at hq
  split at hq
  · simp only [bset_ne hj] at hq; exact x j q hj hq
  · exact x j q hj hq
theorem AW.en {i k : Nat} {W : Wd} {M M0 : Tbl} {x : OpD} {p : WP} (a : AW i k W M M0 x p) (li : LI W M) (hk : k < 7) : p.enabled W.H = true ↔ (badB x = true → k = 0) := by
  have hg := (li.pa i _ a.hp).1
  have hat := a.at_
  unfold WP.enabled WP.done WP.waits
  rw [a.kk, wkOf_bad]
  by_cases hb : badB x = true
  · by_cases h0 : k = 0
    · simp [hb, h0, hat]
    · simp [hb, h0, hat]
  · have hb : badB x = false := by simpa using hb
    simp only [hb, Bool.false_eq_true, if_false] at hat
    simp only [hb, Bool.false_eq_true, false_or, false_implies, iff_true]
    by_cases h0 : 0 < p.at_
    · simp [h0]; omega
    · have hf : (W.H.ss p.s).who = 0 := (li.free_iff hg.s).2 fun j q hq hh => by
        by_cases hj : j = i
        · subst hj
          rw [a.hp] at hq; cases hq
          have := hh.2.1; omega
        · exact a.ar j q hj hq _ hh
      simp [h0, hf]; omega
theorem AW.step {i k m j : Nat} {W : Wd} {M M0 : Tbl} {x : OpD} {p : WP} (a : AW i k W M M0 x p) (li : LI W M) (hs : HS m W.H) (ts : TS j M) (hk : k < 7) (n : Int) :
    AW i (k + 1) (W.step i n) ((PR.w p).tb W.H M) M0 x (p.step W.H n).1 := by
  have hen := a.en li hk
  have hst : W.step i n = ⟨(p.step W.H n).2, bset W.ps i (some (.w (p.step W.H n).1)), bset W.ms i (W.ms i)⟩ := by simp only [Wd.step, a.hp, PR.step]
  have hk3 := wstep_k p W.H n
  have po := li.po_step hs ts a.hp n (r := if wPl x k then ((wkOf x).bef p.s M0).2 else rep0) a.po
  have po : WO (p.step W.H n).1 (p.step W.H n).2 (if p.enabled W.H = true ∧ p.places = true then (p.k.bef p.s M).2 else (if wPl x k then ((wkOf x).bef p.s M0).2 else rep0)) := po
  have hm := a.m
  have hat := a.at_
  refine ⟨by rw [hst]; exact bset_same _ _ _, a.ar.step n, by rw [hk3.1]; exact a.kk, ?_, ?_, ?_⟩
  · by_cases he : p.enabled W.H = true
    · have hc := hen.1 he
      by_cases hb : badB x = true
      · have hkb : p.k.isBad = true := by rw [a.kk, wkOf_bad]; exact hb
        simp [hb, WP.step, he, hkb]
      · have hkb : p.k.isBad = false := by rw [a.kk, wkOf_bad]; simpa using hb
        have e1 : p.step W.H n = p.stp W.H n := by simp [WP.step, he, hkb]
        rw [e1, stp_at p W.H n (enabled_at he), hat]
        simp [hb]
    · have e1 : p.step W.H n = (p, W.H) := by simp [WP.step, he]
      rw [e1, hat]
      have : badB x = true ∧ k ≠ 0 := by
        rw [hen] at he
        by_cases hb : badB x = true
        · exact ⟨hb, fun h => he fun _ => h⟩
        · exact absurd (fun h => absurd h hb) he
      simp [this]
  · rw [hk3.2.2]
    simp only [PR.tb, PR.enabled, PR.places, PR.bef, WP.places, a.kk, wkOf_bad, Bool.or_eq_true, decide_eq_true_eq]
    by_cases hb : badB x = true
    · by_cases h0 : k = 0
      · rw [if_pos ⟨hen.2 fun _ => h0, .inl hb⟩, hm]; simp [wPl, hb, h0]
      · rw [if_neg (fun h => h0 (hen.1 h.1 hb)), hm]; simp [wPl, hb]; omega
    · have hb : badB x = false := by simpa using hb
      simp only [hb, Bool.false_eq_true, if_false] at hat
      by_cases h2 : k = 2
      · rw [if_pos ⟨hen.2 (by simp [hb]), .inr (by omega)⟩, hm]; simp [wPl, hb, h2]
      · rw [if_neg (by rw [hb, hat]; simp [h2]), hm]
        by_cases h3 : 2 < k
        · simp [wPl, hb, h3]; omega
        · have : ¬ 2 < k + 1 := by omega
          simp [wPl, hb, h3, this]
  · have hWH : (W.step i n).H = (p.step W.H n).2 := by rw [hst]
    rw [hk3.2.2, hWH]
    simp only [WP.places, a.kk, wkOf_bad, Bool.or_eq_true, decide_eq_true_eq] at po
    by_cases hb : badB x = true
    · by_cases h0 : k = 0
      · rw [if_pos ⟨hen.2 fun _ => h0, .inl hb⟩, hm] at po; simpa [wPl, hb, h0] using po
      · rw [if_neg (fun h => h0 (hen.1 h.1 hb))] at po
        have : 0 < k := by omega
        simpa [wPl, hb, this] using po
    · have hb : badB x = false := by simpa using hb
      simp only [hb, Bool.false_eq_true, if_false] at hat
      by_cases h2 : k = 2
      · rw [if_pos ⟨hen.2 (by simp [hb]), .inr (by omega)⟩, hm] at po; simpa [wPl, hb, h2] using po
      · rw [if_neg (by rw [hb, hat]; simp [h2])] at po
        by_cases h3 : 2 < k
        · have : 2 < k + 1 := by omega
          simpa [wPl, hb, h3, this] using po
        · have : ¬ 2 < k + 1 := by omega
          simpa [wPl, hb, h3, this] using po
/-- Its beginning. -/
theorem AW.init {W : Wd} {i : Nat} (ar : AR W i) (M : Tbl) (x : OpD) (s : Nat) : AW i 0 { W with ps := bset W.ps i (some (.w (sect i s (wkOf x)))) } M M x (sect i s (wkOf x)) :=
  ⟨bset_same _ _ _, fun j q hj hq => ar j q hj (by rw [← hq]; exact (bset_ne hj).symm), rfl, by simp [sect], by simp [wPl], ⟨fun _ => .inl rfl, fun _ h => by simp [sect] at h⟩⟩
theorem AW.done {i : Nat} {W : Wd} {M M0 : Tbl} {x : OpD} {p : WP} (a : AW i 7 W M M0 x p) : p.done = true ∧ (∀ j q, W.ps j = some q → ∀ s, ¬ q.holds s) ∧ M = ((wkOf x).bef p.s M0).1 ∧ repE p.err = ((wkOf x).bef p.s M0).2 := by
  have hat : p.at_ = 7 := by have := a.at_; split at this <;> simpa using this
  have hpl : wPl x 7 = true := by unfold wPl; split <;> simp
  refine ⟨by simp [WP.done, hat], fun j q hq s hh => ?_, by have := a.m; rwa [if_pos hpl] at this, ?_⟩
  · by_cases hj : j = i
    · subst hj
      rw [a.hp] at hq; cases hq
      have := hh.2.2.1; omega
    · exact a.ar j q hj hq s hh
  · have po := a.po
    rw [if_pos hpl] at po
    by_cases hb : p.k.isBad = true
    · rcases po.b hb with h | h
      · omega
      · rw [h.2.2, h.2.1]
    · have := po.g (by simpa using hb) (by omega)
      rw [if_neg (by omega)] at this
      exact this.symm
/-- The sweeper. -/
structure SL (N k : Nat) (p : SwP) (W : Wd) : Prop where
  hp : W.ps 8 = some (.w p.now)
  sa : SwA N k p W.H
  ar : AR W 8
theorem SL.init {W : Wd} {N : Nat} {M : Tbl} (li : LI W M) (ar : ∀ j q, W.ps j = some q → ∀ s, ¬ q.holds s) (hn : W.H.n = N) (n0 : 0 < N) : SL N 0 SwP.new { W with ps := bset W.ps 8 (some (.w SwP.new.now)) } :=
  ⟨bset_same W.ps 8 (some (.w SwP.new.now)), SwA.new hn n0 fun s hs => (li.free_iff (by omega)).2 fun i q hq => ar i q hq s, fun j q hj hq => ar j q (by rw [← hq]; exact (bset_ne hj).symm)⟩
theorem SL.start {W : Wd} {M : Tbl} (li : LI W M) (ar : ∀ q, W.ps 8 = some q → Idle q (W.ms 8) W.H.c) {s : Nat} (hs : s < W.H.n) : LI { W with ps := bset W.ps 8 (some (.w (sect 8 s .sweep))) } M := by
  refine li.start ⟨sect_g hs (by omega) (by simp), rfl, by simp [sect], by simp [sect]⟩ (Idle.w _ _ rfl) ar
theorem SL.step {N k m j : Nat} {p : SwP} {W : Wd} {M : Tbl} (x : SL N k p W) (li : LI W M) (hs : HS m W.H) (hm : m < 100000) (ts : TS j M) (n : Int) :
    ∃ W', W'.H = (p.step W.H n).2.1 ∧ SL N (k + 1) (p.step W.H n).1 W' ∧ LI W' (if k % 7 = 2 then M.sweep (k / 7 % N : Nat) else M) ∧ HS (m + 1) W'.H ∧ TS (j + 1) (if k % 7 = 2 then M.sweep (k / 7 % N : Nat) else M) := by
  have sa := x.sa
  obtain ⟨s1, s2, s3⟩ := sa.step n
  have hen := sa.en
  have hb : p.now.k.isBad = false := by rw [sa.kk]; rfl
  obtain ⟨l1, l2, l3⟩ := li.step hs hm ts x.hp n
  have htb : (PR.w p.now).tb W.H M = if k % 7 = 2 then M.sweep (k / 7 % N : Nat) else M := by
    simp only [PR.tb, PR.enabled, PR.places, PR.bef, WP.places, sa.kk, WK.isBad, Bool.false_or, decide_eq_true_eq, sa.at_, hen, true_and, WK.bef, sa.e, sa.st]
  rw [htb] at l1 l3
  have hst : W.step 8 n = ⟨(p.now.step W.H n).2, bset W.ps 8 (some (.w (p.now.step W.H n).1)), bset W.ms 8 (W.ms 8)⟩ := by simp only [Wd.step, x.hp, PR.step]
  have hH : (W.step 8 n).H = (p.step W.H n).2.1 := by
    rw [hst]; unfold SwP.step; dsimp only; split <;> rfl
  by_cases h6 : (p.now.step W.H n).1.done = true
  · have hnw : ∃ s', s' < W.H.n ∧ (p.step W.H n).1.now = sect 8 s' .sweep := by
      have hps := sa.st
      have hn := sa.hn
      have := Nat.mod_lt (k / 7) sa.n0
      unfold SwP.step; dsimp only; rw [if_pos h6]
      unfold SwP.nxt; dsimp only
      split
      · exact ⟨0, by have := sa.n0; omega, rfl⟩
      · exact ⟨p.stripe + 1, by omega, rfl⟩
    obtain ⟨s', hs', hnw⟩ := hnw
    have hWn : (W.step 8 n).H.n = W.H.n := by rw [hst]; exact (wstep_n p.now W.H n).1
    refine ⟨{ W.step 8 n with ps := bset (W.step 8 n).ps 8 (some (.w (p.step W.H n).1.now)) }, hH, ⟨bset_same (W.step 8 n).ps 8 (some (.w (p.step W.H n).1.now)), by rw [show Wd.H _ = _ from hH]; exact s1, fun jj q hj hq => x.ar.step n jj q hj (by rw [← hq]; exact (bset_ne hj).symm)⟩, ?_, l2, l3⟩
    rw [hnw]
    refine SL.start l1 (fun q hq => ?_) (by omega)
    have hq : some (PR.w (p.now.step W.H n).1) = some q := by rw [← hq, hst]; exact (bset_same W.ps 8 _).symm
    cases hq
    refine Idle.done (n := W.H.n) (i := 8) ?_ h6 hs.n8.1
    have := l1.pa 8 (.w (p.now.step W.H n).1) (by rw [hst]; exact bset_same W.ps 8 _)
    rw [hWn] at this; exact this
  · refine ⟨W.step 8 n, hH, ⟨?_, by rw [hH]; exact s1, x.ar.step n⟩, l1, l2, l3⟩
    rw [hst]
    unfold SwP.step; dsimp only; rw [if_neg h6]
    exact bset_same W.ps 8 _
end Go.Den
namespace Go.Proofs.YtcnphhhcknhhaaaGreat
open Go Go.Den Go.MapKept
set_option linter.unusedSimpArgs false
set_option linter.unusedVariables false
set_option maxRecDepth 20000
def WrO (W : Wd) : Prop := ∀ j q, W.ps j = some q → (∃ p, q = .w p) ∧ ∀ s, ¬ q.holds s
structure RW (T0 : Tags) (h0 : Heap) (hp m N : Nat) (c : Cfg) (W : Wd) (M : Tbl) (T' : Tags) (h' : Heap) : Prop where
  o : Only UW T0 h0 T' h'
  x : ∃ A, WdM T' h' hp A W
  k : WdK m W M
  r : WrO W
  n : W.H.n = N
  c : W.H.c = c
theorem RW.hl {T0 : Tags} {h0 : Heap} {hp m N : Nat} {c : Cfg} {W : Wd} {M : Tbl} {T' : Tags} {h' : Heap} (y : RW T0 h0 hp m N c W M T' h') : HallR T' h' [1] hp W.H := let ⟨_, x⟩ := y.x; x.hl
theorem RW.ext {T0 : Tags} {h0 : Heap} {hp m N : Nat} {c : Cfg} {W : Wd} {M : Tbl} {T' : Tags} {h' h'' : Heap} (y : RW T0 h0 hp m N c W M T' h') (e : Ext h' h'') : RW T0 h0 hp m N c W M T' h'' :=
  ⟨y.o.up (Only.of_ext (U := non) y.o.wf e) non_up, let ⟨A, x⟩ := y.x; ⟨A, x.ext y.o.wf e⟩, y.k, y.r, y.n, y.c⟩
theorem RW.idle {T0 : Tags} {h0 : Heap} {hp m N : Nat} {c : Cfg} {W : Wd} {M : Tbl} {T' : Tags} {h' : Heap} (y : RW T0 h0 hp m N c W M T' h') {j : Nat} {q : PR} (h : W.ps j = some q) (ms : Mine) : Idle q ms W.H.c := by
  obtain ⟨⟨p, rfl⟩, h2⟩ := y.r j q h
  exact ⟨h2, rfl⟩
theorem RW.free {T0 : Tags} {h0 : Heap} {hp m N : Nat} {c : Cfg} {W : Wd} {M : Tbl} {T' : Tags} {h' : Heap} (y : RW T0 h0 hp m N c W M T' h') {s : Nat} (hs : s < N) : Free (W.H.ss s) (M.st s) :=
  y.k.li.rest (by rw [y.n]; exact hs) fun j q hq => (y.r j q hq).2 s
/-- The first world. -/
theorem RW.init {T : Tags} {h : Heap} {hp : Nat} {c : Cfg} (cw : CfgW c) (hr : rightB c = true) (w : Wf T h) (y : HallR T h [1] hp (hall0 c c.stripes.toNat)) : RW T h hp 0 c.stripes.toNat c (wd0 c c.stripes.toNat) (tbl0 c c.stripes.toNat) T h :=
  ⟨Only.refl w, ⟨fun _ => 0, wd0M y _⟩, wd0K cw hr (cfg_nn hr).1, fun j q h => by simp [wd0] at h, rfl, rfl⟩
/-- One writing, behind k steps. -/
structure AwI (T0 : Tags) (h0 : Heap) (hp q i k m N : Nat) (c : Cfg) (x : OpD) (M0 : Tbl) (T' : Tags) (h' : Heap) : Prop where
  o : Only UW T0 h0 T' h'
  e : ∃ (W : Wd) (M : Tbl) (p : WP) (A : Nat → Nat), WdM T' h' hp A W ∧ A i = q ∧ WdK (m + k) W M ∧ AW i k W M M0 x p ∧ p.s = (stripeOf x.user c.stripes).toNat ∧ (∀ j q, W.ps j = some q → ∃ p, q = .w p) ∧ W.H.n = N ∧ W.H.c = c
theorem aw_new {T0 : Tags} {h0 : Heap} {hp m N : Nat} {c : Cfg} {W : Wd} {M : Tbl} {T' : Tags} {h' : Heap} (y : RW T0 h0 hp m N c W M T' h') {i : Nat} (hi : i ≤ 900) (x : OpD) (xw : OpW x) (hl : x.users.length < 1000000) {v : Value} (hv : Sl 1 StrR (fz T' h') v x.users) {K : Value → Heap → Prop}
    (hk : ∀ T'' h'' q, AwI T0 h0 hp q i 0 m N c x M T'' h'' → K (ptr q) h'') : callM P fn_write_New #[ptr hp, .int .i64 i, .agg (opC x v).toArray] h' K := by
  obtain ⟨A, xm⟩ := y.x
  refine wdnew_w hi x xw hl hv y.o.wf xm y.k (fun q hq => y.idle hq _) fun T2 h2 q o2 x2 k2 => ?_
  refine hk T2 h2 q ⟨y.o.up o2 non_up, _, M, wp0 W.H i x, bset A i q, x2, bset_same _ _ _, k2, ?_, ?_, fun j q hq => ?_, y.n, y.c⟩
  · exact AW.init (fun j q hj hq => (y.r j q hq).2) M x _
  · show (stripeOf x.user W.H.c.stripes).toNat = _; rw [y.c]
  · by_cases hj : j = i
    · subst hj
      have hq : bset W.ps j _ j = some q := hq
      rw [bset_same] at hq; cases hq; exact ⟨_, rfl⟩
    · have hq : bset W.ps i _ j = some q := hq
      rw [bset_ne hj] at hq; exact (y.r j q hq).1
theorem aw_step {T0 : Tags} {h0 : Heap} {hp q i k m N : Nat} {c : Cfg} {x : OpD} {M0 : Tbl} {T' : Tags} {h' : Heap} (y : AwI T0 h0 hp q i k m N c x M0 T' h') (hk7 : k < 7) (hm : m + k < 100000) (n : Int) {K : Value → Heap → Prop}
    (hk : ∀ T'' h'', AwI T0 h0 hp q i (k + 1) m N c x M0 T'' h'' → K (.tuple #[]) h'') : callM P fn_write_Proc_Step #[ptr q, ptr hp, .int .i64 n] h' K := by
  obtain ⟨o, W, M, p, A, xm, rfl, wk, aw, hs, hw, hn, hc⟩ := y
  refine wdstep_w n o.wf xm wk hm aw.hp fun T2 h2 o2 x2 => ?_
  have hst : W.step i n = ⟨(p.step W.H n).2, bset W.ps i (some (.w (p.step W.H n).1)), bset W.ms i (W.ms i)⟩ := by simp only [Wd.step, aw.hp, PR.step]
  have hnc := wstep_n p W.H n
  refine hk T2 h2 ⟨o.trans o2, _, _, _, A, x2, rfl, wk.step hm aw.hp n, aw.step wk.li wk.hs wk.ts hk7 n, by rw [(wstep_k p W.H n).2.2]; exact hs, fun j q hq => ?_, by rw [hst]; exact hnc.1.trans hn, by rw [hst]; exact hnc.2.trans hc⟩
  rw [hst] at hq
  by_cases hj : j = i
  · subst hj
    have hq : bset W.ps j _ j = some q := hq
    rw [bset_same] at hq; cases hq; exact ⟨_, rfl⟩
  · have hq : bset W.ps i _ j = some q := hq
    rw [bset_ne hj] at hq; exact hw j q hq
theorem aw_done {T0 : Tags} {h0 : Heap} {hp q i m N : Nat} {c : Cfg} {x : OpD} {M0 : Tbl} {T' : Tags} {h' : Heap} (y : AwI T0 h0 hp q i 7 m N c x M0 T' h') :
    ∃ W p, RW T0 h0 hp (m + 7) N c W ((wkOf x).bef (stripeOf x.user c.stripes).toNat M0).1 T' h' ∧ WPR T' h' [2, i] q p ∧ p.done = true ∧ repE p.err = ((wkOf x).bef (stripeOf x.user c.stripes).toNat M0).2 := by
  obtain ⟨o, W, M, p, A, xm, rfl, wk, aw, hs, hw, hn, hc⟩ := y
  obtain ⟨d1, d2, d3, d4⟩ := aw.done
  rw [hs] at d3 d4
  subst d3
  exact ⟨W, p, ⟨o, ⟨A, xm⟩, wk, fun j q hq => ⟨hw j q hq, d2 j q hq⟩, hn, hc⟩, xm.ps i _ aw.hp, d1, d4⟩
/-- Time passes. -/
theorem rw_pass {T0 : Tags} {h0 : Heap} {hp m N : Nat} {c : Cfg} {W : Wd} {M : Tbl} {T' : Tags} {h' : Heap} (y : RW T0 h0 hp m N c W M T' h') (hm : m < 100000) (who by_ : Int) (hb : U64 by_) {K : Value → Heap → Prop}
    (hk : ∀ T'' h'' W', RW T0 h0 hp (m + 1) N c W' (M.tick by_) T'' h'' → K (.tuple #[]) h'') : callM P fn_hall_Hall_Pass #[ptr hp, .int .i64 who, .int .u64 by_] h' K := by
  obtain ⟨A, xm⟩ := y.x
  refine hpass_ok who by_ hb y.o.wf g1 xm.hl y.k.hs.tn (by have := y.k.hs.ac; omega) fun T2 h2 o2 y2 => ?_
  refine hk T2 h2 { W with H := W.H.pass who by_ } ⟨y.o.trans (o2.mono fun _ => .inl), ⟨A, y2, fun j p hp => (xm.ps j p hp).kp o2.k (d12i j) (by simp [pre])⟩, ⟨y.k.li.pass who by_, y.k.hs.pass who by_ hb, (y.k.ts.tick by_ hb).mono (by omega)⟩, y.r, y.n, y.c⟩
def U3 (t : Tag) : Prop := UW t ∨ pre [3] t
theorem U3.nil : ¬ U3 [] := by rintro (h | h); exact UW.nil h; simp [pre] at h
theorem g3 : Gd [3] := ⟨2, [], rfl⟩
theorem d13 : Off (pre [1]) [3] := off_pre (g := []) (x := [1]) (y := [3]) (by simp) (by simp)
theorem d31 : Off (pre [3]) [1] := off_pre (g := []) (x := [3]) (y := [1]) (by simp) (by simp)
theorem dUW3 : Off UW [3] := fun t ht hh => hh.elim (d13 t ht) (off_pre (g := []) (x := [2]) (y := [3]) (by simp) (by simp) t ht)
structure SqI (T0 : Tags) (h0 : Heap) (hp pp k m N : Nat) (c : Cfg) (M : Tbl) (T' : Tags) (h' : Heap) : Prop where
  o : Only U3 T0 h0 T' h'
  e : ∃ (W : Wd) (p : SwP), HallR T' h' [1] hp W.H ∧ SwR T' h' [3] pp p ∧ SL N k p W ∧ WdK m W M ∧ SwG N p ∧ W.H.c = c
theorem sq_init {T0 : Tags} {h0 : Heap} {hp pp m N : Nat} {c : Cfg} {W : Wd} {M : Tbl} {T' : Tags} {h' : Heap} (y : RW T0 h0 hp m N c W M T' h') (n0 : 0 < N) (x : SwR T' h' [3] pp SwP.new) : SqI T0 h0 hp pp 0 m N c M T' h' := by
  have hn := y.n
  subst hn
  exact ⟨y.o.mono fun _ => .inl, { W with ps := bset W.ps 8 (some (.w SwP.new.now)) }, SwP.new, y.hl, x, SL.init y.k.li (fun j q hq => (y.r j q hq).2) rfl n0, ⟨SL.start y.k.li (fun q hq => y.idle hq _) n0, y.k.hs, y.k.ts⟩, SwG.new n0, y.c⟩
theorem sq_step {T0 : Tags} {h0 : Heap} {hp pp k m N : Nat} {c : Cfg} {M : Tbl} {T' : Tags} {h' : Heap} (y : SqI T0 h0 hp pp k m N c M T' h') (hm : m < 100000) (hk0 : k < 100000) (n : Int) {K : Value → Heap → Prop}
    (hk : ∀ T'' h'', SqI T0 h0 hp pp (k + 1) (m + 1) N c (if k % 7 = 2 then M.sweep (k / 7 % N : Nat) else M) T'' h'' → K (.bool (decide (k % 7 = 6))) h'') : callM P fn_sweep_Proc_Step #[ptr pp, ptr hp, .int .i64 n] h' K := by
  obtain ⟨o, W, p, hl, sw, sl, wk, sg, hc⟩ := y
  have hn := sl.sa.hn
  have sg' : SwG W.H.n p := by rw [hn]; exact sg
  refine sstep_ok n o.wf g1 d13 d31 g3 sw hl wk.hs hm sg' fun T2 h2 o2 x2 y2 => ?_
  obtain ⟨W', w1, w2, w3, w4, w5⟩ := sl.step wk.li wk.hs hm wk.ts n
  rw [(sl.sa.step n).2.1]
  have hr := sl.sa.ro
  have hr' : p.rounds ≤ k := by rw [hr]; exact Nat.le_trans (Nat.div_le_self _ _) (Nat.div_le_self _ _)
  refine hk T2 h2 ⟨o.trans (o2.mono fun t ht => ht.elim .inr fun h => .inl (.inl h)), W', _, by rw [w1]; exact y2, x2, w2, ⟨w3, w4, w5⟩, ?_, by rw [w1]; exact (sstep_n p W.H n).2.trans hc⟩
  have := sg'.step wk.hs n (by omega)
  rw [hn] at this; exact this
theorem SqI.ext {T0 : Tags} {h0 : Heap} {hp pp k m N : Nat} {c : Cfg} {M : Tbl} {T' : Tags} {h' h'' : Heap} (y : SqI T0 h0 hp pp k m N c M T' h') (e : Ext h' h'') : SqI T0 h0 hp pp k m N c M T' h'' := by
  obtain ⟨o, W, p, hl, sw, r⟩ := y
  have oe : Only non T' h' T' h'' := Only.of_ext o.wf e
  exact ⟨o.up oe non_up, W, p, hl.up oe (Off.non _) (not_non _), sw.kp oe.k (Off.non _) (not_non _), r⟩
/-- Behind whole rounds all is at rest. -/
theorem SqI.rest {T0 : Tags} {h0 : Heap} {hp pp k m N : Nat} {c : Cfg} {M : Tbl} {T' : Tags} {h' : Heap} (y : SqI T0 h0 hp pp k m N c M T' h') (h7 : k % 7 = 0) : ∃ W p, HallR T' h' [1] hp W.H ∧ SwR T' h' [3] pp p ∧ WdK m W M ∧ W.H.n = N ∧ W.H.c = c ∧ (∀ s, s < N → Free (W.H.ss s) (M.st s)) ∧ p.rounds = k / 7 / N := by
  obtain ⟨o, W, p, hl, sw, sl, wk, sg, hc⟩ := y
  have hn := sl.sa.hn
  refine ⟨W, p, hl, sw, wk, hn, hc, fun s hs => wk.li.rest (by omega) fun j q hq => ?_, sl.sa.ro⟩
  by_cases hj : j = 8
  · subst hj
    rw [sl.hp] at hq; cases hq
    intro hh
    have := sl.sa.at_
    have := hh.2.1; omega
  · exact sl.ar j q hj hq s
/-- Another beginning. -/
theorem RW.base {U : Tag → Prop} {T0 : Tags} {h0 : Heap} {hp m N : Nat} {c : Cfg} {W : Wd} {M : Tbl} {T' T'' : Tags} {h' h'' : Heap} (y : RW T0 h0 hp m N c W M T' h') (o : Only U T' h' T'' h'') (f : ∀ t, UW t → ¬ U t) (n : ¬ U []) : RW T'' h'' hp m N c W M T'' h'' := by
  obtain ⟨A, x⟩ := y.x
  exact ⟨Only.refl o.wf, ⟨A, x.up o f n⟩, y.k, y.r, y.n, y.c⟩
def fewB (c : Cfg) (xs : List OpD) (l : Nat) : Bool := decide (xs.length ≤ 7) && decide (l ≤ 300) && rightB c && xs.all shortB
theorem opsAt {F : Heap} {v : Value} {xs : List OpD} (x : Sl 7 OpR F v xs) {i : Nat} (hi : i < xs.length) : ∃ b p u, iaV (some (none, 7)) v (.int .i64 i) = some (.pointer (some ⟨b, p, none⟩)) ∧ (∀ h', Ext F h' → ldV (some (some 7)) (.pointer (some ⟨b, p, none⟩)) h' = some (.agg (opC xs[i] u).toArray)) ∧ Sl 1 StrR F u xs[i].users ∧ OpW xs[i] := by
  obtain ⟨b, o, c, i1, i2, i3⟩ := x.at (k := .i64) (i := i) (by omega) (by omega)
  obtain ⟨u, h1, h2, h3⟩ := i3
  simp -implicitDefEqProofs only [Int.toNat_natCast] at h1 h2 h3
  exact ⟨b, o, u, i1, fun h' e => by rw [ldV_n (cels_ext e i2), h1], h2, h3⟩
set_option maxHeartbeats 1000000 in
theorem few18_ok (c : Cfg) (xs : List OpD) (l : Nat) {h : Heap} {v tv : Value} (x : Sl 7 OpR h v xs) (hl : lnV 7 tv = some (.int .i64 l)) {K : Value → Heap → Prop} (hk : ∀ h', Ext h h' → K (.bool (fewB c xs l)) h') : callM P fn_doormanlaw18_few #[.agg (cfgC c).toArray, v, tv] h K := by
  apply e_doormanlaw18_few
  unfold d_doormanlaw18_few
  have hlen := x.len
  refine nw_agg fun v1 h1 n1 e1 c1 => ?_
  have og : ldV (some (some 7)) (ptr v1) h1 = some (.agg (cfgC c).toArray) := by simp [ld_at c1, cfgC]
  by_cases h7 : xs.length ≤ 7
  rotate_left
  · have h7' : (7 : Int) < xs.length := by omega
    simp -implicitDefEqProofs [hlen, h7']
    refine kb (hk _ e1) (by simp [fewB, h7])
  have h7' : ¬ (7 : Int) < xs.length := by omega
  by_cases h3 : l ≤ 300
  rotate_left
  · have h3' : (300 : Int) < l := by omega
    simp -implicitDefEqProofs [hlen, hl, h7', h3']
    refine kb (hk _ e1) (by simp [fewB, h3])
  have h3' : ¬ (300 : Int) < l := by omega
  simp -implicitDefEqProofs [hlen, hl, h7', h3', og]
  refine refRight_ok c fun h2 e2 => ?_
  have e0 := e1.trans e2
  cases hr : rightB c with
  | false =>
    simp -implicitDefEqProofs
    refine kb (hk _ e0) (by simp [fewB, hr])
  | true =>
  simp -implicitDefEqProofs
  unfold d_doormanlaw18_few_1
  rw [seqM_eq]
  unfold d_doormanlaw18_few_2
  refine loop_on [1] (fun s h' => Ext h h' ∧ ∃ i : Nat, i ≤ xs.length ∧ s 7 = .int .i64 i ∧ s 6 = .bool false ∧ (xs.take i).all shortB = true) (fun s _ => (xs.length - num (s 7)).toNat) ⟨e0, 0, by omega, rfl, rfl, by simp⟩ ?_
  rintro s h4 hf ⟨e4, i, hi, s7, s6, hall⟩
  have s1 : s 1 = v := by simpa using hf 1 (by simp)
  unfold d_doormanlaw18_few_3
  simp -implicitDefEqProofs only [s1, hlen, s7, bin_lss, ov_s, cd_b]
  refine ⟨fun hc => ?_, fun hc => ?_⟩
  · have hlt : i < xs.length := by have : ((i : Int) < xs.length) := by simpa using hc
                                   omega
    have hw : IntKind.i64.wrap ((i : Int) + 1) = (i + 1 : Nat) := by rw [wrap64_id (by omega) (by omega)]; omega
    obtain ⟨b, p, u, i1, i2, i3, i4⟩ := opsAt x hlt
    unfold d_doormanlaw18_few_4
    simp -implicitDefEqProofs only [s1, s7, i1, i2 _ e4, ov_s]
    refine short_ok xs[i] (i3.ext (@StrR.ext) e4) fun h5 e5 => ?_
    unfold d_doormanlaw18_few_5
    cases hs : shortB xs[i] with
    | false =>
      simp -implicitDefEqProofs
      unfold d_doormanlaw18_few_6
      simp -implicitDefEqProofs
      have : xs.all shortB = false := by
        cases hh : xs.all shortB with
        | false => rfl
        | true => rw [List.all_eq_true] at hh; rw [hh _ (List.getElem_mem hlt)] at hs; cases hs
      refine kb (hk _ (e4.trans e5)) (by simp [fewB, this])
    | true =>
      simp -implicitDefEqProofs
      unfold d_doormanlaw18_few_7
      simp -implicitDefEqProofs [s1, s6, s7, hw, -Int.natCast_add]
      exact ⟨⟨e4.trans e5, i + 1, by omega, rfl, List.all_eq_true.1 (all_succ hlt hall hs)⟩, by omega⟩
  · have : i = xs.length := by have : ¬ ((i : Int) < xs.length) := by simpa using hc
                               omega
    subst this
    rw [List.take_of_length_le (Nat.le_refl _)] at hall
    simp -implicitDefEqProofs
    refine kb (hk _ e4) (by simp [fewB, h7, h3, hr, hall])
end Go.Proofs.YtcnphhhcknhhaaaGreat
namespace Go.Den
open Go
set_option linter.unusedVariables false
set_option linter.unusedSimpArgs false
theorem Tbl.sweep_at {M : Tbl} {s : Nat} (hs : s < M.n) : (M.sweep s).t.now = M.t.now ∧ (M.sweep s).t.closed = M.t.closed ∧ (M.sweep s).c = M.c ∧ (M.sweep s).n = M.n ∧ ∀ s', (M.sweep s).bk s' = if s' = s then (sweepB (M.bk s) M.t.now).1 else M.bk s' := by
  have hc : (0 : Int) ≤ s ∧ (s : Int) < M.n := by omega
  simp only [Tbl.sweep, if_pos hc, Int.toNat_natCast]
  exact ⟨rfl, rfl, rfl, rfl, fun s' => by simp only [Tbl.sweepAt, Tbl.take, bset]⟩
structure SwQ (M0 : Tbl) (N k : Nat) (M : Tbl) : Prop where
  t : M.t.now = M0.t.now
  c : M.c = M0.c
  n : M.n = M0.n
  bk : ∀ s, s < N → M.bk s = if s < (k + 4) / 7 then (sweepB (M0.bk s) M0.t.now).1 else M0.bk s
theorem SwQ.init (M : Tbl) (N : Nat) : SwQ M N 0 M := ⟨rfl, rfl, rfl, fun s _ => by simp⟩
theorem SwQ.step {M0 M : Tbl} {N k : Nat} (x : SwQ M0 N k M) (hn : M0.n = N) (hk : k < 7 * N) : SwQ M0 N (k + 1) (if k % 7 = 2 then M.sweep (k / 7 % N : Nat) else M) := by
  by_cases h : k % 7 = 2
  · rw [if_pos h]
    have hm : k / 7 % N = k / 7 := Nat.mod_eq_of_lt (by omega)
    rw [hm]
    have hs : k / 7 < M.n := by rw [x.n]; omega
    obtain ⟨a1, a2, a3, a4, a5⟩ := Tbl.sweep_at hs
    refine ⟨a1.trans x.t, a3.trans x.c, a4.trans x.n, fun s hsN => ?_⟩
    rw [a5, x.t]
    by_cases e : s = k / 7
    · subst e
      rw [if_pos rfl, if_pos (by omega), x.bk _ hsN, if_neg (by omega)]
    · rw [if_neg e, x.bk s hsN]
      by_cases h2 : s < (k + 4) / 7
      · rw [if_pos h2, if_pos (by omega)]
      · rw [if_neg h2, if_neg (by omega)]
  · rw [if_neg h]
    refine ⟨x.t, x.c, x.n, fun s hsN => ?_⟩
    rw [x.bk s hsN]
    by_cases h2 : s < (k + 4) / 7
    · rw [if_pos h2, if_pos (by omega)]
    · rw [if_neg h2, if_neg (by omega)]
structure SwV (n0 : Int) (N k : Nat) (M : Tbl) : Prop where
  t : M.t.now = n0
  n : M.n = N
  lv : ∀ s, s < N → s < (k + 4) / 7 → Lv (M.bk s) n0
theorem SwV.step {n0 : Int} {M : Tbl} {N k m : Nat} (x : SwV n0 N k M) (ts : TS m M) (n1 : 0 < N) : SwV n0 N (k + 1) (if k % 7 = 2 then M.sweep (k / 7 % N : Nat) else M) := by
  by_cases h : k % 7 = 2
  · rw [if_pos h]
    have hs0 : k / 7 % N < N := Nat.mod_lt _ n1
    have hs : k / 7 % N < M.n := by rw [x.n]; exact hs0
    obtain ⟨a1, a2, a3, a4, a5⟩ := Tbl.sweep_at hs
    refine ⟨a1.trans x.t, a4.trans x.n, fun s hsN hk => ?_⟩
    rw [a5, x.t]
    by_cases e : s = k / 7 % N
    · rw [if_pos e]; exact sweep_lv (ts.bk _ hs).bw.so n0
    · rw [if_neg e]
      refine x.lv s hsN ?_
      by_cases h2 : k / 7 < N
      · rw [Nat.mod_eq_of_lt h2] at e; omega
      · omega
  · rw [if_neg h]
    exact ⟨x.t, x.n, fun s hsN hk => x.lv s hsN (by omega)⟩
theorem SwQ.pres {M0 M : Tbl} {N m : Nat} (x : SwQ M0 N (7 * N) M) (ts : TS m M0) (hn : M0.n = N) (u : ByteArray) {s : Nat} (hs : s < N) : presB (M.bk s) u M.t.now = presB (M0.bk s) u M0.t.now := by
  rw [x.bk s hs, if_pos (by omega), x.t]
  exact sweep_pres (ts.bk s (by omega)).bw.so u _
end Go.Den
namespace Go.Proofs.YtcnphhhcknhhaaaGreat
open Go Go.Den
set_option maxRecDepth 100000
set_option linter.unusedVariables false
set_option maxHeartbeats 40000000
def d_doormanlaw18_SweepRemoves_14 (s67 : Env) (q69 : Post) (m : List Nat) (v70 v71 v72 : Value) (h73 : Heap) : Prop := ov (binV BinOp.add 2 true (s67 12) (Value.int IntKind.i64 1)) fun v74 => ov (binV BinOp.add 2 true (s67 15) (Value.int IntKind.i64 1)) fun v75 => q69 .normal m (puts s67 [(57, (s67 15)), (58, v70), (61, (s67 14)), (62, v71), (63, (s67 12)), (64, v72), (65, (s67 12)), (66, v74), (12, v74), (59, (s67 15)), (60, v75), (15, v75)]) h73
def d_doormanlaw18_SweepRemoves_13 (s67 : Env) (h68 : Heap) (q69 : Post) (m : List Nat) (v70 : Value) : Prop := ov (ldV (some none) (s67 9) h68) fun v71 => callM P fn_write_Proc_Step #[(s67 14), v71, (s67 12)] h68 fun v72 h73 => d_doormanlaw18_SweepRemoves_14 s67 q69 m v70 v71 v72 h73
def d_doormanlaw18_SweepRemoves_12 (s67 : Env) (h68 : Heap) (q69 : Post) (m : List Nat) : Prop := ov (binV BinOp.lss 2 true (s67 15) (Value.int IntKind.i64 7)) fun v70 => cdM v70 (d_doormanlaw18_SweepRemoves_13 s67 h68 q69 m v70) (q69 (.exit 2) m (puts s67 [(57, (s67 15)), (58, v70)]) h68)
def d_doormanlaw18_SweepRemoves_11 (m : List Nat) (s49 : Env) (v52 v53 v57 v58 v59 v60 v62 : Value) (h63 : Heap) (q64 : Post) : Prop := loopM (fun m s67 h68 q69 => d_doormanlaw18_SweepRemoves_12 s67 h68 q69 m) m (puts s49 [(43, (s49 13)), (44, (s49 1)), (45, v52), (46, v53), (49, v57), (50, (s49 13)), (51, (s49 1)), (52, (s49 13)), (53, v58), (54, v59), (55, v60), (56, v62), (14, v62), (15, (Value.int IntKind.i64 0))]) h63 (blkM 2 q64)
def d_doormanlaw18_SweepRemoves_16 (v76 : Value) (q54 : Post) (m : List Nat) (s65 : Env) (h77 : Heap) : Prop := ov (unV UnOp.not v76) fun v78 => cdM v78 (q54 .ret m (puts s65 [(67, (s65 14)), (68, v76), (69, v78), (8, (Value.bool false))]) h77) (q54 .normal m (puts s65 [(67, (s65 14)), (68, v76), (69, v78)]) h77)
def d_doormanlaw18_SweepRemoves_15 (s65 : Env) (h66 : Heap) (q54 : Post) (m : List Nat) : Prop := callM P fn_write_Proc_Done #[(s65 14)] h66 fun v76 h77 => d_doormanlaw18_SweepRemoves_16 v76 q54 m s65 h77
def d_doormanlaw18_SweepRemoves_10 (s49 : Env) (h61 : Heap) (v57 v60 : Value) (m : List Nat) (v52 v53 v58 v59 : Value) (q54 : Post) : Prop := ldV (some none) (s49 9) h61 = some v57 ∧ callM P fn_write_New #[v57, (s49 13), v60] h61 fun v62 h63 => seqM (fun q64 => d_doormanlaw18_SweepRemoves_11 m s49 v52 v53 v57 v58 v59 v60 v62 h63 q64) (fun m s65 h66 => d_doormanlaw18_SweepRemoves_15 s65 h66 q54 m) (blkM 1 q54)
def d_doormanlaw18_SweepRemoves_9 (s49 : Env) (h50 : Heap) (m : List Nat) (v52 v53 : Value) (q54 : Post) : Prop := ov (ldV (some none) (s49 9) h50) fun v57 => ov (iaV (some (none, 7)) (s49 1) (s49 13)) fun v58 => ov (ldV (some (some 7)) v58 h50) fun v59 => callM P fn_doormanlaw18_writing #[v59] h50 fun v60 h61 => d_doormanlaw18_SweepRemoves_10 s49 h61 v57 v60 m v52 v53 v58 v59 q54
def d_doormanlaw18_SweepRemoves_8 (s49 : Env) (h50 : Heap) (m : List Nat) (v52 v53 : Value) (q51 : Post) : Prop := seqM (fun q54 => d_doormanlaw18_SweepRemoves_9 s49 h50 m v52 v53 q54) (fun m s55 h56 => ov (binV BinOp.add 2 true (s55 13) (Value.int IntKind.i64 1)) fun v79 => q51 .normal m (puts s55 [(47, (s55 13)), (48, v79), (13, v79)]) h56) q51
def d_doormanlaw18_SweepRemoves_7 (s49 : Env) (h50 : Heap) (m : List Nat) (q51 : Post) : Prop := ov (lnV 7 (s49 1)) fun v52 => ov (binV BinOp.lss 2 false (s49 13) v52) fun v53 => cdM v53 (d_doormanlaw18_SweepRemoves_8 s49 h50 m v52 v53 q51) (q51 (.exit 0) m (puts s49 [(43, (s49 13)), (44, (s49 1)), (45, v52), (46, v53)]) h50)
def d_doormanlaw18_SweepRemoves_6 (x0 x1 x2 x3 v1 v3 v5 v6 v10 v13 v18 v22 v25 v26 v28 v29 v30 v33 v34 v38 v42 v43 v44 : Value) (h45 : Heap) (q46 : Post) : Prop := loopM (fun m s49 h50 q51 => d_doormanlaw18_SweepRemoves_7 s49 h50 m q51) [] (puts (envOf [x0, x1, x2, x3]) [(4, v1), (8, (Value.bool false)), (21, v3), (22, v5), (23, v5), (24, v6), (25, v10), (26, v13), (27, v18), (28, v22), (31, v25), (32, v26), (30, v26), (33, v28), (34, v29), (9, v30), (10, v29), (35, v29), (36, v33), (37, v33), (38, v34), (39, v38), (40, v42), (41, v43), (42, v44), (11, v44), (12, (Value.int IntKind.i64 0)), (13, (Value.int IntKind.i64 0))]) h45 (blkM 0 q46)
def d_doormanlaw18_SweepRemoves_22 (s86 : Env) (q88 : Post) (m : List Nat) (v89 v90 v91 v92 v93 v94 v95 v96 : Value) (h97 : Heap) : Prop := ov (binV BinOp.add 2 true (s86 12) (Value.int IntKind.i64 1)) fun v98 => ov (binV BinOp.add 2 true (s86 16) (Value.int IntKind.i64 1)) fun v99 => q88 .normal m (puts s86 [(73, (s86 16)), (74, (s86 3)), (75, v89), (76, v90), (77, v91), (78, v92), (79, v93), (80, v94), (83, (s86 11)), (84, v95), (85, (s86 12)), (86, v96), (87, (s86 12)), (88, v98), (12, v98), (81, (s86 16)), (82, v99), (16, v99)]) h97
def d_doormanlaw18_SweepRemoves_21 (s86 : Env) (h87 : Heap) (q88 : Post) (m : List Nat) (v89 v90 v91 v92 v93 v94 : Value) : Prop := ov (ldV (some none) (s86 9) h87) fun v95 => callM P fn_sweep_Proc_Step #[(s86 11), v95, (s86 12)] h87 fun v96 h97 => d_doormanlaw18_SweepRemoves_22 s86 q88 m v89 v90 v91 v92 v93 v94 v95 v96 h97
def d_doormanlaw18_SweepRemoves_20 (s86 : Env) (h87 : Heap) (q88 : Post) (m : List Nat) : Prop := ov (cvV (some .i64) (s86 3)) fun v89 => ov (faV (some 0) (s86 4)) fun v90 => ov (ldV (some none) v90 h87) fun v91 => ov (binV BinOp.mul 2 true (Value.int IntKind.i64 7) v91) fun v92 => ov (binV BinOp.rem 2 false v89 v92) fun v93 => ov (binV BinOp.lss 2 false (s86 16) v93) fun v94 => cdM v94 (d_doormanlaw18_SweepRemoves_21 s86 h87 q88 m v89 v90 v91 v92 v93 v94) (q88 (.exit 4) m (puts s86 [(73, (s86 16)), (74, (s86 3)), (75, v89), (76, v90), (77, v91), (78, v92), (79, v93), (80, v94)]) h87)
def d_doormanlaw18_SweepRemoves_19 (m : List Nat) (s47 : Env) (v80 v81 : Value) (h82 : Heap) (q83 : Post) : Prop := loopM (fun m s86 h87 q88 => d_doormanlaw18_SweepRemoves_20 s86 h87 q88 m) m (puts s47 [(70, v80), (71, (s47 2)), (72, v81), (16, (Value.int IntKind.i64 0))]) h82 (blkM 4 q83)
def d_doormanlaw18_SweepRemoves_28 (s105 : Env) (q107 : Post) (m : List Nat) (v108 v109 v110 v111 v112 v115 v120 v123 v127 v131 v132 v133 : Value) (h134 : Heap) : Prop := ov (binV BinOp.add 2 true (s105 12) (Value.int IntKind.i64 1)) fun v135 => ov (binV BinOp.add 2 true (s105 18) (Value.int IntKind.i64 1)) fun v136 => q107 .normal m (puts s105 [(91, (s105 18)), (92, v108), (93, v109), (94, v110), (95, v111), (96, v111), (97, v112), (98, v115), (99, v120), (100, v123), (101, v127), (102, v131), (105, (s105 11)), (106, v132), (107, (s105 12)), (108, v133), (109, (s105 12)), (110, v135), (12, v135), (103, (s105 18)), (104, v136), (18, v136)]) h134
def d_doormanlaw18_SweepRemoves_27 (s105 : Env) (h128 : Heap) (q107 : Post) (m : List Nat) (v108 v109 v110 v111 v112 v115 v120 v123 v127 v131 : Value) : Prop := ov (ldV (some none) (s105 9) h128) fun v132 => callM P fn_sweep_Proc_Step #[(s105 11), v132, (s105 12)] h128 fun v133 h134 => d_doormanlaw18_SweepRemoves_28 s105 q107 m v108 v109 v110 v111 v112 v115 v120 v123 v127 v131 v132 v133 h134
def d_doormanlaw18_SweepRemoves_29 (q107 : Post) (m : List Nat) (s105 : Env) (v108 v109 v110 v111 v112 v115 v120 v123 v127 v131 : Value) (h128 : Heap) : Prop := q107 (.exit 6) m (puts s105 [(91, (s105 18)), (92, v108), (93, v109), (94, v110), (95, v111), (96, v111), (97, v112), (98, v115), (99, v120), (100, v123), (101, v127), (102, v131)]) h128
def d_doormanlaw18_SweepRemoves_26 (s105 : Env) (h106 : Heap) (q107 : Post) (m : List Nat) : Prop := ov (faV (some 0) (s105 4)) fun v108 => ov (ldV (some none) v108 h106) fun v109 => ov (binV BinOp.mul 2 true (Value.int IntKind.i64 14) v109) fun v110 => ov (binV BinOp.lss 2 false (s105 18) v110) fun v111 => gM (isB v111 true) (fun k114 => k114 (s105 11) h106) h106 fun v112 h113 => gM (isB v111 true) (fun k117 => callM P fn_sweep_Proc_Rounds #[v112] h113 fun v118 h119 => k117 v118 h119) h113 fun v115 h116 => gM (isB v111 true) (fun k122 => k122 (s105 17) h116) h116 fun v120 h121 => gM (isB v111 true) (fun k125 => ov (binV BinOp.add 2 true v120 (Value.int IntKind.i64 2)) fun v126 => k125 v126 h121) h121 fun v123 h124 => gM (isB v111 true) (fun k129 => ov (binV BinOp.lss 2 false v115 v123) fun v130 => k129 v130 h124) h124 fun v127 h128 => ov (pkV v111 v127 (Value.bool false)) fun v131 => cdM v131 (d_doormanlaw18_SweepRemoves_27 s105 h128 q107 m v108 v109 v110 v111 v112 v115 v120 v123 v127 v131) (d_doormanlaw18_SweepRemoves_29 q107 m s105 v108 v109 v110 v111 v112 v115 v120 v123 v127 v131 h128)
def d_doormanlaw18_SweepRemoves_25 (m : List Nat) (s84 : Env) (v100 : Value) (h101 : Heap) (q102 : Post) : Prop := loopM (fun m s105 h106 q107 => d_doormanlaw18_SweepRemoves_26 s105 h106 q107 m) m (puts s84 [(89, (s84 11)), (90, v100), (17, v100), (18, (Value.int IntKind.i64 0))]) h101 (blkM 6 q102)
def d_doormanlaw18_SweepRemoves_36 (s143 : Env) (q145 : Post) (m : List Nat) (v146 v147 v148 v149 v150 v152 v154 v155 : Value) (h156 : Heap) : Prop := ov (binV BinOp.add 2 true (s143 20) (Value.int IntKind.i64 1)) fun v157 => q145 .normal m (puts s143 [(111, (s143 20)), (112, v146), (113, v147), (114, v148), (117, v149), (118, (s143 20)), (119, v150), (120, v152), (121, v154), (122, v155), (115, (s143 20)), (116, v157), (20, v157)]) h156
def d_doormanlaw18_SweepRemoves_35 (s143 : Env) (v152 : Value) (h153 : Heap) (q145 : Post) (m : List Nat) (v146 v147 v148 v149 v150 : Value) : Prop := ov ((some (.func (Fn.func fn_doormanlaw18_SweepRemoves_c1) #[] #[(s143 9), (s143 19)]) : Option Value)) fun v154 => nxM P (do let d ← Deferred.ofValue v152 #[v154] ; invoke d.target d.args) h153 fun v155 h156 => d_doormanlaw18_SweepRemoves_36 s143 q145 m v146 v147 v148 v149 v150 v152 v154 v155 h156
def d_doormanlaw18_SweepRemoves_34 (v150 : Value) (h151 : Heap) (s143 : Env) (q145 : Post) (m : List Nat) (v146 v147 v148 v149 : Value) : Prop := callM P fn_omap_Map_string_book_Entry_All #[v150] h151 fun v152 h153 => d_doormanlaw18_SweepRemoves_35 s143 v152 h153 q145 m v146 v147 v148 v149 v150
def d_doormanlaw18_SweepRemoves_33 (s143 : Env) (h144 : Heap) (q145 : Post) (m : List Nat) (v146 v147 v148 : Value) : Prop := ov (ldV (some none) (s143 9) h144) fun v149 => callM P fn_hall_Hall_Read #[v149, (Value.int IntKind.i64 9), (s143 20)] h144 fun v150 h151 => d_doormanlaw18_SweepRemoves_34 v150 h151 s143 q145 m v146 v147 v148 v149
def d_doormanlaw18_SweepRemoves_32 (s143 : Env) (h144 : Heap) (q145 : Post) (m : List Nat) : Prop := ov (faV (some 0) (s143 4)) fun v146 => ov (ldV (some none) v146 h144) fun v147 => ov (binV BinOp.lss 2 false (s143 20) v147) fun v148 => cdM v148 (d_doormanlaw18_SweepRemoves_33 s143 h144 q145 m v146 v147 v148) (q145 (.exit 8) m (puts s143 [(111, (s143 20)), (112, v146), (113, v147), (114, v148)]) h144)
def d_doormanlaw18_SweepRemoves_31 (m : List Nat) (s103 : Env) (v137 : Value) (h139 : Heap) (q140 : Post) : Prop := loopM (fun m s143 h144 q145 => d_doormanlaw18_SweepRemoves_32 s143 h144 q145 m) m (puts s103 [(19, v137), (20, (Value.int IntKind.i64 0))]) h139 (blkM 8 q140)
def d_doormanlaw18_SweepRemoves_38 (v159 v158 : Value) (s141 : Env) (h160 : Heap) (K : Value → Heap → Prop) (m : List Nat) : Prop := ov (binV BinOp.eql 2 false v159 v158) fun v161 => gv (isB v161 true) (ov (ldV (some none) (s141 9) h160)) fun v162 => gv (isB v161 true) (ov (ldV (some none) (s141 19) h160)) fun v163 => gM (isB v161 true) (fun k166 => callM P fn_hall_Hall_Stored #[v162] h160 fun v167 h168 => k166 v167 h168) h160 fun v164 h165 => ((isB v161 true) = true → ldV (some none) (s141 19) h165 = some v163) ∧ gv (isB v161 true) (ov (binV BinOp.eql 2 false v164 v163)) fun v169 => ov (pkV v161 v169 (Value.bool false)) fun v170 => (retM P [.tmp 8] K) .ret m (puts s141 [(123, (s141 11)), (125, (s141 17)), (126, v158), (124, v159), (127, v161), (128, v161), (129, v162), (131, v163), (130, v164), (132, v169), (133, v170), (8, v170)]) h165
def d_doormanlaw18_SweepRemoves_37 (s141 : Env) (h142 : Heap) (K : Value → Heap → Prop) (m : List Nat) : Prop := ov (binV BinOp.add 2 true (s141 17) (Value.int IntKind.i64 2)) fun v158 => callM P fn_sweep_Proc_Rounds #[(s141 11)] h142 fun v159 h160 => d_doormanlaw18_SweepRemoves_38 v159 v158 s141 h160 K m
def d_doormanlaw18_SweepRemoves_30 (h104 : Heap) (m : List Nat) (s103 : Env) (K : Value → Heap → Prop) : Prop := nwM (zc P ty_int) ty_int h104 fun v137 h138 => stM (some 1) v137 (Value.int IntKind.i64 0) h138 fun h139 => seqM (fun q140 => d_doormanlaw18_SweepRemoves_31 m s103 v137 h139 q140) (fun m s141 h142 => d_doormanlaw18_SweepRemoves_37 s141 h142 K m) (retM P [.tmp 8] K)
def d_doormanlaw18_SweepRemoves_24 (m : List Nat) (s84 : Env) (v100 : Value) (h101 : Heap) (K : Value → Heap → Prop) : Prop := seqM (fun q102 => d_doormanlaw18_SweepRemoves_25 m s84 v100 h101 q102) (fun m s103 h104 => d_doormanlaw18_SweepRemoves_30 h104 m s103 K) (retM P [.tmp 8] K)
def d_doormanlaw18_SweepRemoves_23 (s84 : Env) (h85 : Heap) (m : List Nat) (K : Value → Heap → Prop) : Prop := callM P fn_sweep_Proc_Rounds #[(s84 11)] h85 fun v100 h101 => d_doormanlaw18_SweepRemoves_24 m s84 v100 h101 K
def d_doormanlaw18_SweepRemoves_18 (m : List Nat) (s47 : Env) (v80 v81 : Value) (h82 : Heap) (K : Value → Heap → Prop) : Prop := seqM (fun q83 => d_doormanlaw18_SweepRemoves_19 m s47 v80 v81 h82 q83) (fun m s84 h85 => d_doormanlaw18_SweepRemoves_23 s84 h85 m K) (retM P [.tmp 8] K)
def d_doormanlaw18_SweepRemoves_17 (s47 : Env) (h48 : Heap) (m : List Nat) (K : Value → Heap → Prop) : Prop := ov (ldV (some none) (s47 9) h48) fun v80 => callM P fn_hall_Hall_Pass #[v80, (Value.int IntKind.i64 9), (s47 2)] h48 fun v81 h82 => d_doormanlaw18_SweepRemoves_18 m s47 v80 v81 h82 K
def d_doormanlaw18_SweepRemoves_5 (x0 x1 x2 x3 v1 v3 v5 v6 v10 v13 v18 v22 v25 v26 v28 v29 v30 v33 v34 v38 v42 v43 v44 : Value) (h45 : Heap) (K : Value → Heap → Prop) : Prop := seqM (fun q46 => d_doormanlaw18_SweepRemoves_6 x0 x1 x2 x3 v1 v3 v5 v6 v10 v13 v18 v22 v25 v26 v28 v29 v30 v33 v34 v38 v42 v43 v44 h45 q46) (fun m s47 h48 => d_doormanlaw18_SweepRemoves_17 s47 h48 m K) (retM P [.tmp 8] K)
def d_doormanlaw18_SweepRemoves_4 (v30 : Value) (h39 : Heap) (x0 x1 x2 x3 v1 v3 v5 v6 v10 v13 v18 v22 v25 v26 v28 v29 v33 v34 v38 v42 : Value) (K : Value → Heap → Prop) : Prop := ov (ldV (some none) v30 h39) fun v43 => callM P fn_sweep_New #[v43] h39 fun v44 h45 => d_doormanlaw18_SweepRemoves_5 x0 x1 x2 x3 v1 v3 v5 v6 v10 v13 v18 v22 v25 v26 v28 v29 v30 v33 v34 v38 v42 v43 v44 h45 K
def d_doormanlaw18_SweepRemoves_3 (v26 : Value) (h27 : Heap) (K : Value → Heap → Prop) (x0 x1 x2 x3 v1 v3 v5 v6 v10 v13 v18 v22 v25 : Value) : Prop := ov (exV v26 0) fun v28 => ov (exV v26 1) fun v29 => nwM (zc P ty_Ptr_hall_Hall) ty_Ptr_hall_Hall h27 fun v30 h31 => stM (some 1) v30 v28 h31 fun h32 => ov (binV BinOp.neq 2 true v29 (Value.int IntKind.i64 0)) fun v33 => gM (isB v33 false) (fun k36 => ov (ldV (some none) v30 h32) fun v37 => k36 v37 h32) h32 fun v34 h35 => gM (isB v33 false) (fun k40 => ov (binV BinOp.eql 4 true v34 (Value.pointer none)) fun v41 => k40 v41 h35) h35 fun v38 h39 => ov (pkV v33 (Value.bool true) v38) fun v42 => cdM v42 (K (Value.bool false) h39) (d_doormanlaw18_SweepRemoves_4 v30 h39 x0 x1 x2 x3 v1 v3 v5 v6 v10 v13 v18 v22 v25 v26 v28 v29 v33 v34 v38 v42 K)
def d_doormanlaw18_SweepRemoves_2 (v1 : Value) (h19 : Heap) (K : Value → Heap → Prop) (x0 x1 x2 x3 v3 v5 v6 v10 v13 v18 v22 : Value) : Prop := ov (ldV (some (some 7)) v1 h19) fun v25 => callM P fn_hall_New #[v25] h19 fun v26 h27 => d_doormanlaw18_SweepRemoves_3 v26 h27 K x0 x1 x2 x3 v1 v3 v5 v6 v10 v13 v18 v22 v25
def d_doormanlaw18_SweepRemoves_1 (v3 v1 : Value) (h4 : Heap) (x1 : Value) (K : Value → Heap → Prop) (x0 x2 x3 : Value) : Prop := ov (unV UnOp.not v3) fun v5 => gM (isB v5 false) (fun k8 => ov (ldV (some (some 7)) v1 h4) fun v9 => k8 v9 h4) h4 fun v6 h7 => gM (isB v5 false) (fun k12 => k12 x1 h7) h7 fun v10 h11 => gM (isB v5 false) (fun k15 => callM P fn_doormanlaw18_few #[v6, v10, (Value.slice none 0 0)] h11 fun v16 h17 => k15 v16 h17) h11 fun v13 h14 => gM (isB v5 false) (fun k20 => ov (unV UnOp.not v13) fun v21 => k20 v21 h14) h14 fun v18 h19 => ov (pkV v5 (Value.bool true) v18) fun v22 => cdM v22 (callM P fn_doormanlaw18_awake #[] h19 fun v23 h24 => K v23 h24) (d_doormanlaw18_SweepRemoves_2 v1 h19 K x0 x1 x2 x3 v3 v5 v6 v10 v13 v18 v22)
def d_doormanlaw18_SweepRemoves (x0 x1 x2 x3 : Value) (h : Heap) (K : Value → Heap → Prop) : Prop := nwM (some x0.cells) ty_api_Config h fun v1 h2 => callM P fn_doormanlaw18_awake #[] h2 fun v3 h4 => d_doormanlaw18_SweepRemoves_1 v3 v1 h4 x1 K x0 x2 x3
theorem e_doormanlaw18_SweepRemoves {x0 x1 x2 x3 : Value} {h : Heap} {K : Value → Heap → Prop} (hd : d_doormanlaw18_SweepRemoves x0 x1 x2 x3 h K) : callM P fn_doormanlaw18_SweepRemoves #[x0, x1, x2, x3] h K :=
  call_of good mixed (fn := Tryz.f12) (args := [x0, x1, x2, x3]) Tryz.func12 rfl (by kernel_rfl) (of_decide_eq_true rfl) (B := d_doormanlaw18_SweepRemoves x0 x1 x2 x3 h K) (by kernel_rfl) hd
end Go.Proofs.YtcnphhhcknhhaaaGreat
namespace Go.Proofs.YtcnphhhcknhhaaaGreat
open Go Go.Den Go.MapKept
set_option linter.unusedSimpArgs false
set_option linter.unusedVariables false
set_option maxRecDepth 20000
def lcU (t : Tag) : Prop := t = lc
theorem lcU.nil : ¬ lcU [] := by simp [lcU, lc]
def livS (l : List Sess) (now : Int) (i : Nat) : Nat := ((l.take i).filter fun s => decide (now < s.un)).length
theorem livS_s {l : List Sess} {now : Int} {i : Nat} (hi : i < l.length) : livS l now (i + 1) = livS l now i + if now < l[i].un then 1 else 0 := by
  unfold livS
  rw [List.take_succ_eq_append_getElem hi, List.filter_append, List.length_append]
  by_cases h : now < l[i].un <;> simp [h]
theorem livS_le {l : List Sess} {now : Int} {i : Nat} : livS l now i ≤ l.length := by
  unfold livS
  exact Nat.le_trans (List.length_filter_le _ _) (by simp; omega)
set_option maxHeartbeats 1000000 in
theorem removesc_ok (k : ByteArray) (e : Ent) {L : Nat} {T : Tags} {h : Heap} {hp bh bl : Nat} {H : Hall} (w : Wf T h) (x : HallR T h [1] hp H) (ch : h bh = some (.cells #[ptr hp] ty_Ptr_hall_Hall (0, 0)) ∧ T bh = []) (cl : h bl = some (.cells #[.int .i64 L] ty_int (0, 0)) ∧ T bl = lc)
    {sv : Value} (hs : Sl 4 SessR (fz T h) sv e.ss) (hL : L + e.ss.length < 1000000000000) {K : Value → Heap → Prop}
    (hk : ∀ h', Only lcU T h T h' → h' bl = some (.cells #[.int .i64 (L + livS e.ss H.t.now e.ss.length : Nat)] ty_int (0, 0)) → K (.bool true) h') :
    callM P fn_doormanlaw18_SweepRemoves_c1 #[.string k, .agg (sv :: presC e.told).toArray, ptr bh, ptr bl] h K := by
  apply e_doormanlaw18_SweepRemoves_c1
  unfold d_doormanlaw18_SweepRemoves_c1
  have hlen := hs.len
  have hso := hs.one
  refine nw_agg fun v1 h1 n1 e1 c1 => ?_
  simp -implicitDefEqProofs only [presC] at c1
  have o1 : Only lcU T h T h1 := (Only.of_ext (U := non) w e1).mono fun _ => non_up _
  rw [seqM_eq]
  unfold d_doormanlaw18_SweepRemoves_c1_1
  have t1 : T v1 = [] := w v1 n1
  have b1 : h1 v1 = _ ∧ T v1 = [] := ⟨c1, t1⟩
  refine loop_on [2, 3, 5] (fun s h' => ∃ i : Nat, Only lcU T h1 T h' ∧ h' bl = some (.cells #[.int .i64 (L + livS e.ss H.t.now i : Nat)] ty_int (0, 0)) ∧ s 7 = .int .i64 i ∧ i ≤ e.ss.length) (fun s _ => (e.ss.length - num (s 7)).toNat) ⟨0, Only.refl o1.wf, by simpa [livS] using e1 _ _ cl.1, by simp, by omega⟩ ?_
  rintro s h2 hf ⟨i, o2, cl2, s7, hi⟩
  have s2 : s 2 = ptr bh := by simpa using hf 2 (by simp)
  have s3 : s 3 = ptr bl := by simpa using hf 3 (by simp)
  have s5 : s 5 = ptr v1 := by simpa using hf 5 (by simp)
  have b2 := o2.see b1 lcU.nil
  have cv := b2.1
  have o02 := o1.trans o2
  have bh2 := o02.see ch lcU.nil
  have chh := bh2.1
  unfold d_doormanlaw18_SweepRemoves_c1_2
  by_cases hlt : i < e.ss.length
  · have hlt' : (i : Int) < e.ss.length := by omega
    have hw : IntKind.i64.wrap ((i : Int) + 1) = (i + 1 : Nat) := by rw [wrap64_id (by omega) (by omega)]; omega
    simp -implicitDefEqProofs [s5, s7, ld_at cv, cel_of cv, stm_at cv, stm_upd, ld_same, cel_same, over, hlen, hlt']
    unfold d_doormanlaw18_SweepRemoves_c1_3
    rw [seqM_eq]
    unfold d_doormanlaw18_SweepRemoves_c1_4
    obtain ⟨b, p, i1, i2⟩ := sess_ld hs (k := .i64) hlt
    have iu : ∀ h', Ext (fz T h) h' → cel h' b (p + 3) = some (.int .u64 e.ss[i].un) := fun h' e' => by
      have := (cels_get (i2 h' e')).2 3 (by simp [sessC])
      simpa [sessC] using this
    have e2 : Ext (fz T h) h2 := (o02.ext lcU.nil).trans (fz_ext _ _)
    simp -implicitDefEqProofs [s5, s7, s2, ld_at cv, cel_of cv, stm_at cv, ld_at chh, cel_of chh, stm_at chh, stm_upd, ld_same, cel_same, over, i1, iu _ e2]
    refine now_ok (x.up o02 (fun t ht hh => by have hh : t = lc := hh; subst hh; simp [pre, lc] at ht) lcU.nil) fun h3 e3 => ?_
    have o3 : Only lcU T h1 T h3 := o2.trans ((Only.of_ext (U := non) o2.wf e3).mono fun _ => non_up _)
    have cv3 := e3 _ _ cv
    have cl3 := e3 _ _ cl2
    have hfd : fdV (some (none, 0)) (.agg (tmC H.t).toArray) = some (.int .u64 H.t.now) := by simp [fdV, tmC]
    unfold d_doormanlaw18_SweepRemoves_c1_5
    simp -implicitDefEqProofs [ld_at cv3, cel_of cv3, stm_at cv3, stm_upd, ld_same, cel_same, over, iu _ (e2.trans e3), hfd]
    have hls := livS_s (now := H.t.now) hlt
    by_cases hn : H.t.now < e.ss[i].un
    · have hle := livS_le (l := e.ss) (now := H.t.now) (i := i)
      have hw2 : IntKind.i64.wrap (((L + livS e.ss H.t.now i : Nat) : Int) + 1) = (L + livS e.ss H.t.now (i + 1) : Nat) := by rw [hls, if_pos hn, wrap64_id (by omega) (by omega)]; omega
      unfold d_doormanlaw18_SweepRemoves_c1_6
      simp -implicitDefEqProofs [hn, s3, s7, ld_at cl3, cel_of cl3, stm_at cl3, stm_upd, ld_same, cel_same, over, hw, hw2, s2, s5, -Int.natCast_add]
      exact ⟨⟨⟨o3.trans (Only.upd o3.wf cl3 cl.2), i + 1, by rw [upd_same']; simp, rfl, by omega⟩, by omega⟩, fun hh => absurd hn (by omega)⟩
    · have hn' : ¬ H.t.now < e.ss[i].un := hn
      unfold d_doormanlaw18_SweepRemoves_c1_7
      have hg : e.ss[i].un ≤ H.t.now := by omega
      simp -implicitDefEqProofs [hn', hg, s3, s7, hw, s2, s5, -Int.natCast_add]
      exact ⟨⟨o3, i + 1, by rw [hls, if_neg hn]; simpa using cl3, rfl, by omega⟩, by omega⟩
  · have hlt' : ¬ (i : Int) < e.ss.length := by omega
    have hi' : i = e.ss.length := by omega
    subst hi'
    simp -implicitDefEqProofs [s5, s7, ld_at cv, cel_of cv, stm_at cv, stm_upd, ld_same, cel_same, over, hlen]
    exact hk _ o02 cl2
def liveTo (b : Book) (now : Int) (i : Nat) : Nat := liveB (b.take i) now
theorem liveTo_s {b : Book} {now : Int} {i : Nat} (hi : i < b.length) : liveTo b now (i + 1) = liveTo b now i + livS b[i].2.ss now b[i].2.ss.length := by
  unfold liveTo liveB livS
  rw [List.take_succ_eq_append_getElem hi, List.map_append, List.sum_append, List.take_of_length_le (Nat.le_refl _)]
  rfl
/-- All of one book. -/
theorem removesAll_ok {b : Book} {m : Nat} (bm : BkM m b) (hm : m ≤ 10000) {L : Nat} (hL : L ≤ 100000000000) {T : Tags} {h : Heap} {hp bh bl p : Nat} {H : Hall} (w : Wf T h) (x : HallR T h [1] hp H) (ch : h bh = some (.cells #[ptr hp] ty_Ptr_hall_Hall (0, 0)) ∧ T bh = []) (cl : h bl = some (.cells #[.int .i64 L] ty_int (0, 0)) ∧ T bl = lc)
    {kw vw : Value} (xb : BookR (fz T h) kw vw b) (cp : h p = some (.cells #[kw, vw] ty_omap_Map_string_doorman_book_Entry (0, 0)) ∧ T p = []) {K : Value → Heap → Prop}
    (hk : ∀ v h', Only lcU T h T h' → h' bl = some (.cells #[.int .i64 (L + liveB b H.t.now : Nat)] ty_int (0, 0)) → K v h') :
    nxM P (do let d ← Deferred.ofValue (.func (.func fn_omap_Map_string_book_Entry_All_c1) #[] #[ptr p]) #[.func (.func fn_doormanlaw18_SweepRemoves_c1) #[] #[ptr bh, ptr bl]]; invoke d.target d.args) h K := by
  refine nx_fn good (by kernel_rfl) ?_
  obtain ⟨Lv, l1, l2⟩ := xb.2.1.els EntR.one
  simp -implicitDefEqProofs only [List.length_map] at l1
  have hlx : (allX b Lv).length = b.length := by simp [allX]
  have hlt : ∀ i, i ≤ b.length → liveTo b H.t.now i ≤ 100000000 := fun i hi => by
    have h1 : ∀ (l : Book), (∀ y ∈ l, y.2.ss.length ≤ m) → liveB l H.t.now ≤ l.length * m := by
      intro l
      induction l with
      | nil => intro _; simp [liveB]
      | cons a l ih =>
        intro ha
        have := ih fun y hy => ha y (List.mem_cons_of_mem _ hy)
        have h2 := ha a (List.mem_cons_self ..)
        have h3 : (a.2.ss.filter fun s => decide (H.t.now < s.un)).length ≤ a.2.ss.length := List.length_filter_le _ _
        simp -implicitDefEqProofs only [liveB, List.map_cons, List.sum_cons, List.length_cons] at this ⊢
        rw [Nat.succ_mul]; omega
    have h2 := h1 (b.take i) fun y hy => bm.bn y (List.mem_of_mem_take hy)
    have h3 : (b.take i).length ≤ m := Nat.le_trans (by simp; omega) bm.bl
    unfold liveTo
    exact Nat.le_trans h2 (Nat.le_trans (Nat.mul_le_mul h3 (Nat.le_refl m)) (Nat.le_trans (Nat.mul_le_mul hm hm) (by decide)))
  refine all_it b (hA := fz T h) (p := p) (kw := kw) (vw := vw) (Lv := Lv) (fz_at cp.1 cp.2) xb l1 l2.size (by simpa using l2.len) (.func (.func fn_doormanlaw18_SweepRemoves_c1) #[] #[ptr bh, ptr bl])
    (fun i h' => Only lcU T h T h' ∧ h' bl = some (.cells #[.int .i64 (L + liveTo b H.t.now i : Nat)] ty_int (0, 0))) (fun _ => False) h K ?_ ?_ ?_ ?_ ?_ (fun _ _ h => h.elim)
  · rintro i h' ⟨o, -⟩
    exact (o.ext lcU.nil).trans (fz_ext _ _)
  · rintro i h' h'' ⟨o, c⟩ e
    exact ⟨o.trans ((Only.of_ext (U := non) o.wf e).mono fun _ => non_up _), e _ _ c⟩
  · exact ⟨Only.refl w, by simpa [liveTo, liveB] using cl.1⟩
  · rintro i hi h' K' ⟨o, c⟩ hK' -
    obtain ⟨hib, sv, hx, hsv, hsn⟩ := allX_at l2 hi
    rw [hx]
    refine nx_fn good (by kernel_rfl) ?_
    have h1 := hlt i (by omega)
    have h2 := bm.bn _ (List.getElem_mem hib)
    show callM P fn_doormanlaw18_SweepRemoves_c1 #[.string b[i].1, .agg (sv :: presC b[i].2.told).toArray, ptr bh, ptr bl] h' K'
    refine removesc_ok b[i].1 b[i].2 o.wf (x.up o (fun t ht hh => by have hh : t = lc := hh; subst hh; simp [pre, lc] at ht) lcU.nil) (o.see ch lcU.nil) ⟨c, cl.2⟩ (hsv.ext (@SessR.ext) (o.ext lcU.nil)) (by omega) fun h'' o2 c2 => ?_
    refine hK' _ ⟨o.trans o2, ?_⟩
    rw [liveTo_s hib, ← Nat.add_assoc]; exact c2
  · rintro v h' ⟨o, c⟩
    rw [hlx] at c
    refine hk v h' o ?_
    have : liveTo b H.t.now b.length = liveB b H.t.now := by unfold liveTo; rw [List.take_of_length_le (Nat.le_refl _)]
    rw [← this]; exact c
end Go.Proofs.YtcnphhhcknhhaaaGreat
namespace Go.Proofs.YtcnphhhcknhhaaaGreat
open Go Go.Den Go.MapKept
set_option linter.unusedSimpArgs false
set_option linter.unusedVariables false
set_option maxRecDepth 20000
def livH (ss : Nat → Strp) (now : Int) (i : Nat) : Nat := ((List.range i).map fun s => liveB (ss s).book now).sum
theorem livH_s (ss : Nat → Strp) (now : Int) (i : Nat) : livH ss now (i + 1) = livH ss now i + liveB (ss i).book now := by
  unfold livH; rw [List.range_succ, List.map_append, List.sum_append]; simp
theorem livH_eq {H : Hall} {now : Int} : ∀ i, (∀ s, s < i → Lv (H.ss s).book now) → livH H.ss now i = stoH H i
  | 0, _ => rfl
  | i + 1, h => by rw [livH_s, stoH_s, livH_eq i fun s hs => h s (by omega), lv_live (h i (by omega))]
def U4 (t : Tag) : Prop := lcU t ∨ pre [1] t
theorem U4.nil : ¬ U4 [] := by rintro (h | h); exact lcU.nil h; simp [pre] at h
theorem d1lc : Off lcU [1] := fun t ht hh => by have hh : t = lc := hh; subst hh; simp [pre, lc] at ht
theorem d3lc : Off lcU [3] := fun t ht hh => by have hh : t = lc := hh; subst hh; simp [pre, lc] at ht
theorem zcPtrHall : zc P ty_Ptr_hall_Hall = some #[.pointer none] := by kernel_rfl
theorem livB_le {b : Book} {m : Nat} (bm : BkM m b) (hm : m ≤ 10000) (now : Int) : liveB b now ≤ 100000000 := by
  have h1 : ∀ (l : Book), (∀ y ∈ l, y.2.ss.length ≤ m) → liveB l now ≤ l.length * m := by
    intro l
    induction l with
    | nil => intro _; simp [liveB]
    | cons a l ih =>
      intro ha
      have := ih fun y hy => ha y (List.mem_cons_of_mem _ hy)
      have h2 := ha a (List.mem_cons_self ..)
      have h3 : (a.2.ss.filter fun s => decide (now < s.un)).length ≤ a.2.ss.length := List.length_filter_le _ _
      simp -implicitDefEqProofs only [liveB, List.map_cons, List.sum_cons, List.length_cons] at this ⊢
      rw [Nat.succ_mul]; omega
  exact Nat.le_trans (h1 b bm.bn) (Nat.le_trans (Nat.mul_le_mul bm.bl (Nat.le_refl m)) (Nat.le_trans (Nat.mul_le_mul hm hm) (by decide)))
theorem livH_le {m : Nat} {H : Hall} (hs : HS m H) (hm : m ≤ 10000) (now : Int) : ∀ i, i ≤ H.n → livH H.ss now i ≤ i * 100000000
  | 0, _ => by simp [livH]
  | i + 1, hi => by
    have h1 := livH_le hs hm now i (by omega)
    have h2 := livB_le (hs.st i (by omega)).bk hm now
    rw [livH_s, Nat.succ_mul]; omega
set_option maxHeartbeats 8000000 in
theorem sweepRemoves_ok (c : Cfg) (cw : CfgW c) (xs : List OpD) {by_ : Int} (hby : U64 by_) {steps : Int} (hst : 0 ≤ steps ∧ steps ≤ 255) {h : Heap} {v : Value} (x : Sl 7 OpR h v xs) {K : Value → Heap → Prop} (hk : ∀ h', Ext h h' → K (.bool true) h') :
    callM P fn_doormanlaw18_SweepRemoves #[.agg (cfgC c).toArray, v, .int .u64 by_, .int .u8 steps] h K := by
  apply e_doormanlaw18_SweepRemoves
  unfold d_doormanlaw18_SweepRemoves
  have hlen := x.len
  refine nw_agg fun v1 h1 n1 e1 c1 => ?_
  refine awake18_ok fun h2 e2 => ?_
  have c1 := e2 _ _ c1
  have e02 := e1.trans e2
  unfold d_doormanlaw18_SweepRemoves_1
  have og : ∀ h', h' v1 = some (.cells (cfgC c).toArray ty_api_Config (0, 0)) → ldV (some (some 7)) (ptr v1) h' = some (.agg (cfgC c).toArray) := fun h' hc => by simp [ld_at hc, cfgC]
  have os : ∀ h', h' v1 = some (.cells (cfgC c).toArray ty_api_Config (0, 0)) → cel h' v1 0 = some (.int .i64 c.stripes) := fun h' hc => by simp [cel_of hc, cfgC]
  simp -implicitDefEqProofs [og _ c1]
  refine few18_ok c xs 0 (x.ext (@OpR.ext) e02) rfl fun h3 e3 => ?_
  have c1 := e3 _ _ c1
  have e03 := e02.trans e3
  cases hf : fewB c xs 0 with
  | false =>
    simp -implicitDefEqProofs
    exact awake18_ok fun h4 e4 => hk _ (e03.trans e4)
  | true =>
  simp -implicitDefEqProofs
  have hr : rightB c = true := by simp [fewB] at hf; exact hf.1.2
  have hl7 : xs.length ≤ 7 := by simp [fewB] at hf; exact hf.1.1
  have hsh : ∀ y ∈ xs, shortB y = true := by simp [fewB] at hf; exact hf.2
  unfold d_doormanlaw18_SweepRemoves_2
  simp -implicitDefEqProofs only [og _ c1, ov_s]
  refine hallNew_ok c cw (wf_nil h3) g1 (fun _ T4 h4 hp o4 y4 => ?_) (fun hr' => by rw [hr] at hr'; cases hr')
  unfold d_doormanlaw18_SweepRemoves_3
  rw [zcPtrHall]
  simp -implicitDefEqProofs only [exV_0, exV_1, ov_s]
  refine nw_st rfl (by simp) (by simp) fun vh h5 n5 e5 c5 => ?_
  simp -implicitDefEqProofs only [Value.cells] at c5
  have t5 : T4 vh = [] := o4.wf vh n5
  have enil : binV .eql 4 true (ptr hp) (.pointer none) = some (.bool false) := rfl
  simp -implicitDefEqProofs [enil, ld_at c5, cel_of c5, stm_at c5, stm_upd, ld_same, cel_same, over]
  unfold d_doormanlaw18_SweepRemoves_4
  simp -implicitDefEqProofs [ld_at c5, cel_of c5, stm_at c5, stm_upd, ld_same, cel_same, over]
  have o45 : Only non T4 h4 T4 h5 := Only.of_ext o4.wf e5
  have o35 : Only UW (fun _ => []) h3 T4 h5 := (o4.mono fun _ => .inl).up o45 non_up
  refine snew_ok o45.wf g3 fun T6 h6 pp o6 x6 => ?_
  have b6 := o6.see (b := vh) (t := []) ⟨c5, t5⟩ (by simp [pre])
  have y6 := (y4.up o45 (Off.non _) (not_non _)).up o6 d31 (by simp [pre])
  have o36 : Only U3 (fun _ => []) h3 T6 h6 := (o35.mono fun _ => .inl).trans (o6.mono fun _ => .inr)
  obtain ⟨hnn, hn0⟩ := cfg_nn hr
  have y0 := RW.init cw hr o6.wf y6
  obtain ⟨N, hN⟩ : ∃ N, c.stripes.toNat = N := ⟨_, rfl⟩
  rw [hN] at y0 hnn hn0
  have hN8 : N ≤ 8 := by have := (HS.new cw hr hnn).n8.2; exact this
  have xF : Sl 7 OpR (fz T6 h6) v xs := by
    have : Sl 7 OpR (fz (fun _ => []) h3) v xs := by rw [fz_nil]; exact x.ext (@OpR.ext) e03
    exact this.ext (@OpR.ext) (o36.ext U3.nil)
  have hh : ∀ {T' h'}, Only UW T6 h6 T' h' → cel h' vh 0 = some (ptr hp) := fun o => by simp [cel_of (o.see b6 UW.nil).1]
  have hh3 : ∀ {T' h'}, Only U3 T6 h6 T' h' → cel h' vh 0 = some (ptr hp) := fun o => by simp [cel_of (o.see b6 U3.nil).1]
  unfold d_doormanlaw18_SweepRemoves_5
  rw [seqM_eq]
  unfold d_doormanlaw18_SweepRemoves_6
  refine loop_on [1, 2, 3, 4, 9, 11] (fun s h' => ∃ T' W M, ∃ i : Nat, RW T6 h6 hp (7 * i) N c W M T' h' ∧ s 12 = .int .i64 (7 * i : Nat) ∧ s 13 = .int .i64 i ∧ i ≤ xs.length) (fun s _ => (xs.length - num (s 13)).toNat) ⟨T6, _, _, 0, y0, rfl, rfl, by omega⟩ ?_
  rintro s h7 hf7 ⟨T7, W7, M7, i, y7, s12, s13, hi⟩
  have s1 : s 1 = v := by simpa using hf7 1 (by simp)
  have s2 : s 2 = .int .u64 by_ := by simpa using hf7 2 (by simp)
  have s3 : s 3 = .int .u8 steps := by simpa using hf7 3 (by simp)
  have s4 : s 4 = ptr v1 := by simpa using hf7 4 (by simp)
  have s9 : s 9 = ptr vh := by simpa using hf7 9 (by simp)
  have s11 : s 11 = ptr pp := by simpa using hf7 11 (by simp)
  unfold d_doormanlaw18_SweepRemoves_7
  simp -implicitDefEqProofs only [s1, hlen, s13, bin_lss, ov_s, cd_b]
  refine ⟨fun hc => ?_, fun hc => ?_⟩
  · have hlt : i < xs.length := by have : ((i : Int) < xs.length) := by simpa using hc
                                   omega
    have hw : IntKind.i64.wrap ((i : Int) + 1) = (i + 1 : Nat) := by rw [wrap64_id (by omega) (by omega)]; omega
    obtain ⟨b, p, u, i1, i2, i3, i4⟩ := opsAt xF hlt
    have eF5 : Ext (fz T6 h6) (fz T7 h7) := y7.o.ext UW.nil
    unfold d_doormanlaw18_SweepRemoves_8
    rw [seqM_eq]
    unfold d_doormanlaw18_SweepRemoves_9
    simp -implicitDefEqProofs only [s1, s13, s9, ldV_c, hh y7.o, i1, i2 _ (eF5.trans (fz_ext _ _)), ov_s]
    refine writing18_ok _ i3.one fun h8 e8 => ?_
    have y8 := y7.ext e8
    have hsx := hsh _ (List.getElem_mem hlt)
    have lx : xs[i].users.length ≤ 20 := by simp [shortB] at hsx; exact hsx.2.1
    unfold d_doormanlaw18_SweepRemoves_10
    simp -implicitDefEqProofs only [s9, s13, ldV_c, hh y8.o, true_and]
    refine aw_new y8 (by omega) (wrOp xs[i]) (wrOp_w i4) (by show xs[i].users.length < _; omega) ((i3.ext (@StrR.ext) eF5).ext (@StrR.ext) (fz_of_ext e8)) fun T9 h9 q a9 => ?_
    rw [seqM_eq]
    unfold d_doormanlaw18_SweepRemoves_11
    refine loop_on [1, 2, 3, 4, 9, 11, 13, 14] (fun s h' => ∃ T' , ∃ k : Nat, AwI T6 h6 hp q i k (7 * i) N c (wrOp xs[i]) M7 T' h' ∧ s 12 = .int .i64 (7 * i + k : Nat) ∧ s 15 = .int .i64 k ∧ k ≤ 7) (fun s _ => (9 - num (s 15)).toNat) ⟨T9, 0, a9, by simp [s12], by simp, by omega⟩ ?_
    rintro t h10 hf10 ⟨T10, k, a10, t12, t15, hk7⟩
    have t1 : t 1 = v := by simpa [s1] using hf10 1 (by simp)
    have t2 : t 2 = .int .u64 by_ := by simpa [s2] using hf10 2 (by simp)
    have t3 : t 3 = .int .u8 steps := by simpa [s3] using hf10 3 (by simp)
    have t4 : t 4 = ptr v1 := by simpa [s4] using hf10 4 (by simp)
    have t9 : t 9 = ptr vh := by simpa [s9] using hf10 9 (by simp)
    have t11 : t 11 = ptr pp := by simpa [s11] using hf10 11 (by simp)
    have t13 : t 13 = .int .i64 i := by simpa [s13] using hf10 13 (by simp)
    have t14 : t 14 = ptr q := by simpa using hf10 14 (by simp)
    unfold d_doormanlaw18_SweepRemoves_12
    by_cases hkk : k < 7
    · have hki : (k : Int) < 7 := by omega
      have hw1 : IntKind.i64.wrap (((7 * i + k : Nat) : Int) + 1) = (7 * i + (k + 1) : Nat) := by rw [wrap64_id (by omega) (by omega)]; omega
      have hw2 : IntKind.i64.wrap ((k : Int) + 1) = (k + 1 : Nat) := by rw [wrap64_id (by omega) (by omega)]; omega
      simp -implicitDefEqProofs [t15, hki]
      unfold d_doormanlaw18_SweepRemoves_13
      simp -implicitDefEqProofs only [t14, t9, t12, ldV_c, hh a10.o, ov_s]
      refine aw_step a10 hkk (by omega) _ fun T11 h11 a11 => ?_
      unfold d_doormanlaw18_SweepRemoves_14
      simp -implicitDefEqProofs [t12, t15, hw1, hw2, -Int.natCast_add, t1, t2, t3, t4, t9, t11, t13, t14, s1, s2, s3, s4, s9, s11, s13]
      exact ⟨⟨T11, k + 1, a11, rfl, rfl, by omega⟩, by omega⟩
    · obtain rfl : k = 7 := by omega
      simp -implicitDefEqProofs [t15]
      obtain ⟨W11, p11, r11, wp11, dn11, -⟩ := aw_done a10
      unfold d_doormanlaw18_SweepRemoves_15
      simp -implicitDefEqProofs [t14]
      refine wdone_ok wp11 fun h12 e12 => ?_
      rw [dn11]
      unfold d_doormanlaw18_SweepRemoves_16
      simp -implicitDefEqProofs [t1, t2, t3, t4, t9, t11, s1, s2, s3, s4, s9, s11, t12, t13, s13, hw, -Int.natCast_add]
      exact ⟨⟨T10, W11, _, i + 1, r11.ext e12, rfl, rfl, by omega⟩, by omega⟩
  have hil : i = xs.length := by have : ¬ ((i : Int) < xs.length) := by simpa using hc
                                 omega
  simp -implicitDefEqProofs
  unfold d_doormanlaw18_SweepRemoves_17
  simp -implicitDefEqProofs [s9, s2, hh y7.o]
  refine rw_pass y7 (by omega) 9 by_ hby fun T8 h8 W8 y8 => ?_
  generalize M7.tick by_ = M0 at y8
  have x8 : SwR T8 h8 [3] pp SwP.new := x6.kp y8.o.k dUW3 UW.nil
  have z8 := sq_init y8 hn0 x8
  have n0 : M0.n = N := by rw [y8.k.li.n]; exact y8.n
  have q8 : SwV M0.t.now N 0 M0 := ⟨rfl, n0, fun s _ hs => by omega⟩
  have sall := fun {T' h'} (o : Only U3 T6 h6 T' h') => ext_of_only (o36.trans o) U3.nil
  have ostr : ∀ {T' h'}, Only U3 T6 h6 T' h' → cel h' v1 0 = some (.int .i64 N) := fun o => by rw [hnn]; exact os _ (sall o _ _ c1)
  -- the midst of a round
  obtain ⟨st, hst'⟩ : ∃ st : Nat, steps = st := ⟨steps.toNat, by omega⟩
  subst hst'
  obtain ⟨K0, hK0⟩ : ∃ K0, K0 = st % (7 * N) := ⟨_, rfl⟩
  have hK0' : K0 < 7 * N := by rw [hK0]; exact Nat.mod_lt _ (by omega)
  have bcv : cvV (some .i64) (.int .u8 st) = some (.int .i64 st) := by rw [cvV_i, wrap64_id (by omega) (by omega)]
  have bmul : ∀ q : Nat, q ≤ 14 → binV .mul 2 true (.int .i64 q) (.int .i64 N) = some (.int .i64 (q * N : Nat)) := fun q hq => by
    have hq14 : q * N ≤ 14 * 8 := Nat.mul_le_mul hq hN8
    have : IntKind.i64.wrap ((q : Int) * (N : Int)) = (q * N : Nat) := by rw [wrap64_id (by have := Int.natCast_mul q N; omega) (by have := Int.natCast_mul q N; omega)]; simp
    simp -implicitDefEqProofs [binV, intV, this]
  have brem : binV .rem 2 false (.int .i64 st) (.int .i64 (7 * N : Nat)) = some (.int .i64 K0) := by
    have r : ((st : Int)).tmod (7 * N : Nat) = (st % (7 * N) : Nat) := by rw [Int.tmod_eq_emod_of_nonneg (by omega)]; simp
    have : ¬ ((7 * N : Nat) : Int) = 0 := by omega
    simp -implicitDefEqProofs only [binV, intV, if_true, if_neg this, r, hK0]
  unfold d_doormanlaw18_SweepRemoves_18
  rw [seqM_eq]
  unfold d_doormanlaw18_SweepRemoves_19
  refine loop_on [3, 4, 9, 11] (fun s h' => ∃ T' M, ∃ k : Nat, SqI T6 h6 hp pp k (7 * i + 1 + k) N c M T' h' ∧ SwV M0.t.now N k M ∧ s 12 = .int .i64 (7 * i + k : Nat) ∧ s 16 = .int .i64 k ∧ k ≤ K0) (fun s _ => (100 - num (s 16)).toNat) ⟨T8, M0, 0, z8, q8, by simp [s12], by simp, by omega⟩ ?_
  rintro t h10 hf10 ⟨T10, M10, k, z10, q10, t12, t16, hk7⟩
  have t3 : t 3 = .int .u8 st := by simpa [s3] using hf10 3 (by simp)
  have t4 : t 4 = ptr v1 := by simpa [s4] using hf10 4 (by simp)
  have t9 : t 9 = ptr vh := by simpa [s9] using hf10 9 (by simp)
  have t11 : t 11 = ptr pp := by simpa [s11] using hf10 11 (by simp)
  have b7 : binV .mul 2 true (.int .i64 7) (.int .i64 N) = some (.int .i64 (7 * N : Nat)) := bmul 7 (by omega)
  have b14 : binV .mul 2 true (.int .i64 14) (.int .i64 N) = some (.int .i64 (14 * N : Nat)) := bmul 14 (by omega)
  unfold d_doormanlaw18_SweepRemoves_20
  by_cases hkk : k < K0
  · have hki : (k : Int) < K0 := by omega
    have hw1 : IntKind.i64.wrap (((7 * i + k : Nat) : Int) + 1) = (7 * i + (k + 1) : Nat) := by rw [wrap64_id (by omega) (by omega)]; omega
    have hw2 : IntKind.i64.wrap ((k : Int) + 1) = (k + 1 : Nat) := by rw [wrap64_id (by omega) (by omega)]; omega
    simp -implicitDefEqProofs only [t3, t4, t16, bcv, faV_p, ov_s, ldV_c, Nat.zero_add, ostr z10.o, b7, brem, bin_lss, decide_eq_true hki, cd_b, true_implies, reduceCtorEq, false_implies, and_true]
    unfold d_doormanlaw18_SweepRemoves_21
    simp -implicitDefEqProofs only [t9, t11, t12, ldV_c, hh3 z10.o, ov_s]
    refine sq_step z10 (by omega) (by omega) _ fun T11 h11 z11 => ?_
    unfold d_doormanlaw18_SweepRemoves_22
    simp -implicitDefEqProofs [t12, t16, hw1, hw2, -Int.natCast_add, t3, t4, t9, t11, s3, s4, s9, s11]
    obtain ⟨W10, p10, _, _, _, wk10, _, _⟩ := z10.e
    exact ⟨⟨T11, _, k + 1, z11, q10.step wk10.ts hn0, rfl, rfl, by omega⟩, by omega⟩
  obtain rfl : k = K0 := by omega
  have hki : ¬ (k : Int) < k := by omega
  simp -implicitDefEqProofs only [t3, t4, t16, bcv, faV_p, ov_s, ldV_c, Nat.zero_add, ostr z10.o, b7, brem, bin_lss, decide_eq_false hki, cd_b, true_implies, reduceCtorEq, false_implies, true_and]
  simp -implicitDefEqProofs only [blkM, lpM, thenM]
  unfold d_doormanlaw18_SweepRemoves_23
  simp -implicitDefEqProofs [t11]
  have ro : ∀ {k m M T' h'}, SqI T6 h6 hp pp k m N c M T' h' → ∀ {K : Value → Heap → Prop}, K (.int .i64 (k / 7 / N : Nat)) h' → callM P fn_sweep_Proc_Rounds #[ptr pp] h' K := by
    intro k m M T' h' z K hK
    obtain ⟨o, W, p, hl, sw, sl, wk, sg, hc⟩ := z
    refine srounds_ok sw ?_
    rw [sl.sa.ro]; exact hK
  refine ro z10 ?_
  have hd0 : k / 7 / N = 0 := by
    rw [Nat.div_div_eq_div_mul]; exact Nat.div_eq_of_lt hK0'
  rw [hd0]
  unfold d_doormanlaw18_SweepRemoves_24
  simp -implicitDefEqProofs
  rw [seqM_eq]
  unfold d_doormanlaw18_SweepRemoves_25
  refine loop_on [4, 9, 11, 17] (fun s h' => ∃ T' M, ∃ k2 : Nat, SqI T6 h6 hp pp (k + k2) (7 * i + 1 + (k + k2)) N c M T' h' ∧ SwV M0.t.now N (k + k2) M ∧ s 12 = .int .i64 (7 * i + (k + k2) : Nat) ∧ s 18 = .int .i64 k2 ∧ k + k2 ≤ 14 * N) (fun s _ => (200 - num (s 18)).toNat) ⟨T10, M10, 0, z10, q10, by simp [t12], by simp, by omega⟩ ?_
  rintro r h12 hf12 ⟨T12, M12, k2, z12, q12, r12, r18, hk14⟩
  have r4 : r 4 = ptr v1 := by simpa [t4] using hf12 4 (by simp)
  have r9 : r 9 = ptr vh := by simpa [t9] using hf12 9 (by simp)
  have r11 : r 11 = ptr pp := by simpa [t11] using hf12 11 (by simp)
  have r17 : r 17 = .int .i64 0 := by simpa using hf12 17 (by simp)
  unfold d_doormanlaw18_SweepRemoves_26
  have hw02 : IntKind.i64.wrap (2 : Int) = 2 := rfl
  have hdd : (k + k2) / 7 / N < 2 ↔ k + k2 < 14 * N := by
    rw [Nat.div_div_eq_div_mul, Nat.div_lt_iff_lt_mul (by omega)]; omega
  by_cases hkk : k + k2 < 14 * N
  · have hk2 : (k2 : Int) < (14 * N : Nat) := by omega
    have hd2 : (((k + k2) / 7 / N : Nat) : Int) < 2 := by have := hdd.2 hkk; omega
    have hw1 : IntKind.i64.wrap (((7 * i + (k + k2) : Nat) : Int) + 1) = (7 * i + (k + (k2 + 1)) : Nat) := by rw [wrap64_id (by omega) (by omega)]; omega
    have hw2 : IntKind.i64.wrap ((k2 : Int) + 1) = (k2 + 1 : Nat) := by rw [wrap64_id (by omega) (by omega)]; omega
    have bl : binV .lss 2 false (.int .i64 k2) (.int .i64 (14 * N : Nat)) = some (.bool true) := by rw [bin_lss, decide_eq_true hk2]
    simp -implicitDefEqProofs only [r4, r18, faV_p, ov_s, ldV_c, Nat.zero_add, ostr z12.o, b14, bl]
    simp -implicitDefEqProofs [r11]
    refine ro z12 ?_
    have bl2 : binV .lss 2 false (.int .i64 ((k + k2) / 7 / N : Nat)) (.int .i64 2) = some (.bool true) := by rw [bin_lss, decide_eq_true hd2]
    simp -implicitDefEqProofs [r17, hw02, hd2, -Int.natCast_ediv]
    unfold d_doormanlaw18_SweepRemoves_27
    simp -implicitDefEqProofs only [r9, r11, r12, ldV_c, hh3 z12.o, ov_s]
    refine sq_step z12 (by omega) (by omega) _ fun T13 h13 z13 => ?_
    unfold d_doormanlaw18_SweepRemoves_28
    simp -implicitDefEqProofs [r12, r18, hw1, hw2, -Int.natCast_add, r4, r9, r11, r17, t4, t9, t11]
    obtain ⟨W10, p10, _, _, _, wk10, _, _⟩ := z12.e
    exact ⟨⟨T13, _, k2 + 1, z13, q12.step wk10.ts hn0, rfl, rfl, by omega⟩, by omega⟩
  have hk14 : k + k2 = 14 * N := by omega
  rw [hk14] at z12 q12
  have fin : ∀ (ρ : Env) , ρ 4 = ptr v1 → ρ 9 = ptr vh → ρ 11 = ptr pp → ρ 17 = .int .i64 0 → d_doormanlaw18_SweepRemoves_30 h12 [] ρ K := by
    intro ρ ρ4 ρ9 ρ11 ρ17
    obtain ⟨W, p, hl, sw, wk, hn, hcc, fr, hro⟩ := z12.rest (by omega)
    have w12 := z12.o.wf
    unfold d_doormanlaw18_SweepRemoves_30
    rw [zcInt]
    refine nw_tag w12 lc fun vl T13 h13 n13 o13 t13 c13 => ?_
    have x13 := hl.up o13 (Off.non _) (not_non _)
    have s13 := sw.kp o13.k (Off.non _) (not_non _)
    have o613 := z12.o.up o13 non_up
    have ec : upd h13 vl (.cells #[.int .i64 0] ty_int (0, 0)) = h13 := (upd_of (fun _ _ => rfl) c13).symm
    simp -implicitDefEqProofs [ld_at c13, cel_of c13, stm_at c13, stm_upd, ld_same, cel_same, over]
    rw [ec, seqM_eq]
    unfold d_doormanlaw18_SweepRemoves_31
    have b613 := o613.see b6 U3.nil
    have hk0 := wk.hs
    refine loop_on [4, 9, 11, 17, 19] (fun s h' => ∃ T' H, ∃ j : Nat, Only U4 T13 h13 T' h' ∧ HallR T' h' [1] hp H ∧ HS (7 * i + 1 + 14 * N + j) H ∧ H.ss = W.H.ss ∧ H.t = W.H.t ∧ H.n = N ∧ h' vl = some (.cells #[.int .i64 (livH W.H.ss W.H.t.now j : Nat)] ty_int (0, 0)) ∧ T' vl = lc ∧ s 20 = .int .i64 j ∧ j ≤ N) (fun s _ => (N - num (s 20)).toNat) ⟨T13, W.H, 0, Only.refl o13.wf, x13, hk0, rfl, rfl, hn, by simpa [livH] using c13, t13, by simp, by omega⟩ ?_
    rintro u h14 hf14 ⟨T14, H, j, o14, x14, hs14, hss, htt, hn14, c14, t14, u20, hj⟩
    have u4 : u 4 = ptr v1 := by simpa [ρ4] using hf14 4 (by simp)
    have u9 : u 9 = ptr vh := by simpa [ρ9] using hf14 9 (by simp)
    have u11 : u 11 = ptr pp := by simpa [ρ11] using hf14 11 (by simp)
    have u17 : u 17 = .int .i64 0 := by simpa [ρ17] using hf14 17 (by simp)
    have u19 : u 19 = ptr vl := by simpa using hf14 19 (by simp)
    have e1314 : Ext (fz T13 h13) h14 := (o14.ext U4.nil).trans (fz_ext _ _)
    have eall13 : Ext h3 h13 := sall o613
    have b14 := o14.see b613 U4.nil
    have cv14 : cel h14 v1 0 = some (.int .i64 N) := by
      have tv : (fun _ : Nat => ([] : Tag)) v1 = [] := rfl
      have bb := (o36.trans o613).see (b := v1) (t := []) ⟨c1, rfl⟩ U3.nil
      have bb := o14.see bb U4.nil
      rw [hnn]; exact os _ bb.1
    have ch14 : cel h14 vh 0 = some (ptr hp) := by simp [cel_of b14.1]
    unfold d_doormanlaw18_SweepRemoves_32
    by_cases hjN : j < N
    · have hji : (j : Int) < N := by omega
      have hw : IntKind.i64.wrap ((j : Int) + 1) = (j + 1 : Nat) := by rw [wrap64_id (by omega) (by omega)]; omega
      simp -implicitDefEqProofs [u4, u20, cv14, hji]
      unfold d_doormanlaw18_SweepRemoves_33
      simp -implicitDefEqProofs [u9, u20, ch14]
      refine read_ok 9 o14.wf g1 x14 (by omega) (by omega) (by have := hs14.ac; omega) fun T15 h15 ka kb o15 x15 xb => ?_
      have cl15 := o15.see (b := vl) ⟨c14, t14⟩ (by simp [pre, lc])
      have b15 := o15.see b14 (by simp [pre])
      have bm := (hs14.st j (by omega)).bk
      unfold d_doormanlaw18_SweepRemoves_34
      refine all_ok _ (fz_ext T15 h15) xb fun pA h16 nA eA cA => ?_
      have oA : Only non T15 h15 T15 h16 := Only.of_ext o15.wf eA
      have tA : T15 pA = [] := o15.wf pA nA
      have cl16 := oA.see cl15 (not_non _)
      have b16 := oA.see b15 (not_non _)
      have x16 := x15.up oA (Off.non _) (not_non _)
      unfold d_doormanlaw18_SweepRemoves_35
      simp -implicitDefEqProofs only [u9, u19, ov_s]
      have hlv := livH_le hs14 (by omega) W.H.t.now j (by omega)
      rw [hss] at hlv
      have hj8 : j * 100000000 ≤ 800000000 := by omega
      refine removesAll_ok bm (by omega) (by omega) oA.wf x16 b16 cl16 (xb.ext (fz_of_ext eA)) ⟨cA, tA⟩ fun vv h17 o17 c17 => ?_
      have o1417 : Only U4 T14 h14 T15 h17 := ((o15.mono fun _ => .inr).up oA non_up).trans (o17.mono fun _ => .inl)
      unfold d_doormanlaw18_SweepRemoves_36
      simp -implicitDefEqProofs [u20, hw, u4, u9, u11, u17, u19, ρ4, ρ9, ρ11, ρ17, -Int.natCast_add]
      have hv : livH W.H.ss W.H.t.now j + liveB (H.ss j).book (H.read 9 j).t.now = livH W.H.ss W.H.t.now (j + 1) := by
        rw [livH_s, ← hss]; show _ + liveB (H.ss j).book H.t.now = _; rw [htt]
      rw [hv] at c17
      exact ⟨⟨T15, o14.trans o1417, H.read 9 j, x16.up o17 d1lc lcU.nil, j + 1, hs14.read 9 j, hss, htt, hn14, c17, cl16.2, rfl, by omega⟩, by omega⟩
    · obtain rfl : j = N := by omega
      simp -implicitDefEqProofs [u4, u20, cv14]
      unfold d_doormanlaw18_SweepRemoves_37
      simp -implicitDefEqProofs [u17, u11]
      have s14' := s13.kp o14.k (fun t ht hh => hh.elim (d3lc t ht) (d13 t ht)) U4.nil
      refine srounds_ok s14' ?_
      have hro2 : p.rounds = 2 := by
        rw [hro, Nat.div_div_eq_div_mul]
        exact Nat.div_eq_of_lt_le (by omega) (by omega)
      rw [hro2]
      unfold d_doormanlaw18_SweepRemoves_38
      simp -implicitDefEqProofs [hw02, u9, u19, ch14, ld_at c14, cel_of c14, stm_at c14, stm_upd, ld_same, cel_same, over]
      refine hstored_ok o14.wf x14 hs14 (by omega) fun h15 e15 => ?_
      have c15 := e15 _ _ c14
      have heq : livH W.H.ss W.H.t.now j = H.stored := by
        rw [← stoH_all, hn14, ← hss]
        refine livH_eq j fun s hs => ?_
        have h1 := q12.lv s hs (by omega)
        have h2 := congrArg Prod.fst (fr s hs).e
        have h2 : M12.bk s = (W.H.ss s).book := h2
        rw [hss, ← h2, ← wk.li.t, q12.t]; exact h1
      simp -implicitDefEqProofs [ld_at c15, cel_of c15, stm_at c15, stm_upd, ld_same, cel_same, over, heq]
      refine kb (hk _ ?_) (by simp)
      have o14' : Only (fun t => U3 t ∨ lcU t) (fun _ => []) h3 T14 h14 := ((o36.trans o613).mono fun _ => .inl).trans (o14.mono fun _ h => h.elim .inr fun h => .inl (.inl (.inl h)))
      exact e03.trans ((ext_of_only o14' (by rintro (h | h); exact U3.nil h; exact lcU.nil h)).trans e15)
  by_cases hk2 : (k2 : Int) < (14 * N : Nat)
  · have hd2 : ¬ (((k + k2) / 7 / N : Nat) : Int) < 2 := fun hh => hkk (hdd.1 (by omega))
    have bl : binV .lss 2 false (.int .i64 k2) (.int .i64 (14 * N : Nat)) = some (.bool true) := by rw [bin_lss, decide_eq_true hk2]
    simp -implicitDefEqProofs only [r4, r18, faV_p, ov_s, ldV_c, Nat.zero_add, ostr z12.o, b14, bl]
    simp -implicitDefEqProofs [r11]
    rw [← hk14] at z12
    refine ro z12 ?_
    simp -implicitDefEqProofs [r17, hw02, hd2, -Int.natCast_ediv]
    unfold d_doormanlaw18_SweepRemoves_29
    simp -implicitDefEqProofs
    exact fin _ (by simp [r4]) (by simp [r9]) (by simp [r11]) (by simp [r17])
  · have bl : binV .lss 2 false (.int .i64 k2) (.int .i64 (14 * N : Nat)) = some (.bool false) := by rw [bin_lss, decide_eq_false hk2]
    simp -implicitDefEqProofs only [r4, r18, faV_p, ov_s, ldV_c, Nat.zero_add, ostr z12.o, b14, bl]
    simp -implicitDefEqProofs [r11]
    unfold d_doormanlaw18_SweepRemoves_29
    simp -implicitDefEqProofs
    exact fin _ (by simp [r4]) (by simp [r9]) (by simp [r11]) (by simp [r17])
end Go.Proofs.YtcnphhhcknhhaaaGreat
namespace Go.Proofs.YtcnphhhcknhhaaaGreat
open Go Go.Den
theorem sweepRemoves_row {c : Cfg} {xs : List OpD} {by_ st : Int} {b0 : Array Value} {v : Value} {h : Heap} {K : Value → Heap → Prop} (hc : CfgR h b0.toList c) (hx : Sl 7 OpR h v xs) (hb : U64 by_) (hst : 0 ≤ st ∧ st ≤ 255) (hk : ∀ h', Ext h h' → K (.bool true) h') :
    callM P fn_doormanlaw18_SweepRemoves #[.agg b0, v, .int .u64 by_, .int .u8 st] h K := by
  obtain ⟨e0, cw⟩ := hc
  have h0 : b0 = (cfgC c).toArray := by rw [← e0]
  rw [h0]
  exact sweepRemoves_ok c cw xs hb hst hx hk
end Go.Proofs.YtcnphhhcknhhaaaGreat
