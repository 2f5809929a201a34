/- Contracts of the laws RaceAlone, RaceLocked and RaceFront. No condition beyond the hypotheses that each theorem states. -/
import Derived.Test.YtfeglbniahebaaaClk
set_option linter.unusedSimpArgs false
set_option linter.unusedVariables false
namespace Go.Proofs.Ytfeglbniahebaaa
open Go Go.Den Go.MapKept
set_option linter.unusedSimpArgs false
set_option linter.unusedVariables false
def aloneA (how : Int) (x : Act) : Act :=
  if how % 3 = 0 then { x with who := 3 } else if how % 3 = 1 then (if x.kind = 2 then { x with kind := 1 } else x) else (if x.kind = 2 ∨ x.kind = 1 then { x with kind := 4 } else x)
theorem act_map (f : Act → Act) (xs : List Act) {k : Nat} (hk : k < xs.length) : act (xs.map f) k = f (act xs k) := by simp [act, hk]
theorem alone_none (how : Int) (h0 : 0 ≤ how) (xs : List Act) : IsFirst (findR (xs.map (aloneA how))) (xs.map (aloneA how)).length none := by
  intro j hj i hi
  rw [List.length_map] at hj
  have ej : act (xs.map (aloneA how)) j = aloneA how (act xs j) := act_map _ _ hj
  have ei : act (xs.map (aloneA how)) i = aloneA how (act xs i) := act_map _ _ (by omega)
  unfold findR confB
  rw [ej, ei]
  unfold aloneA
  have : how % 3 = 0 ∨ how % 3 = 1 ∨ how % 3 = 2 := by omega
  rcases this with h | h | h
  · simp [h]
  · have h1 : ¬ how % 3 = 0 := by omega
    simp only [h, if_true]
    by_cases a : (act xs j).kind = 2 <;> by_cases b : (act xs i).kind = 2 <;> simp [a, b]
  · have h1 : ¬ how % 3 = 0 := by omega
    have h2 : ¬ how % 3 = 1 := by omega
    simp only [h]
    by_cases a : (act xs j).kind = 2 ∨ (act xs j).kind = 1
    · simp [a, plainB]
    · have : ¬ (act xs j).kind = 2 ∧ ¬ (act xs j).kind = 1 := by omega
      simp [this, plainB]
set_option maxHeartbeats 4000000 in
theorem alone_ok (xs : List Act) (how : Int) (hh : 0 ≤ how ∧ how ≤ 255) {h : Heap} {v : Value} (x : Sl 3 ActR h v xs) {K : Value → Heap → Prop} (hk : ∀ h', Ext h h' → K (.bool true) h') : callM P fn_doormanlaw22_RaceAlone #[v, .int .u8 how] h K := by
  apply c_doormanlaw22_RaceAlone
  unfold b_doormanlaw22_RaceAlone
  refine awake_ok fun h1 he1 => ?_
  have hlen := x.len
  simp +contextual -implicitDefEqProofs [hlen]
  refine ⟨fun hbig => awake_ok fun h2 he2 => hk _ (he1.trans he2), fun hsm => ?_⟩
  have hl : xs.length ≤ 120 := by omega
  rw [seqM_eq]
  have x1 := Sl.ext (R := ActR) (fun _ r => r) he1 x
  refine loop_on [0, 1] (fun s h' => Ext h1 h' ∧ ∃ i : Nat, i ≤ xs.length ∧ s 6 = .int .i64 i ∧ Row 3 ty_api_Act h' (s 5) i (((xs.map (aloneA how)).take i).flatMap actC) ∧ ∀ g, rowOf (s 5) = some g → h1 g = none) (fun s _ => (xs.length - num (s 6)).toNat)
    ⟨Ext.refl _, 0, by omega, rfl, ⟨rfl, .inl ⟨rfl, rfl⟩⟩, by simp [rowOf]⟩ ?_
  rintro s h2 hf ⟨he2, i, hi, hs6, hr, hfr⟩
  have s0 : s 0 = v := by simpa using hf 0 (by simp)
  have s1 : s 1 = .int .u8 how := by simpa using hf 1 (by simp)
  have hw : IntKind.i64.wrap ((i : Int) + 1) = i + 1 := wrap64_id (by omega) (by omega)
  simp only [s0, hlen, ov_s, hs6, bin_lss, cd_b]
  refine ⟨fun hc => ?_, fun hc => ?_⟩
  rotate_left
  · have hc' : ¬ ((i : Int) < xs.length) := by simpa using hc
    have : i = xs.length := by omega
    subst this
    rw [List.take_of_length_le (by simp)] at hr
    simp
    have hr' : Row 3 ty_api_Act h2 (s 5) (xs.map (aloneA how)).length ((xs.map (aloneA how)).flatMap actC) := by rw [List.length_map]; exact hr
    refine find_ok _ (by simp; omega) (rowA_sl hr') fun h3 o he3 ho => ?_
    have := ho.uniq (alone_none how hh.1 xs)
    subst this
    refine pair_box (o := none) fun b h4 hb he4 hc4 => ?_
    simp
    exact hk _ (he1.trans (he2.trans (he3.trans he4)))
  have hlt : i < xs.length := by have : ((i : Int) < xs.length) := by simpa using hc
                                 omega
  refine seq_cut (fun m' s' h' => m' = [] ∧ (∀ k ∈ [0, 1, 6], s' k = s k) ∧ Ext h1 h' ∧ Row 3 ty_api_Act h' (s' 5) (i + 1) (((xs.map (aloneA how)).take (i + 1)).flatMap actC) ∧ ∀ g, rowOf (s' 5) = some g → h1 g = none) (fun J hJ _ _ => ?_) ?_
  rotate_left
  · rintro m' s' h' ⟨rfl, hf', hx', hr', hfr'⟩
    simp [hf' 0 (by simp), hf' 1 (by simp), hf' 6 (by simp), hs6, hw, s0, s1]
    exact ⟨⟨hx', i + 1, by omega, by simp, hr', hfr'⟩, by omega⟩
  obtain ⟨b1, o1, i1, l1⟩ := act_at (k := .i64) x1 hlt
  simp only [i1, l1 _ he2, ov_s, zcAct]
  refine nw_st rfl rfl (by simp [Value.cells, actC, Value.oneCell']) fun bx h3 hbx he3 hc3 => ?_
  refine seq_cut (fun m' s' h' => m' = [] ∧ (∀ k ∈ [0, 1, 5, 6], s' k = s k) ∧ s' 7 = .pointer (some ⟨bx, 0, none⟩) ∧ (∀ k, k ≠ bx → h' k = h3 k) ∧ h' bx = some (.cells (actC (aloneA how (act xs i))).toArray ty_api_Act (0, 0))) (fun J2 hJ2 _ _ => ?_) ?_
  rotate_left
  · rintro m' s' h4 ⟨rfl, hf', s7, ho4, hc4⟩
    have hk34 : Keep (some bx) h3 h4 := fun q o e n => (ho4 q (fun e' => n (by rw [e']))).trans e
    have hx4 : Ext h2 h4 := he3.keep hk34 (fun b e => by cases e; exact hbx)
    have f5 := hf' 5 (by simp)
    simp only [s7, ld_box (n := 3) hc4 rfl, ov_s, f5]
    have hr4 := hr.ext hx4
    refine app_one bsAct unAct apAct (by omega) rfl (by simpa [Value.cells] using actC_one _) hr4 (by unfold maxLen; omega) (by omega) (by omega) fun a v' h5 hr5 hk5 ha5 => ?_
    refine hJ _ _ _ ⟨rfl, by simp [hf' 0 (by simp), hf' 1 (by simp), hf' 6 (by simp)], (he2.trans hx4).keep hk5 (fun b e => hfr b e), ?_, fun g hg => ?_⟩
    · have e1 : (xs.map (aloneA how)).take (i + 1) = (xs.map (aloneA how)).take i ++ [aloneA how (act xs i)] := by
        rw [List.take_add_one]; simp [hlt, act]
      rw [e1, List.flatMap_append]
      simpa [Value.cells] using hr5
    · simp at hg
      rcases ha5 with ha | ⟨q, hq, hn⟩
      · rw [ha] at hg; exact hfr g hg
      · rw [hq] at hg; cases hg; exact fresh_of (he2.trans hx4) hn
  have htm : how.tmod 3 = how % 3 := tmod_pos hh.1
  have hfx : ∀ y : Act, h3 bx = some (.cells (actC y).toArray ty_api_Act (0, 0)) → True := fun _ _ => trivial
  have h3c : how % 3 = 0 ∨ how % 3 = 1 ∨ how % 3 = 2 := by omega
  simp +contextual -implicitDefEqProofs [s1, bin_rem, htm, cel_of hc3, actC]
  refine ⟨fun q => ?_, fun q => ⟨fun q1 => ⟨fun q2 => ?_, fun q2 => ?_⟩, fun q1 => ⟨fun q2 => ?_, fun q2 q3 => ?_⟩⟩⟩
  · refine st_intro hc3 rfl (by simp [actC, Value.cells]) (by simp [Value.cells, Value.oneCell']) fun h4 ho4 hc4 => hJ2 _ _ _ ⟨rfl, by simp, by simp, ho4, ?_⟩
    rw [hc4]; simp [aloneA, q, actC, Value.cells, over]
  · refine st_intro hc3 rfl (by simp [actC, Value.cells]) (by simp [Value.cells, Value.oneCell']) fun h4 ho4 hc4 => hJ2 _ _ _ ⟨rfl, by simp, by simp, ho4, ?_⟩
    rw [hc4]; simp [aloneA, q, q1, q2, actC, Value.cells, over]
  · refine hJ2 _ _ _ ⟨rfl, by simp, by simp, fun _ _ => rfl, ?_⟩
    rw [hc3]; simp [aloneA, q, q1, q2, actC, Value.cells]
  · refine st_intro hc3 rfl (by simp [actC, Value.cells]) (by simp [Value.cells, Value.oneCell']) fun h4 ho4 hc4 => hJ2 _ _ _ ⟨rfl, by simp, by simp, ho4, ?_⟩
    rw [hc4]; simp [aloneA, q, q1, q2, actC, Value.cells, over]
  · refine hJ2 _ _ _ ⟨rfl, by simp, by simp, fun _ _ => rfl, ?_⟩
    rw [hc3]; simp [aloneA, q, q1, q2, q3, actC, Value.cells]
end Go.Proofs.Ytfeglbniahebaaa

namespace Go.Proofs.Ytfeglbniahebaaa
open Go Go.Den Go.MapKept
set_option linter.unusedSimpArgs false
set_option linter.unusedVariables false
def wOf (a : Act) : Int := (a.who.tmod 10 + 10).tmod 10
def kOf (a : Act) : Int := 1 + (a.kind.tmod 2 + 2).tmod 2
def tri (a : Act) : List Act := [⟨wOf a, 5, 1⟩, ⟨wOf a, kOf a, a.place⟩, ⟨wOf a, 6, 1⟩]
theorem wOf_rng (a : Act) : 0 ≤ wOf a ∧ wOf a ≤ 9 := by
  have h := tmod_rng a.who (b := 10) (by omega)
  unfold wOf
  rw [tmod_pos (by omega)]; omega
theorem kOf_rng (a : Act) : 1 ≤ kOf a ∧ kOf a ≤ 2 := by
  have h := tmod_rng a.kind (b := 2) (by omega)
  unfold kOf
  rw [tmod_pos (by omega)]; omega
theorem tri_len (xs : List Act) : (xs.flatMap tri).length = 3 * xs.length := by
  induction xs with
  | nil => rfl
  | cons x xs ih => rw [List.flatMap_cons, List.length_append, ih, List.length_cons]; simp [tri]; omega
theorem tri_at : ∀ (xs : List Act) (i r : Nat), i < xs.length → r < 3 → act (xs.flatMap tri) (3 * i + r) = act (tri (act xs i)) r
  | x :: xs, 0, r, _, hr => by
    have : r < (tri x).length := hr
    simp only [act, List.flatMap_cons, Nat.mul_zero, Nat.zero_add, List.getD_cons_zero]
    simp [List.getElem?_append_left this]
  | x :: xs, i + 1, r, hi, hr => by
    have h := tri_at xs i r (by simpa using hi) hr
    have e : (tri x).length = 3 := rfl
    have : act (x :: xs) (i + 1) = act xs i := by simp [act]
    rw [this, ← h]
    simp only [act, List.flatMap_cons]
    simp only [List.getD_eq_getElem?_getD]
    rw [List.getElem?_append_right (by omega)]
    congr 3
    omega
theorem tri_0 (a : Act) : act (tri a) 0 = ⟨wOf a, 5, 1⟩ := rfl
theorem tri_1 (a : Act) : act (tri a) 1 = ⟨wOf a, kOf a, a.place⟩ := rfl
theorem tri_2 (a : Act) : act (tri a) 2 = ⟨wOf a, 6, 1⟩ := rfl
theorem locked_none (xs : List Act) (hl : xs.length ≤ 300) : IsFirst (findR (xs.flatMap tri)) (xs.flatMap tri).length none := by
  intro j hj i hi
  have htl := tri_len xs
  rw [findR_ref (by omega) hi hj]
  have hjq : j = 3 * (j / 3) + j % 3 := by omega
  have hiq : i = 3 * (i / 3) + i % 3 := by omega
  have aj := tri_at xs (j / 3) (j % 3) (by omega) (by omega)
  have ai := tri_at xs (i / 3) (i % 3) (by omega) (by omega)
  rw [← hjq] at aj
  rw [← hiq] at ai
  have hat := atab_row (xs.flatMap tri) (xs.flatMap tri).length j i hj
  unfold refR
  rw [hat]
  have m3 : ∀ n : Nat, n % 3 = 0 ∨ n % 3 = 1 ∨ n % 3 = 2 := fun n => by omega
  rcases m3 j with h | h | h
  · rw [h] at aj; rw [tri_0] at aj; simp [racesB, aj]
  · rcases m3 i with g | g | g
    · rw [g, tri_0] at ai; simp [racesB, ai]
    · have hrow : rowR (xs.flatMap tri) j i = true := by
        have w1 := wOf_rng (act xs (i / 3))
        have w2 := wOf_rng (act xs (j / 3))
        have c1 := tri_at xs (i / 3) 2 (by omega) (by omega)
        have c2 := tri_at xs (j / 3) 0 (by omega) (by omega)
        rw [rowR_spec]
        rw [h] at aj
        rw [g] at ai
        refine ⟨3 * (j / 3), by omega, ?_, .inr ⟨by omega, ?_⟩⟩
        · rw [aj, show act (xs.flatMap tri) (3 * (j / 3)) = _ from c2]; rw [tri_0, tri_1]; simp [edgeB, cntB, w2]
        · rw [rowR_spec]
          refine ⟨3 * (i / 3) + 2, by omega, ?_, .inr ⟨by omega, ?_⟩⟩
          · rw [c1, show act (xs.flatMap tri) (3 * (j / 3)) = _ from c2]; rw [tri_0, tri_2]; simp [edgeB, cntB, w1, w2]
          · rw [rowR_spec]
            exact ⟨i, by omega, by rw [c1, ai, tri_1, tri_2]; simp [edgeB, cntB, w1], .inl rfl⟩
      simp [hrow]
    · rw [g, tri_2] at ai; simp [racesB, ai]
  · rw [h, tri_2] at aj; simp [racesB, aj]
theorem w64s {n : Int} (h0 : -100 ≤ n) (h1 : n ≤ 100) : IntKind.i64.wrap n = n := wrap64_id (by omega) (by omega)
theorem rowA_at {h : Heap} {v : Value} {xs : List Act} (x : Sl 3 ActR h v xs) {i : Nat} (hi : i < xs.length) {k : IntKind} : ∃ b o, iaV (some (none, 3)) v (.int k i) = some (.pointer (some ⟨b, o, none⟩)) ∧
    ∀ h', Ext h h' → cel h' b o = some (.int .i64 (act xs i).who) ∧ cel h' b (o + 1) = some (.int .i64 (act xs i).kind) ∧ cel h' b (o + 2) = some (.int .i64 (act xs i).place) := by
  obtain ⟨b, o, c, h1, h2, h3⟩ := x.at (k := k) (i := i) (by omega) (by omega)
  refine ⟨b, o, h1, fun h' e => ?_⟩
  have hc : c = actC (act xs i) := by rw [show c = actC (xs[(i : Int).toNat]'(by omega)) from h3]; simp [act, hi]
  subst hc
  have := (cels_get (cels_ext e h2)).2
  exact ⟨by simpa [actC] using this 0 (by simp [actC]), by simpa [actC] using this 1 (by simp [actC]), by simpa [actC] using this 2 (by simp [actC])⟩
set_option maxHeartbeats 4000000 in
theorem locked_ok (xs : List Act) {h : Heap} {v : Value} (x : Sl 3 ActR h v xs) {K : Value → Heap → Prop} (hk : ∀ h', Ext h h' → K (.bool true) h') : callM P fn_doormanlaw22_RaceLocked #[v] h K := by
  apply c_doormanlaw22_RaceLocked
  unfold b_doormanlaw22_RaceLocked
  refine awake_ok fun h1 he1 => ?_
  have hlen := x.len
  simp +contextual -implicitDefEqProofs [hlen]
  refine ⟨fun hbig => awake_ok fun h2 he2 => hk _ (he1.trans he2), fun hsm => ?_⟩
  have hl : xs.length ≤ 120 := by omega
  rw [seqM_eq]
  have x1 := Sl.ext (R := ActR) (fun _ r => r) he1 x
  refine loop_on [0] (fun s h' => Ext h1 h' ∧ ∃ i : Nat, i ≤ xs.length ∧ s 4 = .int .i64 i ∧ Row 3 ty_api_Act h' (s 3) (3 * i) (((xs.take i).flatMap tri).flatMap actC) ∧ ∀ g, rowOf (s 3) = some g → h1 g = none) (fun s _ => (xs.length - num (s 4)).toNat)
    ⟨Ext.refl _, 0, by omega, rfl, ⟨rfl, .inl ⟨rfl, rfl⟩⟩, by simp [rowOf]⟩ ?_
  rintro s h2 hf ⟨he2, i, hi, hs4, hr, hfr⟩
  have s0 : s 0 = v := by simpa using hf 0 (by simp)
  have hw : IntKind.i64.wrap ((i : Int) + 1) = i + 1 := wrap64_id (by omega) (by omega)
  simp only [s0, hlen, ov_s, hs4, bin_lss, cd_b]
  refine ⟨fun hc => ?_, fun hc => ?_⟩
  rotate_left
  · have hc' : ¬ ((i : Int) < xs.length) := by simpa using hc
    have : i = xs.length := by omega
    subst this
    rw [List.take_length] at hr
    simp
    have hr' : Row 3 ty_api_Act h2 (s 3) (xs.flatMap tri).length ((xs.flatMap tri).flatMap actC) := by rw [tri_len]; exact hr
    refine find_ok _ (by rw [tri_len]; omega) (rowA_sl hr') fun h3 o he3 ho => ?_
    have := ho.uniq (locked_none xs (by omega))
    subst this
    refine pair_box (o := none) fun b h4 hb he4 hc4 => ?_
    simp
    exact hk _ (he1.trans (he2.trans (he3.trans he4)))
  have hlt : i < xs.length := by have : ((i : Int) < xs.length) := by simpa using hc
                                 omega
  obtain ⟨b1, o1, i1, l1⟩ := rowA_at (k := .i64) x1 hlt
  obtain ⟨l2, l3, l4⟩ := l1 h2 he2
  have t1 := tmod_rng (act xs i).who (b := 10) (by omega)
  have t2 := tmod_rng (act xs i).kind (b := 2) (by omega)
  have r1 := wOf_rng (act xs i)
  have r2 := kOf_rng (act xs i)
  have e1 : IntKind.i64.wrap ((act xs i).who.tmod 10 + 10) = (act xs i).who.tmod 10 + 10 := w64s (by omega) (by omega)
  have e2 : IntKind.i64.wrap ((act xs i).kind.tmod 2 + 2) = (act xs i).kind.tmod 2 + 2 := w64s (by omega) (by omega)
  have e3 : IntKind.i64.wrap (1 + ((act xs i).kind.tmod 2 + 2).tmod 2) = kOf (act xs i) := w64s (by unfold kOf at r2; omega) (by unfold kOf at r2; omega)
  simp only [i1, ov_s, faV_p, ldV_c, Nat.add_zero, l2, l3, l4, bin_rem _ _ _ _ _ (show (10 : Int) ≠ 0 by omega), bin_rem _ _ _ _ _ (show (2 : Int) ≠ 0 by omega), bin_add, e1, e2, e3, bdAct]
  refine bs_act3 _ _ _ fun a h3 he3 hra => ?_
  have hsl : Sl 3 ActR h3 a (tri (act xs i)) := rowA_sl (xs := tri (act xs i)) hra
  have htl : (tri (act xs i)).length = 3 := rfl
  refine app_sl (enc := actC) unAct apAct (by omega) (hr.ext he3) (fun h => h) hsl actC_one (by rw [htl]; unfold maxLen; omega) (by rw [htl]; omega) fun v' h4 hr4 hk4 ha4 => ?_
  simp [hw, s0]
  refine ⟨⟨(he2.trans he3).keep hk4 (fun b e => hfr b e), i + 1, by omega, by simp, ?_, fun g hg => ?_⟩, by rw [hs4]; simp; omega⟩
  · have e1 : (xs.take (i + 1)).flatMap tri = (xs.take i).flatMap tri ++ tri (act xs i) := by
      have : xs[i]? = some (act xs i) := by simp [act, hlt]
      rw [List.take_add_one, List.flatMap_append, this]; simp
    rw [e1, List.flatMap_append]
    exact hr4
  · rcases ha4 with ha | ⟨q, hq, hn⟩
    · rw [ha] at hg; exact hfr g hg
    · rw [hq] at hg; cases hg; exact fresh_of (he2.trans he3) hn
end Go.Proofs.Ytfeglbniahebaaa

namespace Go.Proofs.Ytfeglbniahebaaa
open Go Go.Den Go.MapKept
set_option linter.unusedSimpArgs false
set_option linter.unusedVariables false
theorem front_none {xs ys : List Act} (h : IsFirst (findR xs) xs.length none) {o : Option (Nat × Nat)} (h' : IsFirst (findR (xs ++ ys)) (xs ++ ys).length o) : o = none ∨ ∃ i j, o = some (i, j) ∧ xs.length ≤ j := by
  match o, h' with
  | none, _ => exact .inl rfl
  | some (i, j), ⟨a, b, c, d, e⟩ =>
    refine .inr ⟨i, j, rfl, ?_⟩
    rcases Nat.lt_or_ge j xs.length with hj | hj
    · exfalso
      rw [findR_congr (ys := xs) a (fun k hk => act_append (by omega)), h j hj i a] at c
      cases c
    · exact hj
theorem front_some {xs ys : List Act} {i j : Nat} (h : IsFirst (findR xs) xs.length (some (i, j))) : IsFirst (findR (xs ++ ys)) (xs ++ ys).length (some (i, j)) := by
  obtain ⟨a, b, c, d, e⟩ := h
  have hc : ∀ j', j' ≤ j → ∀ i', i' < j' → findR (xs ++ ys) i' j' = findR xs i' j' := fun j' hj' i' hi' => findR_congr hi' fun k hk => act_append (by omega)
  refine ⟨a, by rw [List.length_append]; omega, by rw [hc j (by omega) i a]; exact c, fun i' hi' => by rw [hc j (by omega) i' (by omega)]; exact d i' hi', fun j' hj' i' hi' => by rw [hc j' (by omega) i' hi']; exact e j' hj' i' hi'⟩
theorem cut_none {xs : List Act} {i j : Nat} (h : IsFirst (findR xs) xs.length (some (i, j))) : IsFirst (findR (xs.take j)) (xs.take j).length none := by
  obtain ⟨a, b, c, d, e⟩ := h
  intro j' hj' i' hi'
  rw [List.length_take] at hj'
  rw [findR_congr (ys := xs) hi' fun k hk => act_take (by omega)]
  exact e j' (by omega) i' hi'
theorem cut_some {xs : List Act} {i j : Nat} (h : IsFirst (findR xs) xs.length (some (i, j))) : IsFirst (findR (xs.take (j + 1))) (xs.take (j + 1)).length (some (i, j)) := by
  obtain ⟨a, b, c, d, e⟩ := h
  have hc : ∀ j', j' ≤ j → ∀ i', i' < j' → findR (xs.take (j + 1)) i' j' = findR xs i' j' := fun j' hj' i' hi' => findR_congr hi' fun k hk => act_take (by omega)
  refine ⟨a, by rw [List.length_take]; omega, by rw [hc j (by omega) i a]; exact c, fun i' hi' => by rw [hc j (by omega) i' (by omega)]; exact d i' hi', fun j' hj' i' hi' => by rw [hc j' (by omega) i' hi']; exact e j' hj' i' hi'⟩
theorem pairNe (a b c d : Int) (x y : Operand) (K : Value → Prop) : pvM P (do eqGuard .neq ty_race_Pair x y (.agg #[.int .i64 a, .int .i64 b]) (.agg #[.int .i64 c, .int .i64 d]); binOp .neq ty_race_Pair (.agg #[.int .i64 a, .int .i64 b]) (.agg #[.int .i64 c, .int .i64 d])) K = K (.bool !(decide (a = c) && decide (b = d))) := by
  rw [pv_neq (d := 5) (b := (a == c) && ((b == d) && true)) (by kernel_rfl) (by omega) (by kernel_rfl)]
  simp
theorem app_acts {v x : Value} {zs ys : List Act} {h : Heap} {K : Value → Heap → Prop} (hv : Row 3 ty_api_Act h v zs.length (zs.flatMap actC)) (hx : Sl 3 ActR h x ys) (hl : zs.length + ys.length ≤ 100000)
    (hk : ∀ v' h', Row 3 ty_api_Act h' v' (zs ++ ys).length ((zs ++ ys).flatMap actC) → Keep (rowOf v) h h' → (rowOf v' = rowOf v ∨ ∃ b, rowOf v' = some b ∧ h b = none) → K v' h') :
    vvM P (Builtin.append_ #[ty_Sl_api_Act, ty_Sl_api_Act] ty_Sl_api_Act #[v, x]) h K := by
  refine app_sl (enc := actC) unAct apAct (by omega) hv (fun h => h) hx actC_one (by unfold maxLen; omega) (by omega) fun v' h' hr hk' ha => hk v' h' ?_ hk' ha
  rw [List.length_append, List.flatMap_append]; exact hr
set_option maxHeartbeats 4000000 in
theorem front_ok (xs ys : List Act) {h : Heap} {v u : Value} (x : Sl 3 ActR h v xs) (y : Sl 3 ActR h u ys) {K : Value → Heap → Prop} (hk : ∀ h', Ext h h' → K (.bool true) h') : callM P fn_doormanlaw22_RaceFront #[v, u] h K := by
  apply c_doormanlaw22_RaceFront
  unfold b_doormanlaw22_RaceFront
  refine awake_ok fun h1 he1 => ?_
  have hlen := x.len
  have hlen2 := y.len
  simp +contextual -implicitDefEqProofs [hlen, hlen2]
  refine ⟨fun hbig => awake_ok fun h2 he2 => hk _ (he1.trans he2), fun hsm hsm2 => ?_⟩
  have hl : xs.length ≤ 120 := by omega
  have hl2 : ys.length ≤ 120 := by omega
  have mono : ∀ {h' zs w}, Ext h h' → Sl 3 ActR h w zs → Sl 3 ActR h' w zs := fun e z => Sl.ext (R := ActR) (fun _ r => r) e z
  refine find_ok xs (by omega) (mono he1 x) fun h2 o1 he2 ho1 => ?_
  refine pair_box fun b1 h3 hb1 he3 hc3 => ?_
  have hx3 := he1.trans (he2.trans he3)
  refine bs_none bsAct fun ev h4 he4 hr4 hen hef => ?_
  refine app_acts (zs := []) hr4 (mono (hx3.trans he4) x) (by simp; omega) fun v5 h5 hr5 hk5 ha5 => ?_
  have hfr5 : ∀ g, rowOf v5 = some g → h3 g = none := fun g hg => by
    rcases ha5 with ha | ⟨q, hq, hn⟩
    · rw [ha] at hg; exact hef g hg
    · rw [hq] at hg; cases hg; exact fresh_of he4 hn
  have hx5 : Ext h3 h5 := he4.keep hk5 hef
  refine app_acts hr5 (mono (hx3.trans hx5) y) (by simp; omega) fun v6 h6 hr6 hk6 ha6 => ?_
  have hx6 : Ext h3 h6 := hx5.keep hk6 hfr5
  rw [List.nil_append] at hr6
  refine find_ok (xs ++ ys) (by simp; omega) (rowA_sl hr6) fun h7 o2 he7 ho2 => ?_
  refine pair_box fun b2 h8 hb2 he8 hc8 => ?_
  have hx8 : Ext h h8 := hx3.trans (hx6.trans (he7.trans he8))
  have c1 := he8 _ _ (he7 _ _ (hx6 _ _ hc3))
  cases o1 with
  | none =>
    simp
    rcases front_none ho1 ho2 with rfl | ⟨i, j, rfl, hj⟩
    · simp [hlen]; exact hk _ hx8
    · simp [hlen, cel_of hc8, hj]
      exact hk _ hx8
  | some p =>
    obtain ⟨i, j⟩ := p
    have := ho2.uniq (front_some ho1)
    subst this
    have hij := ho1.1
    have hjn := ho1.2.1
    have q1 : ¬ (j : Int) < 0 := by omega
    have q2 : ¬ (i : Int) < 0 := by omega
    simp +contextual -implicitDefEqProofs [hlen, cel_of c1, cel_of hc8, ld_box (n := 2) c1 rfl, ld_box (n := 2) hc8 rfl, pairNe, q1, q2]
    have z1 : ¬ (xs.length ≤ j) := by omega
    have z2 : ¬ (j ≤ i) := by omega
    simp [z1, z2]
    intro _ _
    obtain ⟨w1, hw1, hs1⟩ := (mono hx8 x).cut (lo := none) (hi := some (.int .i64 j)) (L := 0) (H := j) (fun cap hc => bnd_int (by omega)) rfl (by omega) (by omega)
    rw [List.drop_zero] at hs1
    simp only [hw1, ov_s]
    refine find_ok (xs.take j) (by rw [List.length_take]; omega) hs1 fun h9 o3 he9 ho3 => ?_
    have := ho3.uniq (cut_none ho1)
    subst this
    refine pair_box (o := none) fun b3 h10 hb3 he10 hc10 => ?_
    have hx10 := hx8.trans (he9.trans he10)
    have c1' := he10 _ _ (he9 _ _ c1)
    have hw : IntKind.i64.wrap ((j : Int) + 1) = (j + 1 : Nat) := by rw [wrap64_id (by omega) (by omega)]; rfl
    simp only [cel_of c1', List.getElem?_toArray, List.getElem?_cons_succ, List.getElem?_cons_zero, ov_s, bin_add, hw]
    obtain ⟨w2, hw2, hs2⟩ := (mono hx10 x).cut (lo := none) (hi := some (.int .i64 (j + 1 : Nat))) (L := 0) (H := j + 1) (fun cap hc => bnd_int (by omega)) rfl (by omega) (by omega)
    rw [List.drop_zero] at hs2
    simp only [hw2, ov_s]
    refine find_ok (xs.take (j + 1)) (by rw [List.length_take]; omega) hs2 fun h11 o4 he11 ho4 => ?_
    have := ho4.uniq (cut_some ho1)
    subst this
    refine pair_box (o := some (i, j)) fun b4 h12 hb4 he12 hc12 => ?_
    simp
    exact hk _ (hx10.trans (he11.trans he12))
end Go.Proofs.Ytfeglbniahebaaa
